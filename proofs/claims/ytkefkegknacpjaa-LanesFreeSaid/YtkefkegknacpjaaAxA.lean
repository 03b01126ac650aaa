/- Abstract values: what a value of the program stands for in a world. Nothing of the dump is used here. -/
import Derived.Test.YtkefkegknacpjaaBase
import Derived.Test.YtkefkegknacpjaaGlo
import Derived.Laws.CopyOwn
import Derived.Laws.OwnMore
namespace Go.Proofs.Ytkefkegknacpjaa.Ax
open Go.RowKit
set_option linter.unusedVariables false
set_option linter.unusedSimpArgs false

/-- abstract values; id names a block that the call owns -/
inductive AV where
  | any
  | int (k : IntKind) (n : Int)
  | tru
  | fls
  | bool (b : Bool)
  | str (s : ByteArray)
  | nilp
  | val (v : Value)
  | nils
  | ptr (id j : Nat)
  | eptr (id sz i j : Nat)
  | iptr (c : List AV)
  | lst (sz : Nat) (xs : List (List AV))
  | osl (id : Nat)
  | sub (id sz lo hi : Nat) (mx : Option Nat)
  | agg (c : List AV)
  | tup (vs : List AV)
  | fn (f : FuncId) (cap : List AV)

instance : Inhabited AV := ⟨.any⟩

/-- a value of one cell -/
def AV.one : AV → Bool
  | .any | .agg _ | .tup _ | .val _ => false
  | _ => true

def AV.cells : AV → List AV
  | .agg c => c
  | v => [v]

/-- where an owned row lies: its block (none: it is nil), its length and its capacity -/
structure Hdr where
  blk : Option Nat
  len : Nat
  cap : Nat

def ownBase (b : Option Nat) (o : Nat) : Option Addr := b.map fun b => ⟨b, o, none⟩

def noB : Nat → Option Hdr := fun _ => none

/-- what a value stands for; what lies in memory that is only read names no block that is owned -/
inductive RV (w : World) (F : Nat → Prop) : (Nat → Option Hdr) → AV → Value → Prop where
  | any {β} (v : Value) : RV w F β .any v
  | int {β} (k : IntKind) (n : Int) : RV w F β (.int k n) (.int k n)
  | tru {β} : RV w F β .tru (.bool true)
  | fls {β} : RV w F β .fls (.bool false)
  | bool {β} (b : Bool) : RV w F β (.bool b) (.bool b)
  | str {β} (s : ByteArray) : RV w F β (.str s) (.string s)
  | nilp {β} : RV w F β .nilp (.pointer none)
  | val {β} (v : Value) : RV w F β (.val v) v
  | nils {β} : RV w F β .nils (.slice none 0 0)
  | ptr {β} (id j b : Nat) (h : Hdr) : β id = some h → h.blk = some b → RV w F β (.ptr id j) (.pointer (some ⟨b, j, none⟩))
  | eptr {β} (id sz i j b : Nat) (h : Hdr) : β id = some h → h.blk = some b → RV w F β (.eptr id sz i j) (.pointer (some ⟨b, i * sz + j, none⟩))
  | iptr {β} (c : List AV) (b o : Nat) (vs : Nat → Value) : F b → (∀ (j : Nat) (u : AV), c[j]? = some u → w.cell? ⟨b, o + j, none⟩ = some (vs j)) →
      (∀ (j : Nat) (u : AV), c[j]? = some u → u.one = true) → (∀ (j : Nat) (u : AV), c[j]? = some u → RV w F noB u (vs j)) → RV w F β (.iptr c) (.pointer (some ⟨b, o, none⟩))
  | lst {β} (sz : Nat) (xs : List (List AV)) (a : Option Addr) (cap : Nat) (vs : Nat → Nat → Value) : xs.length ≤ cap → cap ≤ maxLen → (a = none → cap = 0) →
      (∀ ad, a = some ad → 0 < xs.length → ad.spot = none ∧ F ad.block) → (∀ (k : Nat) (c : List AV), xs[k]? = some c → c.length = sz ∧ ∀ u ∈ c, u.one = true) →
      (∀ (ad : Addr) (k : Nat) (c : List AV) (j : Nat) (u : AV), a = some ad → xs[k]? = some c → c[j]? = some u → w.cell? ⟨ad.block, ad.off + k * sz + j, none⟩ = some (vs k j)) →
      (∀ (k : Nat) (c : List AV) (j : Nat) (u : AV), xs[k]? = some c → c[j]? = some u → RV w F noB u (vs k j)) → RV w F β (.lst sz xs) (.slice a xs.length cap)
  | osl {β} (id : Nat) (h : Hdr) : β id = some h → RV w F β (.osl id) (.slice (ownBase h.blk 0) h.len h.cap)
  | sub {β} (id sz lo hi : Nat) (mx : Option Nat) (h : Hdr) : β id = some h → RV w F β (.sub id sz lo hi mx) (.slice (ownBase h.blk (if mx.getD h.cap = lo then 0 else lo * sz)) (hi - lo) (mx.getD h.cap - lo))
  | agg {β} (c : List AV) (cs : Array Value) : c.length = cs.size → (∀ (j : Nat) (u : AV) (v : Value), c[j]? = some u → cs[j]? = some v → RV w F β u v) → RV w F β (.agg c) (.agg cs)
  | tup {β} (c : List AV) (cs : Array Value) : c.length = cs.size → (∀ (j : Nat) (u : AV) (v : Value), c[j]? = some u → cs[j]? = some v → RV w F β u v) → RV w F β (.tup c) (.tuple cs)
  | fn {β} (f : FuncId) (c : List AV) (cs : Array Value) : c.length = cs.size → (∀ (j : Nat) (u : AV) (v : Value), c[j]? = some u → cs[j]? = some v → RV w F β u v) → RV w F β (.fn f c) (.func (.func f) #[] cs)

theorem cell_same {w w' : World} {b o : Nat} (h : w'.heap[b]? = w.heap[b]?) : w'.cell? ⟨b, o, none⟩ = w.cell? ⟨b, o, none⟩ := by simp [World.cell?, h]

/-- what is said of a value stays true when the world and what is known of it grow -/
theorem RV.mono {w w' : World} {F F' : Nat → Prop} {β β' : Nat → Option Hdr} {x : AV} {v : Value} (h : RV w F β x v) (hF : ∀ b, F b → F' b)
    (hw : ∀ b, F b → w'.heap[b]? = w.heap[b]?) (hβ : ∀ id h, β id = some h → β' id = some h) : RV w' F' β' x v := by
  induction h generalizing β' with
  | any v => exact .any v
  | int k n => exact .int k n
  | tru => exact .tru
  | fls => exact .fls
  | bool b => exact .bool b
  | str s => exact .str s
  | nilp => exact .nilp
  | val v => exact .val v
  | nils => exact .nils
  | ptr id j b h h1 h2 => exact .ptr id j b h (hβ _ _ h1) h2
  | eptr id sz i j b h h1 h2 => exact .eptr id sz i j b h (hβ _ _ h1) h2
  | iptr c b o vs hb h1 ho _ ih => exact .iptr c b o vs (hF _ hb) (fun j u hu => (cell_same (hw b hb)).trans (h1 j u hu)) ho (fun j u hu => ih j u hu (fun _ _ e => e))
  | lst sz xs a cap vs h1 h2 h3 h4 h5 h6 _ ih =>
    refine .lst sz xs a cap vs h1 h2 h3 (fun ad ha h0 => ⟨(h4 ad ha h0).1, hF _ (h4 ad ha h0).2⟩) h5 (fun ad k c j u ha hk hj => ?_) (fun k c j u hk hj => ih k c j u hk hj (fun _ _ e => e))
    exact (cell_same (hw _ (h4 ad ha (Nat.lt_of_le_of_lt (Nat.zero_le _) (List.getElem?_eq_some_iff.1 hk).1)).2)).trans (h6 ad k c j u ha hk hj)
  | osl id h h1 => exact .osl id h (hβ _ _ h1)
  | sub id sz lo hi mx h h1 => exact .sub id sz lo hi mx h (hβ _ _ h1)
  | agg c cs h1 _ ih => exact .agg c cs h1 (fun j u v hu hv => ih j u v hu hv hβ)
  | tup c cs h1 _ ih => exact .tup c cs h1 (fun j u v hu hv => ih j u v hu hv hβ)
  | fn f c cs h1 _ ih => exact .fn f c cs h1 (fun j u v hu hv => ih j u v hu hv hβ)

/-- what names no block stands wherever it is read -/
theorem RV.up {w : World} {F : Nat → Prop} {β : Nat → Option Hdr} {x : AV} {v : Value} (h : RV w F noB x v) : RV w F β x v :=
  h.mono (fun _ x => x) (fun _ _ => rfl) (fun _ _ e => by cases e)

theorem RV.oneCell {w : World} {F : Nat → Prop} {β : Nat → Option Hdr} {x : AV} {v : Value} (h : RV w F β x v) (h1 : x.one = true) : v.oneCell' = true ∧ v.cells = #[v] := by
  cases h <;> first | exact ⟨rfl, rfl⟩ | cases h1

/-- an abstract value for a constant -/
def avc : Value → AV
  | .int k n => .int k n
  | .bool true => .tru
  | .bool false => .fls
  | .string s => .str s
  | .pointer none => .nilp
  | .slice none 0 0 => .nils
  | _ => .any

theorem RV.const (w : World) (F : Nat → Prop) (β : Nat → Option Hdr) (v : Value) : RV w F β (avc v) v := by
  unfold avc
  split
  · exact .int _ _
  · exact .tru
  · exact .fls
  · exact .str _
  · exact .nilp
  · exact .nils
  · exact .any _

/-- the cells of a value, one by one -/
def RVs (w : World) (F : Nat → Prop) (β : Nat → Option Hdr) (c : List AV) (cs : Array Value) : Prop :=
  c.length = cs.size ∧ ∀ (j : Nat) (u : AV) (v : Value), c[j]? = some u → cs[j]? = some v → RV w F β u v

theorem RVs.mono {w w' : World} {F F' : Nat → Prop} {β β' : Nat → Option Hdr} {c : List AV} {cs : Array Value} (h : RVs w F β c cs) (hF : ∀ b, F b → F' b)
    (hw : ∀ b, F b → w'.heap[b]? = w.heap[b]?) (hβ : ∀ id h, β id = some h → β' id = some h) : RVs w' F' β' c cs :=
  ⟨h.1, fun j u v hu hv => (h.2 j u v hu hv).mono hF hw hβ⟩

/-- a block that the call owns -/
inductive ABlk where
  | box (c : List AV)
  | row (sz : Nat) (xs : List (List AV))
  | dead

/-- a block that is told; one that was given up is not -/
def liveB : ABlk → Option ABlk
  | .box c => some (.box c)
  | .row sz xs => some (.row sz xs)
  | .dead => none

def BlkR (w : World) (F : Nat → Prop) (β : Nat → Option Hdr) (h : Hdr) : ABlk → Prop
  | .box c => ∃ b arr ty, h.blk = some b ∧ w.heap[b]? = some (.cells arr ty (0, 0)) ∧ RVs w F β c arr
  | .row sz xs => h.len = xs.length ∧ xs.length ≤ h.cap ∧ h.cap ≤ maxLen ∧ (h.blk = none → h.cap = 0) ∧ (∀ (k : Nat) (c : List AV), xs[k]? = some c → c.length = sz ∧ ∀ u ∈ c, u.one = true) ∧
      ∀ b, h.blk = some b → ∃ arr ty, w.heap[b]? = some (.cells arr ty (0, 0)) ∧ h.cap * sz ≤ arr.size ∧
        ∀ (k : Nat) (c : List AV) (j : Nat) (u : AV), xs[k]? = some c → c[j]? = some u → ∃ v, arr[k * sz + j]? = some v ∧ RV w F β u v
  | .dead => False

theorem BlkR.mono {w w' : World} {F F' : Nat → Prop} {β β' : Nat → Option Hdr} {h : Hdr} {k : ABlk} (hk : BlkR w F β h k) (hF : ∀ b, F b → F' b)
    (hw : ∀ b, F b → w'.heap[b]? = w.heap[b]?) (hb : ∀ b, h.blk = some b → w'.heap[b]? = w.heap[b]?) (hβ : ∀ id h, β id = some h → β' id = some h) : BlkR w' F' β' h k := by
  cases k with
  | box c =>
    obtain ⟨b, arr, ty, h1, h2, h3⟩ := hk
    exact ⟨b, arr, ty, h1, (hb b h1).trans h2, h3.mono hF hw hβ⟩
  | row sz xs =>
    obtain ⟨h1, h2, h3, h4, h5, h6⟩ := hk
    refine ⟨h1, h2, h3, h4, h5, fun b e => ?_⟩
    obtain ⟨arr, ty, g1, g2, g3⟩ := h6 b e
    refine ⟨arr, ty, (hb b e).trans g1, g2, fun k c j u hk hj => ?_⟩
    obtain ⟨v, hv, hr⟩ := g3 k c j u hk hj
    exact ⟨v, hv, hr.mono hF hw hβ⟩
  | dead => exact hk.elim

/-- what is known at a point of a function: of its slots and of the blocks that it owns; ids from n on are free -/
structure ASt where
  env : Nat → AV
  H : Nat → Option ABlk
  n : Nat

/-- the circumstances of a call: the world in which it began, the blocks that it was granted, the blocks that it may read -/
structure Ctx where
  w0 : World
  γ : List Hdr
  F0 : Nat → Prop
  nt : Nat

/-- a block that the call may write: granted, or made by it -/
abbrev Ctx.Mine (C : Ctx) (b : Nat) : Prop := (∃ h ∈ C.γ, h.blk = some b) ∨ C.w0.heap.size ≤ b

/-- what a package-level variable is known to hold -/
def glo (g : Nat) : AV := match gloInts g with
  | [] => .any
  | x :: l => .iptr ((x :: l).map fun p => .int p.1 p.2)

/-- the package-level variables hold in this world what they are known to hold -/
abbrev GloR (w : World) (F : Nat → Prop) : Prop := ∀ g, RV w F noB (glo g) (.pointer (some ⟨g, 0, none⟩))

structure RelB (C : Ctx) (I : Nat → Prop) (σ : ASt) (a : Act) (w : World) (β : Nat → Option Hdr) (F : Nat → Prop) : Prop where
  env : ∀ t, RV w F β (σ.env t) (a.tmps.getD t undef)
  size : a.tmps.size = C.nt
  defers : a.defers = []
  live : ∀ id k, σ.H id = some k → ∃ h, β id = some h ∧ BlkR w F β h k ∧ ∀ b, h.blk = some b → b < w.heap.size ∧ ¬ F b ∧ C.Mine b
  inj : ∀ id id' k k' h h' b, σ.H id = some k → σ.H id' = some k' → β id = some h → β id' = some h' → h.blk = some b → h'.blk = some b → id = id'
  dom : ∀ id h, β id = some h → I id
  gr : ∀ (i : Nat) (h : Hdr), C.γ[i]? = some h → β i = some h
  sub : ∀ b, C.F0 b → F b
  news : ∀ b, F b → b < w.heap.size ∧ (C.F0 b ∨ C.Mine b)
  os : w.os = C.w0.os
  tape : w.tape = C.w0.tape
  output : w.output = C.w0.output
  grow : C.w0.heap.size ≤ w.heap.size
  block : ∀ b, b < C.w0.heap.size → (∀ h ∈ C.γ, h.blk ≠ some b) → w.heap[b]? = C.w0.heap[b]?
  glo : GloR w F

def Rel (C : Ctx) (I : Nat → Prop) (σ : ASt) (a : Act) (w : World) : Prop := ∃ β F, RelB C I σ a w β F

def setE (env : Nat → AV) (t : Nat) (v : AV) : Nat → AV := fun u => match Nat.beq u t with
  | true => v
  | false => env u

def setH (H : Nat → Option ABlk) (t : Nat) (v : Option ABlk) : Nat → Option ABlk := fun u => match Nat.beq u t with
  | true => v
  | false => H u

theorem setE_same (env : Nat → AV) (t : Nat) (v : AV) : setE env t v t = v := by simp [setE]
theorem setE_ne (env : Nat → AV) {t u : Nat} (v : AV) (h : u ≠ t) : setE env t v u = env u := by
  unfold setE
  split
  · rename_i e; exact absurd (Nat.eq_of_beq_eq_true e) h
  · rfl
theorem setH_same (H : Nat → Option ABlk) (t : Nat) (v : Option ABlk) : setH H t v t = v := by simp [setH]
theorem setH_ne (H : Nat → Option ABlk) {t u : Nat} (v : Option ABlk) (h : u ≠ t) : setH H t v u = H u := by
  unfold setH
  split
  · rename_i e; exact absurd (Nat.eq_of_beq_eq_true e) h
  · rfl

/-- the destination of an operation, in the slots -/
def putE (env : Nat → AV) (d : Option Tmp) (v : AV) : Nat → AV := match d with
  | none => env
  | some t => setE env t v

theorem RelB.put {C : Ctx} {I : Nat → Prop} {σ : ASt} {a : Act} {w : World} {β : Nat → Option Hdr} {F : Nat → Prop} (h : RelB C I σ a w β F) (d : Option Tmp) (x : AV) (v : Value)
    (hd : ∀ t, d = some t → t < C.nt) (hx : RV w F β x v) : RelB C I { σ with env := putE σ.env d x } (a.put d v) w β F := by
  cases d with
  | none => exact h
  | some t =>
    have ht := hd t rfl
    refine { h with env := fun u => ?_, size := by simp [Act.put, h.size], defers := h.defers }
    have hs := h.size
    by_cases hu : u = t
    · subst hu
      simp only [putE, setE_same]
      simpa [Act.put, hs, ht] using hx
    · simp only [putE, setE_ne _ _ hu]
      have := h.env u
      simpa [Act.put, Array.getElem?_setIfInBounds_ne (Ne.symm hu)] using this

/-- the ids that are known may be more; the destination may be a slot of which nothing is said -/
theorem RelB.wide {C : Ctx} {I I' : Nat → Prop} {σ : ASt} {a : Act} {w : World} {β : Nat → Option Hdr} {F : Nat → Prop} (h : RelB C I σ a w β F) (hI : ∀ i, I i → I' i) : RelB C I' σ a w β F :=
  { h with dom := fun id g e => hI _ (h.dom id g e) }

theorem RelB.drew {C : Ctx} {I : Nat → Prop} {σ : ASt} {a : Act} {w : World} {β : Nat → Option Hdr} {F : Nat → Prop} (h : RelB C I σ a w β F) (n : Nat) : RelB C I σ a { w with drawn := n } β F := by
  have e : ∀ {x : AV} {v : Value}, RV w F β x v → RV { w with drawn := n } F β x v := fun hx => hx.mono (fun _ h => h) (fun _ _ => rfl) (fun _ _ h => h)
  refine { h with env := fun t => e (h.env t), live := fun id k hk => ?_, block := h.block, glo := fun g => (h.glo g).mono (fun _ h => h) (fun _ _ => rfl) (fun _ _ h => h) }
  obtain ⟨g, h1, h2, h3⟩ := h.live id k hk
  exact ⟨g, h1, h2.mono (fun _ h => h) (fun _ _ => rfl) (fun _ _ => rfl) (fun _ _ h => h), h3⟩
end Go.Proofs.Ytkefkegknacpjaa.Ax
