/- What the printed functions are made of, and the small laws by which a printed walk answers its questions. Nothing of the dump is used here. -/
import Derived.Test.YtkajegjghfbgaaaAxT0
namespace Go.Proofs.Ytkajegjghfbgaaa.Ax
open Go.RowKit
set_option linter.unusedVariables false
set_option linter.unusedSimpArgs false

/-- how a loop ends: the function returns; or the loop is left -/
inductive Ctl (ρ σ : Type) where
  | ret (r : ρ)
  | brk (s : σ)

abbrev w64 (z : Int) : Int := IntKind.i64.wrap z

def Ctl.fin {ρ σ : Type} (o : Option (Ctl ρ σ)) (k : σ → Option ρ) : Option ρ := match o with
  | none => none
  | some (.ret r) => some r
  | some (.brk s) => k s

def Ctl.sub {ρ σ τ : Type} (o : Option (Ctl ρ σ)) (k : σ → Option (Ctl ρ τ)) : Option (Ctl ρ τ) := match o with
  | none => none
  | some (.ret r) => some (.ret r)
  | some (.brk s) => k s

theorem fin_some {ρ σ : Type} {o : Option (Ctl ρ σ)} {k : σ → Option ρ} {r : ρ} (h : Ctl.fin o k = some r) : ∃ c, o = some c ∧ Ctl.fin (some c) k = some r := by
  cases o with
  | none => cases h
  | some c => exact ⟨c, rfl, h⟩
theorem fin_ret {ρ σ : Type} {k : σ → Option ρ} {r r' : ρ} (h : Ctl.fin (some (.ret r)) k = some r') : some r = some r' := h
theorem fin_brk {ρ σ : Type} {k : σ → Option ρ} {s : σ} {r' : ρ} (h : Ctl.fin (some (.brk s)) k = some r') : k s = some r' := h
theorem sub_some {ρ σ τ : Type} {o : Option (Ctl ρ σ)} {k : σ → Option (Ctl ρ τ)} {r : Ctl ρ τ} (h : Ctl.sub o k = some r) : ∃ c, o = some c ∧ Ctl.sub (some c) k = some r := by
  cases o with
  | none => cases h
  | some c => exact ⟨c, rfl, h⟩
theorem sub_ret {ρ σ τ : Type} {k : σ → Option (Ctl ρ τ)} {r : ρ} {r' : Ctl ρ τ} (h : Ctl.sub (some (.ret r)) k = some r') : some (Ctl.ret r) = some r' := h
theorem sub_brk {ρ σ τ : Type} {k : σ → Option (Ctl ρ τ)} {s : σ} {r' : Ctl ρ τ} (h : Ctl.sub (some (.brk s)) k = some r') : k s = some r' := h

theorem sub_join {ρ σ τ : Type} {o : Option (Ctl ρ σ)} {k : σ → Option (Ctl ρ τ)} {r : Ctl ρ τ} (h : Ctl.sub o k = some r) : ∃ (D : σ → Prop) (c : Ctl ρ σ), o = some c ∧ (∀ x, c = .brk x → D x) ∧ (∀ x, D x → k x = some r) ∧ ∀ y, c = .ret y → some (Ctl.ret y) = some r := by
  obtain ⟨c, rfl, h2⟩ := sub_some h
  exact ⟨fun x => k x = some r, c, rfl, fun x e => by subst e; exact h2, fun x e => e, fun y e => by subst e; exact h2⟩
theorem fin_join {ρ σ : Type} {o : Option (Ctl ρ σ)} {k : σ → Option ρ} {r : ρ} (h : Ctl.fin o k = some r) : ∃ (D : σ → Prop) (c : Ctl ρ σ), o = some c ∧ (∀ x, c = .brk x → D x) ∧ (∀ x, D x → k x = some r) ∧ ∀ y, c = .ret y → some y = some r := by
  obtain ⟨c, rfl, h2⟩ := fin_some h
  exact ⟨fun x => k x = some r, c, rfl, fun x e => by subst e; exact h2, fun x e => e, fun y e => by subst e; exact h2⟩

theorem bind_some {α β : Type} {o : Option α} {f : α → Option β} {r : β} (h : o.bind f = some r) : ∃ x, o = some x ∧ f x = some r := by
  cases o with
  | none => cases h
  | some x => exact ⟨x, rfl, h⟩
theorem cond_t {α : Type} {b : Bool} {x y r : α} (h : b = true) (k : cond b x y = r) : x = r := by subst h; exact k
theorem cond_f {α : Type} {b : Bool} {x y r : α} (h : b = false) (k : cond b x y = r) : y = r := by subst h; exact k

theorem beq_ne {a b c : Int} (h : (a == b) = true) (k : (b == c) = false) : (a == c) = false := by rw [eq_of_beq h]; exact k
theorem pos_ne {z : Int} (h : decide ((0 : Int) < z) = true) : (z == (0 : Int)) = false := by
  have := of_decide_eq_true h
  exact beq_false_of_ne (by omega)
theorem npos_len {α : Type} {l : List α} (h : decide ((0 : Int) < (l.length : Int)) = false) : ((l.length : Int) == (0 : Int)) = true := by
  have := of_decide_eq_false h
  exact beq_iff_eq.2 (by omega)
theorem not_kn {b c : Bool} (h : b = c) : (!b) = (!c) := by rw [h]

def ixL {α : Type} (l : List α) (i : Int) : Option α := if 0 ≤ i then l[i.toNat]? else none
theorem ixL_some {α : Type} {l : List α} {i : Int} {x : α} (h : ixL l i = some x) : ∃ m : Nat, i = m ∧ l[m]? = some x := by
  unfold ixL at h
  split at h
  · exact ⟨i.toNat, by omega, h⟩
  · cases h
theorem ix_map {α : Type} {enc : α → List AV} {l : List α} {m : Nat} {x : α} (h : l[m]? = some x) : (l.map enc)[m]? = some (enc x) := by rw [List.getElem?_map, h]; rfl
theorem drop_cons {α : Type} {l : List α} {k : Nat} {x : α} (h : l[k]? = some x) : l.drop k = x :: l.drop (k + 1) := by
  obtain ⟨h1, rfl⟩ := List.getElem?_eq_some_iff.1 h
  exact List.drop_eq_getElem_cons h1
theorem drop_nil {α : Type} {l : List α} {k : Nat} (h : l.length ≤ k) : l.drop k = [] := List.drop_of_length_le h

/-- an index of a slice that is only read -/
theorem ix_q {α : Type} {enc : α → List AV} {l : List α} {i : Int} {x : α} {xs : List (List AV)} {K : Nat → List AV → Prop} (h : ixL l i = some x) (e : xs = l.map enc) (hK : ∀ m : Nat, i = m → l[m]? = some x → K m (enc x)) : ∃ (m : Nat) (c : List AV), i = m ∧ xs[m]? = some c ∧ K m c := by
  obtain ⟨m, h1, h2⟩ := ixL_some h
  subst e
  exact ⟨m, enc x, h1, ix_map h2, hK m h1 h2⟩

/-- an index of a row of its own -/
theorem ixo_q {α : Type} {enc : α → List AV} {l : List α} {i : Int} {x : α} {xs : List (List AV)} {K : Nat → Prop} (h : ixL l i = some x) (e : xs = l.map enc) (hK : ∀ m : Nat, i = m → l[m]? = some x → K m) : ∃ m : Nat, i = m ∧ m < xs.length ∧ K m := by
  obtain ⟨m, h1, h2⟩ := ixL_some h
  subst e
  exact ⟨m, h1, by rw [List.length_map]; exact (List.getElem?_eq_some_iff.1 h2).1, hK m h1 h2⟩

theorem len_q {α : Type} {enc : α → List AV} {l : List α} {xs : List (List AV)} {K : Int → Prop} (e : xs = l.map enc) (hK : K (l.length : Int)) : ∃ z : Int, ((xs.length : Nat) : Int) = z ∧ K z := by
  subst e
  exact ⟨_, by rw [List.length_map], hK⟩

def apL {α : Type} (l y : List α) : Option (List α) := if l.length + y.length ≤ 16777216 then some (l ++ y) else none
theorem apL_some {α : Type} {l y z : List α} (h : apL l y = some z) : l.length + y.length ≤ 16777216 ∧ z = l ++ y := by
  unfold apL at h
  split at h
  · exact ⟨by assumption, (Option.some.inj h).symm⟩
  · cases h
theorem ap_q {α : Type} {enc : α → List AV} {l y z : List α} {xs ys : List (List AV)} {eb : Nat} {K : List (List AV) → Prop} (h : apL l y = some z) (e1 : xs = l.map enc) (e2 : ys = y.map enc) (hb : eb ≤ 8388608) (hK : K (z.map enc)) : (xs.length + ys.length) * eb ≤ 140737488355328 ∧ xs.length + ys.length ≤ maxLen ∧ ∃ zs : List (List AV), xs ++ ys = zs ∧ K zs := by
  obtain ⟨h1, rfl⟩ := apL_some h
  subst e1
  subst e2
  simp only [List.length_map]
  refine ⟨?_, by unfold maxLen; omega, _, by rw [List.map_append], hK⟩
  have := Nat.mul_le_mul h1 hb
  omega

def slL {α : Type} (l : List α) (a b : Int) : Option (List α) := if 0 ≤ a ∧ a ≤ b ∧ b ≤ l.length then some ((l.drop a.toNat).take (b.toNat - a.toNat)) else none
theorem slL_some {α : Type} {l z : List α} {a b : Int} (h : slL l a b = some z) : 0 ≤ a ∧ a ≤ b ∧ b ≤ l.length ∧ z = (l.drop a.toNat).take (b.toNat - a.toNat) := by
  unfold slL at h
  split at h
  · rename_i k; exact ⟨k.1, k.2.1, k.2.2, (Option.some.inj h).symm⟩
  · cases h
theorem sl_q {α : Type} {enc : α → List AV} {l z : List α} {a b : Int} {xs : List (List AV)} {K : List (List AV) → Prop} (h : slL l a b = some z) (e : xs = l.map enc) (hK : K (z.map enc)) : ∃ n : Nat, a = n ∧ ∃ m : Nat, b = m ∧ n ≤ m ∧ m ≤ xs.length ∧ ∃ ys : List (List AV), (xs.drop n).take (m - n) = ys ∧ K ys := by
  obtain ⟨h1, h2, h3, rfl⟩ := slL_some h
  subst e
  exact ⟨a.toNat, by omega, b.toNat, by omega, by omega, by rw [List.length_map]; omega, _, by rw [← List.map_drop, ← List.map_take], hK⟩
theorem sl_q0 {α : Type} {enc : α → List AV} {l z : List α} {b : Int} {xs : List (List AV)} {K : List (List AV) → Prop} (h : slL l 0 b = some z) (e : xs = l.map enc) (hK : K (z.map enc)) : ∃ m : Nat, b = m ∧ 0 ≤ m ∧ m ≤ xs.length ∧ ∃ ys : List (List AV), (xs.drop 0).take (m - 0) = ys ∧ K ys := by
  obtain ⟨n, h1, m, h2, h3⟩ := sl_q h e hK
  obtain rfl : n = 0 := by omega
  exact ⟨m, h2, h3⟩
theorem sl_q1 {α : Type} {enc : α → List AV} {l z : List α} {a : Int} {xs : List (List AV)} {K : List (List AV) → Prop} (h : slL l a l.length = some z) (e : xs = l.map enc) (hK : K (z.map enc)) : ∃ n : Nat, a = n ∧ n ≤ xs.length ∧ xs.length ≤ xs.length ∧ ∃ ys : List (List AV), (xs.drop n).take (xs.length - n) = ys ∧ K ys := by
  obtain ⟨n, h1, m, h2, h3⟩ := sl_q h e hK
  obtain rfl : m = xs.length := by subst e; rw [List.length_map]; omega
  exact ⟨n, h1, h3⟩

def mkL {α : Type} (n : Int) (z : α) : Option (List α) := if 0 ≤ n ∧ n ≤ 16777216 then some (List.replicate n.toNat z) else none
theorem mk_q {α : Type} {enc : α → List AV} {n : Int} {z : α} {l : List α} {ez : List AV} {eb : Nat} {K : List (List AV) → Prop} (h : mkL n z = some l) (e : ez = enc z) (hb : eb ≤ 8388608) (hK : K (l.map enc)) : ∃ m : Nat, n = m ∧ n = m ∧ eb * m ≤ 281474976710656 ∧ m ≤ maxLen ∧ ∃ zs : List (List AV), List.replicate m ez = zs ∧ K zs := by
  unfold mkL at h
  split at h
  · rename_i k
    cases h
    subst e
    refine ⟨n.toNat, by omega, by omega, ?_, by unfold maxLen; omega, _, by rw [← List.map_replicate], hK⟩
    have : n.toNat ≤ 16777216 := by omega
    have := Nat.mul_le_mul hb this
    omega
  · cases h

/-- a new array, told as a row -/
def alL {α : Type} (n : Nat) (z : α) : Option (List α) := some (List.replicate n z)
theorem al_q {α : Type} {enc : α → List AV} {n : Nat} {z : α} {l : List α} {zs : List AV} {s : Nat} {K : Nat → List (List AV) → Prop} (h : alL n z = some l) (hs : (enc z).length = s) (h1 : (enc z).all AV.one = true) (hn : n ≤ 1000) (hl : n * s ≤ zs.length) (hz : zall s (enc z) n zs = true) (hK : K s (l.map enc)) : ∃ s xs, AllocR zs s xs ∧ K s xs := by
  cases h
  exact ⟨s, _, ⟨n, enc z, List.map_replicate, hs, h1, by unfold maxLen; omega, hl, hz⟩, hK⟩

/-- a number that may be an index of an array of n elements -/
def gdA (n : Nat) (i : Int) : Option Unit := if 0 ≤ i ∧ i < n then some () else none
theorem gdA_some {n : Nat} {i : Int} {u : Unit} (h : gdA n i = some u) : 0 ≤ i ∧ i < n := by
  unfold gdA at h
  split at h
  · assumption
  · cases h
theorem ixa_q {n : Nat} {i : Int} {u : Unit} {sz s : Nat} {K : Nat → Nat → Prop} (r : Nat) (h : gdA n i = some u) (hr : sz = r * s) (hK : ∀ m : Nat, i = m → K m r) : ∃ m r : Nat, i = m ∧ m < n ∧ sz = r * s ∧ K m r := by
  have := gdA_some h
  exact ⟨i.toNat, r, by omega, by omega, hr, hK _ (by omega)⟩
theorem ixb_q {n : Nat} {i : Int} {u : Unit} {K : Nat → Prop} (h : gdA n i = some u) (hK : ∀ m : Nat, i = m → K m) : ∃ m : Nat, i = m ∧ m < n ∧ K m := by
  have := gdA_some h
  exact ⟨i.toNat, by omega, by omega, hK _ (by omega)⟩
theorem ixm1 {i : Int} {m : Nat} (h : i = m) : i = ((m * 1 : Nat) : Int) := by omega
theorem ixm {i : Int} {m : Nat} (r : Nat) (h : i = m) : i * (r : Int) = ((m * r : Nat) : Int) := by rw [h, Int.natCast_mul]
theorem ixad {i j : Int} {m k : Nat} (h : i = m) (h2 : j = k) : i + j = ((m + k : Nat) : Int) := by omega

/-- a whole array is read -/
def ldL {α : Type} (n : Nat) (l : List α) : Option Unit := if l.length = n then some () else none
theorem lda_q {α : Type} {enc : α → List AV} {d : α} {n s : Nat} {l : List α} {u : Unit} {c : List AV} (h : ldL n l = some u) (hc : c = ((List.range n).map fun k => enc (l.getD k d)).flatten) (hs : ∀ x, (enc x).length = s := by intro x; rfl) : RowCells (l.map enc) s c := by
  unfold ldL at h
  split at h
  · rename_i hl
    subst hc
    intro p u hu
    have key : ∀ (m p : Nat), (((List.range' m (n - m)).map fun k => enc (l.getD k d)).flatten)[p]? = some u → m ≤ n → ∃ (k j : Nat) (e : List AV), m * s + p = k * s + j ∧ (l.map enc)[k]? = some e ∧ e[j]? = some u := by
      intro m
      generalize hq : n - m = q
      induction q generalizing m with
      | zero => intro p hp _; simp at hp
      | succ q ih =>
        intro p hp hm
        rw [List.range'_succ, List.map_cons, List.flatten_cons, List.getElem?_append] at hp
        split at hp
        · rename_i hlt
          refine ⟨m, p, _, rfl, ?_, hp⟩
          have : m < l.length := by omega
          rw [List.getElem?_map, List.getD_eq_getElem?_getD, List.getElem?_eq_getElem this]
          rfl
        · rename_i hge
          rw [hs] at hp hge
          obtain ⟨k, j, e, h1, h2, h3⟩ := ih (m + 1) (by omega) (p - s) hp (by omega)
          refine ⟨k, j, e, ?_, h2, h3⟩
          rw [Nat.add_mul] at h1
          omega
    rw [List.range_eq_range'] at hu
    obtain ⟨k, j, e, h1, h2⟩ := key 0 p (by simpa using hu) (Nat.zero_le _)
    exact ⟨k, j, e, by omega, h2⟩
  · cases h

/-- a store into an element of a row -/
theorem st_q {α : Type} {enc : α → List AV} {l : List α} {m : Nat} {x x' : α} {xs : List (List AV)} {cs : List AV} {j n : Nat} {K : List (List AV) → Prop} (h : l[m]? = some x) (e : xs = l.map enc) (hn : j + n ≤ (enc x).length) (hs : spliceA (enc x) j cs = enc x') (hK : K ((l.set m x').map enc)) : ∃ c, xs[m]? = some c ∧ j + n ≤ c.length ∧ ∃ zs : List (List AV), xs.set m (spliceA c j cs) = zs ∧ K zs := by
  subst e
  exact ⟨enc x, ix_map h, hn, _, by rw [hs, List.map_set], hK⟩

def ixS (s : ByteArray) (i : Int) : Option Int := if 0 ≤ i then (s[i.toNat]?).map (fun b => (b.toNat : Int)) else none
theorem ixs_q {s : ByteArray} {i z : Int} {K : Nat → UInt8 → Prop} (h : ixS s i = some z) (hK : ∀ (m : Nat) (b : UInt8), i = m → s[m]? = some b → ((b.toNat : Nat) : Int) = z → K m b) : ∃ (m : Nat) (b : UInt8), i = m ∧ s[m]? = some b ∧ K m b := by
  unfold ixS at h
  split at h
  · cases hb : s[i.toNat]? with
    | none => rw [hb] at h; cases h
    | some b => rw [hb] at h; exact ⟨i.toNat, b, by omega, hb, hK _ _ (by omega) hb (Option.some.inj h)⟩
  · cases h

def slS (s : ByteArray) (a b : Int) : Option ByteArray := if 0 ≤ a ∧ a ≤ b ∧ b ≤ s.size then some (s.extract a.toNat b.toNat) else none
theorem sls_q {s z : ByteArray} {a b : Int} {K : Nat → Nat → Prop} (h : slS s a b = some z) (hK : ∀ n m : Nat, s.extract n m = z → K n m) : ∃ n : Nat, a = n ∧ ∃ m : Nat, b = m ∧ n ≤ m ∧ m ≤ s.size ∧ K n m := by
  unfold slS at h
  split at h
  · rename_i k; exact ⟨a.toNat, by omega, b.toNat, by omega, by omega, by omega, hK _ _ (Option.some.inj h)⟩
  · cases h

def catS (a b : ByteArray) : Option ByteArray := if ((a.size + b.size : Nat) : Int) ≤ IntKind.i64.max then some (a ++ b) else none
theorem cat_q {a b z : ByteArray} {K : AV → Prop} (h : catS a b = some z) (hK : K (.str z)) : ((a.size + b.size : Nat) : Int) ≤ IntKind.i64.max ∧ K (.str (a ++ b)) := by
  unfold catS at h
  split at h
  · cases h; exact ⟨by assumption, hK⟩
  · cases h

/-- a number that may divide -/
def nz (b : Int) : Option Unit := if b = 0 then none else some ()
theorem nz_some {b : Int} {u : Unit} (h : nz b = some u) : b ≠ 0 := by
  unfold nz at h
  split at h
  · cases h
  · assumption

/-- what a list holds, as elements that name no block -/
theorem map_ok {α : Type} {enc : α → List AV} (h : ∀ x, AV.niL (enc x) = true ∧ (enc x).all AV.one = true) (l : List α) : ∀ c ∈ l.map enc, AV.niL c = true ∧ c.all AV.one = true := fun c hc => by
  obtain ⟨x, _, rfl⟩ := List.mem_map.1 hc
  exact h x
theorem map_ni {α : Type} {enc : α → List AV} (h : ∀ x, AV.niL (enc x) = true ∧ (enc x).all AV.one = true) (l : List α) : ∀ c ∈ l.map enc, AV.niL c = true := fun c hc => (map_ok h l c hc).1

section
variable {H : Nat → Option ABlk} {gs zs bs : List Nat}
theorem argT {x : AV} (h : x = .tru) : ArgR H gs zs bs x (.bool true) := h ▸ .tru
theorem argFl {x : AV} (h : x = .fls) : ArgR H gs zs bs x (.bool false) := h ▸ .fls
theorem argN {x : AV} {sz : Nat} (h : x = .nils) : ArgR H gs zs bs x (.lst sz []) := h ▸ .nils sz
theorem argZ {x : AV} {k : Nat} (h : x = .nils) (hk : zs.contains k = true) : ArgR H gs zs bs x (.osl k) := h ▸ .nilz k (List.contains_iff_mem.1 hk)
theorem argO {x : AV} {id k : Nat} (h : x = .osl id) (hk : gs[k]? = some id) : ArgR H gs zs bs x (.osl k) := h ▸ .oslg id k hk
theorem argOL {x : AV} {sz : Nat} {xs : List (List AV)} (id : Nat) (h : x = .osl id) (hm : bs.contains id = true) (hH : H id = some (.row sz xs)) (hn : ∀ c ∈ xs, AV.niL c = true) : ArgR H gs zs bs x (.lst sz xs) := h ▸ .osl id sz xs (List.contains_iff_mem.1 hm) hH hn
/-- a row told cell by cell, from now on only read together with its elements' rows -/
theorem argOR {x : AV} {sz : Nat} {xs xs' ys : List (List AV)} (id : Nat) (h : x = .osl id) (hm : bs.contains id = true) (hH : H id = some (.row sz xs)) (hr : RowsA H gs zs bs xs xs') (e : xs' = ys) (hn : ∀ c ∈ ys, AV.niL c = true) : ArgR H gs zs bs x (.lst sz ys) := by
  subst h
  subst e
  have tw : ∀ c' ∈ xs', ∃ i c, xs[i]? = some c ∧ xs'[i]? = some c' := fun c' hc => by
    obtain ⟨i, hi⟩ := List.getElem?_of_mem hc
    have h1 : i < xs.length := by rw [hr.1]; exact (List.getElem?_eq_some_iff.1 hi).1
    exact ⟨i, _, List.getElem?_eq_getElem h1, hi⟩
  exact .oslr id sz xs xs' (List.contains_iff_mem.1 hm) hH hr.1 (fun i c c' h1 h2 => (hr.2 i c c' h1 h2).1) hn (fun c' hc => by obtain ⟨i, c, h1, h2⟩ := tw c' hc; exact (hr.2 i c c' h1 h2).2.1) (fun i c c' j u u' h1 h2 h3 h4 => (hr.2 i c c' h1 h2).2.2 j u u' h3 h4)
theorem argA {x : AV} {c c' : List AV} (h : x = .agg c) (hl : c.length = c'.length) (hz : allE (fun p => ArgR H gs zs bs p.1 p.2) (c.zip c')) : ArgR H gs zs bs x (.agg c') := h ▸ aggL hl hz
theorem argTu {x : AV} {c c' : List AV} (h : x = .tup c) (hl : c.length = c'.length) (hz : allE (fun p => ArgR H gs zs bs p.1 p.2) (c.zip c')) : ArgR H gs zs bs x (.tup c') := h ▸ tupL hl hz
theorem argFn {x : AV} {f : FuncId} {c c' : List AV} (h : x = .fn f c) (hl : c.length = c'.length) (hz : allE (fun p => ArgR H gs zs bs p.1 p.2) (c.zip c')) : ArgR H gs zs bs x (.fn f c') := h ▸ .fn f c c' hl (zipE hz)
theorem argEp {x : AV} {id sz i j k : Nat} (h : x = .eptr id sz i j) (hk : gs[k]? = some id) : ArgR H gs zs bs x (.eptr k sz i j) := h ▸ .eptr id sz i j k hk
theorem argIb {x : AV} (id : Nat) (c : List AV) (h : x = .ptr id 0) (hm : bs.contains id = true) (hH : H id = some (.box c)) (h1 : c.all AV.one = true) (h2 : AV.niL c = true) : ArgR H gs zs bs x (.iptr c) := h ▸ .ibox id 0 c (List.contains_iff_mem.1 hm) hH h1 h2
/-- a row whose elements are told by a list -/
theorem blkR {α : Type} {enc : α → List AV} {k id sz : Nat} {l : List α} (ok : ∀ x, AV.niL (enc x) = true ∧ (enc x).all AV.one = true) (h1 : gs[k]? = some id) (h2 : H id = some (.row sz (l.map enc))) : BlkA H gs zs bs k (.row sz (l.map enc)) := blk_row h1 h2 (map_ok ok l)
theorem blkZ {k sz : Nat} (h : zs.contains k = true) : BlkA H gs zs bs k (.row sz []) := blk_nil (List.contains_iff_mem.1 h) rfl
end

/-- a call: blocks gs are granted, blocks bs are lent for reading -/
theorem callX {P : Program} {f : FuncId} {fn : Func} {bd : Code} {args args' : List AV} {H : Nat → Option ABlk} {n g : Nat} (up : Bool) {G G' : List ABlk} {res : AV} (gs bs : List Nat) (m : Nat) (h1 : P.funcs[f]? = some fn) (h2 : fn.name ≠ "runtime.NumGoroutine") (h3 : fn.body = some bd) (hac : AC P f args' G res G') (hl : args.length = args'.length)
    (ha : allE (fun p => ArgR H gs [] bs p.1 p.2) (args.zip args')) (hg : gs.length = G.length) (hgk : allE (fun p => H p.1 = some (p.2.ren (rho gs n (G'.length - G.length)))) (gs.zip G)) (hnd : nodupB gs = true) (hdis : gs.all (fun id => !bs.contains id) = true) (hle : Nat.ble G.length G'.length = true) (hf : LendOK up g bs res G') (hgc : allE (fun b => ABlk.ren (rho gs n (G'.length - G.length)) b = b) G') (hm : G'.length - G.length = m) : CallOK P f args H n args' gs bs G G' res G' g up m := by
  refine ⟨⟨fn, bd, h1, h2, h3⟩, hl, fun t u u' hu hu' => allE_mem ha (u, u') (List.mem_of_getElem? (i := t) (by rw [List.getElem?_zip_eq_some]; exact ⟨hu, hu'⟩)), hg, fun k id b hk hb => allE_mem hgk (id, b) (List.mem_of_getElem? (i := k) (by rw [List.getElem?_zip_eq_some]; exact ⟨hk, hb⟩)), nodupB_ok hnd, fun id hid => ?_, ?_, Nat.le_of_ble_eq_true hle, hf, hac, hm⟩
  · have := List.all_eq_true.1 hdis id hid
    intro hc
    rw [← List.contains_iff_mem] at hc
    rw [hc] at this
    cases this
  · conv => lhs; rw [← List.map_id G']
    exact List.map_congr_left (fun b hb => (allE_mem hgc b hb).symm)

theorem toNat_of {i : Int} {m : Nat} (h : i = m) : i.toNat = m := by omega

/-- .. the blocks that come back told in the caller's names -/
theorem callY {P : Program} {f : FuncId} {fn : Func} {bd : Code} {args args' : List AV} {H : Nat → Option ABlk} {n g : Nat} (up : Bool) {G G' : List ABlk} {res : AV} (Gc : List ABlk) (gs bs : List Nat) (m : Nat) (h1 : P.funcs[f]? = some fn) (h2 : fn.name ≠ "runtime.NumGoroutine") (h3 : fn.body = some bd) (hac : AC P f args' G res G') (hl : args.length = args'.length)
    (ha : allE (fun p => ArgR H gs [] bs p.1 p.2) (args.zip args')) (hg : gs.length = G.length) (hgk : allE (fun p => H p.1 = some (p.2.ren (rho gs n (G'.length - G.length)))) (gs.zip G)) (hnd : nodupB gs = true) (hdis : gs.all (fun id => !bs.contains id) = true) (hle : Nat.ble G.length G'.length = true) (hf : LendOK up g bs res G') (hgl : G'.length = Gc.length) (hgc : allE (fun p => ABlk.ren (rho gs n (G'.length - G.length)) p.1 = p.2) (G'.zip Gc)) (hm : G'.length - G.length = m) : CallOK P f args H n args' gs bs G G' res Gc g up m := by
  refine ⟨⟨fn, bd, h1, h2, h3⟩, hl, fun t u u' hu hu' => allE_mem ha (u, u') (List.mem_of_getElem? (i := t) (by rw [List.getElem?_zip_eq_some]; exact ⟨hu, hu'⟩)), hg, fun k id b hk hb => allE_mem hgk (id, b) (List.mem_of_getElem? (i := k) (by rw [List.getElem?_zip_eq_some]; exact ⟨hk, hb⟩)), nodupB_ok hnd, fun id hid => ?_, ?_, Nat.le_of_ble_eq_true hle, hf, hac, hm⟩
  · have := List.all_eq_true.1 hdis id hid
    intro hc
    rw [← List.contains_iff_mem] at hc
    rw [hc] at this
    cases this
  · refine List.ext_getElem? fun k => ?_
    rw [List.getElem?_map]
    cases h : G'[k]? with
    | none =>
      rw [List.getElem?_eq_none_iff] at h
      simp
      omega
    | some b =>
      have hk : k < Gc.length := by rw [← hgl]; exact (List.getElem?_eq_some_iff.1 h).1
      have e := List.getElem?_eq_getElem hk
      rw [e]
      exact congrArg some (allE_mem hgc (b, Gc[k]) (List.mem_of_getElem? (i := k) (by rw [List.getElem?_zip_eq_some]; exact ⟨h, e⟩))).symm

theorem lend0 {res : AV} {G' : List ABlk} {g : Nat} : LendOK false g [] res G' := .inl rfl
theorem lendF {res : AV} {bs : List Nat} {g : Nat} (h : res.flat = true) : LendOK false g bs res [] := .inr ⟨h, fun b hb => by simp at hb⟩
theorem lendG {res : AV} {G' : List ABlk} {bs : List Nat} {g : Nat} (h : res.flat = true) (k : allE ABlk.flat G') : LendOK false g bs res G' := .inr ⟨h, allE_mem k⟩
theorem giveU {res : AV} {G' : List ABlk} {bs : List Nat} {g : Nat} : LendOK true g bs res G' := trivial

theorem renR {α : Type} {enc : α → List AV} {ρ : Nat → Nat} {sz : Nat} {l : List α} (ok : ∀ x, AV.niL (enc x) = true ∧ (enc x).all AV.one = true) : ABlk.ren ρ (.row sz (l.map enc)) = .row sz (l.map enc) := row_ren (map_ni ok l)
theorem grR {α : Type} {enc : α → List AV} {ρ : Nat → Nat} {sz : Nat} {l : List α} {o : Option ABlk} (ok : ∀ x, AV.niL (enc x) = true ∧ (enc x).all AV.one = true) (h : o = some (.row sz (l.map enc))) : o = some (ABlk.ren ρ (.row sz (l.map enc))) := by rw [renR ok]; exact h

/-- at the head of a loop the length of a slice may be taken to be a number -/
theorem sw_bnd {P : Program} {g nt : Nat} {c : Code} {K : Exit → ASt → Prop} {σ : ASt} (t : Nat) {α : Type} {enc : α → List AV} {sz : Nat} {l : List α} (ht : σ.env t = .lst sz (l.map enc)) (h : l.length ≤ 9223372036854775807 → SW P g nt c K σ) : SW P g nt c K σ := by
  intro C a w h1 h2 hR
  have hR' := hR
  obtain ⟨β, F, hB⟩ := hR'
  have h3 := (hB.env t).bnd
  rw [ht] at h3
  have h4 := h3.len
  rw [List.length_map] at h4
  exact h h4 C a w h1 h2 hR
theorem sw_bndO {P : Program} {g nt : Nat} {c : Code} {K : Exit → ASt → Prop} {σ : ASt} (id : Nat) {α : Type} {enc : α → List AV} {sz : Nat} {l : List α} (ht : σ.H id = some (.row sz (l.map enc))) (h : l.length ≤ 9223372036854775807 → SW P g nt c K σ) : SW P g nt c K σ := by
  intro C a w h1 h2 hR
  have hR' := hR
  obtain ⟨β, F, hB⟩ := hR'
  obtain ⟨hd, _, hb, _⟩ := hB.live id _ ht
  obtain ⟨q1, q2, q3, _⟩ := hb
  rw [List.length_map] at q2
  exact h (by simp only [maxLen] at q3; omega) C a w h1 h2 hR
/-- a contract that says less of what comes back: rows only read from now on -/
theorem ac_weak {P : Program} {f : FuncId} {args : List AV} {G G' G2 : List ABlk} {res res2 : AV} (h : AC P f args G res G') (gs zs bs : List Nat) (hn : namesB G.length G'.length G2.length (aliveG G2) gs zs bs = true) (hv : ArgR (fun id => (G'[id]?).bind liveB) gs zs bs res res2) (hb : allE (fun p => BlkD (fun id => (G'[id]?).bind liveB) gs zs bs p.1 p.2) (idx 0 G2)) : AC P f args G res2 G2 := by
  intro C w vals h1 h2 h3 h4 hR
  obtain ⟨gs', zs', bs', hw⟩ := ret_gz (n := G'.length) gs zs bs hn hv hb
  refine Calls.mono (h C w vals h1 h2 h3 h4 hR) fun e w' ⟨v, he, β, F, hB⟩ => ⟨v, he, hw.rel (C := { C with nt := 1 }) h1 ⟨β, F, { hB with env := fun t => ?_ }⟩⟩
  have := hB.env t
  match t, this with
  | 0, this => exact this
  | t + 1, this => exact .any _

theorem sw_bv {P : Program} {g nt : Nat} {c : Code} {K : Exit → ASt → Prop} {σ : ASt} (t : Nat) {v : AV} (ht : σ.env t = v) (h : Bnd v → SW P g nt c K σ) : SW P g nt c K σ := by
  intro C a w h1 h2 hR
  have hR' := hR
  obtain ⟨β, F, hB⟩ := hR'
  have h3 := (hB.env t).bnd
  rw [ht] at h3
  exact h h3 C a w h1 h2 hR
theorem sw_bc {P : Program} {g nt : Nat} {c : Code} {K : Exit → ASt → Prop} {σ : ASt} (id : Nat) {cs : List AV} (hH : σ.H id = some (.box cs)) (h : (∀ u ∈ cs, Bnd u) → SW P g nt c K σ) : SW P g nt c K σ := by
  intro C a w h1 h2 hR
  have hR' := hR
  obtain ⟨β, F, hB⟩ := hR'
  obtain ⟨hd, _, hb, _⟩ := hB.live id _ hH
  obtain ⟨b, arr, ty, q1, q2, q3⟩ := hb
  exact h (RV.bnd (.agg cs arr q3.1 q3.2) : Bnd (.agg cs)).cell C a w h1 h2 hR
theorem sw_br {P : Program} {g nt : Nat} {c : Code} {K : Exit → ASt → Prop} {σ : ASt} (id : Nat) {sz : Nat} {xs : List (List AV)} (hH : σ.H id = some (.row sz xs)) (h : Bnd (.lst sz xs) → SW P g nt c K σ) : SW P g nt c K σ := by
  intro C a w h1 h2 hR
  have hR' := hR
  obtain ⟨β, F, hB⟩ := hR'
  obtain ⟨hd, _, hb, _⟩ := hB.live id _ hH
  obtain ⟨q1, q2, q3, q4, q5, q6⟩ := hb
  refine h (.lst sz xs (by simp only [maxLen] at q3; omega) (fun d hd' u hu => ?_)) C a w h1 h2 hR
  obtain ⟨k, hk⟩ := List.getElem?_of_mem hd'
  obtain ⟨j, hj⟩ := List.getElem?_of_mem hu
  cases hbk : hd.blk with
  | none =>
    have := q4 hbk
    have := (List.getElem?_eq_some_iff.1 hk).1
    omega
  | some b =>
    obtain ⟨arr, ty, r1, r2, r3⟩ := q6 b hbk
    obtain ⟨v, _, hv⟩ := r3 k d j u hk hj
    exact hv.bnd
theorem Bnd.icell {c : List AV} (h : Bnd (.iptr c)) : ∀ u ∈ c, Bnd u := by
  cases h with
  | sc _ _ h1 => exact absurd rfl (h1 c)
  | iptr _ h2 => exact h2
theorem Bnd.tcell {c : List AV} (h : Bnd (.tup c)) : ∀ u ∈ c, Bnd u := by
  cases h with
  | sc _ _ _ _ h1 => exact absurd rfl (h1 c)
  | tup _ h2 => exact h2
theorem bnd_at {c : List AV} {u : AV} (h : ∀ u ∈ c, Bnd u) (j : Nat) (hj : c[j]? = some u) : Bnd u := h u (List.mem_of_getElem? hj)
theorem bnd_len {α : Type} {enc : α → List AV} {sz : Nat} {l : List α} (h : Bnd (.lst sz (l.map enc))) : l.length ≤ 9223372036854775807 := by
  have := h.len
  rwa [List.length_map] at this
theorem bnd_elem {α : Type} {enc : α → List AV} {sz : Nat} {l : List α} {m : Nat} {e : α} (h : Bnd (.lst sz (l.map enc))) (hx : l[m]? = some e) : ∀ u ∈ enc e, Bnd u := fun u hu => h.elem (enc e) (List.mem_map.2 ⟨e, List.mem_of_getElem? hx, rfl⟩) u hu
end Go.Proofs.Ytkajegjghfbgaaa.Ax
