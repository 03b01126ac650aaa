/- Helpers of the abstract walk. Nothing of the dump is used here. -/
import Derived.Test.YtkefkegknacpjaaAxY
namespace Go.Proofs.Ytkefkegknacpjaa.Ax
open Go.RowKit
set_option linter.unusedVariables false
set_option linter.unusedSimpArgs false

theorem wrap64 {n : Int} (h1 : -9223372036854775808 ≤ n) (h2 : n ≤ 9223372036854775807) : IntKind.i64.wrap n = n := by rw [IntKind.wrap_i64]; omega

theorem wrapE {n m : Int} (h : n = m) (h1 : -9223372036854775808 ≤ m) (h2 : m ≤ 9223372036854775807) : IntKind.i64.wrap n = m := by subst h; exact wrap64 h1 h2

/-- all slices in it have lengths that can be numbers -/
inductive Bnd : AV → Prop where
  | any : Bnd .any
  | sc (v : AV) : (∀ sz xs, v ≠ .lst sz xs) → (∀ c, v ≠ .iptr c) → (∀ c, v ≠ .agg c) → (∀ c, v ≠ .tup c) → Bnd v
  | iptr (c : List AV) : (∀ u ∈ c, Bnd u) → Bnd (.iptr c)
  | lst (sz : Nat) (xs : List (List AV)) : xs.length ≤ 9223372036854775807 → (∀ c ∈ xs, ∀ u ∈ c, Bnd u) → Bnd (.lst sz xs)
  | agg (c : List AV) : (∀ u ∈ c, Bnd u) → Bnd (.agg c)
  | tup (c : List AV) : (∀ u ∈ c, Bnd u) → Bnd (.tup c)

theorem RV.bnd {w : World} {F : Nat → Prop} {β : Nat → Option Hdr} {x : AV} {v : Value} (h : RV w F β x v) : Bnd x := by
  induction h with
  | any => exact .any
  | iptr c b o vs h1 h2 h3 _ ih => exact .iptr c (fun u hu => by obtain ⟨j, hj⟩ := List.getElem?_of_mem hu; exact ih j u hj)
  | lst sz xs a cap vs h1 h2 h3 h4 h5 h6 _ ih =>
    exact .lst sz xs (by simp only [maxLen] at h2; omega) (fun c hc u hu => by
      obtain ⟨k, hk⟩ := List.getElem?_of_mem hc
      obtain ⟨j, hj⟩ := List.getElem?_of_mem hu
      exact ih k c j u hk hj)
  | agg c cs h1 _ ih =>
    exact .agg c (fun u hu => by
      obtain ⟨j, hj⟩ := List.getElem?_of_mem hu
      have : j < cs.size := by rw [← h1]; exact (List.getElem?_eq_some_iff.1 hj).1
      exact ih j u _ hj (Array.getElem?_eq_getElem this))
  | tup c cs h1 _ ih =>
    exact .tup c (fun u hu => by
      obtain ⟨j, hj⟩ := List.getElem?_of_mem hu
      have : j < cs.size := by rw [← h1]; exact (List.getElem?_eq_some_iff.1 hj).1
      exact ih j u _ hj (Array.getElem?_eq_getElem this))
  | _ => exact .sc _ (by simp) (by simp) (by simp) (by simp)

theorem Bnd.len {sz : Nat} {xs : List (List AV)} (h : Bnd (.lst sz xs)) : xs.length ≤ 9223372036854775807 := by
  cases h with
  | sc _ h1 => exact absurd rfl (h1 sz xs)
  | lst _ _ h1 _ => exact h1

theorem Bnd.elem {sz : Nat} {xs : List (List AV)} (h : Bnd (.lst sz xs)) : ∀ c ∈ xs, ∀ u ∈ c, Bnd u := by
  cases h with
  | sc _ h1 => exact absurd rfl (h1 sz xs)
  | lst _ _ _ h2 => exact h2

theorem Bnd.cell {c : List AV} (h : Bnd (.agg c)) : ∀ u ∈ c, Bnd u := by
  cases h with
  | sc _ _ _ h1 => exact absurd rfl (h1 c)
  | agg _ h2 => exact h2

/-- the lengths in the arguments may be taken to be numbers -/
theorem ac_bnd {P : Program} {f : FuncId} {args : List AV} {G G' : List ABlk} {res : AV} (h : (∀ v ∈ args, Bnd v) → AC P f args G res G') : AC P f args G res G' := by
  intro C w vals h1 h2 h3 h4 hR
  have hR' := hR
  obtain ⟨β, F, hB⟩ := hR'
  refine h (fun v hv => ?_) C w vals h1 h2 h3 h4 hR
  obtain ⟨t, ht⟩ := List.getElem?_of_mem hv
  have := (hB.env t).bnd
  simp only [entry, ht, Option.getD_some] at this
  exact this

/-- a contract without granted blocks, as a call in a world: what was there before stays as it is -/
theorem AC.calls {P : Program} {f : FuncId} {args : List AV} {res : AV} (h : AC P f args [] res []) {w : World} {vals : Array Value} (hl : vals.size = args.length) (hv : ∀ (t : Nat) (u : AV) (v : Value), args[t]? = some u → vals[t]? = some v → RV w (fun b => b < w.heap.size) noB u v) (hgl : GloR w (fun b => b < w.heap.size)) :
    Calls P f vals w fun e w' => ∃ v F, e = .returned v ∧ RV w' F noB res v ∧ Below w.heap.size w w' := by
  refine Calls.mono (h ⟨w, [], fun b => b < w.heap.size, vals.size⟩ w vals rfl rfl rfl hl ⟨noB, fun b => b < w.heap.size, ⟨fun t => ?_, rfl, rfl, fun id k e => by simp [entry] at e, fun id id' k k' g g' b e => by simp [entry] at e, fun id g e => (by cases e), fun i g e => by simp at e, fun b hb => hb, fun b hb => ⟨hb, .inl hb⟩, rfl, rfl, rfl, Nat.le_refl _, fun b _ _ => rfl, hgl⟩⟩) (fun e w' he => ?_)
  · simp only [entry]
    cases hu : args[t]? with
    | none => exact .any _
    | some u =>
      have ht : t < vals.size := by rw [hl]; exact (List.getElem?_eq_some_iff.1 hu).1
      have := hv t u _ hu (Array.getElem?_eq_getElem ht)
      simpa [Array.getD_eq_getD_getElem?, ht] using this
  · obtain ⟨v, rfl, β, F, hB⟩ := he
    have h0 := hB.env 0
    have hβ : ∀ id g, β id = some g → noB id = some g := fun id g e => by have : id < 0 := hB.dom id g e; omega
    exact ⟨v, F, rfl, RV.mono h0 (fun _ x => x) (fun _ _ => rfl) hβ, hB.os, hB.tape, hB.output, hB.grow, fun b hb => hB.block b hb (fun h hm => by simp at hm)⟩

/-- slots, one by one -/
def eL : List (Nat × AV) → Nat → AV
  | [], _ => .any
  | (t, v) :: r, u => match Nat.beq u t with
    | true => v
    | false => eL r u

def hL : List (Nat × ABlk) → Nat → Option ABlk
  | [], _ => none
  | (t, v) :: r, u => match Nat.beq u t with
    | true => some v
    | false => hL r u

def allE {α : Type} (p : α → Prop) : List α → Prop
  | [] => True
  | x :: l => p x ∧ allE p l

theorem allE_mem {α : Type} {p : α → Prop} : ∀ {l : List α}, allE p l → ∀ x ∈ l, p x
  | y :: l, h, x, hx => by
    rcases List.mem_cons.1 hx with rfl | hx
    · exact h.1
    · exact allE_mem h.2 x hx

theorem eL_cases : ∀ (l : List (Nat × AV)) (t : Nat), eL l t = .any ∨ ∃ p ∈ l, p.1 = t ∧ eL l t = p.2
  | [], t => .inl rfl
  | (u, v) :: l, t => by
    simp only [eL]
    split
    · rename_i e; exact .inr ⟨(u, v), List.mem_cons_self .., (Nat.eq_of_beq_eq_true e).symm, rfl⟩
    · rcases eL_cases l t with h | ⟨p, h1, h2, h3⟩
      · exact .inl h
      · exact .inr ⟨p, List.mem_cons_of_mem _ h1, h2, h3⟩

theorem hL_cases : ∀ (l : List (Nat × ABlk)) (t : Nat) (b : ABlk), hL l t = some b → (t, b) ∈ l
  | [], t, b, h => by simp [hL] at h
  | (u, v) :: l, t, b, h => by
    simp only [hL] at h
    split at h
    · rename_i e
      have := Nat.eq_of_beq_eq_true e
      subst this
      cases h
      exact List.mem_cons_self ..
    · exact List.mem_cons_of_mem _ (hL_cases l t b h)

/-- a block in other names -/
def BlkA (H : Nat → Option ABlk) (gs zs bs : List Nat) (k : Nat) (b' : ABlk) : Prop := match b' with
  | .dead => False
  | .box c' => ∃ id c, gs[k]? = some id ∧ H id = some (.box c) ∧ c.length = c'.length ∧ ∀ (j : Nat) (u u' : AV), c[j]? = some u → c'[j]? = some u' → ArgR H gs zs bs u u'
  | .row sz xs' => (∃ id xs, gs[k]? = some id ∧ H id = some (.row sz xs) ∧ xs.length = xs'.length ∧ ∀ (i : Nat) (c c' : List AV), xs[i]? = some c → xs'[i]? = some c' → c.length = c'.length ∧ (∀ u ∈ c', u.one = true) ∧ ∀ (j : Nat) (u u' : AV), c[j]? = some u → c'[j]? = some u' → ArgR H gs zs bs u u') ∨ (k ∈ zs ∧ xs' = [])

def nodupB : List Nat → Bool
  | [] => true
  | x :: l => !l.contains x && nodupB l

theorem nodupB_ok : ∀ {l : List Nat}, nodupB l = true → ∀ (i j id : Nat), l[i]? = some id → l[j]? = some id → i = j
  | x :: l, h, i, j, id, hi, hj => by
    simp only [nodupB, Bool.and_eq_true, Bool.not_eq_true'] at h
    have hx : ∀ k, l[k]? = some x → False := fun k hk => by
      have := List.mem_of_getElem? hk
      rw [← List.contains_iff_mem, h.1] at this
      cases this
    match i, j with
    | 0, 0 => rfl
    | 0, j + 1 =>
      simp at hi hj
      subst hi
      exact (hx j hj).elim
    | i + 1, 0 =>
      simp at hi hj
      subst hj
      exact (hx i hi).elim
    | i + 1, j + 1 => rw [nodupB_ok h.2 i j id (by simpa using hi) (by simpa using hj)]

/-- the ids whose names are still told -/
def keepA (al : Nat → Bool) : Nat → List Nat → List Nat
  | _, [] => []
  | k, id :: l => match al k with
    | true => id :: keepA al (k + 1) l
    | false => keepA al (k + 1) l

theorem keepA_mem {al : Nat → Bool} : ∀ {l : List Nat} {k j id : Nat}, l[j]? = some id → al (k + j) = true → id ∈ keepA al k l
  | x :: l, k, 0, id, h, ha => by
    simp at h
    subst h
    have ha : al k = true := ha
    simp only [keepA, ha]
    exact List.mem_cons_self ..
  | x :: l, k, j + 1, id, h, ha => by
    have := keepA_mem (k := k + 1) (show l[j]? = some id by simpa using h) (by rw [show k + 1 + j = k + (j + 1) by omega]; exact ha)
    simp only [keepA]
    split
    · exact List.mem_cons_of_mem _ this
    · exact this

theorem keepA_nd {al : Nat → Bool} : ∀ {l : List Nat} {k : Nat}, nodupB (keepA al k l) = true → ∀ (i j id : Nat), l[i]? = some id → l[j]? = some id → al (k + i) = true → al (k + j) = true → i = j
  | x :: l, k, h, i, j, id, hi, hj, ai, aj => by
    have hr : nodupB (keepA al (k + 1) l) = true := by
      simp only [keepA] at h
      split at h
      · simp only [nodupB, Bool.and_eq_true] at h; exact h.2
      · exact h
    have hx : ∀ q, al k = true → l[q]? = some x → al (k + 1 + q) = true → False := fun q a0 hq aq => by
      simp only [keepA, a0, nodupB, Bool.and_eq_true, Bool.not_eq_true'] at h
      have := keepA_mem (k := k + 1) hq aq
      rw [← List.contains_iff_mem, h.1] at this
      cases this
    match i, j with
    | 0, 0 => rfl
    | 0, j + 1 =>
      simp at hi hj
      subst hi
      exact (hx j ai hj (by rw [show k + 1 + j = k + (j + 1) by omega]; exact aj)).elim
    | i + 1, 0 =>
      simp at hi hj
      subst hj
      exact (hx i aj hi (by rw [show k + 1 + i = k + (i + 1) by omega]; exact ai)).elim
    | i + 1, j + 1 => rw [keepA_nd hr i j id (by simpa using hi) (by simpa using hj) (by rw [show k + 1 + i = k + (i + 1) by omega]; exact ai) (by rw [show k + 1 + j = k + (j + 1) by omega]; exact aj)]

def aliveG (G : List ABlk) (k : Nat) : Bool := match G[k]? with
  | some .dead => false
  | some (.box _) => true
  | some (.row _ _) => true
  | none => false

def aliveL : List (Nat × ABlk) → Nat → Bool
  | [], _ => false
  | (i, _) :: l, k => match Nat.beq i k with
    | true => true
    | false => aliveL l k

theorem aliveL_mem : ∀ {l : List (Nat × ABlk)} {k : Nat} {b : ABlk}, (k, b) ∈ l → aliveL l k = true
  | (i, b') :: l, k, b, h => by
    simp only [aliveL]
    split
    · rfl
    · rename_i e
      rcases List.mem_cons.1 h with h | h
      · cases h; rw [Nat.beq_refl] at e; cases e
      · exact aliveL_mem h

/-- the names fit -/
def namesB (g sn n : Nat) (al : Nat → Bool) (gs zs bs : List Nat) : Bool :=
  (List.range g).all (fun i => match gs[i]? with | some j => Nat.beq i j | none => false) && nodupB (keepA al 0 gs) && (keepA al 0 gs).all (fun id => !bs.contains id) && zs.all (fun k => (match gs[k]? with | some id => Nat.ble sn id | none => true) && Nat.blt k n) && Nat.ble gs.length n

/-- a block at the end of a function: what was given up is not told -/
def BlkD (H : Nat → Option ABlk) (gs zs bs : List Nat) (k : Nat) (b' : ABlk) : Prop := match b' with
  | .dead => True
  | .box c => BlkA H gs zs bs k (.box c)
  | .row sz xs => BlkA H gs zs bs k (.row sz xs)

theorem blkA_wk {H : Nat → Option ABlk} {gs zs bs : List Nat} {k : Nat} {b' : ABlk} (h1 : BlkA H gs zs bs k b') : (∃ id b, gs[k]? = some id ∧ H id = some b ∧
      ((∃ c c', b = .box c ∧ b' = .box c' ∧ c.length = c'.length ∧ ∀ (j : Nat) (u u' : AV), c[j]? = some u → c'[j]? = some u' → ArgR H gs zs bs u u') ∨
      (∃ sz xs xs', b = .row sz xs ∧ b' = .row sz xs' ∧ xs.length = xs'.length ∧ ∀ (i : Nat) (c c' : List AV), xs[i]? = some c → xs'[i]? = some c' → c.length = c'.length ∧ (∀ u ∈ c', u.one = true) ∧ ∀ (j : Nat) (u u' : AV), c[j]? = some u → c'[j]? = some u' → ArgR H gs zs bs u u'))) ∨ (k ∈ zs ∧ ∃ sz, b' = .row sz []) := by
  cases b' with
  | dead => exact h1.elim
  | box c' =>
    obtain ⟨id, c, q1, q2, q3, q4⟩ := h1
    exact .inl ⟨id, _, q1, q2, .inl ⟨c, c', rfl, rfl, q3, q4⟩⟩
  | row sz xs =>
    rcases h1 with ⟨id, ys, q1, q2, q3, q4⟩ | ⟨q1, q2⟩
    · exact .inl ⟨id, _, q1, q2, .inr ⟨sz, ys, xs, rfl, rfl, q3, q4⟩⟩
    · exact .inr ⟨q1, sz, by rw [q2]⟩

theorem wk_mk {g : Nat} {σ : ASt} {l : List (Nat × AV)} {hl : List (Nat × ABlk)} {n : Nat} (gs zs bs : List Nat) (hn : namesB g σ.n n (aliveL hl) gs zs bs = true) (he : allE (fun p => ArgR σ.H gs zs bs (σ.env p.1) p.2) l) (hb : allE (fun p => BlkA σ.H gs zs bs p.1 p.2) hl) : Wk g σ ⟨eL l, hL hl, n⟩ gs zs bs := by
  unfold namesB at hn
  simp only [Bool.and_eq_true, List.all_eq_true, List.mem_range] at hn
  obtain ⟨⟨⟨⟨n1, n2⟩, n3⟩, n4⟩, n5⟩ := hn
  have al : ∀ (k : Nat) (b : ABlk), hL hl k = some b → aliveL hl (0 + k) = true := fun k b e => by rw [Nat.zero_add]; exact aliveL_mem (hL_cases hl k b e)
  refine ⟨fun t => ?_, fun k b' hk => ?_, fun i hi => ?_, fun i j id b b' hi hj e1 e2 => keepA_nd n2 i j id hi hj (al i b e1) (al j b' e2), fun k id b hid e1 => ?_, fun k hk => ?_, fun k hk id hid => ?_, Nat.le_of_ble_eq_true n5⟩
  · show ArgR σ.H gs zs bs (σ.env t) (eL l t)
    rcases eL_cases l t with h | ⟨p, h1, h2, h3⟩
    · rw [h]; exact .any _
    · rw [h3, ← h2]; exact allE_mem he p h1
  · exact blkA_wk (allE_mem hb _ (hL_cases hl k b' hk))
  · have := n1 i hi
    split at this
    · rename_i j e
      rw [e, Nat.eq_of_beq_eq_true this]
    · cases this
  · have := n3 id (keepA_mem hid (al k b e1))
    intro hc
    rw [← List.contains_iff_mem] at hc
    rw [hc] at this
    cases this
  · exact Nat.blt_eq.mp (n4 k hk).2
  · have := (n4 k hk).1
    rw [hid] at this
    exact Nat.le_of_ble_eq_true this

/-- a function ends, its result a value that names no block; no block was granted -/
theorem ret_ni {v res : AV} {H : Nat → Option ABlk} {n : Nat} (hv : v.ni = true) (h : v = res) : ∃ gs zs bs, Wk 0 ⟨oneE v, H, n⟩ (entry [res] []) gs zs bs := by
  subst h
  refine ⟨[], [], [], fun t => ?_, fun k b' hk => by simp [entry] at hk, fun i hi => by omega, fun i j id b b' h => by simp at h, fun k id b h => by simp at h, fun k h => by simp at h, fun k h => by simp at h, Nat.le_refl _⟩
  match t with
  | 0 => exact .ni _ hv
  | t + 1 => exact .any _

/-- a function ends, its result read from now on; no block was granted -/
theorem ret_bs {v res : AV} {H : Nat → Option ABlk} {n : Nat} (bs : List Nat) (h : ArgR H [] [] bs v res) : ∃ gs zs bs, Wk 0 ⟨oneE v, H, n⟩ (entry [res] []) gs zs bs := by
  refine ⟨[], [], bs, fun t => ?_, fun k b' hk => by simp [entry] at hk, fun i hi => by omega, fun i j id b b' h => by simp at h, fun k id b h => by simp at h, fun k h => by simp at h, fun k h => by simp at h, Nat.le_refl _⟩
  match t with
  | 0 => exact h
  | t + 1 => exact .any _

theorem argE {H : Nat → Option ABlk} {gs zs bs : List Nat} {x y : AV} (h : x = y) (hy : y.ni = true) : ArgR H gs zs bs x y := by
  subst h
  exact .ni _ hy

theorem argP {H : Nat → Option ABlk} {gs zs bs : List Nat} {x : AV} {id j k : Nat} (h : x = .ptr id j) (hk : gs[k]? = some id) : ArgR H gs zs bs x (.ptr k j) := by
  subst h
  exact .ptr id j k hk

theorem argF {H : Nat → Option ABlk} {gs zs bs : List Nat} {x : AV} {f : FuncId} {id j k : Nat} (h : x = .fn f [.ptr id j]) (hk : gs[k]? = some id) : ArgR H gs zs bs x (.fn f [.ptr k j]) := by
  subst h
  refine .fn f _ _ rfl (fun i u u' hu hu' => ?_)
  match i, hu, hu' with
  | 0, hu, hu' => cases hu; cases hu'; exact .ptr id j k hk
  | i + 1, hu, _ => cases hu

/-- a pointer to an owned block that is only read from now on -/
theorem argIB {H : Nat → Option ABlk} {gs zs bs : List Nat} {x : AV} (id : Nat) (c : List AV) (h : x = .ptr id 0) (hm : id ∈ bs) (hH : H id = some (.box c)) (h1 : c.all AV.one = true) (h2 : AV.niL c = true) : ArgR H gs zs bs x (.iptr c) := by
  subst h
  exact .ibox id 0 c hm hH h1 h2

theorem blk_ni {H : Nat → Option ABlk} {gs zs bs : List Nat} {k id : Nat} {c : List AV} (h1 : gs[k]? = some id) (h2 : H id = some (.box c)) (h3 : AV.niL c = true) : BlkA H gs zs bs k (.box c) :=
  ⟨id, c, h1, h2, rfl, fun j u u' hu hu' => by rw [hu] at hu'; cases hu'; exact .ni _ (niL_mem h3 (List.mem_of_getElem? hu))⟩

/-- a row whose elements name no block, under another name -/
theorem blk_row {H : Nat → Option ABlk} {gs zs bs : List Nat} {k id sz : Nat} {xs : List (List AV)} (h1 : gs[k]? = some id) (h2 : H id = some (.row sz xs)) (h3 : ∀ c ∈ xs, AV.niL c = true ∧ c.all AV.one = true) : BlkA H gs zs bs k (.row sz xs) := by
  refine .inl ⟨id, xs, h1, h2, rfl, fun i c c' hc hc' => ?_⟩
  rw [hc] at hc'
  cases hc'
  obtain ⟨q1, q2⟩ := h3 c (List.mem_of_getElem? hc)
  refine ⟨rfl, fun u hu => by rw [List.all_eq_true] at q2; exact q2 u hu, fun j u u' hu hu' => ?_⟩
  rw [hu] at hu'
  cases hu'
  exact .ni _ (niL_mem q1 (List.mem_of_getElem? hu))

def idx : Nat → List ABlk → List (Nat × ABlk)
  | _, [] => []
  | k, b :: l => (k, b) :: idx (k + 1) l

theorem idx_mem : ∀ {l : List ABlk} {k j : Nat} {b : ABlk}, l[j]? = some b → (k + j, b) ∈ idx k l
  | b' :: l, k, 0, b, h => by simp at h; subst h; simp [idx]
  | b' :: l, k, j + 1, b, h => by
    have := idx_mem (k := k + 1) (show l[j]? = some b by simpa using h)
    rw [show k + (j + 1) = k + 1 + j by omega]
    exact List.mem_cons_of_mem _ this

/-- a function ends, its result and the blocks that go to the caller told in new names -/
theorem ret_gz {g : Nat} {v res : AV} {H : Nat → Option ABlk} {n : Nat} {G' : List ABlk} (gs zs bs : List Nat) (hn : namesB g n G'.length (aliveG G') gs zs bs = true) (hv : ArgR H gs zs bs v res) (hb : allE (fun p => BlkD H gs zs bs p.1 p.2) (idx 0 G')) : ∃ gs zs bs, Wk g ⟨oneE v, H, n⟩ (entry [res] G') gs zs bs := by
  unfold namesB at hn
  simp only [Bool.and_eq_true, List.all_eq_true, List.mem_range] at hn
  obtain ⟨⟨⟨⟨n1, n2⟩, n3⟩, n4⟩, n5⟩ := hn
  have al : ∀ (k : Nat) (b : ABlk), (entry [res] G').H k = some b → aliveG G' (0 + k) = true := fun k b e => by
    obtain ⟨e1, e2⟩ := entry_H e
    rw [Nat.zero_add]
    unfold aliveG
    rw [e1]
    cases b with
    | dead => cases e2
    | box c => rfl
    | row sz xs => rfl
  refine ⟨gs, zs, bs, fun t => ?_, fun k b' hk => ?_, fun i hi => ?_, fun i j id b b' hi hj e1 e2 => keepA_nd n2 i j id hi hj (al i b e1) (al j b' e2), fun k id b hid e1 => ?_, fun k hk => ?_, fun k hk id hid => ?_, Nat.le_of_ble_eq_true n5⟩
  · match t with
    | 0 => exact hv
    | t + 1 => exact .any _
  · obtain ⟨hk', hlv⟩ := entry_H hk
    have h1 := allE_mem hb (k, b') (by have := idx_mem (k := 0) hk'; rwa [Nat.zero_add] at this)
    refine blkA_wk ?_
    cases b' with
    | dead => cases hlv
    | box c => exact h1
    | row sz xs => exact h1
  · have := n1 i hi
    split at this
    · rename_i j e
      rw [e, Nat.eq_of_beq_eq_true this]
    · cases this
  · have := n3 id (keepA_mem hid (al k b e1))
    intro hc
    rw [← List.contains_iff_mem] at hc
    rw [hc] at this
    cases this
  · exact Nat.blt_eq.mp (n4 k hk).2
  · have := (n4 k hk).1
    rw [hid] at this
    exact Nat.le_of_ble_eq_true this

theorem ret_gzE {g : Nat} {v res : AV} {H : Nat → Option ABlk} {n : Nat} {G' : List ABlk} (res0 : AV) (G0 : List ABlk) (e1 : res = res0) (e2 : G' = G0) (gs zs bs : List Nat) (hn : namesB g n G0.length (aliveG G0) gs zs bs = true) (hv : ArgR H gs zs bs v res0) (hb : allE (fun p => BlkD H gs zs bs p.1 p.2) (idx 0 G0)) : ∃ gs zs bs, Wk g ⟨oneE v, H, n⟩ (entry [res] G') gs zs bs := by
  subst e1
  subst e2
  exact ret_gz gs zs bs hn hv hb

theorem ret_g {g : Nat} {v res : AV} {H : Nat → Option ABlk} {n : Nat} {G' : List ABlk} (gs bs : List Nat) (hn : namesB g n G'.length (aliveG G') gs [] bs = true) (hv : ArgR H gs [] bs v res) (hb : allE (fun p => BlkD H gs [] bs p.1 p.2) (idx 0 G')) : ∃ gs zs bs, Wk g ⟨oneE v, H, n⟩ (entry [res] G') gs zs bs :=
  ret_gz gs [] bs hn hv hb

/-- a function ends with a row of its own; or with nil -/
theorem ret_row {v : AV} {H : Nat → Option ABlk} {n id sz : Nat} {xs ys : List (List AV)} (hv : v = .osl id) (hH : H id = some (.row sz xs)) (hxy : xs = ys) (hni : ∀ c ∈ xs, AV.niL c = true ∧ c.all AV.one = true) : ∃ gs zs bs, Wk 0 ⟨oneE v, H, n⟩ (entry [.osl 0] [.row sz ys]) gs zs bs := by
  subst hv
  subst hxy
  exact ret_gz [id] [] [] rfl (.oslg id 0 rfl) ⟨blk_row rfl hH hni, trivial⟩

theorem ret_nil {v : AV} {H : Nat → Option ABlk} {n sz : Nat} {ys : List (List AV)} (hv : v = .nils) (hy : ys = []) : ∃ gs zs bs, Wk 0 ⟨oneE v, H, n⟩ (entry [.osl 0] [.row sz ys]) gs zs bs := by
  subst hv
  subst hy
  exact ret_gz [] [0] [] rfl (.nilz 0 (by simp)) ⟨.inr ⟨by simp, rfl⟩, trivial⟩

/-- two rows, element by element -/
def CellsA (H : Nat → Option ABlk) (gs zs bs : List Nat) (c c' : List AV) : Prop := c.length = c'.length ∧ (∀ u ∈ c', u.one = true) ∧ ∀ (j : Nat) (u u' : AV), c[j]? = some u → c'[j]? = some u' → ArgR H gs zs bs u u'
def RowsA (H : Nat → Option ABlk) (gs zs bs : List Nat) (xs xs' : List (List AV)) : Prop := xs.length = xs'.length ∧ ∀ (i : Nat) (c c' : List AV), xs[i]? = some c → xs'[i]? = some c' → CellsA H gs zs bs c c'

theorem RowsA.ni {H : Nat → Option ABlk} {gs zs bs : List Nat} {xs : List (List AV)} (h3 : ∀ c ∈ xs, AV.niL c = true ∧ c.all AV.one = true) : RowsA H gs zs bs xs xs := by
  refine ⟨rfl, fun i c c' hc hc' => ?_⟩
  rw [hc] at hc'
  cases hc'
  obtain ⟨q1, q2⟩ := h3 c (List.mem_of_getElem? hc)
  refine ⟨rfl, fun u hu => by rw [List.all_eq_true] at q2; exact q2 u hu, fun j u u' hu hu' => ?_⟩
  rw [hu] at hu'
  cases hu'
  exact .ni _ (niL_mem q1 (List.mem_of_getElem? hu))

theorem RowsA.nil {H : Nat → Option ABlk} {gs zs bs : List Nat} : RowsA H gs zs bs [] [] := ⟨rfl, fun i c c' h => by simp at h⟩
theorem RowsA.cons {H : Nat → Option ABlk} {gs zs bs : List Nat} {xs xs' : List (List AV)} {c c' : List AV} (hc : CellsA H gs zs bs c c') (h : RowsA H gs zs bs xs xs') : RowsA H gs zs bs (c :: xs) (c' :: xs') := by
  refine ⟨by simp [h.1], fun i d d' hd hd' => ?_⟩
  cases i with
  | zero => cases hd; cases hd'; exact hc
  | succ i => exact h.2 i d d' (by simpa using hd) (by simpa using hd')
theorem RowsA.app {H : Nat → Option ABlk} {gs zs bs : List Nat} {xs xs' : List (List AV)} {c c' : List AV} (h : RowsA H gs zs bs xs xs') (hc : CellsA H gs zs bs c c') : RowsA H gs zs bs (xs ++ [c]) (xs' ++ [c']) := by
  obtain ⟨h1, h2⟩ := h
  refine ⟨by simp [h1], fun i d d' hd hd' => ?_⟩
  by_cases hi : i < xs.length
  · rw [List.getElem?_append_left hi] at hd
    rw [List.getElem?_append_left (by omega)] at hd'
    exact h2 i d d' hd hd'
  · rw [List.getElem?_append_right (by omega)] at hd
    rw [List.getElem?_append_right (by omega)] at hd'
    have e : i - xs.length = 0 := by have := (List.getElem?_eq_some_iff.1 hd).1; simp at this; omega
    rw [e] at hd
    rw [← h1, e] at hd'
    simp at hd hd'
    subst hd
    subst hd'
    exact hc

theorem blk_rows {H : Nat → Option ABlk} {gs zs bs : List Nat} {k id sz : Nat} {xs xs' : List (List AV)} (h1 : gs[k]? = some id) (h2 : H id = some (.row sz xs)) (h : RowsA H gs zs bs xs xs') : BlkA H gs zs bs k (.row sz xs') := .inl ⟨id, xs, h1, h2, h.1, h.2⟩

theorem RowsA.set {H : Nat → Option ABlk} {gs zs bs : List Nat} {xs xs' : List (List AV)} {c c' : List AV} (n : Nat) (h : RowsA H gs zs bs xs xs') (hc : CellsA H gs zs bs c c') : RowsA H gs zs bs (xs.set n c) (xs'.set n c') := by
  obtain ⟨h1, h2⟩ := h
  refine ⟨by simp [h1], fun i d d' hd hd' => ?_⟩
  rw [List.getElem?_set] at hd hd'
  split at hd
  · rename_i e
    rw [if_pos e] at hd'
    split at hd
    · cases hd
      split at hd'
      · cases hd'; exact hc
      · cases hd'
    · cases hd
  · rename_i e
    rw [if_neg e] at hd'
    exact h2 i d d' hd hd'

theorem RowsA.rep {H : Nat → Option ABlk} {gs zs bs : List Nat} {c c' : List AV} (n : Nat) (hc : CellsA H gs zs bs c c') : RowsA H gs zs bs (List.replicate n c) (List.replicate n c') := by
  refine ⟨by simp, fun i d d' hd hd' => ?_⟩
  rw [List.getElem?_replicate] at hd hd'
  split at hd
  · cases hd
    rw [if_pos (by assumption)] at hd'
    cases hd'
    exact hc
  · cases hd

theorem wkS {g : Nat} {σ σ1 σ2 : ASt} {gs zs bs : List Nat} (h : σ2 = σ1) (hw : Wk g σ σ1 gs zs bs) : Wk g σ σ2 gs zs bs := h ▸ hw

theorem blk_rowsE {H : Nat → Option ABlk} {gs zs bs : List Nat} {k id sz : Nat} {xs xs' ys : List (List AV)} (h1 : gs[k]? = some id) (h2 : H id = some (.row sz xs)) (h : RowsA H gs zs bs xs xs') (e : xs' = ys) : BlkA H gs zs bs k (.row sz ys) := by
  subst e
  exact blk_rows h1 h2 h

/-- a struct of two cells -/
theorem agg2 {H : Nat → Option ABlk} {gs zs bs : List Nat} {a b a' b' : AV} (ha : ArgR H gs zs bs a a') (hb : ArgR H gs zs bs b b') : ArgR H gs zs bs (.agg [a, b]) (.agg [a', b']) := by
  refine .agg _ _ rfl (fun j u u' hu hu' => ?_)
  match j, hu, hu' with
  | 0, hu, hu' => cases hu; cases hu'; exact ha
  | 1, hu, hu' => cases hu; cases hu'; exact hb
  | j + 2, hu, _ => simp at hu

/-- a function ends with a struct whose second cell is a row of its own -/
theorem ret_agg2 {v a : AV} {H : Nat → Option ABlk} {n id sz : Nat} {xs ys : List (List AV)} (hv : v = .agg [a, .osl id]) (ha : a.ni = true) (hH : H id = some (.row sz xs)) (hxy : xs = ys) (hni : ∀ c ∈ xs, AV.niL c = true ∧ c.all AV.one = true) : ∃ gs zs bs, Wk 0 ⟨oneE v, H, n⟩ (entry [.agg [a, .osl 0]] [.row sz ys]) gs zs bs := by
  subst hv
  subst hxy
  exact ret_gz [id] [] [] rfl (agg2 (.ni _ ha) (.oslg id 0 rfl)) ⟨blk_row rfl hH hni, trivial⟩

theorem cells1 {H : Nat → Option ABlk} {gs zs bs : List Nat} {u u' : AV} (h : ArgR H gs zs bs u u') (h1 : u'.one = true) : CellsA H gs zs bs [u] [u'] := by
  refine ⟨rfl, fun x hx => by simp at hx; subst hx; exact h1, fun j x x' hx hx' => ?_⟩
  match j, hx, hx' with
  | 0, hx, hx' => simp at hx hx'; subst hx; subst hx'; exact h
  | j + 1, hx, _ => simp at hx

/-- a function ends that was granted one block -/
theorem ret_g1 {v res : AV} {H : Nat → Option ABlk} {n : Nat} {c c' : List AV} (hv : v.ni = true) (hres : v = res) (hH : H 0 = some (.box c)) (hc : c = c') (hni : AV.niL c = true) : ∃ gs zs bs, Wk 1 ⟨oneE v, H, n⟩ (entry [res] [.box c']) gs zs bs := by
  subst hres
  subst hc
  exact ret_g [0] [] rfl (.ni _ hv) ⟨blk_ni (id := 0) rfl hH hni, trivial⟩

/-- a function ends with the address of a new block -/
theorem ret_new {H : Nat → Option ABlk} {n id : Nat} {v : AV} {c c' : List AV} (hv : v = .ptr id 0) (hH : H id = some (.box c)) (hc : c = c') (hni : AV.niL c = true) : ∃ gs zs bs, Wk 0 ⟨oneE v, H, n⟩ (entry [.ptr 0 0] [.box c']) gs zs bs := by
  subst hv
  subst hc
  exact ret_g [id] [] rfl (.ptr id 0 0 rfl) ⟨blk_ni (id := id) rfl hH hni, trivial⟩

/-- a box of two cells -/
theorem box2 {H : Nat → Option ABlk} {gs zs bs : List Nat} {k id : Nat} {a b a' b' : AV} (h1 : gs[k]? = some id) (h2 : H id = some (.box [a, b])) (ha : ArgR H gs zs bs a a') (hb : ArgR H gs zs bs b b') : BlkA H gs zs bs k (.box [a', b']) := by
  refine ⟨id, _, h1, h2, rfl, fun j u u' hu hu' => ?_⟩
  match j, hu, hu' with
  | 0, hu, hu' => cases hu; cases hu'; exact ha
  | 1, hu, hu' => cases hu; cases hu'; exact hb
  | j + 2, hu, _ => simp at hu

theorem zipE {H : Nat → Option ABlk} {gs zs bs : List Nat} {c c' : List AV} (h : allE (fun p => ArgR H gs zs bs p.1 p.2) (c.zip c')) : ∀ (j : Nat) (u u' : AV), c[j]? = some u → c'[j]? = some u' → ArgR H gs zs bs u u' := fun j u u' hu hu' =>
  allE_mem h (u, u') (List.mem_of_getElem? (i := j) (by rw [List.getElem?_zip_eq_some]; exact ⟨hu, hu'⟩))

theorem aggL {H : Nat → Option ABlk} {gs zs bs : List Nat} {c c' : List AV} (hl : c.length = c'.length) (h : allE (fun p => ArgR H gs zs bs p.1 p.2) (c.zip c')) : ArgR H gs zs bs (.agg c) (.agg c') := .agg c c' hl (zipE h)

theorem tupL {H : Nat → Option ABlk} {gs zs bs : List Nat} {c c' : List AV} (hl : c.length = c'.length) (h : allE (fun p => ArgR H gs zs bs p.1 p.2) (c.zip c')) : ArgR H gs zs bs (.tup c) (.tup c') := .tup c c' hl (zipE h)

theorem boxL {H : Nat → Option ABlk} {gs zs bs : List Nat} {k id : Nat} {c c' : List AV} (h1 : gs[k]? = some id) (h2 : H id = some (.box c)) (hl : c.length = c'.length) (h : allE (fun p => ArgR H gs zs bs p.1 p.2) (c.zip c')) : BlkA H gs zs bs k (.box c') := ⟨id, c, h1, h2, hl, zipE h⟩

theorem cellsL {H : Nat → Option ABlk} {gs zs bs : List Nat} {c c' : List AV} (hl : c.length = c'.length) (h1 : c'.all AV.one = true) (h : allE (fun p => ArgR H gs zs bs p.1 p.2) (c.zip c')) : CellsA H gs zs bs c c' := ⟨hl, fun u hu => by rw [List.all_eq_true] at h1; exact h1 u hu, zipE h⟩

/-- a nil slice where a row of its own is told -/
theorem blk_nil {H : Nat → Option ABlk} {gs zs bs : List Nat} {k sz : Nat} {xs : List (List AV)} (h : k ∈ zs) (hx : xs = []) : BlkA H gs zs bs k (.row sz xs) := .inr ⟨h, hx⟩
end Go.Proofs.Ytkefkegknacpjaa.Ax
