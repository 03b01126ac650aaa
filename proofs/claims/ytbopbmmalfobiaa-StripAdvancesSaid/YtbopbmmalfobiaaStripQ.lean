/- One tick, generally: no bag is lost, doubled or passed; and the reference's tick is the same. -/
import Derived.Test.YtbopbmmalfobiaaStripP
namespace Go.Proofs.Ytbopbmmalfobiaa

theorem atF_lt {l : List Int} {k : Nat} (h : atF l k ≠ 0) : k < l.length := by
  rcases Nat.lt_or_ge k l.length with h1 | h1
  · exact h1
  · exact absurd (atF_ge l k h1) h

theorem atF_set_same {l : List Int} {k : Nat} (x : Int) (h : k < l.length) : atF (l.set k x) k = x := by simp [atF, h]
theorem atF_set_ne {l : List Int} {k p : Nat} (x : Int) (h : k ≠ p) : atF (l.set k x) p = atF l p := by simp [atF, h]
theorem atF_get {l : List Int} {k : Nat} (h : k < l.length) : l[k] = atF l k := by simp [atF, h]

theorem set_self {l : List Int} {k : Nat} : l.set k (atF l k) = l := by
  apply List.ext_getElem (by simp)
  intro i h1 h2
  rw [List.getElem_set]
  split
  · rename_i e; subst e; simp [atF, h2]
  · rfl

/-- the bag of window k (not the last one) goes here -/
abbrev dst (s fs : List Int) (k : Nat) : Nat := tgt s.length k (atF s (k + 1)) (atF s (k + 2)) (atF fs k)

theorem tgt_cases (n k : Nat) (x y f : Int) : tgt n k x y f = k ∨ (tgt n k x y f = k + 1 ∧ x = 0) ∨ (tgt n k x y f = k + 2 ∧ x = 0 ∧ y = 0 ∧ k + 2 < n) := by
  unfold tgt
  by_cases h : f = 1 ∨ x ≠ 0
  · rw [if_pos h]; exact .inl rfl
  · rw [if_neg h]
    have hx : x = 0 := by
      rcases Int.decEq x 0 with h' | h'
      · exact absurd (.inr h') h
      · exact h'
    by_cases h2 : f = 2 ∧ k + 2 < n ∧ y = 0
    · rw [if_pos h2]; exact .inr (.inr ⟨rfl, hx, h2.2.2, h2.2.1⟩)
    · rw [if_neg h2]; exact .inr (.inl ⟨rfl, hx⟩)

theorem split_at {l : List Int} {k : Nat} (h : k < l.length) : l = l.take k ++ atF l k :: l.drop (k + 1) := by
  rw [← atF_get h, ← List.drop_eq_getElem_cons h, List.take_append_drop]

theorem bagsF_append (a b : List Int) : bagsF (a ++ b) = bagsF b ++ bagsF a := by simp [bagsF]
theorem bagsF_cons (x : Int) (b : List Int) : bagsF (x :: b) = bagsF b ++ if x = 0 then [] else [x] := by
  unfold bagsF
  rw [List.reverse_cons, List.filter_append]
  by_cases h : x = 0 <;> simp [h]

theorem split2 {l : List Int} {k : Nat} (h : k + 1 < l.length) : ∃ A C, A.length = k ∧ l = A ++ atF l k :: atF l (k + 1) :: C := by
  refine ⟨l.take k, l.drop (k + 2), by simp; omega, ?_⟩
  conv => lhs; rw [split_at (show k < l.length by omega)]
  rw [List.drop_eq_getElem_cons h, atF_get h]

theorem split3 {l : List Int} {k : Nat} (h : k + 2 < l.length) : ∃ A C, A.length = k ∧ l = A ++ atF l k :: atF l (k + 1) :: atF l (k + 2) :: C := by
  refine ⟨l.take k, l.drop (k + 3), by simp; omega, ?_⟩
  conv => lhs; rw [split_at (show k < l.length by omega)]
  rw [List.drop_eq_getElem_cons (show k + 1 < l.length by omega), List.drop_eq_getElem_cons (show k + 2 < l.length by omega), atF_get (show k + 1 < l.length by omega), atF_get h]

theorem set_app (A : List Int) (j : Nat) (x : Int) (C : List Int) : (A ++ C).set (A.length + j) x = A ++ C.set j x := by
  induction A with
  | nil => simp
  | cons a A ih =>
    rw [List.cons_append, List.length_cons, show A.length + 1 + j = (A.length + j) + 1 by omega, List.set_cons_succ, ih]
    rfl

/-- moving a bag over empty windows keeps the bags' order -/
theorem bags_move {l : List Int} {k t : Nat} (ht : t < l.length) (h : t = k + 1 ∧ atF l (k + 1) = 0 ∨ t = k + 2 ∧ atF l (k + 1) = 0 ∧ atF l (k + 2) = 0) :
    bagsF ((l.set k 0).set t (atF l k)) = bagsF l := by
  rcases h with ⟨rfl, h1⟩ | ⟨rfl, h1, h2⟩
  · obtain ⟨A, C, hA, e⟩ := split2 ht
    generalize atF l k = b at *
    rw [h1] at e
    rw [e, ← hA]
    have e1 := set_app A 0 0 (b :: 0 :: C)
    have e2 := set_app A 1 b (0 :: 0 :: C)
    simp only [Nat.add_zero, List.set_cons_zero, List.set_cons_succ] at e1 e2
    rw [e1, e2]
    simp only [bagsF_append, bagsF_cons]
    simp
  · obtain ⟨A, C, hA, e⟩ := split3 ht
    generalize atF l k = b at *
    rw [h1, h2] at e
    rw [e, ← hA]
    have e1 := set_app A 0 0 (b :: 0 :: 0 :: C)
    have e2 := set_app A 2 b (0 :: 0 :: 0 :: C)
    simp only [Nat.add_zero, List.set_cons_zero, List.set_cons_succ] at e1 e2
    rw [e1, e2]
    simp only [bagsF_append, bagsF_cons]
    simp

theorem bags_leave {l : List Int} {k : Nat} (hk : k + 1 = l.length) (h : atF l k ≠ 0) : bagsF l = atF l k :: bagsF (l.set k 0) := by
  have e := split_at (l := l) (k := k) (by omega)
  rw [List.drop_eq_nil_of_le (by omega)] at e
  have hl : (l.take k).length = k := by simp; omega
  have e1 := set_app (l.take k) 0 0 [atF l k]
  simp only [Nat.add_zero, List.set_cons_zero, hl] at e1
  rw [← e] at e1
  rw [e1]
  conv => lhs; rw [e]
  simp only [bagsF_append, bagsF_cons, if_neg h]
  simp [bagsF]

def lead (x : Int) : List Int := if x = 0 then [] else [x]

/-- the walk from the last window to the first: what holds when the windows from j on are done -/
structure InvO (s : List Int) (j : Nat) (st : List Int × Int) : Prop where
  len : st.1.length = s.length
  old : ∀ p, p < j → atF st.1 p = atF s p
  z1 : atF s j = 0 → atF st.1 j = 0
  z2 : atF s j = 0 → atF s (j + 1) = 0 → atF st.1 (j + 1) = 0
  first : j = s.length → st.2 = 0
  bags : bagsF s = lead st.2 ++ bagsF st.1

theorem InvO.step {s fs : List Int} {op : Bool} {k : Nat} {st : List Int × Int} (hk : k < s.length) (h : InvO s (k + 1) st) : InvO s k (stepS s fs op k st) := by
  obtain ⟨o, x⟩ := st
  obtain ⟨h1, h2, h3, h4, h5, h6⟩ := h
  simp only at *
  have hok : atF o k = atF s k := h2 k (by omega)
  unfold stepS
  by_cases hz : atF s k = 0
  · rw [if_pos hz]
    exact ⟨h1, fun p hp => h2 p (by omega), fun _ => hok.trans hz, fun _ h => h3 h, fun h => by omega, h6⟩
  · rw [if_neg hz]
    by_cases hk1 : k + 1 < s.length
    · rw [if_pos hk1]
      have tc := tgt_cases s.length k (atF s (k + 1)) (atF s (k + 2)) (atF fs k)
      have tb := tgt_bd s.length k (atF s (k + 1)) (atF s (k + 2)) (atF fs k) hk1
      generalize tgt s.length k (atF s (k + 1)) (atF s (k + 2)) (atF fs k) = t at *
      have hot : atF o t = 0 ∨ t = k := by
        rcases tc with h | ⟨rfl, h⟩ | ⟨rfl, h, h', _⟩
        · exact .inr h
        · exact .inl (h3 h)
        · exact .inl (h4 h h')
      refine ⟨by simp [h1], fun p hp => ?_, fun h => absurd h hz, fun h => absurd h hz, fun h => by omega, ?_⟩
      · simp only
        rw [atF_set_ne _ (by omega), atF_set_ne _ (by omega)]
        exact h2 p (by omega)
      · simp only
        rw [h6]
        congr 1
        rcases tc with rfl | ⟨rfl, h⟩ | ⟨rfl, h, h', _⟩
        · rw [List.set_set, set_self]
        · rw [h3 h]
          exact (bags_move (by omega) (.inl ⟨rfl, h3 h⟩)).symm
        · rw [h4 h h']
          exact (bags_move (by omega) (.inr ⟨rfl, h3 h, h4 h h'⟩)).symm
    · rw [if_neg hk1]
      by_cases hop : op = true ∧ atF fs k ≠ 1
      · rw [if_pos hop]
        refine ⟨by simp [h1], fun p hp => ?_, fun h => absurd h hz, fun h => absurd h hz, fun h => by omega, ?_⟩
        · simp only
          rw [atF_set_ne _ (by omega)]
          exact h2 p (by omega)
        · simp only
          rw [h6, h5 (by omega), lead, if_pos rfl, lead, if_neg hz, ← hok]
          exact bags_leave (by omega) (by rw [hok]; exact hz)
      · rw [if_neg hop]
        exact ⟨h1, fun p hp => h2 p (by omega), fun h => absurd h hz, fun h => absurd h hz, fun h => by omega, h6⟩

theorem InvO.adv {s fs : List Int} {op : Bool} : ∀ (k : Nat) (st : List Int × Int), k ≤ s.length → InvO s k st → InvO s 0 (advS s fs op k st)
  | 0, _, _, h => h
  | k + 1, _, hk, h => InvO.adv k _ (by omega) (h.step (by omega))

/-- **no bag is lost, doubled or passed** -/
theorem advance_order (s fs : List Int) (op : Bool) : bagsF s = lead (advance s fs op).2 ++ bagsF (advance s fs op).1 :=
  (InvO.adv s.length (s, 0) (Nat.le_refl _) ⟨rfl, fun _ _ => rfl, id, fun _ h => h, fun _ => rfl, rfl⟩).bags
end Go.Proofs.Ytbopbmmalfobiaa
