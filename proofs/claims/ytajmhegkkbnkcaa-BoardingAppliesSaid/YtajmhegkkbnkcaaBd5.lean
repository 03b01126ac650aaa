/- Boarding: the lattice; one message alone. -/
import Derived.Test.YtajmhegkkbnkcaaBd4
namespace Go.Proofs.Ytajmhegkkbnkcaa.Ex
open Go.RowKit Go.Proofs.Ytajmhegkkbnkcaa.Ax
set_option linter.unusedVariables false
set_option linter.unusedSimpArgs false

/-! the manifests that keep.Src draws are valid -/
theorem ng_ok {i : Int} (h : 0 ≤ i) : ng i = some () := by unfold ng; rw [if_neg (by omega)]
theorem pas_L (r : Int × Src) : ∀ (n : Nat) (acc : List Int) (i : Nat), (∀ x ∈ acc, 1 ≤ x ∧ x ≤ i) → acc.Pairwise (· < ·) → acc.length ≤ i → i ≤ 12 → 12 < n + i → okP (keep_Src_Passengers_L1 r n acc (i : Int)) (ctlQ (fun _ => False) (fun z => (∀ x ∈ z, 1 ≤ x ∧ x ≤ 12) ∧ z.Pairwise (· < ·) ∧ z.length ≤ 12))
  | 0, acc, i, _, _, _, h1, h2 => by omega
  | n + 1, acc, i, ha, hs, hl, h1, h2 => by
    rw [keep_Src_Passengers_L1]
    refine okP_cond (fun h => ?_) (fun h => ?_)
    · have h := of_decide_eq_true h
      rw [ng_ok (by omega), Option.bind_some, w64_id (z := (i : Int) + 1) (by omega) (by omega)]
      have e : (i : Int) + 1 = ((i + 1 : Nat) : Int) := by omega
      rw [e]
      refine okP_cond (fun _ => ?_) (fun _ => ?_)
      · rw [apL_eq (by simp; omega), Option.bind_some]
        refine pas_L r n _ (i + 1) (fun x hx => ?_) ?_ (by simp; omega) (by omega) (by omega)
        · rcases List.mem_append.1 hx with h | h
          · have := ha x h; omega
          · simp at h; omega
        · rw [List.pairwise_append]
          refine ⟨hs, by simp, fun a ha' b hb => ?_⟩
          simp at hb
          have := ha a ha'
          omega
      · exact pas_L r n _ (i + 1) (fun x hx => by have := ha x hx; omega) hs (by omega) (by omega) (by omega)
    · have h := of_decide_eq_false h
      exact okP_some ⟨fun x hx => by have := ha x hx; omega, hs, by omega⟩
theorem pas_ok (s : Src) (h : SrcOk s) : okP (keep_Src_Passengers s) (fun r => ((∀ x ∈ r.1, 1 ≤ x ∧ x ≤ 12) ∧ r.1.Pairwise (· < ·) ∧ r.1.length ≤ 12) ∧ SrcOk r.2) := by
  unfold keep_Src_Passengers
  refine okP_bind (N_ok s 4096 h (by omega) (by omega)) (fun r ⟨r1, r2, r3⟩ => ?_)
  exact okP_finB (pas_L r 9223372036854775807 [] 0 (fun x hx => by simp at hx) (by simp) (by simp) (by omega) (by omega)) (fun z hz => okP_some ⟨hz, r3⟩)
theorem man_L2 : ∀ (l : List Int) (k : Nat) (s : Src) (acc : List Int), SrcOk s → acc.length + l.length ≤ 1000 → okP (keep_Src_Manifests_L2 l k s.L s.At acc) (ctlQ (fun _ => False) (fun z => ∃ m : List Int, m.Sublist l ∧ z.2.2.2.2 = acc ++ m ∧ SrcOk ⟨z.2.2.1, z.2.2.2.1⟩))
  | [], k, s, acc, hs, _ => okP_some ⟨[], List.Sublist.refl _, by simp, hs⟩
  | x :: l, k, s, acc, hs, hl => by
    simp only [List.length_cons] at hl
    rw [keep_Src_Manifests_L2]
    refine okP_bind (N_ok s 3 hs (by omega) (by omega)) (fun r ⟨r1, r2, r3⟩ => ?_)
    refine okP_cond (fun _ => ?_) (fun _ => ?_)
    · rw [apL_eq (by simp; omega), Option.bind_some]
      refine okP_mono (man_L2 l (k + 1) r.2 (acc ++ [x]) r3 (by simp; omega)) (fun c hc => ?_)
      cases c with
      | ret _ => exact hc
      | brk z =>
        obtain ⟨m, h1, h2, h3⟩ := hc
        exact ⟨x :: m, h1.cons_cons x, by rw [h2]; simp, h3⟩
    · refine okP_mono (man_L2 l (k + 1) r.2 acc r3 (by omega)) (fun c hc => ?_)
      cases c with
      | ret _ => exact hc
      | brk z =>
        obtain ⟨m, h1, h2, h3⟩ := hc
        exact ⟨m, h1.cons x, h2, h3⟩
theorem man_L1 : ∀ (n : Nat) (s : Src) (i : Nat) (acc : List Manifest), SrcOk s → i ≤ 5 → 5 < n + i → acc.length ≤ i → (∀ m ∈ acc, okM m ∧ ∃ f, f < i ∧ m.Flight = fl f) → sortedM acc → okP (keep_Src_Manifests_L1 n s.L s.At (i : Int) acc) (ctlQ (fun _ => False) (fun z => SrcOk ⟨z.1, z.2.1⟩ ∧ okL z.2.2 ∧ z.2.2.length ≤ 5))
  | 0, s, i, acc, _, h1, h2, _, _, _ => by omega
  | n + 1, s, i, acc, hs, h1, h2, h3, h4, h5 => by
    rw [keep_Src_Manifests_L1]
    refine okP_cond (fun h => ?_) (fun h => okP_some ⟨hs, ⟨fun m hm => (h4 m hm).1, h5, by show acc.length ≤ 24; omega⟩, by show acc.length ≤ 5; omega⟩)
    have h := of_decide_eq_true h
    have hi : i < 5 := by omega
    have e : (i : Int) + 1 = ((i + 1 : Nat) : Int) := by omega
    rw [w64_id (z := (i : Int) + 1) (by omega) (by omega), e]
    refine okP_bind (N_ok s 2 hs (by omega) (by omega)) (fun r ⟨r1, r2, r3⟩ => ?_)
    refine okP_cond (fun _ => ?_) (fun _ => ?_)
    · exact man_L1 n r.2 (i + 1) acc r3 (by omega) (by omega) (by omega) (fun m hm => ⟨(h4 m hm).1, by obtain ⟨f, hf, e⟩ := (h4 m hm).2; exact ⟨f, by omega, e⟩⟩) h5
    · rw [fl_eq hi, Option.bind_some]
      refine okP_bind (N_ok r.2 4 r3 (by omega) (by omega)) (fun q ⟨q1, q2, q3⟩ => ?_)
      refine okP_bind (pas_ok q.2 q3) (fun p ⟨⟨p1, p2, p3⟩, p4⟩ => ?_)
      refine okP_sub (man_L2 p.1 0 p.2 [] p4 (by simp; omega)) (fun z ⟨m, hm1, hm2, hm3⟩ => ?_)
      rw [hm2, List.nil_append, apL_eq (by simp; omega), Option.bind_some, w64_id (z := 1 + q.1) (by omega) (by omega)]
      have hmm : ∀ x ∈ m, x ∈ p.1 := fun x hx => hm1.subset hx
      refine man_L1 n ⟨z.2.2.1, z.2.2.2.1⟩ (i + 1) _ hm3 (by omega) (by omega) (by simp; omega) (fun x hx => ?_) ?_
      · rcases List.mem_append.1 hx with h | h
        · exact ⟨(h4 x h).1, by obtain ⟨f, hf, e⟩ := (h4 x h).2; exact ⟨f, by omega, e⟩⟩
        · simp only [List.mem_singleton] at h
          subst h
          exact ⟨⟨(fl_valid hi).1, by show 1 ≤ 1 + q.1; omega, by show 1 + q.1 ≤ 9999; omega, ⟨fun x hx => by have := p1 x (hmm x hx); omega, p2.sublist hm1⟩, ⟨fun x hx => by have := p1 x hx; omega, p2⟩, hmm, by have := hm1.length_le; show m.length ≤ 1000000; omega, by show p.1.length ≤ 1000000; omega⟩, i, by omega, rfl⟩
      · unfold sortedM
        rw [List.pairwise_append]
        refine ⟨h5, by simp, fun a ha b hb => ?_⟩
        simp only [List.mem_singleton] at hb
        subst hb
        obtain ⟨f, hf, e⟩ := (h4 a ha).2
        rw [e]
        exact fl_lt hf hi
theorem man_ok (s : Src) (h : SrcOk s) : okP (keep_Src_Manifests s) (fun r => (okL r.1 ∧ r.1.length ≤ 5) ∧ SrcOk r.2) := by
  unfold keep_Src_Manifests
  exact okP_finB (man_L1 9223372036854775807 s 0 [] h (by omega) (by omega) (by simp) (fun m hm => by simp at hm) (by simp [sortedM])) (fun z ⟨h1, h2, h3⟩ => okP_some ⟨⟨h2, h3⟩, h1⟩)

theorem one_ok {f v : Nat} (h : okFV (f, v)) : ref25_One (msg f v) = some (oneOf (msg f v)) := by
  unfold ref25_One ref25_Copy
  have hl : ([] : List Int).length + (bitsL (msgX f v)).length ≤ 16777216 := by have := bits_len (msgX f v); simp; omega
  rw [show (⟨(msg f v).Out.Flight, (msg f v).Number, (msg f v).List, (msg f v).List⟩ : Manifest).Boarded = bitsL (msgX f v) from rfl, show (⟨(msg f v).Out.Flight, (msg f v).Number, (msg f v).List, (msg f v).List⟩ : Manifest).Ever = bitsL (msgX f v) from rfl, apL_eq hl]
  rfl
theorem single_ok (l : List Int) : law25_BoardingSingle l = some true := by
  refine okP_eq ?_
  unfold law25_BoardingSingle
  refine okP_bind (New_ok l) (fun s hs => ?_)
  refine okP_bind (man_ok s hs) (fun x ⟨⟨hx, _⟩, hs2⟩ => ?_)
  refine okP_bind (list_ok x.2 hs2) (fun r ⟨⟨f, v, hfv, hm⟩, _⟩ => ?_)
  rw [hm]
  have hz : okS (0, 0, 0) := ⟨by decide, by decide, by decide⟩
  have e0 : ([] : List Manifest) = cano (0, 0, 0) := rfl
  have hb := bitv_ok hfv
  rw [e0, cano_apply hz hfv, Option.bind_some, orM_zero, ← one_cano hfv]
  have hone : okL (oneOf (msg f v)) := by rw [one_cano hfv]; exact cano_ok hb
  have ha := apply_eq hx hfv
  simp only at ha
  rw [ha, joined_ok hx hone, Option.bind_some, join_eq hx hone, Option.bind_some, one_ok hfv]
  simp only [Option.bind_some, sameAll_eq, decide_eq_true_eq, beq_self_eq_true, cond_true, decide_true]
  rw [show (((oneOf (msg f v)).length : Int) == 1) = true from rfl, cond_true, awake_ok]
  exact okP_some rfl

/-! the lattice -/
theorem lat2 (c : Int) : ∀ (n : Nat) (s : Src) (A B D : Msk) (i : Int), SrcOk s → okS A → okS B → okS D → 0 ≤ i → i ≤ 1000 → i < n → (c = 0 ∨ c = 1 ∨ c = 2) → okP (law25_BoardingLattice_L2 c n s.L s.At (cano A) i (cano B) (cano D)) (ctlQ (fun _ => False) (fun z => SrcOk ⟨z.1, z.2.1⟩ ∧ ∃ A B D, okS A ∧ okS B ∧ okS D ∧ z.2.2.1 = cano A ∧ z.2.2.2.1 = cano B ∧ z.2.2.2.2 = cano D))
  | 0, s, A, B, D, i, _, _, _, _, _, _, h, _ => by omega
  | n + 1, s, A, B, D, i, hs, hA, hB, hD, h0, h1, h2, hc => by
    rw [law25_BoardingLattice_L2]
    refine okP_cond (fun h => ?_) (fun h => okP_some ⟨hs, A, B, D, hA, hB, hD, rfl, rfl, rfl⟩)
    have h := of_decide_eq_true h
    rw [w64_id (z := i - 1) (by omega) (by omega)]
    rcases hc with rfl | rfl | rfl
    · rw [show ((0 : Int) == 0) = true from rfl, cond_true]
      refine okP_bind (list_ok s hs) (fun r ⟨⟨f, v, hfv, hm⟩, hr⟩ => ?_)
      rw [hm, cano_apply hA hfv, Option.bind_some, show ((0 : Int) != 0) = false from rfl, cond_false, cond_true]
      exact lat2 0 n r.2 _ B D (i - 1) hr (orM_ok hA (bitv_ok hfv)) hB hD (by omega) (by omega) (by omega) (.inl rfl)
    · rw [show ((1 : Int) == 0) = false from rfl, cond_false, show ((1 : Int) == 1) = true from rfl, cond_true]
      refine okP_bind (list_ok s hs) (fun r ⟨⟨f, v, hfv, hm⟩, hr⟩ => ?_)
      rw [hm, cano_apply hB hfv, Option.bind_some, show ((0 : Int) != 0) = false from rfl, cond_false, cond_false, cond_true]
      exact lat2 1 n r.2 A _ D (i - 1) hr hA (orM_ok hB (bitv_ok hfv)) hD (by omega) (by omega) (by omega) (.inr (.inl rfl))
    · rw [show ((2 : Int) == 0) = false from rfl, cond_false, show ((2 : Int) == 1) = false from rfl, cond_false, show ((2 : Int) == 2) = true from rfl, cond_true]
      refine okP_bind (list_ok s hs) (fun r ⟨⟨f, v, hfv, hm⟩, hr⟩ => ?_)
      rw [hm, cano_apply hD hfv, Option.bind_some, show ((0 : Int) != 0) = false from rfl, cond_false, cond_false, cond_false, cond_true]
      exact lat2 2 n r.2 A B _ (i - 1) hr hA hB (orM_ok hD (bitv_ok hfv)) (by omega) (by omega) (by omega) (.inr (.inr rfl))
theorem lat1 : ∀ (n : Nat) (s : Src) (A B D : Msk) (i : Int), SrcOk s → okS A → okS B → okS D → 0 ≤ i → i ≤ 3 → 3 < n + i → okP (law25_BoardingLattice_L1 n s.L s.At (cano A) i (cano B) (cano D)) (ctlQ (fun _ => False) (fun z => SrcOk ⟨z.1, z.2.1⟩ ∧ ∃ A B D, okS A ∧ okS B ∧ okS D ∧ z.2.2.1 = cano A ∧ z.2.2.2.1 = cano B ∧ z.2.2.2.2 = cano D))
  | 0, s, A, B, D, i, _, _, _, _, h, h', h'' => by omega
  | n + 1, s, A, B, D, i, hs, hA, hB, hD, h0, h1, h2 => by
    rw [law25_BoardingLattice_L1]
    refine okP_cond (fun h => ?_) (fun h => okP_some ⟨hs, A, B, D, hA, hB, hD, rfl, rfl, rfl⟩)
    have h := of_decide_eq_true h
    rw [w64_id (z := i + 1) (by omega) (by omega)]
    refine okP_bind (N_ok s 6 hs (by omega) (by omega)) (fun r ⟨r1, r2, r3⟩ => ?_)
    refine okP_sub (lat2 i 9223372036854775807 r.2 A B D r.1 r3 hA hB hD r1 (by omega) (by omega) (by omega)) (fun z ⟨q1, A2, B2, D2, q2, q3, q4, e1, e2, e3⟩ => ?_)
    rw [e1, e2, e3]
    exact lat1 n ⟨z.1, z.2.1⟩ A2 B2 D2 (i + 1) q1 q2 q3 q4 (by omega) (by omega) (by omega)
theorem lattice_ok (l : List Int) : law25_BoardingLattice l = some true := by
  refine okP_eq ?_
  unfold law25_BoardingLattice
  refine okP_bind (New_ok l) (fun s hs => ?_)
  have hz : okS (0, 0, 0) := ⟨by decide, by decide, by decide⟩
  refine okP_finB (lat1 9223372036854775807 s (0, 0, 0) (0, 0, 0) (0, 0, 0) 0 hs hz hz hz (by omega) (by omega) (by omega)) (fun z ⟨hs2, A, B, D, hA, hB, hD, e1, e2, e3⟩ => ?_)
  rw [e1, e2, e3, cano_Join hA hB, Option.bind_some, cano_Join hB hA, Option.bind_some, cano_Join hB hD, Option.bind_some, cano_Join (orM_ok hA hB) hD, Option.bind_some, cano_Join hA (orM_ok hB hD), Option.bind_some, cano_Join hA hA, Option.bind_some]
  simp only [show ((0 : Int) != 0) = false from rfl, cond_false]
  refine okP_bind (man_ok ⟨z.1, z.2.1⟩ hs2) (fun x ⟨⟨hx, _⟩, hs3⟩ => ?_)
  refine okP_bind (man_ok x.2 hs3) (fun y ⟨⟨hy, _⟩, _⟩ => ?_)
  rw [join_eq hx hy, Option.bind_some, join_eq hy hx, Option.bind_some, joinR_flip x.1 y.1]
  rw [orM_comm A B, orM_comm B A, orM_assoc, orM_self, sameAll_eq, decide_eq_true rfl, Option.bind_some, cond_true, sameAll_eq, Option.bind_some, sameAll_eq, decide_eq_true rfl, Option.bind_some]
  simp only [decide_true, cond_true, beq_self_eq_true, awake_ok, Option.bind_some]
  exact okP_some rfl
end Go.Proofs.Ytajmhegkkbnkcaa.Ex
