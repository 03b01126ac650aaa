/- Boarding: Apply of the reference is Apply of the program; BoardingApplies. -/
import Derived.Test.YtajmhegkkbnkcaaBd8
namespace Go.Proofs.Ytajmhegkkbnkcaa.Ex
open Go.RowKit Go.Proofs.Ytajmhegkkbnkcaa.Ax
set_option linter.unusedVariables false
set_option linter.unusedSimpArgs false

theorem rise_L (m : Message) (hl : m.List.length ≤ 1000) : ∀ (n i : Nat), 1 ≤ i → i ≤ m.List.length + 1 → ref04_Validate_L1 m n (i : Int) = some (.brk ()) → (m.List.take i).Pairwise (· < ·) → m.List.Pairwise (· < ·)
  | 0, i, _, _, h, _ => by rw [ref04_Validate_L1] at h; cases h
  | n + 1, i, h1, h2, h, hp => by
    rw [ref04_Validate_L1] at h
    by_cases c : i < m.List.length
    · have e1 : m.List[i]? = some m.List[i] := List.getElem?_eq_getElem c
      have e2 : m.List[i - 1]? = some (m.List[i - 1]'(by omega)) := List.getElem?_eq_getElem _
      rw [decide_eq_true (by omega), cond_true, ixL_at' i rfl e1] at h
      simp only [Option.bind_some] at h
      rw [w64_id (z := (i : Int) - 1) (by omega) (by omega), ixL_at' (i - 1) (by omega) e2] at h
      simp only [Option.bind_some] at h
      by_cases c2 : m.List[i] ≤ m.List[i - 1]'(by omega)
      · rw [decide_eq_true c2, cond_true] at h
        cases h
      · rw [decide_eq_false c2, cond_false, w64_id (z := (i : Int) + 1) (by omega) (by omega), show (i : Int) + 1 = ((i + 1 : Nat) : Int) by omega] at h
        refine rise_L m hl n (i + 1) (by omega) (by omega) h ?_
        rw [List.take_add_one, e1, List.pairwise_append]
        refine ⟨hp, by simp, fun x hx y hy => ?_⟩
        simp at hy
        subst hy
        obtain ⟨j, hj⟩ := List.getElem?_of_mem hx
        have hji := (List.getElem?_eq_some_iff.1 hj).1
        rw [List.length_take] at hji
        have hxj : x = m.List[j]'(by omega) := by
          rw [List.getElem?_take, if_pos (by omega), List.getElem?_eq_getElem (show j < m.List.length by omega)] at hj
          exact (Option.some.inj hj).symm
        by_cases e : j = i - 1
        · subst e; rw [hxj]; omega
        · have := List.pairwise_iff_getElem.1 hp j (i - 1) (by rw [List.length_take]; omega) (by rw [List.length_take]; omega) (by omega)
          rw [List.getElem_take, List.getElem_take] at this
          rw [hxj]
          omega
    · rw [List.take_of_length_le (by omega)] at hp
      exact hp

theorem val5 {m : Message} (hm : Mv.MsgOk m) (hv : ref04_Validate m = some 0) (hk : m.Kind = 5) : okL (oneOf m) := by
  unfold ref04_Validate at hv
  rw [Mv.in_eq, Option.bind_some, decide_eq_true (show (1 : Int) ≤ m.Kind ∧ m.Kind ≤ 5 by omega), Bool.not_true, cond_false] at hv
  obtain ⟨n, hn, _⟩ := Mv.own_t m
  obtain ⟨b, hb, _⟩ := Mv.same_t m n
  rw [hn, Option.bind_some, hb, Option.bind_some] at hv
  cases b
  · cases hv
  rw [Bool.not_true, cond_false] at hv
  by_cases h3 : (3 : Int) < m.Onward.length
  · rw [decide_eq_true h3, cond_true] at hv; cases hv
  rw [decide_eq_false h3, cond_false] at hv
  by_cases h4 : (40 : Int) < m.List.length
  · rw [decide_eq_true h4, cond_true] at hv; cases hv
  rw [decide_eq_false h4, cond_false] at hv
  obtain ⟨sp, hsp, _⟩ := Mv.spelled_t m hm
  rw [hsp, Option.bind_some] at hv
  cases sp
  · cases hv
  rw [Bool.not_true, cond_false] at hv
  obtain ⟨ct, hct, _⟩ := Mv.counted_t m
  rw [hct, Option.bind_some] at hv
  cases ct
  · cases hv
  rw [Bool.not_true, cond_false] at hv
  -- the flight
  have hfl : ref02_Valid m.Out.Flight = some true := by
    unfold ref04_spelled at hsp
    obtain ⟨p, hp, _⟩ := Mv.port_t m.Port
    rw [hp, Option.bind_some] at hsp
    cases p
    · cases hsp
    rw [Bool.not_true, cond_false, show (m.Kind != (3 : Int)) = true from by simp [hk], cond_true] at hsp
    obtain ⟨g, hg, _⟩ := Mv.leg_t m.Out
    rw [hg, Option.bind_some] at hsp
    cases g
    · cases hsp
    unfold ref02_ValidLeg at hg
    obtain ⟨f, hf, _⟩ := Mv.flight_t m.Out.Flight
    rw [hf, Option.bind_some] at hg
    cases f
    · cases hg
    · exact hf
  -- the numbers
  have hnum : (1 ≤ m.Number ∧ m.Number ≤ 9999) ∧ ∀ x ∈ m.List, 1 ≤ x ∧ x ≤ 999 := by
    unfold ref04_counted at hct
    rw [Mv.in_eq, Option.bind_some] at hct
    by_cases c : 1 ≤ m.Number ∧ m.Number ≤ 9999
    · refine ⟨c, ?_⟩
      rw [decide_eq_true c, Bool.not_true, cond_false, show (m.Kind != (5 : Int)) = false from by simp [hk], cond_false, Mv.bag_eq, Option.bind_some, decide_eq_false (by omega), cond_false, Mv.countedL_v] at hct
      by_cases c2 : ∀ x ∈ m.List, 1 ≤ x ∧ x ≤ 999
      · exact c2
      · rw [if_neg c2] at hct
        cases hct
    · rw [decide_eq_false c, Bool.not_false, cond_true] at hct
      cases hct
  have hrise : m.List.Pairwise (· < ·) := by
    cases hL : ref04_Validate_L1 m 9223372036854775807 (1 : Int) with
    | none => rw [hL] at hv; cases hv
    | some c =>
      cases c with
      | ret e =>
        exfalso
        have key : ∀ (n : Nat) (i : Int) (e : Int), ref04_Validate_L1 m n i = some (.ret e) → e = 9 := by
          intro n
          induction n with
          | zero => intro i e h; rw [ref04_Validate_L1] at h; cases h
          | succ n ih =>
            intro i e h
            rw [ref04_Validate_L1] at h
            cases hc : decide (i < (m.List.length : Int)) with
            | false => rw [hc, cond_false] at h; cases h
            | true =>
              rw [hc, cond_true] at h
              obtain ⟨x, _, h⟩ := bind_some h
              obtain ⟨y, _, h⟩ := bind_some h
              cases hd : decide (x ≤ y) with
              | true => rw [hd, cond_true] at h; cases h; rfl
              | false => rw [hd, cond_false] at h; exact ih _ e h
        have := key _ _ _ hL
        subst this
        rw [hL] at hv
        cases hv
      | brk s =>
        refine rise_L m (by omega) 9223372036854775807 1 (by omega) (by omega) hL ?_
        match m.List with
        | [] => simp
        | [x] => simp
        | x :: y :: l => simp
  have hasc : asc m.List := ⟨hnum.2, hrise⟩
  refine ⟨fun x hx => ?_, by simp [sortedM, oneOf], by simp [oneOf]⟩
  simp only [oneOf, List.mem_singleton] at hx
  subst hx
  refine ⟨?_, hnum.1.1, hnum.1.2, hasc, hasc, fun n hn => hn, ?_, ?_⟩
  · rw [Mv.flightv_eq]; exact hfl
  · show m.List.length ≤ 1000000; omega
  · show m.List.length ≤ 1000000; omega

theorem rApply_eq (l : List Manifest) (hl : Ex.smallL l) (m : Message) (hm : Mv.MsgOk m) : ∃ r, boarding_Apply l m = some r ∧ ref25_Apply l m = some r := by
  obtain ⟨e1, v1, v2, v3⟩ := validate_any l hl
  unfold boarding_Apply ref25_Apply
  rw [v1, v2]
  simp only [Option.bind_some]
  by_cases c1 : e1 = 0
  · rw [show (e1 != 0) = false from by simp [c1], cond_false, cond_false, Mv.mval_eq m hm]
    obtain ⟨e2, he2, _⟩ := Mv.mval_t m hm
    rw [he2]
    simp only [Option.bind_some]
    by_cases c2 : e2 = 0
    · rw [show (e2 != 0) = false from by simp [c2], cond_false, cond_false]
      by_cases c3 : m.Kind = 5
      · rw [show (m.Kind != (5 : Int)) = false from by simp [c3], cond_false, cond_false]
        have oa := v3 c1
        subst c2
        have ob := val5 hm he2 c3
        have hone : ref25_One m = some (oneOf m) := by
          unfold ref25_One
          rw [rcopy_eq _ ⟨by have := (ob.1 _ (by simp [oneOf] : (⟨m.Out.Flight, m.Number, m.List, m.List⟩ : Manifest) ∈ oneOf m)).small.1; show m.List.length ≤ _; have : m.List.length ≤ 1000000 := this; omega, by have := (ob.1 _ (by simp [oneOf] : (⟨m.Out.Flight, m.Number, m.List, m.List⟩ : Manifest) ∈ oneOf m)).small.1; show m.List.length ≤ _; have : m.List.length ≤ 1000000 := this; omega⟩]
          rfl
        obtain ⟨r, r1, r2⟩ := rJoin_eq l (oneOf m) hl ob.smallL
        rw [hone]
        simp only [Option.bind_some]
        rw [r2]
        have r3 := join_eq oa ob
        rw [r1] at r3
        have hj := joined_ok oa ob
        rw [← r3] at hj
        have hj2 : boarding_joined l ([(⟨m.Out.Flight, m.Number, m.List, m.List⟩ : Manifest)] : List Manifest) = some r := hj
        rw [hj2]
        exact ⟨_, rfl, rfl⟩
      · rw [show (m.Kind != (5 : Int)) = true from by simpa using c3]
        exact ⟨_, rfl, rfl⟩
    · rw [show (e2 != 0) = true from by simpa using c2]
      exact ⟨_, rfl, rfl⟩
  · rw [show (e1 != 0) = true from by simpa using c1]
    exact ⟨_, rfl, rfl⟩

theorem app_L2 (x : List Manifest) (hx : Ex.smallL x) : ∀ (l : List Message) (k : Nat), (∀ y ∈ l, Mv.MsgOk y) → law25_BoardingApplies_L2 x l k = some (.brk ())
  | [], k, _ => rfl
  | y :: l, k, h => by
    rw [law25_BoardingApplies_L2]
    obtain ⟨r, h1, h2⟩ := rApply_eq x hx y (h y (by simp))
    rw [h1, h2]
    simp only [Option.bind_some, bne_self_eq_false, cond_false]
    rw [sameAll_eq, decide_eq_true rfl]
    simp only [Option.bind_some, Bool.not_true, cond_false]
    exact app_L2 x hx l (k + 1) (fun z hz => h z (by simp [hz]))
theorem msgOk_msg (f v : Nat) : Mv.MsgOk (msg f v) := ⟨by show ((⟨#[]⟩ : ByteArray).size : Int) ≤ _; decide, by show ((⟨#[]⟩ : ByteArray).size : Int) ≤ _; decide⟩
theorem app_L1 (m : Message) (hm : Mv.MsgOk m) (r4 : Message × Src) (r5 : List Int × Src) (r6 : Int × Src) (r7 : Message × Src) (r8 : Int × Src) (h4 : Mv.MsgOk r4.1) (h7 : Mv.MsgOk r7.1) : ∀ (l : List (List Manifest)) (k : Nat) (s : Src), SrcOk s → (∀ y ∈ l, Ex.smallL y) → okP (law25_BoardingApplies_L1 m r4 r5 r6 r7 r8 l k s.L s.At) (ctlQ (fun _ => False) (fun _ => True))
  | [], k, s, _, _ => okP_some trivial
  | y :: l, k, s, hs, h => by
    rw [law25_BoardingApplies_L1]
    refine okP_bind (list_ok s hs) fun r15 h15 => okP_bind (N_ok r15.2 4 h15.2 (by omega) (by omega)) fun r16 h16 => ?_
    obtain ⟨f, v, _, e15⟩ := h15.1
    unfold law25_list
    have hf := fl_eq (f := 0) (by omega)
    rw [show ((0 : Nat) : Int) = 0 from rfl] at hf
    rw [hf]
    simp only [Option.bind_some]
    rw [app_L2 y (h y (by simp)) _ 0 (fun z hz => by
      simp only [List.mem_cons, List.not_mem_nil, or_false] at hz
      rcases hz with rfl | rfl | rfl | rfl | rfl | rfl
      · exact hm
      · rw [e15]; exact msgOk_msg f v
      · exact ⟨h4.s, h4.g⟩
      · exact ⟨h7.s, h7.g⟩
      · exact ⟨by show ((⟨#[]⟩ : ByteArray).size : Int) ≤ _; decide, by show ((⟨#[]⟩ : ByteArray).size : Int) ≤ _; decide⟩
      · exact ⟨by show ((⟨#[]⟩ : ByteArray).size : Int) ≤ _; decide, by show ((⟨#[]⟩ : ByteArray).size : Int) ≤ _; decide⟩)]
    simp only [Ctl.sub]
    exact app_L1 m hm r4 r5 r6 r7 r8 h4 h7 l (k + 1) r16.2 h16.2.2 (fun z hz => h z (by simp [hz]))
theorem applies_ok (raw : List Manifest) (l : List Int) (m : Message) (_ : ∀ x ∈ raw, Q_Manifest x) (qm : Q_Message m) : law25_BoardingApplies raw l m = some true := by
  have hm : Mv.MsgOk m := ⟨by have := qm.1; simp only [maxLen] at this; omega, by have := qm.2; simp only [maxLen] at this; omega⟩
  refine okP_eq ?_
  unfold law25_BoardingApplies
  obtain ⟨b1, hb1, hbt1⟩ := few_any raw
  rw [hb1]
  cases b1 with
  | false => exact okP_some rfl
  | true =>
    simp only [Option.bind_some, Bool.not_true, cond_false]
    refine okP_cond (fun _ => okP_some rfl) fun _ => okP_cond (fun _ => okP_some rfl) fun _ => ?_
    refine okP_bind (New_ok l) fun r2 h2 => okP_bind (man_ok r2 h2) fun r3 h3 => okP_bind (list_ok r3.2 h3.2) fun r4 h4 => okP_bind (pas_ok r4.2 h4.2) fun r5 h5 => okP_bind (Pick_ok r5.2 _ h5.2 (by simp) (by simp)) fun r6 h6 => okP_bind (list_ok r6.2 h6.2) fun r7 h7 => okP_bind (N_ok r7.2 7 h7.2 (by omega) (by omega)) fun r8 h8 => okP_bind (spoilt_t r8.2 h8.2.2 r3.1 (by have := h3.1.2; omega) (fun m hm => okM_len (h3.1.1.1 m hm))) fun r9 h9 => ?_
    obtain ⟨f4, v4, _, e4⟩ := h4.1
    obtain ⟨f7, v7, _, e7⟩ := h7.1
    refine okP_finB (app_L1 m hm r4 r5 r6 r7 r8 (by rw [e4]; exact msgOk_msg _ _) (by rw [e7]; exact msgOk_msg _ _) _ 0 r9.2 h9.2 (fun z hz => by
      simp only [List.mem_cons, List.not_mem_nil, or_false] at hz
      rcases hz with rfl | rfl | rfl
      · exact (hbt1 rfl).small
      · exact h3.1.1.smallL
      · exact h9.1.small)) fun _ _ => ?_
    rw [awake_ok]
    exact okP_some rfl
end Go.Proofs.Ytajmhegkkbnkcaa.Ex
