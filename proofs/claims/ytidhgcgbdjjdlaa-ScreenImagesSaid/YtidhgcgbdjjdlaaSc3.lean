/- Chapter 15: Alarms and Cleared of program and reference give the same; comparisons of equal values; the law ScreenScript. Plain. -/
import Derived.Test.YtidhgcgbdjjdlaaSc2
namespace Go.Proofs.Ytidhgcgbdjjdlaa.Ex.Sc
open Go.RowKit Go.Proofs.Ytidhgcgbdjjdlaa.Ax
set_option linter.unusedVariables false
set_option linter.unusedSimpArgs false

/-! Cleared -/
def clM (l : List Check) : List Int := (l.filter (fun c => c.State == 2)).map (fun c => c.Bag)
theorem cl_pL : ∀ (l : List Check) (k : Nat) (d : List Int), d.length + l.length ≤ 1000 → screen_Cleared_L1 l k d = some (.brk (d ++ clM l))
  | [], k, d, _ => by rw [screen_Cleared_L1]; simp [clM]
  | c :: l, k, d, h => by
    rw [List.length_cons] at h
    rw [screen_Cleared_L1]
    unfold clM
    rw [List.filter_cons]
    cases e : c.State == 2
    · rw [cond_false, cl_pL l _ d (by omega)]; rfl
    · rw [cond_true, apL_eq (by simp; omega), Option.bind_some, cl_pL l _ _ (by simp; omega)]
      simp [clM]
theorem cl_rL : ∀ (l : List Check) (k : Nat) (d : List Int), ref15_Cleared_L1 l k d = screen_Cleared_L1 l k d
  | [], k, d => rfl
  | c :: l, k, d => by
    rw [ref15_Cleared_L1, screen_Cleared_L1]
    simp only [cl_rL l]
theorem cl_p {x : Screening} (h : x.L.length ≤ 1000) : screen_Cleared x = some (clM x.L) := by
  unfold screen_Cleared
  rw [fin_brkE (cl_pL x.L 0 [] (by simpa using h))]
  rfl
theorem cl_r {x : Screening} (h : x.L.length ≤ 1000) : ref15_Cleared x = some (clM x.L) := by
  unfold ref15_Cleared
  rw [cl_rL, fin_brkE (cl_pL x.L 0 [] (by simpa using h))]
  rfl

/-! Alarms -/
def alC (l : A4_Int) (c : Check) : Alarm := ⟨c.Image, c.Bag, c.Level, c.Since + lim l c.Level⟩
def alM (l : A4_Int) (r : List Check) : List Alarm := (r.filter (fun c => c.State == 1)).map (alC l)
theorem al_pL (x : Screening) (hl : LOk x.Limits) : ∀ (r : List Check) (k : Nat) (d : List Alarm), (∀ c ∈ r, COk c) → d.length + r.length ≤ 1000 → screen_Alarms_L1 x r k d = some (.brk (d ++ alM x.Limits r))
  | [], k, d, _, _ => by rw [screen_Alarms_L1]; simp [alM]
  | c :: r, k, d, hc, h => by
    rw [List.length_cons] at h
    have hr : ∀ c ∈ r, COk c := fun c hm => hc c (by simp [hm])
    rw [screen_Alarms_L1]
    unfold alM
    rw [List.filter_cons]
    cases e : c.State == 1
    · rw [cond_false, al_pL x hl r _ d hr (by omega)]; rfl
    · rw [cond_true, deadline_p hl (hc c (by simp)), Option.bind_some, apL_eq (by simp; omega), Option.bind_some, al_pL x hl r _ _ hr (by simp; omega)]
      simp [alM, alC]
def ltA (a b : Alarm) : Prop := a.Deadline < b.Deadline ∨ a.Deadline = b.Deadline ∧ a.Image < b.Image
instance (a b : Alarm) : Decidable (ltA a b) := inferInstanceAs (Decidable (_ ∨ _))
theorem ltA_trans {a b c : Alarm} (h1 : ltA a b) (h2 : ltA b c) : ltA a c := by unfold ltA at *; omega
def lA (a e : Alarm) : Bool := decide (ltA e a)
def insA (a : Alarm) (l : List Alarm) : List Alarm := l.takeWhile (lA a) ++ a :: l.drop (l.takeWhile (lA a)).length
theorem al_rL2 (c : Check) (d : Int) : ∀ (l : List Alarm) (k : Nat), ref15_Alarms_L2 c d l k = some (.brk ((k + (l.takeWhile (lA ⟨c.Image, c.Bag, c.Level, d⟩)).length : Nat) : Int))
  | [], k => rfl
  | e :: l, k => by
    rw [ref15_Alarms_L2]
    by_cases h : ltA e ⟨c.Image, c.Bag, c.Level, d⟩
    · rw [List.takeWhile_cons_of_pos (show lA _ e = true from decide_eq_true h), List.length_cons]
      have ih := al_rL2 c d l (k + 1)
      have e2 : (k + 1 + (l.takeWhile (lA ⟨c.Image, c.Bag, c.Level, d⟩)).length : Nat) = (k + ((l.takeWhile (lA ⟨c.Image, c.Bag, c.Level, d⟩)).length + 1) : Nat) := by omega
      rw [e2] at ih
      rcases h with h | h
      · rw [decide_eq_true (show e.Deadline < d from h), cond_true, ih]
      · by_cases g : e.Deadline < d
        · rw [decide_eq_true g, cond_true, ih]
        · rw [decide_eq_false g, cond_false, show (e.Deadline == d) = true from beq_iff_eq.2 h.1, cond_true, decide_eq_true (show e.Image < c.Image from h.2), cond_true, ih]
    · rw [List.takeWhile_cons_of_neg (by simpa [lA] using h)]
      have h1 : ¬ e.Deadline < d := fun g => h (.inl g)
      rw [decide_eq_false h1, cond_false]
      by_cases h2 : e.Deadline = d
      · rw [show (e.Deadline == d) = true from beq_iff_eq.2 h2, cond_true, decide_eq_false (show ¬ e.Image < c.Image from fun g => h (.inr ⟨h2, g⟩)), cond_false]
        rfl
      · rw [show (e.Deadline == d) = false from beq_false_of_ne h2, cond_false]
        rfl
def alR (l : A4_Int) : List Check → List Alarm → List Alarm
  | [], d => d
  | c :: r, d => if c.State = 1 then alR l r (insA (alC l c) d) else alR l r d
theorem insA_len (a : Alarm) (l : List Alarm) : (insA a l).length = l.length + 1 := by
  unfold insA
  have := tw_le (p := lA a) l
  simp only [List.length_append, List.length_cons, List.length_drop]
  omega
theorem al_rL (x : Screening) (hl : LOk x.Limits) : ∀ (r : List Check) (k : Nat) (d : List Alarm), (∀ c ∈ r, COk c) → d.length + r.length ≤ 1000 → ref15_Alarms_L1 x r k d = some (.brk (alR x.Limits r d))
  | [], k, d, _, _ => rfl
  | c :: r, k, d, hc, h => by
    rw [List.length_cons] at h
    have hr : ∀ c ∈ r, COk c := fun c hm => hc c (by simp [hm])
    rw [ref15_Alarms_L1, alR]
    by_cases e : c.State = 1
    · rw [if_pos e, e, show ((1 : Int) != 1) = false from rfl, cond_false, deadline_r hl (hc c (by simp)), Option.bind_some, al_rL2, sub_brkE rfl]
      have hle := tw_le (p := lA (alC x.Limits c)) d
      unfold alC at hle
      rw [slL_eq (by omega) (by omega) (by omega), Option.bind_some, apL_eq (by simp; omega), Option.bind_some, slL_eq (by omega) (by omega) (by omega), Option.bind_some, apL_eq (by simp; omega), Option.bind_some, apL_eq (by simp; omega), Option.bind_some]
      have := al_rL x hl r (k + 1) (insA (alC x.Limits c) d) hr (by rw [insA_len]; omega)
      rw [← this]
      congr 1
      unfold insA alC
      simp only [List.nil_append, Int.toNat_zero, List.drop_zero, Nat.sub_zero, Nat.zero_add, Int.toNat_natCast, take_tw, List.append_assoc, List.singleton_append]
      rw [List.take_of_length_le (by simp)]
    · rw [if_neg e, show (c.State != 1) = true from bne_iff_ne.2 e, cond_true]
      exact al_rL x hl r (k + 1) d hr (by omega)
theorem insA_perm (a : Alarm) (l : List Alarm) : (insA a l).Perm (a :: l) := by
  unfold insA
  rw [drop_tw]
  have h : (l.takeWhile (lA a) ++ l.dropWhile (lA a)) = l := List.takeWhile_append_dropWhile
  refine List.perm_middle.trans ?_
  rw [h]
theorem alR_perm (l : A4_Int) : ∀ (r : List Check) (d : List Alarm), (alR l r d).Perm (alM l r ++ d)
  | [], d => .refl _
  | c :: r, d => by
    rw [alR]
    unfold alM
    rw [List.filter_cons]
    by_cases e : c.State = 1
    · rw [if_pos e, if_pos (by simpa using e), List.map_cons, List.cons_append]
      exact (alR_perm l r _).trans (((insA_perm _ _).append_left _).trans List.perm_middle)
    · rw [if_neg e, if_neg (by simpa using e)]
      exact alR_perm l r d
theorem insA_sorted {a : Alarm} {l : List Alarm} (h : l.Pairwise ltA) (hne : ∀ e ∈ l, e.Image ≠ a.Image) : (insA a l).Pairwise ltA := by
  unfold insA
  have h0 := h
  rw [split_tw (lA a) l, List.pairwise_append] at h0
  rw [List.pairwise_append, List.pairwise_cons]
  have hlt : ∀ e ∈ l.takeWhile (lA a), ltA e a := fun e he => of_decide_eq_true (tw_all (p := lA a) l e he)
  have hgt : ∀ e ∈ l.drop (l.takeWhile (lA a)).length, ltA a e := by
    intro e he
    cases hd : l.drop (l.takeWhile (lA a)).length with
    | nil => rw [hd] at he; cases he
    | cons c q =>
      have hc : ¬ ltA c a := of_decide_eq_false (hit_drop (p := fun e => decide (ltA e a)) hd)
      have hcl : c ∈ l := List.mem_of_mem_drop (by rw [hd]; simp)
      have hac : ltA a c := by
        have := hne c hcl
        unfold ltA at hc ⊢; omega
      rw [hd] at he
      rcases List.mem_cons.1 he with rfl | he
      · exact hac
      · have := h0.2.1
        rw [hd, List.pairwise_cons] at this
        exact ltA_trans hac (this.1 e he)
  refine ⟨h0.1, ⟨hgt, h0.2.1⟩, fun e he b hb => ?_⟩
  rcases List.mem_cons.1 hb with rfl | hb
  · exact hlt e he
  · exact h0.2.2 e he b hb
theorem alR_sorted (l : A4_Int) : ∀ (r : List Check) (d : List Alarm), d.Pairwise ltA → r.Pairwise (fun a b => a.Image ≠ b.Image) → (∀ c ∈ r, ∀ e ∈ d, e.Image ≠ c.Image) → (alR l r d).Pairwise ltA
  | [], d, h, _, _ => h
  | c :: r, d, h, hp, hne => by
    rw [List.pairwise_cons] at hp
    rw [alR]
    split
    · refine alR_sorted l r _ (insA_sorted h (fun e he => hne c (by simp) e he)) hp.2 (fun c' hc' e he => ?_)
      rcases List.mem_cons.1 ((insA_perm _ _).mem_iff.1 he) with rfl | he
      · exact hp.1 c' hc'
      · exact hne c' (by simp [hc']) e he
    · exact alR_sorted l r d h hp.2 (fun c' hc' => hne c' (by simp [hc']))
theorem al_both {x : Screening} (h : SOk x) : ∃ r, screen_Alarms x = some r ∧ ref15_Alarms x = some r ∧ r.Perm (alM x.Limits x.L) := by
  have hlen := h.len
  refine ⟨alR x.Limits x.L [], ?_, ?_, by simpa using alR_perm x.Limits x.L []⟩
  · unfold screen_Alarms slices_SortFunc_Alarm
    rw [fin_brkE (al_pL x h.lims x.L 0 [] h.chk (by simp; omega)), List.nil_append]
    have hml : (alM x.Limits x.L).length ≤ 1000 := by
      unfold alM
      rw [List.length_map]
      have := List.length_filter_le (fun c : Check => c.State == 1) x.L
      omega
    obtain ⟨S, hS⟩ : ∃ S, sortL srtOk_Alarm srtC_Alarm (alM x.Limits x.L) = some S := ⟨_, if_pos ⟨by simp [srtOk_Alarm], by omega⟩⟩
    rw [hS, Option.bind_some]
    obtain ⟨_, _, _, s4, s5, _⟩ := sortL_some alarm_swo hS
    have hp : (alR x.Limits x.L []).Perm (alM x.Limits x.L) := by simpa using alR_perm x.Limits x.L []
    have hs := alR_sorted x.Limits x.L [] .nil h.dif (by simp)
    have hd : (alM x.Limits x.L).Pairwise (fun a b => a.Image ≠ b.Image) := by
      unfold alM
      rw [List.pairwise_map]
      exact (h.dif.filter _).imp (fun {a b} hab => hab)
    have hSd : S.Pairwise (fun a b => a.Image ≠ b.Image) := (s4.pairwise_iff (fun {a b} hab => hab.symm)).2 hd
    have hSs : S.Pairwise ltA := by
      have := s5.and hSd
      refine this.imp (fun {a b} hab => ?_)
      have h1 : ¬ (b.Deadline < a.Deadline ∨ b.Deadline = a.Deadline ∧ b.Image < a.Image) := fun k => hab.1 ((alarm_lt b a).2 k)
      have h2 := hab.2
      unfold ltA; omega
    congr 1
    refine List.Perm.eq_of_pairwise (le := ltA) (fun a b _ _ h1 h2 => ?_) hSs hs (s4.trans hp.symm)
    unfold ltA at h1 h2; omega
  · unfold ref15_Alarms
    rw [fin_brkE (al_rL x h.lims x.L 0 [] h.chk (by simp; omega))]

/-! equal values -/
theorem same_refl (x : Screening) : ref15_Same x x = some true := by
  have key : ∀ (t pre : List Check), x.L = pre ++ t → ref15_Same_L1 x t pre.length = some (.brk ()) := by
    intro t
    induction t with
    | nil => intro pre _; rfl
    | cons e t ih =>
      intro pre h
      rw [ref15_Same_L1, ixL_at' pre.length rfl (show x.L[pre.length]? = some e by rw [h]; simp)]
      simp only [Option.bind_some, beq_self_eq_true, Bool.and_true, Bool.not_true, cond_false]
      have := ih (pre ++ [e]) (by rw [h]; simp)
      rw [List.length_append] at this
      exact this
  unfold ref15_Same
  simp only [beq_self_eq_true, bne_self_eq_false, Bool.and_true, Bool.not_true, cond_false]
  exact fin_brkE (key x.L [] rfl)
theorem ints_refl (x : List Int) : keep_Ints x x = some true := by
  have key : ∀ (l pre : List Int), x = pre ++ l → keep_Ints_L1 x l pre.length = some (.brk ()) := by
    intro l
    induction l with
    | nil => intro pre _; rfl
    | cons e l ih =>
      intro pre h
      rw [keep_Ints_L1, ixL_at' pre.length rfl (show x[pre.length]? = some e by rw [h]; simp)]
      simp only [Option.bind_some, bne_self_eq_false, cond_false]
      have := ih (pre ++ [e]) (by rw [h]; simp)
      rw [List.length_append] at this
      exact this
  unfold keep_Ints
  simp only [bne_self_eq_false, cond_false]
  exact fin_brkE (key x [] rfl)
theorem same_al (x : List Alarm) : law15_same x x = some true := by
  have key : ∀ (l pre : List Alarm), x = pre ++ l → law15_same_L1 x l pre.length = some (.brk ()) := by
    intro l
    induction l with
    | nil => intro pre _; rfl
    | cons e l ih =>
      intro pre h
      rw [law15_same_L1, ixL_at' pre.length rfl (show x[pre.length]? = some e by rw [h]; simp)]
      simp only [Option.bind_some, beq_self_eq_true, Bool.and_true, Bool.not_true, cond_false]
      have := ih (pre ++ [e]) (by rw [h]; simp)
      rw [List.length_append] at this
      exact this
  unfold law15_same
  simp only [bne_self_eq_false, cond_false]
  exact fin_brkE (key x [] rfl)

/-! New -/
theorem new_rL (l : A4_Int) : ∀ (n : Nat) (i : Int), ref15_New_L1 l n i = screen_New_L1 l n i
  | 0, i => rfl
  | n + 1, i => by
    have ih := new_rL l n
    rw [ref15_New_L1, screen_New_L1]
    cases h0 : i == (0 : Int) <;> cases h1 : i == (1 : Int) <;> cases h2 : i == (2 : Int) <;> cases h3 : i == (3 : Int) <;> simp only [ih, cond_true, cond_false]
theorem new_r (l : A4_Int) : ref15_New l = screen_New l := by
  unfold ref15_New screen_New
  rw [new_rL]
theorem new_pL (l : A4_Int) (P : Prop) (hP : LOk l → P) (hQ : P → LOk l) : ∀ (n : Nat) (i : Int), 0 ≤ i → i ≤ 4 → 4 - i < n → (0 < i → 0 ≤ l.e0 ∧ l.e0 ≤ 1000) → (1 < i → 0 ≤ l.e1 ∧ l.e1 ≤ 1000) → (2 < i → 0 ≤ l.e2 ∧ l.e2 ≤ 1000) → (3 < i → 0 ≤ l.e3 ∧ l.e3 ≤ 1000) →
    okP (screen_New_L1 l n i) (ctlQ (fun r => ¬ LOk l ∧ r = (Z, 1)) (fun _ => LOk l))
  | 0, i, h0, h1, h2, _, _, _, _ => by omega
  | n + 1, i, h0, h1, h2, a0, a1, a2, a3 => by
    rw [screen_New_L1]
    refine okP_cond (fun c => ?_) (fun c => okP_some ?_)
    · have c := of_decide_eq_true c
      have go : ∀ e : Int, (LOk l → 0 ≤ e ∧ e ≤ 1000) → (0 ≤ e → e ≤ 1000 → (0 < i + 1 → 0 ≤ l.e0 ∧ l.e0 ≤ 1000) ∧ (1 < i + 1 → 0 ≤ l.e1 ∧ l.e1 ≤ 1000) ∧ (2 < i + 1 → 0 ≤ l.e2 ∧ l.e2 ≤ 1000) ∧ (3 < i + 1 → 0 ≤ l.e3 ∧ l.e3 ≤ 1000)) →
          okP (cond (decide (e < (0 : Int))) (some (Ctl.ret (Z, (1 : Int)))) (cond (decide ((1000 : Int) < e)) (some (Ctl.ret (Z, (1 : Int)))) (screen_New_L1 l n (w64 (i + (1 : Int)))))) (ctlQ (fun r => ¬ LOk l ∧ r = (Z, 1)) (fun _ => LOk l)) := by
        intro e h3 h4
        refine okP_cond (fun d => okP_some ⟨fun k => ?_, rfl⟩) (fun d => okP_cond (fun d2 => okP_some ⟨fun k => ?_, rfl⟩) (fun d2 => ?_))
        · have := h3 k; have := of_decide_eq_true d; omega
        · have := h3 k; have := of_decide_eq_true d2; omega
        · have d := of_decide_eq_false d
          have d2 := of_decide_eq_false d2
          obtain ⟨g0, g1, g2, g3⟩ := h4 (by omega) (by omega)
          rw [w64_id (by omega) (by omega)]
          exact new_pL l P hP hQ n (i + 1) (by omega) (by omega) (by omega) g0 g1 g2 g3
      refine okP_cond (fun e => ?_) (fun e0 => okP_cond (fun e => ?_) (fun e1 => okP_cond (fun e => ?_) (fun e2 => okP_cond (fun e => ?_) (fun e3 => ?_))))
      · have e := eq_of_beq e
        exact go l.e0 (fun k => k.a0) (fun g1 g2 => ⟨fun _ => ⟨g1, g2⟩, fun h => by omega, fun h => by omega, fun h => by omega⟩)
      · have e := eq_of_beq e
        exact go l.e1 (fun k => k.a1) (fun g1 g2 => ⟨fun _ => a0 (by omega), fun _ => ⟨g1, g2⟩, fun h => by omega, fun h => by omega⟩)
      · have e := eq_of_beq e
        exact go l.e2 (fun k => k.a2) (fun g1 g2 => ⟨fun _ => a0 (by omega), fun _ => a1 (by omega), fun _ => ⟨g1, g2⟩, fun h => by omega⟩)
      · have e := eq_of_beq e
        exact go l.e3 (fun k => k.a3) (fun g1 g2 => ⟨fun _ => a0 (by omega), fun _ => a1 (by omega), fun _ => a2 (by omega), fun _ => ⟨g1, g2⟩⟩)
      · have e0 := ne_of_beq_false e0
        have e1 := ne_of_beq_false e1
        have e2 := ne_of_beq_false e2
        have e3 := ne_of_beq_false e3
        omega
    · have c := of_decide_eq_false c
      exact ⟨a0 (by omega), a1 (by omega), a2 (by omega), a3 (by omega)⟩
theorem new_any (l : A4_Int) : ∃ r, screen_New l = some r := by
  obtain ⟨c, e, h⟩ := new_pL l (LOk l) id id 9223372036854775807 0 (by omega) (by omega) (by omega) (by omega) (by omega) (by omega) (by omega)
  unfold screen_New
  rw [e]
  cases c with
  | ret r => exact ⟨r, rfl⟩
  | brk s => exact ⟨_, rfl⟩
theorem new_eq {l : A4_Int} (h : LOk l) : screen_New l = some (⟨l, 1, []⟩, 0) := by
  obtain ⟨c, e, k⟩ := new_pL l (LOk l) id id 9223372036854775807 0 (by omega) (by omega) (by omega) (by omega) (by omega) (by omega) (by omega)
  unfold screen_New
  rw [e]
  cases c with
  | ret r => exact (k.1 h).elim
  | brk s => rfl
theorem new_ok {l : A4_Int} (h : LOk l) : SOk ⟨l, 1, []⟩ := ⟨h, by simp, .nil, by simp, .nil, by show (1 : Int) ≤ 1 ∧ (1 : Int) ≤ 1048577; omega⟩
end Go.Proofs.Ytidhgcgbdjjdlaa.Ex.Sc
