/- Authority: boarding messages of one flight one after another; the laws AuthorityWithdraws and AuthorityMore in plain Lean. -/
import Derived.Test.YtbiofbmjonmglaaDoorAuA
namespace Go.Proofs.YtbiofbmjonmglaaDoor.Ex
open Go.RowKit Go.Proofs.YtbiofbmjonmglaaDoor.Ax
set_option linter.unusedVariables false
set_option linter.unusedSimpArgs false

theorem uni_mem : ∀ (k : Nat) (a b : List Int) (n : Int), a.length + b.length ≤ k → (n ∈ uniF k a b ↔ n ∈ a ∨ n ∈ b)
  | 0, [], [], n, _ => by simp [uniF]
  | 0, _ :: _, _, n, h => by simp at h
  | 0, [], _ :: _, n, h => by simp at h
  | k + 1, [], [], n, _ => by simp [uniF]
  | k + 1, x :: a, [], n, h => by
    simp only [uniF, List.mem_cons, uni_mem k a [] n (by simpa using h), List.not_mem_nil, or_false]
  | k + 1, [], y :: b, n, h => by
    simp only [uniF, List.mem_cons, uni_mem k [] b n (by simpa using h), List.not_mem_nil, false_or]
  | k + 1, x :: a, y :: b, n, h => by
    simp only [List.length_cons] at h
    simp only [uniF, cond_ite, decide_eq_true_eq]
    by_cases h1 : x < y
    · rw [if_pos h1]
      simp only [List.mem_cons, uni_mem k a (y :: b) n (by simp only [List.length_cons]; omega), or_assoc]
    · rw [if_neg h1]
      by_cases h2 : y < x
      · rw [if_pos h2]
        simp only [List.mem_cons, uni_mem k (x :: a) b n (by simp only [List.length_cons]; omega)]
        constructor
        · rintro (h | (h | h) | h) <;> simp [h]
        · rintro ((h | h) | h | h) <;> simp [h]
      · rw [if_neg h2]
        have : x = y := by omega
        subst this
        simp only [List.mem_cons, uni_mem k a b n (by omega)]
        constructor
        · rintro (h | h | h) <;> simp [h]
        · rintro ((h | h) | h | h) <;> simp [h]
theorem uni_sorted : ∀ (k : Nat) (a b : List Int), a.length + b.length ≤ k → a.Pairwise (· < ·) → b.Pairwise (· < ·) → (uniF k a b).Pairwise (· < ·)
  | 0, _, _, _, _, _ => by simp [uniF]
  | k + 1, [], [], _, _, _ => by simp [uniF]
  | k + 1, x :: a, [], h, ha, hb => by
    obtain ⟨h1, h2⟩ := List.pairwise_cons.1 ha
    simp only [uniF]
    refine List.pairwise_cons.2 ⟨fun n hn => ?_, uni_sorted k a [] (by simpa using h) h2 hb⟩
    rcases (uni_mem k a [] n (by simpa using h)).1 hn with h | h
    · exact h1 n h
    · simp at h
  | k + 1, [], y :: b, h, ha, hb => by
    obtain ⟨h1, h2⟩ := List.pairwise_cons.1 hb
    simp only [uniF]
    refine List.pairwise_cons.2 ⟨fun n hn => ?_, uni_sorted k [] b (by simpa using h) ha h2⟩
    rcases (uni_mem k [] b n (by simpa using h)).1 hn with h | h
    · simp at h
    · exact h1 n h
  | k + 1, x :: a, y :: b, h, ha, hb => by
    obtain ⟨h1, h2⟩ := List.pairwise_cons.1 ha
    obtain ⟨h3, h4⟩ := List.pairwise_cons.1 hb
    simp only [List.length_cons] at h
    simp only [uniF, cond_ite, decide_eq_true_eq]
    by_cases c1 : x < y
    · rw [if_pos c1]
      have hl : a.length + (y :: b).length ≤ k := by simp only [List.length_cons]; omega
      refine List.pairwise_cons.2 ⟨fun n hn => ?_, uni_sorted k a (y :: b) hl h2 hb⟩
      rcases (uni_mem k a (y :: b) n hl).1 hn with h | h
      · exact h1 n h
      · rcases List.mem_cons.1 h with rfl | h
        · exact c1
        · have := h3 n h; omega
    · rw [if_neg c1]
      by_cases c2 : y < x
      · rw [if_pos c2]
        have hl : (x :: a).length + b.length ≤ k := by simp only [List.length_cons]; omega
        refine List.pairwise_cons.2 ⟨fun n hn => ?_, uni_sorted k (x :: a) b hl ha h4⟩
        rcases (uni_mem k (x :: a) b n hl).1 hn with h | h
        · rcases List.mem_cons.1 h with rfl | h
          · exact c2
          · have := h1 n h; omega
        · exact h3 n h
      · rw [if_neg c2]
        have e : x = y := by omega
        subst e
        refine List.pairwise_cons.2 ⟨fun n hn => ?_, uni_sorted k a b (by omega) h2 h4⟩
        rcases (uni_mem k a b n (by omega)).1 hn with h | h
        · exact h1 n h
        · exact h3 n h
theorem keepin_L (x : Int) : ∀ (l : List Int) (k : Nat), keep_In_L1 x l k = some (if x ∈ l then .ret true else .brk ())
  | [], k => by simp [keep_In_L1]
  | y :: l, k => by
    rw [keep_In_L1, keepin_L x l (k + 1)]
    simp only [cond_ite, beq_iff_eq]
    by_cases e : y = x
    · subst e; simp
    · rw [if_neg e]
      simp [Ne.symm e]
theorem keepin_eq (l : List Int) (x : Int) : keep_In l x = some (decide (x ∈ l)) := by
  unfold keep_In
  rw [keepin_L x l 0]
  by_cases h : x ∈ l
  · rw [if_pos h, decide_eq_true h]; rfl
  · rw [if_neg h, decide_eq_false h]; rfl
theorem uni_len : ∀ (k : Nat) (a b : List Int), (uniF k a b).length ≤ a.length + b.length
  | 0, a, b => by simp [uniF]
  | k + 1, [], [] => by simp [uniF]
  | k + 1, x :: a, [] => by have := uni_len k a []; simp only [uniF, List.length_cons, List.length_nil] at this ⊢; omega
  | k + 1, [], y :: b => by have := uni_len k [] b; simp only [uniF, List.length_cons, List.length_nil] at this ⊢; omega
  | k + 1, x :: a, y :: b => by
    have h1 := uni_len k a (y :: b)
    have h2 := uni_len k (x :: a) b
    have h3 := uni_len k a b
    simp only [List.length_cons] at h1 h2 h3
    simp only [uniF, cond_ite]
    (repeat' split) <;> simp only [List.length_cons] <;> omega

def A12 (l : List Int) : Prop := (∀ n ∈ l, 1 ≤ n ∧ n ≤ 12) ∧ l.Pairwise (· < ·) ∧ l.length ≤ 12
def legE : Leg := ⟨⟨⟨#[]⟩, 0, ⟨#[]⟩, 0⟩, ⟨#[]⟩, ⟨#[]⟩⟩
def leg0 : Leg := ⟨fl 0, ⟨#[76, 72, 82]⟩, ⟨#[89]⟩⟩
def msgB (v : Int) (L : List Int) : Message := ⟨5, 0, ⟨#[67, 80, 72]⟩, v, legE, leg0, [], ⟨0, 0, 0⟩, 0, false, 0, 0, 0, ⟨#[]⟩, ⟨#[]⟩, 0, ⟨#[]⟩, L⟩
theorem bag_eq (n : Int) : ∃ p, law26_bag n = some ⟨true, ⟨p, legE, leg0, [], n, 1, 0, true, ⟨#[]⟩, ⟨#[]⟩, 0, ⟨#[]⟩, false⟩, 1, true⟩ := by
  obtain ⟨p, hp, _⟩ := Plates_ok 1
  have h0 : keep_Flights (0 : Int) = some (fl 0) := fl_eq (f := 0) (by omega)
  refine ⟨p, ?_⟩
  unfold law26_bag
  rw [hp, Option.bind_some, h0, Option.bind_some]
  rfl

/-! the messages are valid -/
theorem in_ok {x a b : Int} (h1 : a ≤ x) (h2 : x ≤ b) : message_in x a b = some true := by
  unfold message_in
  rw [decide_eq_true h1, cond_true, decide_eq_true h2]
theorem cf_L : ∀ (l : List Int) (k : Nat), (∀ n ∈ l, 1 ≤ n ∧ n ≤ 999) → slices_IndexFunc_int_L1 l k = some (.brk ())
  | [], k, _ => rfl
  | x :: l, k, h => by
    have hx := h x (by simp)
    rw [slices_IndexFunc_int_L1, message_ranged_f1, in_ok hx.1 hx.2]
    simp only [Option.bind_some, Bool.not_true, cond_false]
    exact cf_L l (k + 1) (fun n hn => h n (List.mem_cons_of_mem _ hn))
theorem cf_ok (l : List Int) (h : ∀ n ∈ l, 1 ≤ n ∧ n ≤ 999) : slices_ContainsFunc_int l = some false := by
  unfold slices_ContainsFunc_int slices_IndexFunc_int
  rw [fin_brkE (cf_L l 0 h)]
  rfl
theorem val_L (v : Int) (L : List Int) (hs : L.Pairwise (· < ·)) (hl : L.length ≤ 1000) : ∀ (n i : Nat), 1 ≤ i → i ≤ L.length + 1 → L.length + 1 < n + i → message_Validate_L1 (msgB v L) n (i : Int) = some (.brk ())
  | 0, i, h0, h1, h2 => by
    omega
  | n + 1, i, h0, h1, h2 => by
    rw [message_Validate_L1]
    by_cases h : i < L.length
    · have hd : decide ((i : Int) < ((msgB v L).List.length : Int)) = true := decide_eq_true (by show (i : Int) < (L.length : Int); omega)
      have ha : ixL (msgB v L).List ((i : Int) - 1) = some L[i - 1] := ixL_at' (l := L) (i - 1) (by omega) (List.getElem?_eq_getElem _)
      have hb : ixL (msgB v L).List (i : Int) = some L[i] := ixL_at' (l := L) i rfl (List.getElem?_eq_getElem _)
      have hlt := List.pairwise_iff_getElem.1 hs (i - 1) i (by omega) h (by omega)
      have hc : decide (L[i] ≤ L[i - 1]) = false := decide_eq_false (by omega)
      rw [hd, cond_true, w64_id (z := (i : Int) - 1) (by omega) (by omega), ha, Option.bind_some, hb, Option.bind_some, hc, cond_false, w64_id (z := (i : Int) + 1) (by omega) (by omega)]
      exact val_L v L hs hl n (i + 1) (by omega) (by omega) (by omega)
    · have hd : decide ((i : Int) < ((msgB v L).List.length : Int)) = false := decide_eq_false (by show ¬ (i : Int) < (L.length : Int); omega)
      rw [hd, cond_false]
theorem msgB_shaped (v : Int) (L : List Int) : message_shaped (msgB v L) = some true := by kernel_rfl
theorem msgB_ranged {v : Int} {L : List Int} (h1 : 1 ≤ v) (h2 : v ≤ 9999) (hL : A12 L) : message_ranged (msgB v L) = some true := by
  have e1 : message_in (msgB v L).Number 1 9999 = some true := in_ok h1 h2
  have e2 : message_in (msgB v L).Do 0 2 = some true := in_ok (x := 0) (by omega) (by omega)
  have e3 : message_in (msgB v L).Weight 0 999 = some true := in_ok (x := 0) (by omega) (by omega)
  have e4 : message_in (msgB v L).Exception 0 3 = some true := in_ok (x := 0) (by omega) (by omega)
  have e5 : message_describes (msgB v L).Kind = some false := rfl
  have e6 : slices_ContainsFunc_int (msgB v L).List = some false := cf_ok L (fun n hn => by have := hL.1 n hn; omega)
  have e7 : ((msgB v L).Kind != (5 : Int)) = false := rfl
  unfold message_ranged
  simp only [e1, e2, e3, e4, e5, e6, e7, Option.bind_some, Bool.not_true, Bool.not_false, cond_false]
theorem msgB_same (v : Int) (L : List Int) : message_Same (msgB v L) (msgB v L) = some true := by
  have h : slices_Equal_Leg (msgB v L).Onward (msgB v L).Onward = some true := by
    show slices_Equal_Leg [] [] = some true
    kernel_rfl
  unfold message_Same
  simp only [h, eqI_eq, beq_self_eq_true, Bool.and_true, Bool.and_self, cond_true, decide_true, Option.bind_some]
theorem msgB_valid {v : Int} {L : List Int} (h1 : 1 ≤ v) (h2 : v ≤ 9999) (hL : A12 L) : message_Validate (msgB v L) = some 0 := by
  have e1 : message_in (msgB v L).Kind 1 5 = some true := in_ok (x := 5) (by omega) (by omega)
  have e2 : message_own (msgB v L) = some (msgB v L) := rfl
  have e3 : decide ((3 : Int) < ((msgB v L).Onward.length : Int)) = false := rfl
  have e4 : decide ((40 : Int) < ((msgB v L).List.length : Int)) = false := decide_eq_false (by have := hL.2.2; show ¬ (40 : Int) < (L.length : Int); omega)
  have e5 : message_Validate_L1 (msgB v L) 9223372036854775807 (1 : Int) = some (.brk ()) := val_L v L hL.2.1 (by have := hL.2.2; omega) _ 1 (by omega) (by omega) (by have := hL.2.2; omega)
  unfold message_Validate
  simp only [e1, e2, e3, e4, Option.bind_some, msgB_same, msgB_shaped, msgB_ranged h1 h2 hL, Bool.not_true, cond_false]
  rw [fin_brkE e5]

/-! one message after another -/
def mf (v : Int) (B E : List Int) : Manifest := ⟨fl 0, v, B, E⟩
/-- the manifest behind messages of which the last has version v and names B; P: all that were named -/
def IsM (v : Int) (B : List Int) (P : Int → Prop) (z : List Manifest) : Prop :=
  1 ≤ v ∧ v ≤ 9 ∧ A12 B ∧ ∃ E, z = [mf v B E] ∧ (∀ n ∈ E, 1 ≤ n ∧ n ≤ 12) ∧ E.Pairwise (· < ·) ∧ (E.length : Int) ≤ 12 * v ∧ (∀ n ∈ B, n ∈ E) ∧ ∀ n, n ∈ E ↔ P n
theorem IsM.ok {v : Int} {B : List Int} {P : Int → Prop} {z : List Manifest} (h : IsM v B P z) : okL z := by
  obtain ⟨h1, h2, h3, E, rfl, q1, q2, q3, q4, _⟩ := h
  refine ⟨fun m hm => ?_, by simp [sortedM], by simp⟩
  simp only [List.mem_singleton] at hm
  subst hm
  have := h3.2.2
  exact ⟨fl_valid (f := 0) (by omega), h1, by show v ≤ 9999; omega, ⟨fun n hn => by have := h3.1 n hn; omega, h3.2.1⟩, ⟨fun n hn => by have := q1 n hn; omega, q2⟩, q4, by show B.length ≤ 1000000; omega, by show E.length ≤ 1000000; omega⟩
theorem apply_j {x : List Manifest} (hx : okL x) {v : Int} {L : List Int} (h1 : 1 ≤ v) (h2 : v ≤ 9999) (hL : A12 L) : boarding_Apply x (msgB v L) = boarding_joined x [mf v L L] := by
  unfold boarding_Apply
  rw [validate_ok hx, Option.bind_some, show ((0 : Int) != 0) = false from rfl, cond_false, msgB_valid h1 h2 hL, Option.bind_some, show ((0 : Int) != 0) = false from rfl, cond_false]
  rw [show ((msgB v L).Kind != (5 : Int)) = false from rfl, cond_false]
  show (boarding_joined x [mf v L L]).bind (fun r => some (r.1, r.2)) = _
  cases boarding_joined x [mf v L L] <;> rfl
theorem step0 {v : Int} {L : List Int} (h1 : 1 ≤ v) (h2 : v ≤ 9) (hL : A12 L) : ∃ z, boarding_Apply [] (msgB v L) = some (z, 0) ∧ IsM v L (· ∈ L) z := by
  have hs := hL.2.2
  refine ⟨[mf v L L], ?_, h1, h2, hL, L, rfl, hL.1, hL.2.1, by omega, fun n hn => hn, fun n => Iff.rfl⟩
  rw [apply_j (x := []) ⟨fun m hm => by simp at hm, by simp [sortedM], by simp⟩ h1 (by omega) hL, joined_eq [] [mf v L L] (by simp) (fun m hm => by simp at hm) (fun m hm => by
    simp only [List.mem_singleton] at hm; subst hm; exact ⟨by show L.length ≤ 1000000; omega, by show L.length ≤ 1000000; omega⟩), joinS_nil]
  rfl
theorem step1 {v w : Int} {B L : List Int} {P : Int → Prop} {z : List Manifest} (h : IsM v B P z) (hv : v < w) (hw : w ≤ 9) (hL : A12 L) : ∃ z', boarding_Apply z (msgB w L) = some (z', 0) ∧ IsM w L (fun n => P n ∨ n ∈ L) z' := by
  have hok := h.ok
  obtain ⟨h1, h2, h3, E, rfl, q1, q2, q3, q4, q5⟩ := h
  have hs := hL.2.2
  have hb := h3.2.2
  have hul := uni_len (E.length + L.length) E L
  have hum := fun n => uni_mem (E.length + L.length) E L n (Nat.le_refl _)
  refine ⟨[mf w L (uniF (E.length + L.length) E L)], ?_, by omega, hw, hL, _, rfl, fun n hn => ?_, uni_sorted _ E L (Nat.le_refl _) q2 hL.2.1, by omega, fun n hn => (hum n).2 (.inr hn), fun n => by rw [hum, q5]⟩
  · rw [apply_j hok (by omega) (by omega) hL, joined_eq _ _ (by simp) (fun m hm => (hok.1 m hm).small) (fun m hm => by
      simp only [List.mem_singleton] at hm; subst hm; exact ⟨by show L.length ≤ 1000000; omega, by show L.length ≤ 1000000; omega⟩)]
    have hm : mrg (mf v B E) (mf w L L) = some (mf w L (uniF (E.length + L.length) E L)) := by
      unfold mrg
      rw [if_neg (show ¬ ((mf v B E).Version = (mf w L L).Version ∧ (mf v B E).Boarded ≠ (mf w L L).Boarded) from fun h => by have : v = w := h.1; omega), if_pos (show (mf v B E).Version < (mf w L L).Version from hv), if_pos (show (mf v B E).Version < (mf w L L).Version from hv)]
      rfl
    have hj : joinS [mf v B E] [mf w L L] = some [mf w L (uniF (E.length + L.length) E L)] := by
      have hc : cmpF (mf v B E).Flight (mf w L L).Flight = 0 := cmpF_self _
      rw [joinS, if_neg (by rw [hc]; omega), if_neg (by rw [hc]; omega), hm]
      simp only [joinS_nil, Option.map_some]
    rw [hj]
    rfl
  · rcases (hum n).1 hn with h | h
    · exact q1 n h
    · exact hL.1 n h
theorem list_step (a : List Int) (q : List (List Int)) (k : Nat) (acc : List Manifest) : law26_list_L1 (a :: q) k acc = (boarding_Apply acc (msgB ((k + 1 : Nat) : Int) a)).bind fun r => law26_list_L1 q (k + 1) r.1 := by
  obtain ⟨p, hp⟩ := bag_eq 1
  rw [law26_list_L1, hp, Option.bind_some]
  rfl
theorem list1 {a : List Int} (ha : A12 a) : ∃ z, law26_list [a] = some z ∧ IsM 1 a (· ∈ a) z := by
  obtain ⟨z, e1, m1⟩ := step0 (v := 1) (by omega) (by omega) ha
  refine ⟨z, ?_, m1⟩
  have : law26_list_L1 [a] 0 [] = some (.brk z) := by
    rw [list_step, show (((0 + 1 : Nat)) : Int) = 1 from rfl, e1, Option.bind_some]; rfl
  unfold law26_list
  rw [fin_brkE this]
theorem list2 {a b : List Int} (ha : A12 a) (hb : A12 b) : ∃ z, law26_list [a, b] = some z ∧ IsM 2 b (fun n => n ∈ a ∨ n ∈ b) z := by
  obtain ⟨z, e1, m1⟩ := step0 (v := 1) (by omega) (by omega) ha
  obtain ⟨y, e2, m2⟩ := step1 (w := 2) m1 (by omega) (by omega) hb
  refine ⟨y, ?_, m2⟩
  have : law26_list_L1 [a, b] 0 [] = some (.brk y) := by
    rw [list_step, show (((0 + 1 : Nat)) : Int) = 1 from rfl, e1, Option.bind_some, list_step, show (((0 + 1 + 1 : Nat)) : Int) = 2 from rfl, e2, Option.bind_some]; rfl
  unfold law26_list
  rw [fin_brkE this]
theorem list3 {a b c : List Int} (ha : A12 a) (hb : A12 b) (hc : A12 c) : ∃ z, law26_list [a, b, c] = some z ∧ IsM 3 c (fun n => (n ∈ a ∨ n ∈ b) ∨ n ∈ c) z := by
  obtain ⟨z, e1, m1⟩ := step0 (v := 1) (by omega) (by omega) ha
  obtain ⟨y, e2, m2⟩ := step1 (w := 2) m1 (by omega) (by omega) hb
  obtain ⟨x, e3, m3⟩ := step1 (w := 3) m2 (by omega) (by omega) hc
  refine ⟨x, ?_, m3⟩
  have : law26_list_L1 [a, b, c] 0 [] = some (.brk x) := by
    rw [list_step, show (((0 + 1 : Nat)) : Int) = 1 from rfl, e1, Option.bind_some, list_step, show (((0 + 1 + 1 : Nat)) : Int) = 2 from rfl, e2, Option.bind_some, list_step, show (((0 + 1 + 1 + 1 : Nat)) : Int) = 3 from rfl, e3, Option.bind_some]; rfl
  unfold law26_list
  rw [fin_brkE this]
/-- the decision behind such messages -/
theorem dec_at {v : Int} {B : List Int} {P : Int → Prop} {z : List Manifest} (h : IsM v B P z) (x : Facts) (hf : x.Bag.Out.Flight = fl 0) (now : Int) (fin : Bool) [DecidablePred P] :
    authority_Decide x z [dep 0, dep 1, dep 2] (fl 0) now fin = some (decR (refR x (some (dep 0)) (fl 0) now fin) x.Bag.Exception (if x.Bag.Sequence ∈ B then 4 else if P x.Bag.Sequence then 5 else x.Bag.Status) fin) := by
  obtain ⟨o, s, a1, _, a2, a3⟩ := decide_ok x z [dep 0, dep 1, dep 2] (fl 0) now fin
  obtain ⟨_, _, _, E, rfl, _, _, _, _, q5⟩ := h
  have hs : s = if x.Bag.Sequence ∈ B then 4 else if P x.Bag.Sequence then 5 else x.Bag.Status := by
    obtain ⟨s', b1, _, b2⟩ := status_ok [mf v B E] x.Bag.Out.Flight x.Bag.Sequence x.Bag.Status
    rw [a3] at b1
    cases b1
    rcases b2 with ⟨_, b2⟩ | ⟨d, hd, _, b2⟩
    · exact absurd hf.symm (b2 (mf v B E) (by simp))
    · simp only [List.mem_singleton] at hd
      subst hd
      rw [b2]
      unfold stat1
      show (if x.Bag.Sequence ∈ B then (4 : Int) else if x.Bag.Sequence ∈ E then 5 else x.Bag.Status) = _
      by_cases c : x.Bag.Sequence ∈ B
      · rw [if_pos c, if_pos c]
      · rw [if_neg c, if_neg c]
        by_cases c2 : P x.Bag.Sequence
        · rw [if_pos ((q5 _).2 c2), if_pos c2]
        · rw [if_neg (fun h => c2 ((q5 _).1 h)), if_neg c2]
  subst hs
  have ho : o = some (dep 0) := by
    obtain ⟨d1, d2⟩ := dep_find (k := 0) (by omega)
    rw [d1] at a2
    rcases a2 with ⟨_, hi, _⟩ | ⟨j, d, rfl, hf, hi⟩
    · have := Option.some.inj hi; omega
    · have := Option.some.inj hi
      have : j = 0 := by omega
      subst this
      rw [hf.1] at d2
      exact d2
  subst ho
  exact a1

/-! the bags of a passenger whom the newest message no longer names -/
theorem sub12 {l m : List Int} (h : m.Sublist l) (hl : A12 l) : A12 m := ⟨fun n hn => hl.1 n (h.subset hn), hl.2.1.sublist h, Nat.le_trans h.length_le hl.2.2⟩
theorem with_L (r : Int × Src) (N : Int) (hN : w64 ((1 : Int) + r.1) = N) : ∀ (l : List Int) (k : Nat) (acc : List Int), acc.length + l.length ≤ 1000 → law26_AuthorityWithdraws_L1 r l k acc = some (.brk (acc ++ l.filter fun x => x != N))
  | [], k, acc, _ => by rw [law26_AuthorityWithdraws_L1]; simp
  | x :: l, k, acc, h => by
    simp only [List.length_cons] at h
    rw [law26_AuthorityWithdraws_L1, hN]
    cases hx : x != N with
    | true =>
      rw [cond_true, apL_eq (by simp; omega), Option.bind_some, with_L r N hN l (k + 1) (acc ++ [x]) (by simp; omega), List.filter_cons, hx, if_pos rfl, List.append_assoc]
      rfl
    | false =>
      rw [cond_false, with_L r N hN l (k + 1) acc (by omega), List.filter_cons, hx]
      rfl
theorem one12 {N : Int} (h : 1 ≤ N ∧ N ≤ 12) : A12 [N] := ⟨fun n hn => by simp at hn; omega, by simp, by simp⟩
theorem withdraws_ok (l : List Int) (fin : Bool) : law26_AuthorityWithdraws l fin = some true := by
  refine okP_eq ?_
  unfold law26_AuthorityWithdraws
  refine okP_bind (New_ok l) (fun s h => ?_)
  refine okP_bind (N_ok s 12 h (by omega) (by omega)) (fun r2 ⟨a1, a2, h⟩ => ?_)
  refine okP_bind (pas_ok _ h) (fun r3 ⟨⟨p1, p2, p3⟩, h⟩ => ?_)
  obtain ⟨N, hN⟩ : ∃ N : Int, w64 ((1 : Int) + r2.1) = N := ⟨_, rfl⟩
  have hN2 : N = 1 + r2.1 := by rw [← hN]; exact w64_id (by omega) (by omega)
  rw [fin_brkE (with_L r2 N hN r3.1 0 [] (by simp; omega)), List.nil_append]
  have h0 : keep_Flights (0 : Int) = some (fl 0) := fl_eq (f := 0) (by omega)
  have hA : A12 [N] := one12 (by omega)
  have hW : A12 (r3.1.filter fun x => x != N) := sub12 List.filter_sublist ⟨p1, p2, p3⟩
  have hNW : ¬ N ∈ r3.1.filter fun x => x != N := fun h => by simp at h
  generalize r3.1.filter (fun x => x != N) = W at hW hNW ⊢
  rw [h0, Option.bind_some, flights_eq, Option.bind_some, hN]
  obtain ⟨z1, e1, m1⟩ := list1 hA
  obtain ⟨z2, e2, m2⟩ := list2 hA hW
  obtain ⟨z3, e3, m3⟩ := list3 hA hW hA
  obtain ⟨p, hp⟩ := bag_eq N
  rw [e1, Option.bind_some, e2, Option.bind_some, e3, Option.bind_some, hp, Option.bind_some]
  refine okP_bind (N_ok _ 4 h (by omega) (by omega)) (fun r17 ⟨b1, b2, h⟩ => ?_)
  have hz : ∀ ex st, refR (⟨true, ⟨p, legE, leg0, [], N, st, 0, true, ⟨#[]⟩, ⟨#[]⟩, ex, ⟨#[]⟩, false⟩, 1, true⟩ : Facts) (some (dep 0)) (fl 0) 20 fin = 0 := fun ex st => by
    unfold refR
    have q1 : ¬ (1 : Int) < 1 := by omega
    have q2 : ¬ (dep 0).Closes ≤ 20 := by show ¬ (40 : Int) ≤ 20; omega
    have q3 : (dep 0).State = 0 := rfl
    have q4 : leg0.Flight = fl 0 := rfl
    simp [q1, q2, q3, q4]
  have d1 := dec_at m1 (⟨true, ⟨p, legE, leg0, [], N, w64 (1 + r17.1), 0, true, ⟨#[]⟩, ⟨#[]⟩, 0, ⟨#[]⟩, false⟩, 1, true⟩ : Facts) rfl 20 fin
  have d2 := dec_at m2 (⟨true, ⟨p, legE, leg0, [], N, w64 (1 + r17.1), 0, true, ⟨#[]⟩, ⟨#[]⟩, 0, ⟨#[]⟩, false⟩, 1, true⟩ : Facts) rfl 20 fin
  have d3 := dec_at m3 (⟨true, ⟨p, legE, leg0, [], N, w64 (1 + r17.1), 0, true, ⟨#[]⟩, ⟨#[]⟩, 0, ⟨#[]⟩, false⟩, 1, true⟩ : Facts) rfl 20 fin
  rw [hz, if_pos (show (⟨true, ⟨p, legE, leg0, [], N, w64 (1 + r17.1), 0, true, ⟨#[]⟩, ⟨#[]⟩, 0, ⟨#[]⟩, false⟩, 1, true⟩ : Facts).Bag.Sequence ∈ [N] from by simp)] at d1 d3
  rw [hz, if_neg hNW, if_pos (show (⟨true, ⟨p, legE, leg0, [], N, w64 (1 + r17.1), 0, true, ⟨#[]⟩, ⟨#[]⟩, 0, ⟨#[]⟩, false⟩, 1, true⟩ : Facts).Bag.Sequence ∈ [N] ∨ (⟨true, ⟨p, legE, leg0, [], N, w64 (1 + r17.1), 0, true, ⟨#[]⟩, ⟨#[]⟩, 0, ⟨#[]⟩, false⟩, 1, true⟩ : Facts).Bag.Sequence ∈ W from .inl (by simp))] at d2
  refine okP_bindE d1 (okP_bindE d2 (okP_bindE d3 ?_))
  refine okP_bind (N_ok _ 3 h (by omega) (by omega)) (fun r21 ⟨c1, c2, h⟩ => ?_)
  have d4 := dec_at m2 (⟨true, ⟨p, legE, leg0, [], N, w64 (1 + r17.1), 0, true, ⟨#[]⟩, ⟨#[]⟩, w64 (1 + r21.1), ⟨#[]⟩, false⟩, 1, true⟩ : Facts) rfl 20 fin
  rw [hz, if_neg hNW, if_pos (show (⟨true, ⟨p, legE, leg0, [], N, w64 (1 + r17.1), 0, true, ⟨#[]⟩, ⟨#[]⟩, w64 (1 + r21.1), ⟨#[]⟩, false⟩, 1, true⟩ : Facts).Bag.Sequence ∈ [N] ∨ (⟨true, ⟨p, legE, leg0, [], N, w64 (1 + r17.1), 0, true, ⟨#[]⟩, ⟨#[]⟩, w64 (1 + r21.1), ⟨#[]⟩, false⟩, 1, true⟩ : Facts).Bag.Sequence ∈ W from .inl (by simp))] at d4
  refine okP_bindE d4 ?_
  rw [awake_ok]
  have k1 : decR 0 (0 : Int) 4 fin = ⟨true, 1, 0⟩ := rfl
  have k2 : decR 0 (0 : Int) 5 fin = ⟨false, 0, 7⟩ := by cases fin <;> rfl
  have hr : r21.1 = 0 ∨ r21.1 = 1 ∨ r21.1 = 2 := by omega
  show okP (cond (decR 0 (0 : Int) 4 fin).Granted _ _) _
  rw [k1]
  show okP (cond ((decR 0 (0 : Int) 5 fin).Granted == false && ((decR 0 (0 : Int) 5 fin).Rule == 0 && ((decR 0 (0 : Int) 5 fin).Reason == 7 && true))) _ _) _
  rw [k2]
  rcases hr with hr | hr | hr <;> rw [hr] <;> exact okP_some rfl

/-! a newer message that names more -/
theorem more_L1 (r : (List Int) × Src) (hr : ∀ n ∈ r.1, 1 ≤ n ∧ n ≤ 12) : ∀ (n : Nat) (acc : List Int) (i : Int) (s : Src), SrcOk s → 1 ≤ i → i ≤ 13 → 13 < n + i → (∀ x ∈ acc, 1 ≤ x ∧ x < i) → acc.Pairwise (· < ·) → (acc.length : Int) < i → (∀ x ∈ r.1, x < i → x ∈ acc) → okP (law26_AuthorityMore_L1 r n acc i s.L s.At) (ctlQ (fun _ => False) (fun z => SrcOk ⟨z.1, z.2.1⟩ ∧ A12 z.2.2 ∧ ∀ x ∈ r.1, x ∈ z.2.2))
  | 0, acc, i, s, _, _, _, _, _, _, _, _ => by omega
  | n + 1, acc, i, s, h, h0, h1, h2, h3, h4, h5, h6 => by
    rw [law26_AuthorityMore_L1]
    refine okP_cond (fun c => ?_) (fun c => ?_)
    · have c := of_decide_eq_true c
      rw [keepin_eq, Option.bind_some, w64_id (z := i + 1) (by omega) (by omega)]
      have happ : ∀ x ∈ acc ++ [i], 1 ≤ x ∧ x < i + 1 := fun x hx => by
        rcases List.mem_append.1 hx with hx | hx
        · have := h3 x hx; omega
        · simp at hx; omega
      have hpw : (acc ++ [i]).Pairwise (· < ·) := by
        rw [List.pairwise_append]
        refine ⟨h4, by simp, fun a ha b hb => ?_⟩
        simp at hb
        have := h3 a ha
        omega
      have hin : ∀ x ∈ r.1, x < i + 1 → x ∈ acc ++ [i] := fun x hx hlt => by
        by_cases e : x = i
        · simp [e]
        · exact List.mem_append_left _ (h6 x hx (by omega))
      refine okP_cond (fun _ => ?_) (fun c2 => ?_)
      · rw [apL_eq (by simp; omega), Option.bind_some]
        exact more_L1 r hr n _ (i + 1) s h (by omega) (by omega) (by omega) happ hpw (by simp; omega) hin
      · have c2 := of_decide_eq_false c2
        refine okP_bind (N_ok s 2 h (by omega) (by omega)) (fun r10 ⟨_, _, h⟩ => ?_)
        refine okP_cond (fun _ => ?_) (fun _ => ?_)
        · rw [apL_eq (by simp; omega), Option.bind_some]
          exact more_L1 r hr n _ (i + 1) r10.2 h (by omega) (by omega) (by omega) happ hpw (by simp; omega) hin
        · refine more_L1 r hr n _ (i + 1) r10.2 h (by omega) (by omega) (by omega) (fun x hx => by have := h3 x hx; omega) h4 (by omega) (fun x hx hlt => h6 x hx ?_)
          by_cases e : x = i
          · subst e; exact absurd hx c2
          · omega
    · have c := of_decide_eq_false c
      exact okP_some ⟨h, ⟨fun x hx => by have := h3 x hx; omega, h4, by show acc.length ≤ 12; omega⟩, fun x hx => h6 x hx (by have := hr x hx; omega)⟩
theorem dec_up {e s s' : Int} {fin : Bool} (h : (decD e s fin).Granted = true) (hs : s' = s ∨ s' = 4 ∨ s = 5) : (decD e s' fin).Granted = true := by
  rcases hs with rfl | rfl | rfl
  · exact h
  · unfold decD
    (repeat' split) <;> first | rfl | (rename_i q _ _; exact absurd rfl q) | (exfalso; simp_all)
  · unfold decD at h ⊢
    by_cases c1 : e = 1
    · rw [if_pos c1]
    by_cases c2 : e = 2
    · rw [if_neg c1, if_pos c2]
    by_cases c3 : e = 3
    · rw [if_neg c1, if_neg c2, if_pos c3]
    rw [if_neg c1, if_neg c2, if_neg c3] at h
    have q : ¬ ((5 : Int) = 1 ∧ fin = false) := fun h => by omega
    rw [if_neg (show ¬ (5 : Int) = 4 by omega), if_neg q, if_pos rfl] at h
    cases h
theorem more_L3 {va vb : Int} {A B : List Int} {P Q : Int → Prop} {za zb : List Manifest} (ma : IsM va A P za) (mb : IsM vb B Q zb) (hAB : ∀ n ∈ A, n ∈ B) (hQ : ∀ n, Q n ↔ P n ∨ n ∈ B) (now : Int) (fin : Bool) (e : Int) [DecidablePred P] [DecidablePred Q] : ∀ (l : List Facts) (k : Nat), (∀ x ∈ l, x.Bag.Out.Flight = fl 0) → law26_AuthorityMore_L3 now fin [dep 0, dep 1, dep 2] za (zb, e) l k = some (.brk ())
  | [], k, _ => rfl
  | x :: l, k, h => by
    have hx := h x (by simp)
    have ih := more_L3 ma mb hAB hQ now fin e l (k + 1) (fun y hy => h y (List.mem_cons_of_mem _ hy))
    have d1 := dec_at ma x hx now fin
    have d2 := dec_at mb x hx now fin
    rw [law26_AuthorityMore_L3, hx, d1, Option.bind_some]
    have hs : ∀ s : Int, (if x.Bag.Sequence ∈ B then (4 : Int) else if Q x.Bag.Sequence then 5 else s) = (if x.Bag.Sequence ∈ A then (4 : Int) else if P x.Bag.Sequence then 5 else s) ∨ (if x.Bag.Sequence ∈ B then (4 : Int) else if Q x.Bag.Sequence then 5 else s) = 4 ∨ (if x.Bag.Sequence ∈ A then (4 : Int) else if P x.Bag.Sequence then 5 else s) = 5 := fun s => by
      by_cases cB : x.Bag.Sequence ∈ B
      · rw [if_pos cB]; exact .inr (.inl rfl)
      · have cA : ¬ x.Bag.Sequence ∈ A := fun h => cB (hAB _ h)
        rw [if_neg cB, if_neg cA]
        by_cases cP : P x.Bag.Sequence
        · rw [if_pos cP]; exact .inr (.inr rfl)
        · rw [if_neg cP, if_neg (fun h => by rcases (hQ _).1 h with h | h; exact cP h; exact cB h)]
          exact .inl rfl
    have hs := hs x.Bag.Status
    generalize (if x.Bag.Sequence ∈ B then (4 : Int) else if Q x.Bag.Sequence then 5 else x.Bag.Status) = sb at hs d2
    generalize (if x.Bag.Sequence ∈ A then (4 : Int) else if P x.Bag.Sequence then 5 else x.Bag.Status) = sa at hs d1 ⊢
    generalize hr : refR x (some (dep 0)) (fl 0) now fin = r at d1 d2 ⊢
    cases hg : (decR r x.Bag.Exception sa fin).Granted with
    | false => rw [cond_false]; exact ih
    | true =>
      have hg2 : (decR r x.Bag.Exception sb fin).Granted = true := by
        unfold decR at hg ⊢
        by_cases hr0 : r = 0
        · rw [if_neg (by simpa using hr0)] at hg ⊢
          exact dec_up hg hs
        · rw [if_pos hr0] at hg
          cases hg
      rw [cond_true]
      show (authority_Decide x zb [dep 0, dep 1, dep 2] (fl 0) now fin).bind _ = _
      rw [d2, Option.bind_some, hg2, Bool.not_true, cond_false]
      exact ih
theorem more_L2 {va vb : Int} {A B : List Int} {P Q : Int → Prop} {za zb : List Manifest} (ma : IsM va A P za) (mb : IsM vb B Q zb) (hAB : ∀ n ∈ A, n ∈ B) (hQ : ∀ n, Q n ↔ P n ∨ n ∈ B) (now : Int) (fin : Bool) (e : Int) [DecidablePred P] [DecidablePred Q] : ∀ (n : Nat) (s : Src) (i : Int), SrcOk s → 1 ≤ i → i ≤ 14 → 14 < n + i → okP (law26_AuthorityMore_L2 now fin [dep 0, dep 1, dep 2] za (zb, e) n s.L s.At i) brkT
  | 0, s, i, _, _, _, _ => by omega
  | n + 1, s, i, h, h0, h1, h2 => by
    rw [law26_AuthorityMore_L2]
    refine okP_cond (fun c => ?_) (fun _ => okP_some trivial)
    have c := of_decide_eq_true c
    obtain ⟨p, hp⟩ := bag_eq i
    rw [hp, Option.bind_some, w64_id (z := i + 1) (by omega) (by omega)]
    refine okP_bind (Facts_ok s h) (fun r22 ⟨_, h⟩ => ?_)
    rw [sub_brkE (more_L3 ma mb hAB hQ now fin e _ 0 (fun x hx => ?_))]
    · exact more_L2 ma mb hAB hQ now fin e n r22.2 (i + 1) h (by omega) (by omega) (by omega)
    · simp only [List.mem_cons, List.not_mem_nil, or_false] at hx
      rcases hx with rfl | rfl <;> rfl
theorem more_ok (l : List Int) (now : Int) (fin : Bool) : law26_AuthorityMore l now fin = some true := by
  refine okP_eq ?_
  unfold law26_AuthorityMore
  refine okP_bind (New_ok l) (fun s h => ?_)
  rw [flights_eq, Option.bind_some]
  refine okP_bind (pas_ok s h) (fun r3 ⟨hp, h⟩ => ?_)
  refine okP_finB (more_L1 r3 hp.1 9223372036854775807 [] 1 r3.2 h (by omega) (by omega) (by omega) (fun x hx => by simp at hx) (by simp) (by simp) (fun x hx hlt => by have := hp.1 x hx; omega)) (fun z ⟨h, hz, hsub⟩ => ?_)
  refine okP_bind (pas_ok ⟨z.1, z.2.1⟩ h) (fun r14 ⟨hp2, h⟩ => ?_)
  obtain ⟨za, e1, ma⟩ := list2 (a := r14.1) (b := r3.1) hp2 hp
  obtain ⟨zb, e2, mb⟩ := step1 (w := 9) ma (by omega) (by omega) hz
  obtain ⟨p, hb⟩ := bag_eq 1
  rw [e1, Option.bind_some, hb, Option.bind_some]
  refine okP_bindE (x := (zb, 0)) e2 ?_
  rw [show ((zb, (0 : Int)).2 != (0 : Int)) = false from rfl, cond_false]
  refine okP_finB (more_L2 ma mb hsub (fun n => Iff.rfl) now fin 0 9223372036854775807 r14.2 1 h (by omega) (by omega) (by omega)) (fun _ _ => ?_)
  rw [awake_ok]
  exact okP_some rfl
end Go.Proofs.YtbiofbmjonmglaaDoor.Ex
