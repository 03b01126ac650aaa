/- Messages that are drawn (keep.Src.Message) are valid: the drawing. -/
import Derived.Test.YtkliakcegihikaaGreatIg
namespace Go.Proofs.YtkliakcegihikaaGreat.Ex.Ig
open Go.RowKit Go.Proofs.YtkliakcegihikaaGreat.Ax
set_option linter.unusedVariables false
set_option linter.unusedSimpArgs false

theorem msgL1_t : ∀ (n : Nat) (s : Src) (l : List Int) (i j : Int), SrcOk s → (l.length : Int) + j ≤ 12 → 0 ≤ j → j < n → 0 ≤ i → i + 3 * j ≤ 36 → (∀ x ∈ l, 1 ≤ x ∧ x ≤ i) → l.Pairwise (· < ·) →
    okP (keep_Src_Message_L1 n s.L s.At l i j) (ctlQ (fun _ => False) (fun z => SrcOk ⟨z.1, z.2.1⟩ ∧ z.2.2.length ≤ 12 ∧ (∀ x ∈ z.2.2, 1 ≤ x ∧ x ≤ 36) ∧ z.2.2.Pairwise (· < ·)))
  | 0, s, l, i, j, hs, h0, h1, h2, _, _, _, _ => by omega
  | n + 1, s, l, i, j, hs, h0, h1, h2, h3, h4, h5, h6 => by
    rw [keep_Src_Message_L1]
    refine okP_cond (fun h => ?_) (fun _ => okP_some ⟨hs, by show l.length ≤ 12; omega, fun x hx => by have := h5 x hx; omega, h6⟩)
    have h := of_decide_eq_true h
    refine okP_bind (Range_ok s 1 3 hs (by decide) (by decide) (by decide)) (fun r ⟨r1, r2, r3⟩ => ?_)
    rw [apL_eq (by simp; omega), Option.bind_some, w64_id (z := j - 1) (by omega) (by omega), w64_id (z := i + r.1) (by omega) (by omega)]
    refine msgL1_t n r.2 _ _ (j - 1) r3 (by simp; omega) (by omega) (by omega) (by omega) (by omega) (fun x hx => ?_) ?_
    · rcases List.mem_append.1 hx with hx | hx
      · have := h5 x hx; omega
      · have : x = i + r.1 := by simpa using hx
        omega
    · rw [List.pairwise_append]
      exact ⟨h6, by simp, fun a ha b hb => by have := h5 a ha; have : b = i + r.1 := by simpa using hb
                                              omega⟩
theorem msgL2_t : ∀ (n : Nat) (s : Src) (l : List Leg) (j : Int), SrcOk s → (l.length : Int) + j ≤ 3 → 0 ≤ j → j < n → (∀ g ∈ l, ref02_ValidLeg g = some true) →
    okP (keep_Src_Message_L2 n s.L s.At l j) (ctlQ (fun _ => False) (fun z => SrcOk ⟨z.2.2.1, z.2.2.2.1⟩ ∧ z.2.2.2.2.length ≤ 3 ∧ ∀ g ∈ z.2.2.2.2, ref02_ValidLeg g = some true))
  | 0, s, l, j, hs, h0, h1, h2, _ => by omega
  | n + 1, s, l, j, hs, h0, h1, h2, h3 => by
    rw [keep_Src_Message_L2]
    refine okP_cond (fun h => ?_) (fun _ => okP_some ⟨hs, by show l.length ≤ 3; omega, h3⟩)
    have h := of_decide_eq_true h
    refine okP_bind (legG_t s hs) (fun r hr => ?_)
    rw [apL_eq (by simp; omega), Option.bind_some, w64_id (z := j - 1) (by omega) (by omega)]
    refine msgL2_t n r.2 _ (j - 1) hr.1 (by simp; omega) (by omega) (by omega) (fun g hg => ?_)
    rcases List.mem_append.1 hg with hg | hg
    · exact h3 g hg
    · have : g = r.1 := by simpa using hg
      rw [this]; exact hr.2

def arn : ByteArray := ⟨#[65, 82, 78]⟩
def cph : ByteArray := ⟨#[67, 80, 72]⟩
/-- a message that was drawn -/
structure Gen (m : Message) : Prop where
  val : Val m
  port : m.Port = arn ∨ m.Port = cph
  num : m.Number ≤ 12
  lst : m.List.length ≤ 12
  cnt : m.Kind ≠ 5 → m.Count ≤ 3
  lmx : ∀ x ∈ m.List, x ≤ 36
  seq : isBag m → m.Sequence ≤ 4
theorem portG {p : ByteArray} (h : p ∈ ([(⟨#[65, 82, 78]⟩ : ByteArray), (⟨#[67, 80, 72]⟩ : ByteArray)] : List ByteArray)) : p = arn ∨ p = cph := by
  simpa [arn, cph] using h
theorem portV {p : ByteArray} (h : p = arn ∨ p = cph) : ref02_ValidPort p = some true := by
  rcases h with rfl | rfl
  · exact ports _ (by simp [arn])
  · exact ports _ (by simp [cph])
theorem doG {x : Int} (h : x ∈ ([0, 0, 1, 2] : List Int)) : 0 ≤ x ∧ x ≤ 2 := by
  simp only [List.mem_cons, List.not_mem_nil, or_false] at h; omega
theorem wtG {x : Int} (h : x ∈ ([20, 0, 999] : List Int)) : 0 ≤ x ∧ x ≤ 999 := by
  simp only [List.mem_cons, List.not_mem_nil, or_false] at h; omega

set_option maxHeartbeats 2000000 in
theorem message_t (s : Src) (hs : SrcOk s) : okP (keep_Src_Message s 0) (fun r => SrcOk r.2 ∧ Gen r.1) := by
  unfold keep_Src_Message
  rw [show ((0 : Int) == 0) = true from rfl, cond_true]
  refine okP_bind (Range_ok s 1 5 hs (by decide) (by decide) (by decide)) (fun k hk => okP_bind (Text_ok _ _ hk.2.2 (by decide) (by decide)) (fun po hpo => okP_bind (Range_ok _ 1 12 hpo.2 (by decide) (by decide) (by decide)) (fun nu hnu => ?_)))
  have hP := portG hpo.1
  have hV := portV hP
  generalize po.1 = P at hP hV
  refine okP_cond (fun h3 => ?_) (fun h3 => okP_cond (fun h4 => ?_) (fun h4 => okP_cond (fun h5 => ?_) (fun h5 => ?_)))
  · have h3 : k.1 = 3 := by simpa using h3
    rw [h3]
    refine okP_bind (anyPlate_t _ hnu.2.2) (fun r1 h1 => okP_bind (Range_ok _ 1 3 h1.1 (by decide) (by decide) (by decide)) (fun r2 h2 => okP_bind (letters_gen _ 1 4 h2.2.2 (by decide) (by decide) (by decide)) (fun r4 hr4 => okP_some ⟨hr4.1, ?_⟩)))
    have hn := name_ok hr4.2.2.2 hr4.2.1 (by omega)
    refine ⟨⟨by show (1 : Int) ≤ 3 ∧ (3 : Int) ≤ 5; omega, by show 1 ≤ nu.1 ∧ nu.1 ≤ 9999; omega, hV, fun h => (h rfl).elim, fun h => (by cases h), fun _ => hn, by simp, by simp, fun h => (by rcases h with h | h <;> cases h), fun h => (by rcases h with h | h <;> cases h), fun _ => ⟨h1.2, by show 1 ≤ r2.1 ∧ r2.1 ≤ 99; omega⟩, fun h => (by rcases h with h | h <;> cases h), by simp, by simp, List.Pairwise.nil, fun _ => rfl, fun h => (h rfl).elim, fun _ => rfl, fun h => (by cases h), fun _ => rfl, fun _ => ⟨rfl, rfl, rfl, rfl, rfl, rfl, rfl, rfl, rfl⟩⟩, hP, hnu.2.1, by simp, fun _ => h2.2.1, by simp, fun h => (by rcases h with h | h <;> cases h)⟩
  · have h4 : k.1 = 4 := by simpa using h4
    rw [h4]
    refine okP_bind (anyPlate_t _ hnu.2.2) (fun r1 h1 => okP_bind (Range_ok _ 1 3 h1.1 (by decide) (by decide) (by decide)) (fun r2 h2 => okP_bind (legG_t _ h2.2.2) (fun r4 hr4 => okP_some ⟨hr4.1, ?_⟩)))
    refine ⟨⟨by show (1 : Int) ≤ 4 ∧ (4 : Int) ≤ 5; omega, by show 1 ≤ nu.1 ∧ nu.1 ≤ 9999; omega, hV, fun h => hr4.2, fun h => (by cases h), fun h => (by cases h), by simp, by simp, fun h => (by rcases h with h | h <;> cases h), fun h => (by rcases h with h | h <;> cases h), fun _ => ⟨h1.2, by show 1 ≤ r2.1 ∧ r2.1 ≤ 99; omega⟩, fun h => (by rcases h with h | h <;> cases h), by simp, by simp, List.Pairwise.nil, fun _ => rfl, fun _ => rfl, fun h => (by cases h), fun h => (by cases h), fun _ => rfl, fun _ => ⟨rfl, rfl, rfl, rfl, rfl, rfl, rfl, rfl, rfl⟩⟩, hP, hnu.2.1, by simp, fun _ => h2.2.1, by simp, fun h => (by rcases h with h | h <;> cases h)⟩
  · have h5 : k.1 = 5 := by simpa using h5
    rw [h5]
    refine okP_bind (legG_t _ hnu.2.2) (fun r1 h1 => okP_bind (N_ok _ 12 h1.1 (by decide) (by decide)) (fun r2 h2 => ?_))
    refine okP_finB (msgL1_t 9223372036854775807 r2.2 [] 0 r2.1 h2.2.2 (by simp; omega) h2.1 (by omega) (by omega) (by omega) (by simp) List.Pairwise.nil) (fun q hq => okP_some ⟨hq.1, ?_⟩)
    refine ⟨⟨by show (1 : Int) ≤ 5 ∧ (5 : Int) ≤ 5; omega, by show 1 ≤ nu.1 ∧ nu.1 ≤ 9999; omega, hV, fun h => h1.2, fun h => (by cases h), fun h => (by cases h), by simp, by simp, fun h => (by rcases h with h | h <;> cases h), fun h => (by rcases h with h | h <;> cases h), fun h => (h rfl).elim, fun h => (by rcases h with h | h <;> cases h), fun x hx => by have := hq.2.2.1 x hx; omega, by show q.2.2.length ≤ 40; have := hq.2.1; omega, hq.2.2.2, fun _ => rfl, fun _ => rfl, fun h => (by cases h), fun _ => ⟨rfl, rfl⟩, fun h => (h rfl).elim, fun _ => ⟨rfl, rfl, rfl, rfl, rfl, rfl, rfl, rfl, rfl⟩⟩, hP, hnu.2.1, hq.2.1, fun h => (h rfl).elim, fun x hx => (hq.2.2.1 x hx).2, fun h => (by rcases h with h | h <;> cases h)⟩
  · have g3 : k.1 ≠ 3 := by simpa using h3
    have g4 : k.1 ≠ 4 := by simpa using h4
    have g5 : k.1 ≠ 5 := by simpa using h5
    have gb : k.1 = 1 ∨ k.1 = 2 := by omega
    refine okP_bind (Pick_ok _ _ hnu.2.2 (by decide) (by decide)) (fun r1 h1 => okP_bind (legG_t _ h1.2) (fun r2 h2 => okP_bind (anyPlate_t _ h2.1) (fun r6 h6 => okP_bind (Range_ok _ 1 3 h6.1 (by decide) (by decide) (by decide)) (fun r7 h7 => ?_))))
    have hdo := doG h1.1
    refine okP_cond (fun e2 => ?_) (fun e2 => ?_)
    · have e2 : k.1 = 2 := by simpa using e2
      refine okP_bind (legG_t _ h7.2.2) (fun r8 h8 => okP_bind (N_ok _ 4 h8.1 (by decide) (by decide)) (fun r9 h9 => ?_))
      refine okP_finB (msgL2_t 9223372036854775807 r9.2 [] r9.1 h9.2.2 (by simp; omega) h9.1 (by omega) (by simp)) (fun q hq => ?_)
      refine okP_bind (N_ok _ 3 hq.1 (by decide) (by decide)) (fun s1 t1 => okP_bind (Range_ok _ 1 4 t1.2.2 (by decide) (by decide) (by decide)) (fun s2 t2 => okP_bind (Range_ok _ 1 4 t2.2.2 (by decide) (by decide) (by decide)) (fun s3 t3 => okP_bind (Pick_ok _ _ t3.2.2 (by decide) (by decide)) (fun s4 t4 => ?_))))
      refine okP_bind (letters_gen _ 1 6 t4.2 (by decide) (by decide) (by decide)) (fun s5 t5 => okP_bind (letters_gen _ 0 5 t5.1 (by decide) (by decide) (by decide)) (fun s6 t6 => okP_bind (Range_ok _ 0 3 t6.1 (by decide) (by decide) (by decide)) (fun s7 t7 => okP_some ⟨t7.2.2, ?_⟩)))
      have hw := wtG t4.1
      refine ⟨⟨by show 1 ≤ k.1 ∧ k.1 ≤ 5; omega, by show 1 ≤ nu.1 ∧ nu.1 ≤ 9999; omega, hV, fun _ => h2.2, fun _ => h8.2, fun h => (g3 h).elim, hq.2.2, hq.2.1, fun _ => ⟨t5.2.1, by show (s5.1.size : Int) ≤ 20; omega, t5.2.2.2⟩, fun _ => ⟨by show (s6.1.size : Int) ≤ 20; omega, t6.2.2.2⟩, fun _ => ⟨h6.2, by show 1 ≤ r7.1 ∧ r7.1 ≤ 99; omega⟩, fun _ => ⟨hdo, ⟨t2.1, t2.2.1⟩, by show 1 ≤ s3.1 ∧ s3.1 ≤ 999; omega, hw, ⟨t7.1, t7.2.1⟩⟩, by simp, by simp, List.Pairwise.nil, fun h => (h e2).elim, fun _ => rfl, fun h => (g3 h).elim, fun h => (g5 h).elim, fun _ => rfl, fun h => (h gb).elim⟩, hP, hnu.2.1, by simp, fun _ => h7.2.1, by simp, fun _ => t3.2.1⟩
    · have e2 : k.1 ≠ 2 := by simpa using e2
      refine okP_bind (N_ok _ 4 h7.2.2 (by decide) (by decide)) (fun r9 h9 => ?_)
      refine okP_finB (msgL2_t 9223372036854775807 r9.2 [] r9.1 h9.2.2 (by simp; omega) h9.1 (by omega) (by simp)) (fun q hq => ?_)
      refine okP_bind (N_ok _ 3 hq.1 (by decide) (by decide)) (fun s1 t1 => okP_bind (Range_ok _ 1 4 t1.2.2 (by decide) (by decide) (by decide)) (fun s2 t2 => okP_bind (Range_ok _ 1 4 t2.2.2 (by decide) (by decide) (by decide)) (fun s3 t3 => okP_bind (Pick_ok _ _ t3.2.2 (by decide) (by decide)) (fun s4 t4 => ?_))))
      refine okP_bind (letters_gen _ 1 6 t4.2 (by decide) (by decide) (by decide)) (fun s5 t5 => okP_bind (letters_gen _ 0 5 t5.1 (by decide) (by decide) (by decide)) (fun s6 t6 => okP_bind (Range_ok _ 0 3 t6.1 (by decide) (by decide) (by decide)) (fun s7 t7 => okP_some ⟨t7.2.2, ?_⟩)))
      have hw := wtG t4.1
      refine ⟨⟨by show 1 ≤ k.1 ∧ k.1 ≤ 5; omega, by show 1 ≤ nu.1 ∧ nu.1 ≤ 9999; omega, hV, fun _ => h2.2, fun h => (e2 h).elim, fun h => (g3 h).elim, hq.2.2, hq.2.1, fun _ => ⟨t5.2.1, by show (s5.1.size : Int) ≤ 20; omega, t5.2.2.2⟩, fun _ => ⟨by show (s6.1.size : Int) ≤ 20; omega, t6.2.2.2⟩, fun _ => ⟨h6.2, by show 1 ≤ r7.1 ∧ r7.1 ≤ 99; omega⟩, fun _ => ⟨hdo, ⟨t2.1, t2.2.1⟩, by show 1 ≤ s3.1 ∧ s3.1 ≤ 999; omega, hw, ⟨t7.1, t7.2.1⟩⟩, by simp, by simp, List.Pairwise.nil, fun h => rfl, fun _ => rfl, fun h => (g3 h).elim, fun h => (g5 h).elim, fun _ => rfl, fun h => (h gb).elim⟩, hP, hnu.2.1, by simp, fun _ => h7.2.1, by simp, fun _ => t3.2.1⟩
end Go.Proofs.YtkliakcegihikaaGreat.Ex.Ig
