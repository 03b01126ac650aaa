/- The order of strings. Nothing of the dump is used here. -/
import Derived.Test.YtpipggnfbgjefaaOkP
import Derived.Lib.Bytealg
namespace Go.Proofs.Ytpipggnfbgjefaa.Ex.By
open Go.RowKit Go.Proofs.Ytpipggnfbgjefaa.Ax
set_option linter.unusedVariables false
set_option linter.unusedSimpArgs false

def cmpS (a b : ByteArray) : Int := if Op.bytesLess a.toList b.toList then -1 else if Op.bytesLess b.toList a.toList then 1 else 0
theorem less_flip : ∀ (x y : List UInt8), Op.bytesLess x y = false → Op.bytesLess y x = !(x == y)
  | [], [] => by simp [Op.bytesLess]
  | _ :: _, [] => by simp [Op.bytesLess]
  | [], _ :: _ => by simp [Op.bytesLess]
  | a :: x, b :: y => by
    intro h
    have ih := less_flip x y
    simp only [Op.bytesLess, Bool.or_eq_false_iff, Bool.and_eq_false_iff, decide_eq_false_iff_not, beq_eq_false_iff_ne] at h
    obtain ⟨h1, h2⟩ := h
    by_cases e : a = b
    · subst e
      rcases h2 with h2 | h2
      · exact absurd rfl h2
      · simp only [Op.bytesLess]
        rw [ih h2]
        simp [UInt8.lt_irrefl]
    · have hlt : b < a := by
        rcases UInt8.lt_or_lt_of_ne e with h | h
        · exact absurd h h1
        · exact h
      simp [Op.bytesLess, hlt, e]
theorem less_self : ∀ x : List UInt8, Op.bytesLess x x = false
  | [] => by simp [Op.bytesLess]
  | a :: x => by simp [Op.bytesLess, less_self x, UInt8.lt_irrefl]
theorem less_trans : ∀ (x y z : List UInt8), Op.bytesLess x y = true → Op.bytesLess y z = true → Op.bytesLess x z = true
  | _, _, [], _, h => by cases ‹List UInt8› <;> simp [Op.bytesLess] at h
  | _, [], _ :: _, h, _ => by cases ‹List UInt8› <;> simp [Op.bytesLess] at h
  | [], _ :: _, _ :: _, _, _ => by simp [Op.bytesLess]
  | a :: x, b :: y, c :: z, h1, h2 => by
    simp only [Op.bytesLess, Bool.or_eq_true, decide_eq_true_eq, Bool.and_eq_true, beq_iff_eq] at h1 h2 ⊢
    rcases h1 with h1 | ⟨rfl, h1⟩
    · rcases h2 with h2 | ⟨rfl, h2⟩
      · exact .inl (UInt8.lt_trans h1 h2)
      · exact .inl h1
    · rcases h2 with h2 | ⟨rfl, h2⟩
      · exact .inl h2
      · exact .inr ⟨rfl, less_trans x y z h1 h2⟩
theorem less_asymm {x y : List UInt8} (h : Op.bytesLess x y = true) : Op.bytesLess y x = false := by
  cases h2 : Op.bytesLess y x with
  | false => rfl
  | true => have := less_trans x y x h h2; rw [less_self] at this; cases this

theorem cmpS_neg {a b : ByteArray} : cmpS a b = -1 ↔ Op.bytesLess a.toList b.toList = true := by
  unfold cmpS
  constructor
  · intro h
    split at h
    · assumption
    · split at h <;> omega
  · intro h; rw [if_pos h]
theorem cmpS_zero {a b : ByteArray} : cmpS a b = 0 ↔ a = b := by
  unfold cmpS
  constructor
  · intro h
    split at h
    · omega
    · rename_i h1
      split at h
      · omega
      · rename_i h2
        have h1' : Op.bytesLess a.toList b.toList = false := by simpa using h1
        have := less_flip _ _ h1'
        rw [this] at h2
        exact toList_inj (by simpa using h2)
  · rintro rfl; simp [less_self]
theorem cmpS_flip (a b : ByteArray) : cmpS b a = - cmpS a b := by
  unfold cmpS
  cases h1 : Op.bytesLess a.toList b.toList <;> cases h2 : Op.bytesLess b.toList a.toList <;> simp
  have := less_asymm h1
  rw [h2] at this
  cases this
theorem cmpS_cases (a b : ByteArray) : cmpS a b = -1 ∨ cmpS a b = 0 ∨ cmpS a b = 1 := by unfold cmpS; (repeat' split) <;> simp
theorem compare_less : ∀ (x y : List UInt8), Lib.compareBytes x y = if Op.bytesLess x y then -1 else if Op.bytesLess y x then 1 else 0
  | [], [] => rfl
  | [], _ :: _ => rfl
  | _ :: _, [] => rfl
  | a :: x, b :: y => by
    rw [Lib.compareBytes, compare_less x y, Op.bytesLess, Op.bytesLess]
    by_cases h1 : a < b
    · simp [h1]
    · by_cases h2 : b < a
      · have : ¬ a = b := fun e => h1 (e ▸ h2)
        simp [h1, h2, this]
      · have e : a = b := UInt8.le_antisymm (UInt8.not_lt.1 h2) (UInt8.not_lt.1 h1)
        subst e
        simp [h1]
theorem cmp_str (a b : ByteArray) : Lib.compareBytes a.data.toList b.data.toList = cmpS a b := by
  have e : ∀ s : ByteArray, s.toList = s.data.toList := fun s => ByteArray.toList_eq s
  rw [compare_less, cmpS, e a, e b]
/-- a comes before b -/
def slt (a b : ByteArray) : Prop := Op.bytesLess a.toList b.toList = true
instance (a b : ByteArray) : Decidable (slt a b) := by unfold slt; infer_instance
theorem slt_cmp {a b : ByteArray} : cmpS a b = -1 ↔ slt a b := cmpS_neg
theorem slt_irr {a : ByteArray} : ¬ slt a a := by unfold slt; rw [less_self]; simp
theorem slt_trans {a b c : ByteArray} (h : slt a b) (k : slt b c) : slt a c := less_trans _ _ _ h k
theorem slt_ne {a b : ByteArray} (h : slt a b) : a ≠ b := fun e => slt_irr (e ▸ h)
theorem slt_tri (a b : ByteArray) : slt a b ∨ a = b ∨ slt b a := by
  rcases cmpS_cases a b with h | h | h
  · exact .inl (slt_cmp.1 h)
  · exact .inr (.inl (cmpS_zero.1 h))
  · refine .inr (.inr (slt_cmp.1 ?_))
    rw [cmpS_flip, h]
theorem beq_str (a b : ByteArray) : (a.toList == b.toList) = decide (a = b) := by
  rw [Bool.eq_iff_iff, beq_iff_eq, decide_eq_true_eq]
  exact ⟨toList_inj, fun e => by rw [e]⟩
end Go.Proofs.Ytpipggnfbgjefaa.Ex.By
