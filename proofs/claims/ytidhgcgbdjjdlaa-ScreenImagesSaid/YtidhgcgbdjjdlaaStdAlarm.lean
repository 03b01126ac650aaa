/- Chapter 15: alarms in the order of their deadlines and images: what is said of the order. -/
import Derived.Test.YtidhgcgbdjjdlaaExT
import Derived.Test.YtidhgcgbdjjdlaaSrt
namespace Go.Proofs.Ytidhgcgbdjjdlaa.Ex
open Go.RowKit Go.Proofs.Ytidhgcgbdjjdlaa.Ax Go.Sort

instance : Inhabited Alarm := ⟨⟨0, 0, 0, 0⟩⟩
def srtOk_Alarm (_ : Alarm) : Bool := true
def cmpI (x y : Int) : Int := if x < y then -1 else if y < x then 1 else 0
def srtC_Alarm (x y : Alarm) : Int := if cmpI x.Deadline y.Deadline ≠ 0 then cmpI x.Deadline y.Deadline else cmpI x.Image y.Image
theorem alarm_lt (x y : Alarm) : srtC_Alarm x y < 0 ↔ x.Deadline < y.Deadline ∨ (x.Deadline = y.Deadline ∧ x.Image < y.Image) := by
  unfold srtC_Alarm cmpI
  by_cases h1 : x.Deadline < y.Deadline
  · simp [h1]
  · by_cases h2 : y.Deadline < x.Deadline
    · simp [h1, h2]; omega
    · have : x.Deadline = y.Deadline := by omega
      by_cases h3 : x.Image < y.Image
      · simp [this, h3]
      · by_cases h4 : y.Image < x.Image <;> simp [this, h3, h4]
theorem alarm_swo : SWO (ltOf srtC_Alarm) where
  irrefl x := by
    refine decide_eq_false ?_
    rw [alarm_lt]
    omega
  trans x y z h1 h2 := by
    have h1 := (alarm_lt x y).1 (of_decide_eq_true h1)
    have h2 := (alarm_lt y z).1 (of_decide_eq_true h2)
    refine decide_eq_true ((alarm_lt x z).2 ?_)
    omega
  ntrans x y z h1 h2 := by
    have h1 : ¬ srtC_Alarm x y < 0 := of_decide_eq_false h1
    have h2 : ¬ srtC_Alarm y z < 0 := of_decide_eq_false h2
    rw [alarm_lt] at h1 h2
    refine decide_eq_false ?_
    rw [alarm_lt]
    omega
end Go.Proofs.Ytidhgcgbdjjdlaa.Ex
