/- Chapter 24: bags that are late, in the order of their needs: what is said of the order. -/
import Derived.Test.YtkajegjghfbgaaaExT
import Derived.Test.YtkajegjghfbgaaaSrt
namespace Go.Proofs.Ytkajegjghfbgaaa.Ex
open Go.RowKit Go.Proofs.Ytkajegjghfbgaaa.Ax Go.Sort

instance : Inhabited Late := ⟨⟨0, 0⟩⟩
def lateC (z : Int) : Int := if 0 ≤ z ∧ z ≤ 1000000000 then z else 0
def lateCl (x : Late) : Late := ⟨lateC x.need, x.category⟩
def srtOk_Late (x : Late) : Bool := decide (0 ≤ x.need) && decide (x.need ≤ 1000000000)
def srtC_Late (x y : Late) : Int := lateC x.need - lateC y.need
theorem lateC_rng (z : Int) : 0 ≤ lateC z ∧ lateC z ≤ 1000000000 := by unfold lateC; split <;> omega
theorem late_ok {x : Late} (h : srtOk_Late x = true) : lateCl x = x := by
  unfold srtOk_Late at h
  simp only [Bool.and_eq_true, decide_eq_true_eq] at h
  unfold lateCl lateC
  rw [if_pos h]
theorem late_swo : SWO (ltOf srtC_Late) where
  irrefl x := by simp [ltOf, srtC_Late]
  trans x y z h1 h2 := by
    have h1 : srtC_Late x y < 0 := of_decide_eq_true h1
    have h2 : srtC_Late y z < 0 := of_decide_eq_true h2
    unfold srtC_Late at h1 h2
    refine decide_eq_true ?_
    show lateC x.need - lateC z.need < 0
    omega
  ntrans x y z h1 h2 := by
    have h1 : ¬ srtC_Late x y < 0 := of_decide_eq_false h1
    have h2 : ¬ srtC_Late y z < 0 := of_decide_eq_false h2
    unfold srtC_Late at h1 h2
    refine decide_eq_false ?_
    show ¬ lateC x.need - lateC z.need < 0
    omega
end Go.Proofs.Ytkajegjghfbgaaa.Ex
