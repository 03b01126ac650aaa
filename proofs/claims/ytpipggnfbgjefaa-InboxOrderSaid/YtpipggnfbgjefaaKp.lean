/- The reader of numbers: what its printed functions give (ranges, picks, texts). -/
import Derived.Test.YtpipggnfbgjefaaKp0
namespace Go.Proofs.Ytpipggnfbgjefaa.Ex
open Go.RowKit Go.Proofs.Ytpipggnfbgjefaa.Ax
set_option linter.unusedVariables false
set_option linter.unusedSimpArgs false

theorem Range_ok (s : Src) (lo hi : Int) (h : SrcOk s) (h0 : lo ≤ hi) (h1 : -1000000000 ≤ lo) (h2 : hi ≤ 1000000000) : okP (keep_Src_Range s lo hi) (fun r => lo ≤ r.1 ∧ r.1 ≤ hi ∧ SrcOk r.2) := by
  unfold keep_Src_Range
  rw [w64_id (z := hi - lo) (by omega) (by omega), w64_id (z := hi - lo + 1) (by omega) (by omega)]
  refine okP_bind (N_ok s _ h (by omega) (by omega)) (fun r ⟨r1, r2, r3⟩ => okP_some ?_)
  rw [w64_id (by omega) (by omega)]
  exact ⟨by omega, by omega, r3⟩

end Go.Proofs.Ytpipggnfbgjefaa.Ex
