/- The law InboxScript. -/
import Derived.Test.YtpipggnfbgjefaaIb3
import Derived.Test.YtpipggnfbgjefaaDec
namespace Go.Proofs.Ytpipggnfbgjefaa.Ex.Ib
open Go.RowKit Go.Proofs.Ytpipggnfbgjefaa.Ax
set_option linter.unusedVariables false
set_option linter.unusedSimpArgs false

theorem awake05 : law05_awake = some true := by kernel_rfl
theorem new_eq {w : Int} (h1 : 1 ≤ w) (h2 : w ≤ 8) : inbox_New w = some (⟨w, []⟩, 0) := by
  unfold inbox_New
  rw [decide_eq_false (by omega), decide_eq_false (by omega)]
  rfl
theorem inew_ok {w : Int} (h1 : 1 ≤ w) (h2 : w ≤ 8) : IOk ⟨w, []⟩ := ⟨⟨h1, h2⟩, by simp, List.Pairwise.nil, by simp⟩
end Go.Proofs.Ytpipggnfbgjefaa.Ex.Ib
