/- The table of types and the helpers, together. -/
import Derived.Test.YtkajegjghfbgaaaTab
import Derived.Test.YtkajegjghfbgaaaAxZ
namespace Go.Proofs.Ytkajegjghfbgaaa.Ax
set_option linter.unusedVariables false
set_option linter.unusedSimpArgs false
theorem follows_ok : Try.prog.follows .mixedOrders = true := by kernel_rfl
end Go.Proofs.Ytkajegjghfbgaaa.Ax
