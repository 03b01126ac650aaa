/- The table of types and the helpers, together. -/
import Derived.Test.YtkliakcegihikaaGreatTab
import Derived.Test.YtkliakcegihikaaGreatAxZ
namespace Go.Proofs.YtkliakcegihikaaGreat.Ax
set_option linter.unusedVariables false
set_option linter.unusedSimpArgs false
theorem follows_ok : Tryz.prog.follows .mixedOrders = true := by kernel_rfl
end Go.Proofs.YtkliakcegihikaaGreat.Ax
