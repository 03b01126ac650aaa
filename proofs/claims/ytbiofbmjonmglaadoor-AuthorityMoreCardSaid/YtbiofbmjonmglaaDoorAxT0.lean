/- The table of types and the helpers, together. -/
import Derived.Test.YtbiofbmjonmglaaDoorTab
import Derived.Test.YtbiofbmjonmglaaDoorAxZ
namespace Go.Proofs.YtbiofbmjonmglaaDoor.Ax
set_option linter.unusedVariables false
set_option linter.unusedSimpArgs false
theorem follows_ok : Tryd.prog.follows .mixedOrders = true := by kernel_rfl
end Go.Proofs.YtbiofbmjonmglaaDoor.Ax
