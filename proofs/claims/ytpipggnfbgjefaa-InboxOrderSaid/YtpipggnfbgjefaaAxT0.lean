/- The table of types and the helpers, together. -/
import Derived.Test.YtpipggnfbgjefaaTab
import Derived.Test.YtpipggnfbgjefaaAxZ
namespace Go.Proofs.Ytpipggnfbgjefaa.Ax
set_option linter.unusedVariables false
set_option linter.unusedSimpArgs false
theorem follows_ok : Try.prog.follows .mixedOrders = true := by kernel_rfl
end Go.Proofs.Ytpipggnfbgjefaa.Ax
