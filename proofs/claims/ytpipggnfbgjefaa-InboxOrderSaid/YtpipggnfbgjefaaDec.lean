/- Values that came in, by the types of the program; printed by a program. -/
import Derived.Test.YtpipggnfbgjefaaOpn
import Derived.Test.YtpipggnfbgjefaaExT
namespace Go.Proofs.Ytpipggnfbgjefaa.Ex
open Go.RowKit Go.Proofs.Ytpipggnfbgjefaa.Ax
set_option linter.unusedVariables false
set_option linter.unusedSimpArgs false

end Go.Proofs.Ytpipggnfbgjefaa.Ex
