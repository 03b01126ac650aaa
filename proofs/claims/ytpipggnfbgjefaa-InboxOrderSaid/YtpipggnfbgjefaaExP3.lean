/- The functions of the program compute what was printed; walks printed by a program. -/
import Derived.Test.YtpipggnfbgjefaaExF
import Derived.Test.YtpipggnfbgjefaaExP1
import Derived.Test.YtpipggnfbgjefaaExP2
namespace Go.Proofs.Ytpipggnfbgjefaa.Ex
open Go.RowKit Go.Proofs.Ytpipggnfbgjefaa.Ax
set_option linter.unusedVariables false
set_option linter.unusedSimpArgs false
end Go.Proofs.Ytpipggnfbgjefaa.Ex
