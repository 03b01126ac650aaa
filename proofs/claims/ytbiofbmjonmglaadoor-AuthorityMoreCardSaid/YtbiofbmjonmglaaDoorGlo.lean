/- What the package-level variables of the program are known to hold, by the rows of the laws. -/
import Derived.Test.YtbiofbmjonmglaaDoorBase
namespace Go.Proofs.YtbiofbmjonmglaaDoor.Ax
def gloInts : Nat → List (IntKind × Int)
  | 0 => [(.i64, 0), (.i64, 3), (.i64, 4), (.i64, 5)]
  | _ => []
end Go.Proofs.YtbiofbmjonmglaaDoor.Ax
