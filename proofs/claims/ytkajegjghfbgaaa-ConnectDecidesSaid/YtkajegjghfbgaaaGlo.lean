/- What the package-level variables of the program are known to hold (nothing, for most chapters; the printer lays another text of this name where a law's row says so). -/
import Derived.Test.YtkajegjghfbgaaaBase
namespace Go.Proofs.Ytkajegjghfbgaaa.Ax
def gloInts : Nat → List (IntKind × Int) := fun _ => []
end Go.Proofs.Ytkajegjghfbgaaa.Ax
