/- What the package-level variables of the program are known to hold (nothing, for most chapters; the printer lays another text of this name where a law's row says so). -/
import Derived.Test.YtkefkegknacpjaaBase
namespace Go.Proofs.Ytkefkegknacpjaa.Ax
def gloInts : Nat → List (IntKind × Int) := fun _ => []
end Go.Proofs.Ytkefkegknacpjaa.Ax
