/- Chapter 24: the set of plates, what is said of it. -/
import Derived.Test.YtkajegjghfbgaaaExT
import Derived.Test.YtkajegjghfbgaaaMap
namespace Go.Proofs.Ytkajegjghfbgaaa.Ex
open Go.RowKit Go.Proofs.Ytkajegjghfbgaaa.Ax

def mpK (x : Plate) : Lit := .string (keyBytes [.int .i64 x.Lead, .int .i64 x.Airline, .int .i64 x.Serial])
def mpW (x : Plate) : Bool := (Lit.int .i64 x.Lead).wf && (Lit.int .i64 x.Airline).wf && (Lit.int .i64 x.Serial).wf
end Go.Proofs.Ytkajegjghfbgaaa.Ex
