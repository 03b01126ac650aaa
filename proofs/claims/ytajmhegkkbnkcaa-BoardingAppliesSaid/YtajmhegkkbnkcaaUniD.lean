/- The union of two ascending lists, as boarding.united gives it. Plain Lean. -/
import Derived.Test.YtajmhegkkbnkcaaExB
namespace Go.Proofs.Ytajmhegkkbnkcaa.Ex
open Go.RowKit Go.Proofs.Ytajmhegkkbnkcaa.Ax
set_option linter.unusedVariables false
set_option linter.unusedSimpArgs false

def uniF : Nat → List Int → List Int → List Int
  | 0, _, _ => []
  | _ + 1, [], [] => []
  | n + 1, x :: a, [] => x :: uniF n a []
  | n + 1, [], y :: b => y :: uniF n [] b
  | n + 1, x :: a, y :: b => cond (decide (x < y)) (x :: uniF n a (y :: b)) (cond (decide (y < x)) (y :: uniF n (x :: a) b) (x :: uniF n a b))

def unitedF (a b : List Int) : Option (List Int) := if a.length + b.length ≤ 16777216 then some (uniF (a.length + b.length) a b) else none
end Go.Proofs.Ytajmhegkkbnkcaa.Ex
