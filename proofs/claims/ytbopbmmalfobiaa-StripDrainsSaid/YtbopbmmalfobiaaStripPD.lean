/- The plain law of StripDrains, at all windows of the law. -/
import Derived.Test.YtbopbmmalfobiaaStripP
namespace Go.Proofs.Ytbopbmmalfobiaa

/-- the ticks of StripDrains -/
def drn : Nat → List Int × List Int → List Int × List Int
  | 0, st => st
  | k + 1, st => drn k ((advance st.1 [] true).1, if (advance st.1 [] true).2 = 0 then st.2 else st.2 ++ [(advance st.1 [] true).2])

def drainOK (ws : List Int) : Bool := decide (cnt0 (drn (2 * ws.length) (ws, [])).1 = ws.length) && decide ((drn (2 * ws.length) (ws, [])).2 = bagsF ws)

set_option maxRecDepth 100000 in
theorem drain_all : allW drainOK = true := by decide +kernel

end Go.Proofs.Ytbopbmmalfobiaa
