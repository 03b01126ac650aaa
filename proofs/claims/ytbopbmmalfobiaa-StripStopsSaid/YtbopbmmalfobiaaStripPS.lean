/- The plain law of StripStops, at all windows of the law. -/
import Derived.Test.YtbopbmmalfobiaaStripP
namespace Go.Proofs.Ytbopbmmalfobiaa

/-- the ticks of StripStops -/
def stp : Nat → List Int → List Int
  | 0, s => s
  | k + 1, s => stp k (advance s [] false).1

theorem advS_closed (s fs : List Int) (k : Nat) (st : List Int × Int) : (advS s fs false k st).2 = st.2 := by
  induction k generalizing st with
  | zero => rfl
  | succ k ih =>
    rw [advS, ih]
    unfold stepS
    split
    · rfl
    · split
      · rfl
      · simp

theorem advance_closed (s fs : List Int) : (advance s fs false).2 = 0 := advS_closed s fs _ _

def stopOK (ws : List Int) : Bool :=
  ((List.range ws.length).all fun i => decide (((stp (2 * ws.length) ws)[i]?.getD 0 ≠ 0) ↔ cnt0 ws ≤ i)) && decide (bagsF (stp (2 * ws.length) ws) = bagsF ws)

set_option maxRecDepth 100000 in
theorem stop_all : allW stopOK = true := by decide +kernel

end Go.Proofs.Ytbopbmmalfobiaa
