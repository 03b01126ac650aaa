/- The plain law of StripFaults, at all windows of the law. -/
import Derived.Test.YtbopbmmalfobiaaStripP
namespace Go.Proofs.Ytbopbmmalfobiaa

/-- what StripFaults asks at window k -/
def faultAt (ws : List Int) (k : Nat) (slide : Bool) : Bool :=
  let a := advance ws [] true
  let b := advance ws ((List.replicate ws.length 0).set k (if slide then 2 else 1)) true
  ((List.range ws.length).all fun i => decide (i = k) || decide (ws[i]?.getD 0 = 0) || decide (a.1.findIdx (· == ws[i]?.getD 0) = b.1.findIdx (· == ws[i]?.getD 0))) &&
  (if ws[k]?.getD 0 = 0 then decide (a.1 = b.1) && decide (a.2 = b.2)
   else if slide then decide (a.1.findIdx (· == ws[k]?.getD 0) ≤ b.1.findIdx (· == ws[k]?.getD 0)) && decide (b.1.findIdx (· == ws[k]?.getD 0) ≤ a.1.findIdx (· == ws[k]?.getD 0) + 1) && (decide (k < a.1.findIdx (· == ws[k]?.getD 0)) || decide (b.1.findIdx (· == ws[k]?.getD 0) = a.1.findIdx (· == ws[k]?.getD 0)))
   else decide (b.1.findIdx (· == ws[k]?.getD 0) = k))

def faultOK (ws : List Int) : Bool := (List.range ws.length).all fun k => faultAt ws k true && faultAt ws k false

set_option maxRecDepth 100000 in
theorem fault_all : allW faultOK = true := by decide +kernel
end Go.Proofs.Ytbopbmmalfobiaa
