/-
  No cell of these rows narrows 'for every input' (looked for: loops, veiled, ifaces, maps, wideKeys, modest, calm, conditions, laid).
  DERIVED. THE GIVEN ROWS OF THIS SEAT. 7 by the template 'for every input the law returns true; each argument reads behind the call as it read before'; 0 by the template 'total and deterministic' (their statements: YtajmhegkkbnkcaaTotals.lean).
  GIVEN WITH THE SEED: the statements are not yours to turn. If you find one false, say at which input.
  Laid BY PROGRAM, IN A SANDBOX (cutbox-rows.mjs): the forced cells as the released guide's own fill.sh prints them over the translation 06574ba9c908adc4… (all of the seat's roots in one cut). By AI agents, Wed Nov 11 2026. No macro, syntax, notation, axiom, sorry.
-/
import Derived.Test.YtajmhegkkbnkcaaChecked
import GoSem.Claim
import GoSem.ClaimJoined
import GoSem.ClaimMapViews
import Derived.JoinedTies
import Derived.KernelRfl
namespace Go.Proofs.Ytajmhegkkbnkcaa
/- THE CELL 'sum', in the pinned program and in every row, IS THE sha256 OF THE DUMP (.gsa) THAT YtajmhegkkbnkcaaProg.lean LOADS. Nothing in Lean hashes anything: it is a label: what it is worth is what the hold of that sum in a sandbox is worth. -/
noncomputable def Try.pinned : Pinned := { name := "ytajmhegkkbnkcaa", sum := "06574ba9c908adc46ec41c5feab3062769707dc06650e7a82589e981fb2480cc", checked := Try.checked }
namespace Rows
def none {H : Type} : Left H := { results := [], args := [] }

/-- 'baggagelaw25.BoardingValidates': WHATEVER THE INPUT: true; the input reads as it did. -/
def boardingValidatesSpec : ChangeSpec := { name := "boardingValidates", fn := fun _ => fun
  | [d1, d2, d3, d4, d5] => { results := [.lit (.bool true)], args := [d1, d2, d3, d4, d5] }
  | _ => none }
def boardingValidatesRow : OpenClaim := { program := "ytajmhegkkbnkcaa", sum := "06574ba9c908adc46ec41c5feab3062769707dc06650e7a82589e981fb2480cc", func := "baggage/baggagelaw25.BoardingValidates", spec := "boardingValidates", unfollowed := true, recurses := true, apart := false }
def BoardingValidatesSaid : Prop := boardingValidatesRow.holds Try.pinned (OpenSpec.ofChange boardingValidatesSpec)

/-- ITS FALSE NEIGHBOUR: 'it returns false'. Refute it at one input. -/
def boardingValidatesWrong : ChangeSpec := { name := "boardingValidates", fn := fun _ => fun
  | [d1, d2, d3, d4, d5] => { results := [.lit (.bool false)], args := [d1, d2, d3, d4, d5] }
  | _ => none }
def BoardingValidatesWrongFalsely : Prop := boardingValidatesRow.holds Try.pinned (OpenSpec.ofChange boardingValidatesWrong)

/-- 'baggagelaw25.BoardingApplies': WHATEVER THE INPUT: true; the input reads as it did. -/
def boardingAppliesSpec : ChangeSpec := { name := "boardingApplies", fn := fun _ => fun
  | [d1, d2, d3] => { results := [.lit (.bool true)], args := [d1, d2, d3] }
  | _ => none }
def boardingAppliesRow : OpenClaim := { program := "ytajmhegkkbnkcaa", sum := "06574ba9c908adc46ec41c5feab3062769707dc06650e7a82589e981fb2480cc", func := "baggage/baggagelaw25.BoardingApplies", spec := "boardingApplies", unfollowed := true, recurses := true, apart := false }
def BoardingAppliesSaid : Prop := boardingAppliesRow.holds Try.pinned (OpenSpec.ofChange boardingAppliesSpec)

/-- ITS FALSE NEIGHBOUR: 'it returns false'. Refute it at one input. -/
def boardingAppliesWrong : ChangeSpec := { name := "boardingApplies", fn := fun _ => fun
  | [d1, d2, d3] => { results := [.lit (.bool false)], args := [d1, d2, d3] }
  | _ => none }
def BoardingAppliesWrongFalsely : Prop := boardingAppliesRow.holds Try.pinned (OpenSpec.ofChange boardingAppliesWrong)

/-- 'baggagelaw25.BoardingOrder': WHATEVER THE INPUT: true; the input reads as it did. -/
def boardingOrderSpec : ChangeSpec := { name := "boardingOrder", fn := fun _ => fun
  | [d1, d2] => { results := [.lit (.bool true)], args := [d1, d2] }
  | _ => none }
def boardingOrderRow : OpenClaim := { program := "ytajmhegkkbnkcaa", sum := "06574ba9c908adc46ec41c5feab3062769707dc06650e7a82589e981fb2480cc", func := "baggage/baggagelaw25.BoardingOrder", spec := "boardingOrder", unfollowed := true, recurses := true, apart := false }
def BoardingOrderSaid : Prop := boardingOrderRow.holds Try.pinned (OpenSpec.ofChange boardingOrderSpec)

/-- ITS FALSE NEIGHBOUR: 'it returns false'. Refute it at one input. -/
def boardingOrderWrong : ChangeSpec := { name := "boardingOrder", fn := fun _ => fun
  | [d1, d2] => { results := [.lit (.bool false)], args := [d1, d2] }
  | _ => none }
def BoardingOrderWrongFalsely : Prop := boardingOrderRow.holds Try.pinned (OpenSpec.ofChange boardingOrderWrong)

/-- 'baggagelaw25.BoardingStates': WHATEVER THE INPUT: true; the input reads as it did. -/
def boardingStatesSpec : ChangeSpec := { name := "boardingStates", fn := fun _ => fun
  | [d1, d2, d3] => { results := [.lit (.bool true)], args := [d1, d2, d3] }
  | _ => none }
def boardingStatesRow : OpenClaim := { program := "ytajmhegkkbnkcaa", sum := "06574ba9c908adc46ec41c5feab3062769707dc06650e7a82589e981fb2480cc", func := "baggage/baggagelaw25.BoardingStates", spec := "boardingStates", unfollowed := true, recurses := true, apart := false }
def BoardingStatesSaid : Prop := boardingStatesRow.holds Try.pinned (OpenSpec.ofChange boardingStatesSpec)

/-- ITS FALSE NEIGHBOUR: 'it returns false'. Refute it at one input. -/
def boardingStatesWrong : ChangeSpec := { name := "boardingStates", fn := fun _ => fun
  | [d1, d2, d3] => { results := [.lit (.bool false)], args := [d1, d2, d3] }
  | _ => none }
def BoardingStatesWrongFalsely : Prop := boardingStatesRow.holds Try.pinned (OpenSpec.ofChange boardingStatesWrong)

/-- 'baggagelaw25.BoardingJoins': WHATEVER THE INPUT: true; the input reads as it did. -/
def boardingJoinsSpec : ChangeSpec := { name := "boardingJoins", fn := fun _ => fun
  | [d1, d2, d3] => { results := [.lit (.bool true)], args := [d1, d2, d3] }
  | _ => none }
def boardingJoinsRow : OpenClaim := { program := "ytajmhegkkbnkcaa", sum := "06574ba9c908adc46ec41c5feab3062769707dc06650e7a82589e981fb2480cc", func := "baggage/baggagelaw25.BoardingJoins", spec := "boardingJoins", unfollowed := true, recurses := true, apart := false }
def BoardingJoinsSaid : Prop := boardingJoinsRow.holds Try.pinned (OpenSpec.ofChange boardingJoinsSpec)

/-- ITS FALSE NEIGHBOUR: 'it returns false'. Refute it at one input. -/
def boardingJoinsWrong : ChangeSpec := { name := "boardingJoins", fn := fun _ => fun
  | [d1, d2, d3] => { results := [.lit (.bool false)], args := [d1, d2, d3] }
  | _ => none }
def BoardingJoinsWrongFalsely : Prop := boardingJoinsRow.holds Try.pinned (OpenSpec.ofChange boardingJoinsWrong)

/-- 'baggagelaw25.BoardingLattice': WHATEVER THE INPUT: true; the input reads as it did. -/
def boardingLatticeSpec : ChangeSpec := { name := "boardingLattice", fn := fun _ => fun
  | [d] => { results := [.lit (.bool true)], args := [d] }
  | _ => none }
def boardingLatticeRow : OpenClaim := { program := "ytajmhegkkbnkcaa", sum := "06574ba9c908adc46ec41c5feab3062769707dc06650e7a82589e981fb2480cc", func := "baggage/baggagelaw25.BoardingLattice", spec := "boardingLattice", unfollowed := true, recurses := true, apart := false }
def BoardingLatticeSaid : Prop := boardingLatticeRow.holds Try.pinned (OpenSpec.ofChange boardingLatticeSpec)

/-- ITS FALSE NEIGHBOUR: 'it returns false'. Refute it at one input. -/
def boardingLatticeWrong : ChangeSpec := { name := "boardingLattice", fn := fun _ => fun
  | [d] => { results := [.lit (.bool false)], args := [d] }
  | _ => none }
def BoardingLatticeWrongFalsely : Prop := boardingLatticeRow.holds Try.pinned (OpenSpec.ofChange boardingLatticeWrong)

/-- 'baggagelaw25.BoardingSingle': WHATEVER THE INPUT: true; the input reads as it did. -/
def boardingSingleSpec : ChangeSpec := { name := "boardingSingle", fn := fun _ => fun
  | [d] => { results := [.lit (.bool true)], args := [d] }
  | _ => none }
def boardingSingleRow : OpenClaim := { program := "ytajmhegkkbnkcaa", sum := "06574ba9c908adc46ec41c5feab3062769707dc06650e7a82589e981fb2480cc", func := "baggage/baggagelaw25.BoardingSingle", spec := "boardingSingle", unfollowed := true, recurses := true, apart := false }
def BoardingSingleSaid : Prop := boardingSingleRow.holds Try.pinned (OpenSpec.ofChange boardingSingleSpec)

/-- ITS FALSE NEIGHBOUR: 'it returns false'. Refute it at one input. -/
def boardingSingleWrong : ChangeSpec := { name := "boardingSingle", fn := fun _ => fun
  | [d] => { results := [.lit (.bool false)], args := [d] }
  | _ => none }
def BoardingSingleWrongFalsely : Prop := boardingSingleRow.holds Try.pinned (OpenSpec.ofChange boardingSingleWrong)

/- THE SECOND FORM. 'bulk': how many values and letters a reading holds, each counted each time it is reached (what is shared counts as often as it is met; a slice's spare places count too). A statement '..UptoSaid' is the law's where the arguments, and the package variables that the reading takes, are together of bulk at most 1048576: NARROWER than '..Said'. Prove '..Said' where nothing that the law and all that it calls make is longer than what came in: it says more and counts as full. Else prove '..UptoSaid'. A law counts once. -/
mutual
def uptoBulk {H : Type} : DataW H → Nat
  | .lit (.string bytes) => bytes.length + 1
  | .lit _ => 1
  | .nil => 1
  | .ptr d => uptoBulk d + 1
  | .slice elems spare => uptoBulkAll elems + uptoBulkAll spare + 1
  | .agg parts => uptoBulkAll parts + 1
  | .iface _ d => uptoBulk d + 1
  | .map entries => uptoBulkEntries entries + 1
  | .held _ => 1
def uptoBulkAll {H : Type} : List (DataW H) → Nat
  | [] => 0
  | d :: r => uptoBulk d + uptoBulkAll r
def uptoBulkEntries {H : Type} : List (Lit × DataW H) → Nat
  | [] => 0
  | x :: r => uptoBulkEntry x + uptoBulkEntries r
def uptoBulkEntry {H : Type} : Lit × DataW H → Nat
  | (.string bytes, d) => bytes.length + uptoBulk d + 1
  | (_, d) => uptoBulk d + 1
 end
def uptoSmall : (H : Type) → List (DataW H) → Bool := fun _ ds => decide (uptoBulkAll ds ≤ 1048576)
def OpenSpec.upto (s : _root_.Go.ChangeSpec) : _root_.Go.OpenSpec := { _root_.Go.OpenSpec.ofChange s with cond := some uptoSmall }

/-- 'baggagelaw25.BoardingValidates', WHERE WHAT IT READS IS OF BULK AT MOST 1048576: true; the input reads as it did. -/
def boardingValidatesUptoRow : OpenClaim := { program := "ytajmhegkkbnkcaa", sum := "06574ba9c908adc46ec41c5feab3062769707dc06650e7a82589e981fb2480cc", func := "baggage/baggagelaw25.BoardingValidates", spec := "boardingValidates", unfollowed := true, recurses := true, apart := false, narrowed := true }
def BoardingValidatesUptoSaid : Prop := boardingValidatesUptoRow.holds Try.pinned (OpenSpec.upto boardingValidatesSpec)

/-- 'baggagelaw25.BoardingApplies', WHERE WHAT IT READS IS OF BULK AT MOST 1048576: true; the input reads as it did. -/
def boardingAppliesUptoRow : OpenClaim := { program := "ytajmhegkkbnkcaa", sum := "06574ba9c908adc46ec41c5feab3062769707dc06650e7a82589e981fb2480cc", func := "baggage/baggagelaw25.BoardingApplies", spec := "boardingApplies", unfollowed := true, recurses := true, apart := false, narrowed := true }
def BoardingAppliesUptoSaid : Prop := boardingAppliesUptoRow.holds Try.pinned (OpenSpec.upto boardingAppliesSpec)

/-- 'baggagelaw25.BoardingOrder', WHERE WHAT IT READS IS OF BULK AT MOST 1048576: true; the input reads as it did. -/
def boardingOrderUptoRow : OpenClaim := { program := "ytajmhegkkbnkcaa", sum := "06574ba9c908adc46ec41c5feab3062769707dc06650e7a82589e981fb2480cc", func := "baggage/baggagelaw25.BoardingOrder", spec := "boardingOrder", unfollowed := true, recurses := true, apart := false, narrowed := true }
def BoardingOrderUptoSaid : Prop := boardingOrderUptoRow.holds Try.pinned (OpenSpec.upto boardingOrderSpec)

/-- 'baggagelaw25.BoardingStates', WHERE WHAT IT READS IS OF BULK AT MOST 1048576: true; the input reads as it did. -/
def boardingStatesUptoRow : OpenClaim := { program := "ytajmhegkkbnkcaa", sum := "06574ba9c908adc46ec41c5feab3062769707dc06650e7a82589e981fb2480cc", func := "baggage/baggagelaw25.BoardingStates", spec := "boardingStates", unfollowed := true, recurses := true, apart := false, narrowed := true }
def BoardingStatesUptoSaid : Prop := boardingStatesUptoRow.holds Try.pinned (OpenSpec.upto boardingStatesSpec)

/-- 'baggagelaw25.BoardingJoins', WHERE WHAT IT READS IS OF BULK AT MOST 1048576: true; the input reads as it did. -/
def boardingJoinsUptoRow : OpenClaim := { program := "ytajmhegkkbnkcaa", sum := "06574ba9c908adc46ec41c5feab3062769707dc06650e7a82589e981fb2480cc", func := "baggage/baggagelaw25.BoardingJoins", spec := "boardingJoins", unfollowed := true, recurses := true, apart := false, narrowed := true }
def BoardingJoinsUptoSaid : Prop := boardingJoinsUptoRow.holds Try.pinned (OpenSpec.upto boardingJoinsSpec)

/-- 'baggagelaw25.BoardingLattice', WHERE WHAT IT READS IS OF BULK AT MOST 1048576: true; the input reads as it did. -/
def boardingLatticeUptoRow : OpenClaim := { program := "ytajmhegkkbnkcaa", sum := "06574ba9c908adc46ec41c5feab3062769707dc06650e7a82589e981fb2480cc", func := "baggage/baggagelaw25.BoardingLattice", spec := "boardingLattice", unfollowed := true, recurses := true, apart := false, narrowed := true }
def BoardingLatticeUptoSaid : Prop := boardingLatticeUptoRow.holds Try.pinned (OpenSpec.upto boardingLatticeSpec)

/-- 'baggagelaw25.BoardingSingle', WHERE WHAT IT READS IS OF BULK AT MOST 1048576: true; the input reads as it did. -/
def boardingSingleUptoRow : OpenClaim := { program := "ytajmhegkkbnkcaa", sum := "06574ba9c908adc46ec41c5feab3062769707dc06650e7a82589e981fb2480cc", func := "baggage/baggagelaw25.BoardingSingle", spec := "boardingSingle", unfollowed := true, recurses := true, apart := false, narrowed := true }
def BoardingSingleUptoSaid : Prop := boardingSingleUptoRow.holds Try.pinned (OpenSpec.upto boardingSingleSpec)

end Rows
end Go.Proofs.Ytajmhegkkbnkcaa
