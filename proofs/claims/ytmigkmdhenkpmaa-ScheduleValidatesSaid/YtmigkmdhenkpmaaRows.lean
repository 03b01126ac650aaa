/-
  No cell of these rows narrows 'for every input' (looked for: loops, veiled, ifaces, maps, wideKeys, modest, calm, conditions, laid).
  DERIVED. THE GIVEN ROWS OF THIS SEAT. 8 by the template 'for every input the law returns true; each argument reads behind the call as it read before'; 0 by the template 'total and deterministic' (their statements: YtmigkmdhenkpmaaTotals.lean).
  GIVEN WITH THE SEED: the statements are not yours to turn. If you find one false, say at which input.
  Laid BY PROGRAM, IN A SANDBOX (cutbox-rows.mjs): the forced cells as the released guide's own fill.sh prints them over the translation 2f895daa0c336fbb… (all of the seat's roots in one cut). By AI agents, Wed Nov 11 2026. No macro, syntax, notation, axiom, sorry.
-/
import Derived.Test.YtmigkmdhenkpmaaChecked
import GoSem.Claim
import GoSem.ClaimJoined
import GoSem.ClaimMapViews
import Derived.JoinedTies
import Derived.KernelRfl
namespace Go.Proofs.Ytmigkmdhenkpmaa
/- THE CELL 'sum', in the pinned program and in every row, IS THE sha256 OF THE DUMP (.gsa) THAT YtmigkmdhenkpmaaProg.lean LOADS. Nothing in Lean hashes anything: it is a label: what it is worth is what the hold of that sum in a sandbox is worth. -/
noncomputable def Try.pinned : Pinned := { name := "ytmigkmdhenkpmaa", sum := "2f895daa0c336fbbc0141d1c6b1686369870fb1252b1df6620aa1c8f1d186fd6", checked := Try.checked }
namespace Rows
def none {H : Type} : Left H := { results := [], args := [] }

/-- 'baggagelaw20.ScheduleValidates': WHATEVER THE INPUT: true; the input reads as it did. -/
def scheduleValidatesSpec : ChangeSpec := { name := "scheduleValidates", fn := fun _ => fun
  | [d1, d2, d3] => { results := [.lit (.bool true)], args := [d1, d2, d3] }
  | _ => none }
def scheduleValidatesRow : OpenClaim := { program := "ytmigkmdhenkpmaa", sum := "2f895daa0c336fbbc0141d1c6b1686369870fb1252b1df6620aa1c8f1d186fd6", func := "baggage/baggagelaw20.ScheduleValidates", spec := "scheduleValidates", unfollowed := true, recurses := true, apart := false }
def ScheduleValidatesSaid : Prop := scheduleValidatesRow.holds Try.pinned (OpenSpec.ofChange scheduleValidatesSpec)

/-- ITS FALSE NEIGHBOUR: 'it returns false'. Refute it at one input. -/
def scheduleValidatesWrong : ChangeSpec := { name := "scheduleValidates", fn := fun _ => fun
  | [d1, d2, d3] => { results := [.lit (.bool false)], args := [d1, d2, d3] }
  | _ => none }
def ScheduleValidatesWrongFalsely : Prop := scheduleValidatesRow.holds Try.pinned (OpenSpec.ofChange scheduleValidatesWrong)

/-- 'baggagelaw20.ScheduleRevises': WHATEVER THE INPUT: true; the input reads as it did. -/
def scheduleRevisesSpec : ChangeSpec := { name := "scheduleRevises", fn := fun _ => fun
  | [d1, d2, d3, d4] => { results := [.lit (.bool true)], args := [d1, d2, d3, d4] }
  | _ => none }
def scheduleRevisesRow : OpenClaim := { program := "ytmigkmdhenkpmaa", sum := "2f895daa0c336fbbc0141d1c6b1686369870fb1252b1df6620aa1c8f1d186fd6", func := "baggage/baggagelaw20.ScheduleRevises", spec := "scheduleRevises", unfollowed := true, recurses := true, apart := false }
def ScheduleRevisesSaid : Prop := scheduleRevisesRow.holds Try.pinned (OpenSpec.ofChange scheduleRevisesSpec)

/-- ITS FALSE NEIGHBOUR: 'it returns false'. Refute it at one input. -/
def scheduleRevisesWrong : ChangeSpec := { name := "scheduleRevises", fn := fun _ => fun
  | [d1, d2, d3, d4] => { results := [.lit (.bool false)], args := [d1, d2, d3, d4] }
  | _ => none }
def ScheduleRevisesWrongFalsely : Prop := scheduleRevisesRow.holds Try.pinned (OpenSpec.ofChange scheduleRevisesWrong)

/-- 'baggagelaw20.ScheduleDelays': WHATEVER THE INPUT: true; the input reads as it did. -/
def scheduleDelaysSpec : ChangeSpec := { name := "scheduleDelays", fn := fun _ => fun
  | [d1, d2] => { results := [.lit (.bool true)], args := [d1, d2] }
  | _ => none }
def scheduleDelaysRow : OpenClaim := { program := "ytmigkmdhenkpmaa", sum := "2f895daa0c336fbbc0141d1c6b1686369870fb1252b1df6620aa1c8f1d186fd6", func := "baggage/baggagelaw20.ScheduleDelays", spec := "scheduleDelays", unfollowed := true, recurses := true, apart := false }
def ScheduleDelaysSaid : Prop := scheduleDelaysRow.holds Try.pinned (OpenSpec.ofChange scheduleDelaysSpec)

/-- ITS FALSE NEIGHBOUR: 'it returns false'. Refute it at one input. -/
def scheduleDelaysWrong : ChangeSpec := { name := "scheduleDelays", fn := fun _ => fun
  | [d1, d2] => { results := [.lit (.bool false)], args := [d1, d2] }
  | _ => none }
def ScheduleDelaysWrongFalsely : Prop := scheduleDelaysRow.holds Try.pinned (OpenSpec.ofChange scheduleDelaysWrong)

/-- 'baggagelaw20.ScheduleRestores': WHATEVER THE INPUT: true; the input reads as it did. -/
def scheduleRestoresSpec : ChangeSpec := { name := "scheduleRestores", fn := fun _ => fun
  | [d1, d2, d3] => { results := [.lit (.bool true)], args := [d1, d2, d3] }
  | _ => none }
def scheduleRestoresRow : OpenClaim := { program := "ytmigkmdhenkpmaa", sum := "2f895daa0c336fbbc0141d1c6b1686369870fb1252b1df6620aa1c8f1d186fd6", func := "baggage/baggagelaw20.ScheduleRestores", spec := "scheduleRestores", unfollowed := true, recurses := true, apart := false }
def ScheduleRestoresSaid : Prop := scheduleRestoresRow.holds Try.pinned (OpenSpec.ofChange scheduleRestoresSpec)

/-- ITS FALSE NEIGHBOUR: 'it returns false'. Refute it at one input. -/
def scheduleRestoresWrong : ChangeSpec := { name := "scheduleRestores", fn := fun _ => fun
  | [d1, d2, d3] => { results := [.lit (.bool false)], args := [d1, d2, d3] }
  | _ => none }
def ScheduleRestoresWrongFalsely : Prop := scheduleRestoresRow.holds Try.pinned (OpenSpec.ofChange scheduleRestoresWrong)

/-- 'baggagelaw20.SchedulePhases': WHATEVER THE INPUT: true; the input reads as it did. -/
def schedulePhasesSpec : ChangeSpec := { name := "schedulePhases", fn := fun _ => fun
  | [d1, d2, d3] => { results := [.lit (.bool true)], args := [d1, d2, d3] }
  | _ => none }
def schedulePhasesRow : OpenClaim := { program := "ytmigkmdhenkpmaa", sum := "2f895daa0c336fbbc0141d1c6b1686369870fb1252b1df6620aa1c8f1d186fd6", func := "baggage/baggagelaw20.SchedulePhases", spec := "schedulePhases", unfollowed := true, recurses := true, apart := false }
def SchedulePhasesSaid : Prop := schedulePhasesRow.holds Try.pinned (OpenSpec.ofChange schedulePhasesSpec)

/-- ITS FALSE NEIGHBOUR: 'it returns false'. Refute it at one input. -/
def schedulePhasesWrong : ChangeSpec := { name := "schedulePhases", fn := fun _ => fun
  | [d1, d2, d3] => { results := [.lit (.bool false)], args := [d1, d2, d3] }
  | _ => none }
def SchedulePhasesWrongFalsely : Prop := schedulePhasesRow.holds Try.pinned (OpenSpec.ofChange schedulePhasesWrong)

/-- 'baggagelaw20.ScheduleTimes': WHATEVER THE INPUT: true; the input reads as it did. -/
def scheduleTimesSpec : ChangeSpec := { name := "scheduleTimes", fn := fun _ => fun
  | [d1, d2, d3] => { results := [.lit (.bool true)], args := [d1, d2, d3] }
  | _ => none }
def scheduleTimesRow : OpenClaim := { program := "ytmigkmdhenkpmaa", sum := "2f895daa0c336fbbc0141d1c6b1686369870fb1252b1df6620aa1c8f1d186fd6", func := "baggage/baggagelaw20.ScheduleTimes", spec := "scheduleTimes", unfollowed := true, recurses := true, apart := false }
def ScheduleTimesSaid : Prop := scheduleTimesRow.holds Try.pinned (OpenSpec.ofChange scheduleTimesSpec)

/-- ITS FALSE NEIGHBOUR: 'it returns false'. Refute it at one input. -/
def scheduleTimesWrong : ChangeSpec := { name := "scheduleTimes", fn := fun _ => fun
  | [d1, d2, d3] => { results := [.lit (.bool false)], args := [d1, d2, d3] }
  | _ => none }
def ScheduleTimesWrongFalsely : Prop := scheduleTimesRow.holds Try.pinned (OpenSpec.ofChange scheduleTimesWrong)

/-- 'baggagelaw20.ScheduleDeparts': WHATEVER THE INPUT: true; the input reads as it did. -/
def scheduleDepartsSpec : ChangeSpec := { name := "scheduleDeparts", fn := fun _ => fun
  | [d1, d2, d3, d4] => { results := [.lit (.bool true)], args := [d1, d2, d3, d4] }
  | _ => none }
def scheduleDepartsRow : OpenClaim := { program := "ytmigkmdhenkpmaa", sum := "2f895daa0c336fbbc0141d1c6b1686369870fb1252b1df6620aa1c8f1d186fd6", func := "baggage/baggagelaw20.ScheduleDeparts", spec := "scheduleDeparts", unfollowed := true, recurses := true, apart := false }
def ScheduleDepartsSaid : Prop := scheduleDepartsRow.holds Try.pinned (OpenSpec.ofChange scheduleDepartsSpec)

/-- ITS FALSE NEIGHBOUR: 'it returns false'. Refute it at one input. -/
def scheduleDepartsWrong : ChangeSpec := { name := "scheduleDeparts", fn := fun _ => fun
  | [d1, d2, d3, d4] => { results := [.lit (.bool false)], args := [d1, d2, d3, d4] }
  | _ => none }
def ScheduleDepartsWrongFalsely : Prop := scheduleDepartsRow.holds Try.pinned (OpenSpec.ofChange scheduleDepartsWrong)

/-- 'baggagelaw20.ScheduleScripts': WHATEVER THE INPUT: true; the input reads as it did. -/
def scheduleScriptsSpec : ChangeSpec := { name := "scheduleScripts", fn := fun _ => fun
  | [d] => { results := [.lit (.bool true)], args := [d] }
  | _ => none }
def scheduleScriptsRow : OpenClaim := { program := "ytmigkmdhenkpmaa", sum := "2f895daa0c336fbbc0141d1c6b1686369870fb1252b1df6620aa1c8f1d186fd6", func := "baggage/baggagelaw20.ScheduleScripts", spec := "scheduleScripts", unfollowed := true, recurses := true, apart := false }
def ScheduleScriptsSaid : Prop := scheduleScriptsRow.holds Try.pinned (OpenSpec.ofChange scheduleScriptsSpec)

/-- ITS FALSE NEIGHBOUR: 'it returns false'. Refute it at one input. -/
def scheduleScriptsWrong : ChangeSpec := { name := "scheduleScripts", fn := fun _ => fun
  | [d] => { results := [.lit (.bool false)], args := [d] }
  | _ => none }
def ScheduleScriptsWrongFalsely : Prop := scheduleScriptsRow.holds Try.pinned (OpenSpec.ofChange scheduleScriptsWrong)

/- THE SECOND FORM. 'bulk': how many values and letters a reading holds, each counted each time it is reached (what is shared counts as often as it is met; a slice's spare places count too). A statement '..UptoSaid' is the law's where the arguments, and the package variables that the reading takes, are together of bulk at most 1048576: NARROWER than '..Said'. Prove '..Said' where nothing that the law and all that it calls make is longer than what came in: it says more and counts as full. Else prove '..UptoSaid'. A law counts once. -/
mutual
def uptoBulk {H : Type} : DataW H → Nat
  | .lit (.string bytes) => bytes.length + 1
  | .lit _ => 1
  | .nil => 1
  | .ptr d => uptoBulk d + 1
  | .slice elems spare => uptoBulkAll elems + uptoBulkAll spare + 1
  | .agg parts => uptoBulkAll parts + 1
  | .iface _ d => uptoBulk d + 1
  | .map entries => uptoBulkEntries entries + 1
  | .held _ => 1
def uptoBulkAll {H : Type} : List (DataW H) → Nat
  | [] => 0
  | d :: r => uptoBulk d + uptoBulkAll r
def uptoBulkEntries {H : Type} : List (Lit × DataW H) → Nat
  | [] => 0
  | x :: r => uptoBulkEntry x + uptoBulkEntries r
def uptoBulkEntry {H : Type} : Lit × DataW H → Nat
  | (.string bytes, d) => bytes.length + uptoBulk d + 1
  | (_, d) => uptoBulk d + 1
 end
def uptoSmall : (H : Type) → List (DataW H) → Bool := fun _ ds => decide (uptoBulkAll ds ≤ 1048576)
def OpenSpec.upto (s : _root_.Go.ChangeSpec) : _root_.Go.OpenSpec := { _root_.Go.OpenSpec.ofChange s with cond := some uptoSmall }

/-- 'baggagelaw20.ScheduleValidates', WHERE WHAT IT READS IS OF BULK AT MOST 1048576: true; the input reads as it did. -/
def scheduleValidatesUptoRow : OpenClaim := { program := "ytmigkmdhenkpmaa", sum := "2f895daa0c336fbbc0141d1c6b1686369870fb1252b1df6620aa1c8f1d186fd6", func := "baggage/baggagelaw20.ScheduleValidates", spec := "scheduleValidates", unfollowed := true, recurses := true, apart := false, narrowed := true }
def ScheduleValidatesUptoSaid : Prop := scheduleValidatesUptoRow.holds Try.pinned (OpenSpec.upto scheduleValidatesSpec)

/-- 'baggagelaw20.ScheduleRevises', WHERE WHAT IT READS IS OF BULK AT MOST 1048576: true; the input reads as it did. -/
def scheduleRevisesUptoRow : OpenClaim := { program := "ytmigkmdhenkpmaa", sum := "2f895daa0c336fbbc0141d1c6b1686369870fb1252b1df6620aa1c8f1d186fd6", func := "baggage/baggagelaw20.ScheduleRevises", spec := "scheduleRevises", unfollowed := true, recurses := true, apart := false, narrowed := true }
def ScheduleRevisesUptoSaid : Prop := scheduleRevisesUptoRow.holds Try.pinned (OpenSpec.upto scheduleRevisesSpec)

/-- 'baggagelaw20.ScheduleDelays', WHERE WHAT IT READS IS OF BULK AT MOST 1048576: true; the input reads as it did. -/
def scheduleDelaysUptoRow : OpenClaim := { program := "ytmigkmdhenkpmaa", sum := "2f895daa0c336fbbc0141d1c6b1686369870fb1252b1df6620aa1c8f1d186fd6", func := "baggage/baggagelaw20.ScheduleDelays", spec := "scheduleDelays", unfollowed := true, recurses := true, apart := false, narrowed := true }
def ScheduleDelaysUptoSaid : Prop := scheduleDelaysUptoRow.holds Try.pinned (OpenSpec.upto scheduleDelaysSpec)

/-- 'baggagelaw20.ScheduleRestores', WHERE WHAT IT READS IS OF BULK AT MOST 1048576: true; the input reads as it did. -/
def scheduleRestoresUptoRow : OpenClaim := { program := "ytmigkmdhenkpmaa", sum := "2f895daa0c336fbbc0141d1c6b1686369870fb1252b1df6620aa1c8f1d186fd6", func := "baggage/baggagelaw20.ScheduleRestores", spec := "scheduleRestores", unfollowed := true, recurses := true, apart := false, narrowed := true }
def ScheduleRestoresUptoSaid : Prop := scheduleRestoresUptoRow.holds Try.pinned (OpenSpec.upto scheduleRestoresSpec)

/-- 'baggagelaw20.SchedulePhases', WHERE WHAT IT READS IS OF BULK AT MOST 1048576: true; the input reads as it did. -/
def schedulePhasesUptoRow : OpenClaim := { program := "ytmigkmdhenkpmaa", sum := "2f895daa0c336fbbc0141d1c6b1686369870fb1252b1df6620aa1c8f1d186fd6", func := "baggage/baggagelaw20.SchedulePhases", spec := "schedulePhases", unfollowed := true, recurses := true, apart := false, narrowed := true }
def SchedulePhasesUptoSaid : Prop := schedulePhasesUptoRow.holds Try.pinned (OpenSpec.upto schedulePhasesSpec)

/-- 'baggagelaw20.ScheduleTimes', WHERE WHAT IT READS IS OF BULK AT MOST 1048576: true; the input reads as it did. -/
def scheduleTimesUptoRow : OpenClaim := { program := "ytmigkmdhenkpmaa", sum := "2f895daa0c336fbbc0141d1c6b1686369870fb1252b1df6620aa1c8f1d186fd6", func := "baggage/baggagelaw20.ScheduleTimes", spec := "scheduleTimes", unfollowed := true, recurses := true, apart := false, narrowed := true }
def ScheduleTimesUptoSaid : Prop := scheduleTimesUptoRow.holds Try.pinned (OpenSpec.upto scheduleTimesSpec)

/-- 'baggagelaw20.ScheduleDeparts', WHERE WHAT IT READS IS OF BULK AT MOST 1048576: true; the input reads as it did. -/
def scheduleDepartsUptoRow : OpenClaim := { program := "ytmigkmdhenkpmaa", sum := "2f895daa0c336fbbc0141d1c6b1686369870fb1252b1df6620aa1c8f1d186fd6", func := "baggage/baggagelaw20.ScheduleDeparts", spec := "scheduleDeparts", unfollowed := true, recurses := true, apart := false, narrowed := true }
def ScheduleDepartsUptoSaid : Prop := scheduleDepartsUptoRow.holds Try.pinned (OpenSpec.upto scheduleDepartsSpec)

/-- 'baggagelaw20.ScheduleScripts', WHERE WHAT IT READS IS OF BULK AT MOST 1048576: true; the input reads as it did. -/
def scheduleScriptsUptoRow : OpenClaim := { program := "ytmigkmdhenkpmaa", sum := "2f895daa0c336fbbc0141d1c6b1686369870fb1252b1df6620aa1c8f1d186fd6", func := "baggage/baggagelaw20.ScheduleScripts", spec := "scheduleScripts", unfollowed := true, recurses := true, apart := false, narrowed := true }
def ScheduleScriptsUptoSaid : Prop := scheduleScriptsUptoRow.holds Try.pinned (OpenSpec.upto scheduleScriptsSpec)

end Rows
end Go.Proofs.Ytmigkmdhenkpmaa
