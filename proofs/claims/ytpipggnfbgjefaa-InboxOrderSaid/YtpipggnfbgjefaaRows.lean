/-
  No cell of these rows narrows 'for every input' (looked for: loops, veiled, ifaces, maps, wideKeys, modest, calm, conditions, laid).
  DERIVED. THE GIVEN ROWS OF THIS SEAT. 5 by the template 'for every input the law returns true; each argument reads behind the call as it read before'; 0 by the template 'total and deterministic' (their statements: YtpipggnfbgjefaaTotals.lean).
  GIVEN WITH THE SEED: the statements are not yours to turn. If you find one false, say at which input.
  Laid BY PROGRAM, IN A SANDBOX (cutbox-rows.mjs): the forced cells as the released guide's own fill.sh prints them over the translation cd3be0158b778f28… (all of the seat's roots in one cut). By AI agents, Wed Nov 11 2026. No macro, syntax, notation, axiom, sorry.
-/
import Derived.Test.YtpipggnfbgjefaaChecked
import GoSem.Claim
import GoSem.ClaimJoined
import GoSem.ClaimMapViews
import Derived.JoinedTies
import Derived.KernelRfl
namespace Go.Proofs.Ytpipggnfbgjefaa
/- THE CELL 'sum', in the pinned program and in every row, IS THE sha256 OF THE DUMP (.gsa) THAT YtpipggnfbgjefaaProg.lean LOADS. Nothing in Lean hashes anything: it is a label: what it is worth is what the hold of that sum in a sandbox is worth. -/
noncomputable def Try.pinned : Pinned := { name := "ytpipggnfbgjefaa", sum := "cd3be0158b778f288c48e30acc27aed17d0482b55f6fd4e4c72a3b30338ff2d1", checked := Try.checked }
namespace Rows
def none {H : Type} : Left H := { results := [], args := [] }

/-- 'baggagelaw05.InboxOrder': WHATEVER THE INPUT: true; the input reads as it did. -/
def inboxOrderSpec : ChangeSpec := { name := "inboxOrder", fn := fun _ => fun
  | [d1, d2, d3] => { results := [.lit (.bool true)], args := [d1, d2, d3] }
  | _ => none }
def inboxOrderRow : OpenClaim := { program := "ytpipggnfbgjefaa", sum := "cd3be0158b778f288c48e30acc27aed17d0482b55f6fd4e4c72a3b30338ff2d1", func := "baggage/baggagelaw05.InboxOrder", spec := "inboxOrder", inPlace := ["internal/bytealg.abigen_runtime_cmpstring", "slices.overlaps[baggage/api.Sender]", "slices.overlaps[baggage/api.Message]"], unfollowed := true, recurses := true, apart := false }
def InboxOrderSaid : Prop := inboxOrderRow.holds Try.pinned (OpenSpec.ofChange inboxOrderSpec)

/-- ITS FALSE NEIGHBOUR: 'it returns false'. Refute it at one input. -/
def inboxOrderWrong : ChangeSpec := { name := "inboxOrder", fn := fun _ => fun
  | [d1, d2, d3] => { results := [.lit (.bool false)], args := [d1, d2, d3] }
  | _ => none }
def InboxOrderWrongFalsely : Prop := inboxOrderRow.holds Try.pinned (OpenSpec.ofChange inboxOrderWrong)

/-- 'baggagelaw05.InboxSenders': WHATEVER THE INPUT: true; the input reads as it did. -/
def inboxSendersSpec : ChangeSpec := { name := "inboxSenders", fn := fun _ => fun
  | [d] => { results := [.lit (.bool true)], args := [d] }
  | _ => none }
def inboxSendersRow : OpenClaim := { program := "ytpipggnfbgjefaa", sum := "cd3be0158b778f288c48e30acc27aed17d0482b55f6fd4e4c72a3b30338ff2d1", func := "baggage/baggagelaw05.InboxSenders", spec := "inboxSenders", inPlace := ["internal/bytealg.abigen_runtime_cmpstring", "slices.overlaps[baggage/api.Sender]", "slices.overlaps[baggage/api.Message]"], unfollowed := true, recurses := true, apart := false }
def InboxSendersSaid : Prop := inboxSendersRow.holds Try.pinned (OpenSpec.ofChange inboxSendersSpec)

/-- ITS FALSE NEIGHBOUR: 'it returns false'. Refute it at one input. -/
def inboxSendersWrong : ChangeSpec := { name := "inboxSenders", fn := fun _ => fun
  | [d] => { results := [.lit (.bool false)], args := [d] }
  | _ => none }
def InboxSendersWrongFalsely : Prop := inboxSendersRow.holds Try.pinned (OpenSpec.ofChange inboxSendersWrong)

/-- 'baggagelaw05.InboxConflicts': WHATEVER THE INPUT: true; the input reads as it did. -/
def inboxConflictsSpec : ChangeSpec := { name := "inboxConflicts", fn := fun _ => fun
  | [d1, d2] => { results := [.lit (.bool true)], args := [d1, d2] }
  | _ => none }
def inboxConflictsRow : OpenClaim := { program := "ytpipggnfbgjefaa", sum := "cd3be0158b778f288c48e30acc27aed17d0482b55f6fd4e4c72a3b30338ff2d1", func := "baggage/baggagelaw05.InboxConflicts", spec := "inboxConflicts", inPlace := ["internal/bytealg.abigen_runtime_cmpstring", "slices.overlaps[baggage/api.Sender]", "slices.overlaps[baggage/api.Message]"], unfollowed := true, recurses := true, apart := false }
def InboxConflictsSaid : Prop := inboxConflictsRow.holds Try.pinned (OpenSpec.ofChange inboxConflictsSpec)

/-- ITS FALSE NEIGHBOUR: 'it returns false'. Refute it at one input. -/
def inboxConflictsWrong : ChangeSpec := { name := "inboxConflicts", fn := fun _ => fun
  | [d1, d2] => { results := [.lit (.bool false)], args := [d1, d2] }
  | _ => none }
def InboxConflictsWrongFalsely : Prop := inboxConflictsRow.holds Try.pinned (OpenSpec.ofChange inboxConflictsWrong)

/-- 'baggagelaw05.InboxScript': WHATEVER THE INPUT: true; the input reads as it did. -/
def inboxScriptSpec : ChangeSpec := { name := "inboxScript", fn := fun _ => fun
  | [d1, d2, d3] => { results := [.lit (.bool true)], args := [d1, d2, d3] }
  | _ => none }
def inboxScriptRow : OpenClaim := { program := "ytpipggnfbgjefaa", sum := "cd3be0158b778f288c48e30acc27aed17d0482b55f6fd4e4c72a3b30338ff2d1", func := "baggage/baggagelaw05.InboxScript", spec := "inboxScript", inPlace := ["internal/bytealg.abigen_runtime_cmpstring", "slices.overlaps[baggage/api.Sender]", "slices.overlaps[baggage/api.Message]"], unfollowed := true, recurses := true, apart := false }
def InboxScriptSaid : Prop := inboxScriptRow.holds Try.pinned (OpenSpec.ofChange inboxScriptSpec)

/-- ITS FALSE NEIGHBOUR: 'it returns false'. Refute it at one input. -/
def inboxScriptWrong : ChangeSpec := { name := "inboxScript", fn := fun _ => fun
  | [d1, d2, d3] => { results := [.lit (.bool false)], args := [d1, d2, d3] }
  | _ => none }
def InboxScriptWrongFalsely : Prop := inboxScriptRow.holds Try.pinned (OpenSpec.ofChange inboxScriptWrong)

/-- 'baggagelaw05.InboxGaps': WHATEVER THE INPUT: true; the input reads as it did. -/
def inboxGapsSpec : ChangeSpec := { name := "inboxGaps", fn := fun _ => fun
  | [d] => { results := [.lit (.bool true)], args := [d] }
  | _ => none }
def inboxGapsRow : OpenClaim := { program := "ytpipggnfbgjefaa", sum := "cd3be0158b778f288c48e30acc27aed17d0482b55f6fd4e4c72a3b30338ff2d1", func := "baggage/baggagelaw05.InboxGaps", spec := "inboxGaps", inPlace := ["internal/bytealg.abigen_runtime_cmpstring", "slices.overlaps[baggage/api.Sender]", "slices.overlaps[baggage/api.Message]"], unfollowed := true, recurses := true, apart := false }
def InboxGapsSaid : Prop := inboxGapsRow.holds Try.pinned (OpenSpec.ofChange inboxGapsSpec)

/-- ITS FALSE NEIGHBOUR: 'it returns false'. Refute it at one input. -/
def inboxGapsWrong : ChangeSpec := { name := "inboxGaps", fn := fun _ => fun
  | [d] => { results := [.lit (.bool false)], args := [d] }
  | _ => none }
def InboxGapsWrongFalsely : Prop := inboxGapsRow.holds Try.pinned (OpenSpec.ofChange inboxGapsWrong)

/- THE SECOND FORM. 'bulk': how many values and letters a reading holds, each counted each time it is reached (what is shared counts as often as it is met; a slice's spare places count too). A statement '..UptoSaid' is the law's where the arguments, and the package variables that the reading takes, are together of bulk at most 1048576: NARROWER than '..Said'. Prove '..Said' where nothing that the law and all that it calls make is longer than what came in: it says more and counts as full. Else prove '..UptoSaid'. A law counts once. -/
mutual
def uptoBulk {H : Type} : DataW H → Nat
  | .lit (.string bytes) => bytes.length + 1
  | .lit _ => 1
  | .nil => 1
  | .ptr d => uptoBulk d + 1
  | .slice elems spare => uptoBulkAll elems + uptoBulkAll spare + 1
  | .agg parts => uptoBulkAll parts + 1
  | .iface _ d => uptoBulk d + 1
  | .map entries => uptoBulkEntries entries + 1
  | .held _ => 1
def uptoBulkAll {H : Type} : List (DataW H) → Nat
  | [] => 0
  | d :: r => uptoBulk d + uptoBulkAll r
def uptoBulkEntries {H : Type} : List (Lit × DataW H) → Nat
  | [] => 0
  | x :: r => uptoBulkEntry x + uptoBulkEntries r
def uptoBulkEntry {H : Type} : Lit × DataW H → Nat
  | (.string bytes, d) => bytes.length + uptoBulk d + 1
  | (_, d) => uptoBulk d + 1
 end
def uptoSmall : (H : Type) → List (DataW H) → Bool := fun _ ds => decide (uptoBulkAll ds ≤ 1048576)
def OpenSpec.upto (s : _root_.Go.ChangeSpec) : _root_.Go.OpenSpec := { _root_.Go.OpenSpec.ofChange s with cond := some uptoSmall }

/-- 'baggagelaw05.InboxOrder', WHERE WHAT IT READS IS OF BULK AT MOST 1048576: true; the input reads as it did. -/
def inboxOrderUptoRow : OpenClaim := { program := "ytpipggnfbgjefaa", sum := "cd3be0158b778f288c48e30acc27aed17d0482b55f6fd4e4c72a3b30338ff2d1", func := "baggage/baggagelaw05.InboxOrder", spec := "inboxOrder", inPlace := ["internal/bytealg.abigen_runtime_cmpstring", "slices.overlaps[baggage/api.Sender]", "slices.overlaps[baggage/api.Message]"], unfollowed := true, recurses := true, apart := false, narrowed := true }
def InboxOrderUptoSaid : Prop := inboxOrderUptoRow.holds Try.pinned (OpenSpec.upto inboxOrderSpec)

/-- 'baggagelaw05.InboxSenders', WHERE WHAT IT READS IS OF BULK AT MOST 1048576: true; the input reads as it did. -/
def inboxSendersUptoRow : OpenClaim := { program := "ytpipggnfbgjefaa", sum := "cd3be0158b778f288c48e30acc27aed17d0482b55f6fd4e4c72a3b30338ff2d1", func := "baggage/baggagelaw05.InboxSenders", spec := "inboxSenders", inPlace := ["internal/bytealg.abigen_runtime_cmpstring", "slices.overlaps[baggage/api.Sender]", "slices.overlaps[baggage/api.Message]"], unfollowed := true, recurses := true, apart := false, narrowed := true }
def InboxSendersUptoSaid : Prop := inboxSendersUptoRow.holds Try.pinned (OpenSpec.upto inboxSendersSpec)

/-- 'baggagelaw05.InboxConflicts', WHERE WHAT IT READS IS OF BULK AT MOST 1048576: true; the input reads as it did. -/
def inboxConflictsUptoRow : OpenClaim := { program := "ytpipggnfbgjefaa", sum := "cd3be0158b778f288c48e30acc27aed17d0482b55f6fd4e4c72a3b30338ff2d1", func := "baggage/baggagelaw05.InboxConflicts", spec := "inboxConflicts", inPlace := ["internal/bytealg.abigen_runtime_cmpstring", "slices.overlaps[baggage/api.Sender]", "slices.overlaps[baggage/api.Message]"], unfollowed := true, recurses := true, apart := false, narrowed := true }
def InboxConflictsUptoSaid : Prop := inboxConflictsUptoRow.holds Try.pinned (OpenSpec.upto inboxConflictsSpec)

/-- 'baggagelaw05.InboxScript', WHERE WHAT IT READS IS OF BULK AT MOST 1048576: true; the input reads as it did. -/
def inboxScriptUptoRow : OpenClaim := { program := "ytpipggnfbgjefaa", sum := "cd3be0158b778f288c48e30acc27aed17d0482b55f6fd4e4c72a3b30338ff2d1", func := "baggage/baggagelaw05.InboxScript", spec := "inboxScript", inPlace := ["internal/bytealg.abigen_runtime_cmpstring", "slices.overlaps[baggage/api.Sender]", "slices.overlaps[baggage/api.Message]"], unfollowed := true, recurses := true, apart := false, narrowed := true }
def InboxScriptUptoSaid : Prop := inboxScriptUptoRow.holds Try.pinned (OpenSpec.upto inboxScriptSpec)

/-- 'baggagelaw05.InboxGaps', WHERE WHAT IT READS IS OF BULK AT MOST 1048576: true; the input reads as it did. -/
def inboxGapsUptoRow : OpenClaim := { program := "ytpipggnfbgjefaa", sum := "cd3be0158b778f288c48e30acc27aed17d0482b55f6fd4e4c72a3b30338ff2d1", func := "baggage/baggagelaw05.InboxGaps", spec := "inboxGaps", inPlace := ["internal/bytealg.abigen_runtime_cmpstring", "slices.overlaps[baggage/api.Sender]", "slices.overlaps[baggage/api.Message]"], unfollowed := true, recurses := true, apart := false, narrowed := true }
def InboxGapsUptoSaid : Prop := inboxGapsUptoRow.holds Try.pinned (OpenSpec.upto inboxGapsSpec)

end Rows
end Go.Proofs.Ytpipggnfbgjefaa
