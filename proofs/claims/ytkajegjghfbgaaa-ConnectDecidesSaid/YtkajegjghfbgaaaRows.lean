/-
  No cell of these rows narrows 'for every input' (looked for: loops, veiled, ifaces, maps, wideKeys, modest, calm, conditions, laid).
  DERIVED. THE GIVEN ROWS OF THIS SEAT. 8 by the template 'for every input the law returns true; each argument reads behind the call as it read before'; 0 by the template 'total and deterministic' (their statements: YtkajegjghfbgaaaTotals.lean).
  GIVEN WITH THE SEED: the statements are not yours to turn. If you find one false, say at which input.
  Laid BY PROGRAM, IN A SANDBOX (cutbox-rows.mjs): the forced cells as the released guide's own fill.sh prints them over the translation 49ecc5a1d3a7dcf2… (all of the seat's roots in one cut). By AI agents, Wed Nov 11 2026. No macro, syntax, notation, axiom, sorry.
-/
import Derived.Test.YtkajegjghfbgaaaChecked
import GoSem.Claim
import GoSem.ClaimJoined
import GoSem.ClaimMapViews
import Derived.JoinedTies
import Derived.KernelRfl
namespace Go.Proofs.Ytkajegjghfbgaaa
/- THE CELL 'sum', in the pinned program and in every row, IS THE sha256 OF THE DUMP (.gsa) THAT YtkajegjghfbgaaaProg.lean LOADS. Nothing in Lean hashes anything: it is a label: what it is worth is what the hold of that sum in a sandbox is worth. -/
noncomputable def Try.pinned : Pinned := { name := "ytkajegjghfbgaaa", sum := "49ecc5a1d3a7dcf21c614589ba3ec95d27b9553e78b2afc3ddda99982cb45380", checked := Try.checked }
namespace Rows
def none {H : Type} : Left H := { results := [], args := [] }

/-- 'baggagelaw24.ConnectValidates': WHATEVER THE INPUT: true; the input reads as it did. -/
def connectValidatesSpec : ChangeSpec := { name := "connectValidates", fn := fun _ => fun
  | [d1, d2, d3, d4] => { results := [.lit (.bool true)], args := [d1, d2, d3, d4] }
  | _ => none }
def connectValidatesRow : OpenClaim := { program := "ytkajegjghfbgaaa", sum := "49ecc5a1d3a7dcf21c614589ba3ec95d27b9553e78b2afc3ddda99982cb45380", func := "baggage/baggagelaw24.ConnectValidates", spec := "connectValidates", unfollowed := true, recurses := true, plainKeys := false, apart := false }
def ConnectValidatesSaid : Prop := connectValidatesRow.holds Try.pinned (OpenSpec.ofChange connectValidatesSpec)

/-- ITS FALSE NEIGHBOUR: 'it returns false'. Refute it at one input. -/
def connectValidatesWrong : ChangeSpec := { name := "connectValidates", fn := fun _ => fun
  | [d1, d2, d3, d4] => { results := [.lit (.bool false)], args := [d1, d2, d3, d4] }
  | _ => none }
def ConnectValidatesWrongFalsely : Prop := connectValidatesRow.holds Try.pinned (OpenSpec.ofChange connectValidatesWrong)

/-- 'baggagelaw24.ConnectWays': WHATEVER THE INPUT: true; the input reads as it did. -/
def connectWaysSpec : ChangeSpec := { name := "connectWays", fn := fun _ => fun
  | [d1, d2] => { results := [.lit (.bool true)], args := [d1, d2] }
  | _ => none }
def connectWaysRow : OpenClaim := { program := "ytkajegjghfbgaaa", sum := "49ecc5a1d3a7dcf21c614589ba3ec95d27b9553e78b2afc3ddda99982cb45380", func := "baggage/baggagelaw24.ConnectWays", spec := "connectWays", unfollowed := true, recurses := true, plainKeys := false, apart := false }
def ConnectWaysSaid : Prop := connectWaysRow.holds Try.pinned (OpenSpec.ofChange connectWaysSpec)

/-- ITS FALSE NEIGHBOUR: 'it returns false'. Refute it at one input. -/
def connectWaysWrong : ChangeSpec := { name := "connectWays", fn := fun _ => fun
  | [d1, d2] => { results := [.lit (.bool false)], args := [d1, d2] }
  | _ => none }
def ConnectWaysWrongFalsely : Prop := connectWaysRow.holds Try.pinned (OpenSpec.ofChange connectWaysWrong)

/-- 'baggagelaw24.ConnectTriangle': WHATEVER THE INPUT: true; the input reads as it did. -/
def connectTriangleSpec : ChangeSpec := { name := "connectTriangle", fn := fun _ => fun
  | [d] => { results := [.lit (.bool true)], args := [d] }
  | _ => none }
def connectTriangleRow : OpenClaim := { program := "ytkajegjghfbgaaa", sum := "49ecc5a1d3a7dcf21c614589ba3ec95d27b9553e78b2afc3ddda99982cb45380", func := "baggage/baggagelaw24.ConnectTriangle", spec := "connectTriangle", unfollowed := true, recurses := true, plainKeys := false, apart := false }
def ConnectTriangleSaid : Prop := connectTriangleRow.holds Try.pinned (OpenSpec.ofChange connectTriangleSpec)

/-- ITS FALSE NEIGHBOUR: 'it returns false'. Refute it at one input. -/
def connectTriangleWrong : ChangeSpec := { name := "connectTriangle", fn := fun _ => fun
  | [d] => { results := [.lit (.bool false)], args := [d] }
  | _ => none }
def ConnectTriangleWrongFalsely : Prop := connectTriangleRow.holds Try.pinned (OpenSpec.ofChange connectTriangleWrong)

/-- 'baggagelaw24.ConnectDecides': WHATEVER THE INPUT: true; the input reads as it did. -/
def connectDecidesSpec : ChangeSpec := { name := "connectDecides", fn := fun _ => fun
  | [d1, d2, d3, d4] => { results := [.lit (.bool true)], args := [d1, d2, d3, d4] }
  | _ => none }
def connectDecidesRow : OpenClaim := { program := "ytkajegjghfbgaaa", sum := "49ecc5a1d3a7dcf21c614589ba3ec95d27b9553e78b2afc3ddda99982cb45380", func := "baggage/baggagelaw24.ConnectDecides", spec := "connectDecides", unfollowed := true, recurses := true, plainKeys := false, apart := false }
def ConnectDecidesSaid : Prop := connectDecidesRow.holds Try.pinned (OpenSpec.ofChange connectDecidesSpec)

/-- ITS FALSE NEIGHBOUR: 'it returns false'. Refute it at one input. -/
def connectDecidesWrong : ChangeSpec := { name := "connectDecides", fn := fun _ => fun
  | [d1, d2, d3, d4] => { results := [.lit (.bool false)], args := [d1, d2, d3, d4] }
  | _ => none }
def ConnectDecidesWrongFalsely : Prop := connectDecidesRow.holds Try.pinned (OpenSpec.ofChange connectDecidesWrong)

/-- 'baggagelaw24.ConnectFirst': WHATEVER THE INPUT: true; the input reads as it did. -/
def connectFirstSpec : ChangeSpec := { name := "connectFirst", fn := fun _ => fun
  | [d] => { results := [.lit (.bool true)], args := [d] }
  | _ => none }
def connectFirstRow : OpenClaim := { program := "ytkajegjghfbgaaa", sum := "49ecc5a1d3a7dcf21c614589ba3ec95d27b9553e78b2afc3ddda99982cb45380", func := "baggage/baggagelaw24.ConnectFirst", spec := "connectFirst", unfollowed := true, recurses := true, plainKeys := false, apart := false }
def ConnectFirstSaid : Prop := connectFirstRow.holds Try.pinned (OpenSpec.ofChange connectFirstSpec)

/-- ITS FALSE NEIGHBOUR: 'it returns false'. Refute it at one input. -/
def connectFirstWrong : ChangeSpec := { name := "connectFirst", fn := fun _ => fun
  | [d] => { results := [.lit (.bool false)], args := [d] }
  | _ => none }
def ConnectFirstWrongFalsely : Prop := connectFirstRow.holds Try.pinned (OpenSpec.ofChange connectFirstWrong)

/-- 'baggagelaw24.ConnectWaits': WHATEVER THE INPUT: true; the input reads as it did. -/
def connectWaitsSpec : ChangeSpec := { name := "connectWaits", fn := fun _ => fun
  | [d] => { results := [.lit (.bool true)], args := [d] }
  | _ => none }
def connectWaitsRow : OpenClaim := { program := "ytkajegjghfbgaaa", sum := "49ecc5a1d3a7dcf21c614589ba3ec95d27b9553e78b2afc3ddda99982cb45380", func := "baggage/baggagelaw24.ConnectWaits", spec := "connectWaits", unfollowed := true, recurses := true, plainKeys := false, apart := false }
def ConnectWaitsSaid : Prop := connectWaitsRow.holds Try.pinned (OpenSpec.ofChange connectWaitsSpec)

/-- ITS FALSE NEIGHBOUR: 'it returns false'. Refute it at one input. -/
def connectWaitsWrong : ChangeSpec := { name := "connectWaits", fn := fun _ => fun
  | [d] => { results := [.lit (.bool false)], args := [d] }
  | _ => none }
def ConnectWaitsWrongFalsely : Prop := connectWaitsRow.holds Try.pinned (OpenSpec.ofChange connectWaitsWrong)

/-- 'baggagelaw24.ConnectSlacks': WHATEVER THE INPUT: true; the input reads as it did. -/
def connectSlacksSpec : ChangeSpec := { name := "connectSlacks", fn := fun _ => fun
  | [d1, d2, d3, d4, d5] => { results := [.lit (.bool true)], args := [d1, d2, d3, d4, d5] }
  | _ => none }
def connectSlacksRow : OpenClaim := { program := "ytkajegjghfbgaaa", sum := "49ecc5a1d3a7dcf21c614589ba3ec95d27b9553e78b2afc3ddda99982cb45380", func := "baggage/baggagelaw24.ConnectSlacks", spec := "connectSlacks", unfollowed := true, recurses := true, plainKeys := false, apart := false }
def ConnectSlacksSaid : Prop := connectSlacksRow.holds Try.pinned (OpenSpec.ofChange connectSlacksSpec)

/-- ITS FALSE NEIGHBOUR: 'it returns false'. Refute it at one input. -/
def connectSlacksWrong : ChangeSpec := { name := "connectSlacks", fn := fun _ => fun
  | [d1, d2, d3, d4, d5] => { results := [.lit (.bool false)], args := [d1, d2, d3, d4, d5] }
  | _ => none }
def ConnectSlacksWrongFalsely : Prop := connectSlacksRow.holds Try.pinned (OpenSpec.ofChange connectSlacksWrong)

/-- 'baggagelaw24.ConnectLeaves': WHATEVER THE INPUT: true; the input reads as it did. -/
def connectLeavesSpec : ChangeSpec := { name := "connectLeaves", fn := fun _ => fun
  | [d] => { results := [.lit (.bool true)], args := [d] }
  | _ => none }
def connectLeavesRow : OpenClaim := { program := "ytkajegjghfbgaaa", sum := "49ecc5a1d3a7dcf21c614589ba3ec95d27b9553e78b2afc3ddda99982cb45380", func := "baggage/baggagelaw24.ConnectLeaves", spec := "connectLeaves", unfollowed := true, recurses := true, plainKeys := false, apart := false }
def ConnectLeavesSaid : Prop := connectLeavesRow.holds Try.pinned (OpenSpec.ofChange connectLeavesSpec)

/-- ITS FALSE NEIGHBOUR: 'it returns false'. Refute it at one input. -/
def connectLeavesWrong : ChangeSpec := { name := "connectLeaves", fn := fun _ => fun
  | [d] => { results := [.lit (.bool false)], args := [d] }
  | _ => none }
def ConnectLeavesWrongFalsely : Prop := connectLeavesRow.holds Try.pinned (OpenSpec.ofChange connectLeavesWrong)

/- THE SECOND FORM. 'bulk': how many values and letters a reading holds, each counted each time it is reached (what is shared counts as often as it is met; a slice's spare places count too). A statement '..UptoSaid' is the law's where the arguments, and the package variables that the reading takes, are together of bulk at most 1048576: NARROWER than '..Said'. Prove '..Said' where nothing that the law and all that it calls make is longer than what came in: it says more and counts as full. Else prove '..UptoSaid'. A law counts once. -/
mutual
def uptoBulk {H : Type} : DataW H → Nat
  | .lit (.string bytes) => bytes.length + 1
  | .lit _ => 1
  | .nil => 1
  | .ptr d => uptoBulk d + 1
  | .slice elems spare => uptoBulkAll elems + uptoBulkAll spare + 1
  | .agg parts => uptoBulkAll parts + 1
  | .iface _ d => uptoBulk d + 1
  | .map entries => uptoBulkEntries entries + 1
  | .held _ => 1
def uptoBulkAll {H : Type} : List (DataW H) → Nat
  | [] => 0
  | d :: r => uptoBulk d + uptoBulkAll r
def uptoBulkEntries {H : Type} : List (Lit × DataW H) → Nat
  | [] => 0
  | x :: r => uptoBulkEntry x + uptoBulkEntries r
def uptoBulkEntry {H : Type} : Lit × DataW H → Nat
  | (.string bytes, d) => bytes.length + uptoBulk d + 1
  | (_, d) => uptoBulk d + 1
 end
def uptoSmall : (H : Type) → List (DataW H) → Bool := fun _ ds => decide (uptoBulkAll ds ≤ 1048576)
def OpenSpec.upto (s : _root_.Go.ChangeSpec) : _root_.Go.OpenSpec := { _root_.Go.OpenSpec.ofChange s with cond := some uptoSmall }

/-- 'baggagelaw24.ConnectValidates', WHERE WHAT IT READS IS OF BULK AT MOST 1048576: true; the input reads as it did. -/
def connectValidatesUptoRow : OpenClaim := { program := "ytkajegjghfbgaaa", sum := "49ecc5a1d3a7dcf21c614589ba3ec95d27b9553e78b2afc3ddda99982cb45380", func := "baggage/baggagelaw24.ConnectValidates", spec := "connectValidates", unfollowed := true, recurses := true, plainKeys := false, apart := false, narrowed := true }
def ConnectValidatesUptoSaid : Prop := connectValidatesUptoRow.holds Try.pinned (OpenSpec.upto connectValidatesSpec)

/-- 'baggagelaw24.ConnectWays', WHERE WHAT IT READS IS OF BULK AT MOST 1048576: true; the input reads as it did. -/
def connectWaysUptoRow : OpenClaim := { program := "ytkajegjghfbgaaa", sum := "49ecc5a1d3a7dcf21c614589ba3ec95d27b9553e78b2afc3ddda99982cb45380", func := "baggage/baggagelaw24.ConnectWays", spec := "connectWays", unfollowed := true, recurses := true, plainKeys := false, apart := false, narrowed := true }
def ConnectWaysUptoSaid : Prop := connectWaysUptoRow.holds Try.pinned (OpenSpec.upto connectWaysSpec)

/-- 'baggagelaw24.ConnectTriangle', WHERE WHAT IT READS IS OF BULK AT MOST 1048576: true; the input reads as it did. -/
def connectTriangleUptoRow : OpenClaim := { program := "ytkajegjghfbgaaa", sum := "49ecc5a1d3a7dcf21c614589ba3ec95d27b9553e78b2afc3ddda99982cb45380", func := "baggage/baggagelaw24.ConnectTriangle", spec := "connectTriangle", unfollowed := true, recurses := true, plainKeys := false, apart := false, narrowed := true }
def ConnectTriangleUptoSaid : Prop := connectTriangleUptoRow.holds Try.pinned (OpenSpec.upto connectTriangleSpec)

/-- 'baggagelaw24.ConnectDecides', WHERE WHAT IT READS IS OF BULK AT MOST 1048576: true; the input reads as it did. -/
def connectDecidesUptoRow : OpenClaim := { program := "ytkajegjghfbgaaa", sum := "49ecc5a1d3a7dcf21c614589ba3ec95d27b9553e78b2afc3ddda99982cb45380", func := "baggage/baggagelaw24.ConnectDecides", spec := "connectDecides", unfollowed := true, recurses := true, plainKeys := false, apart := false, narrowed := true }
def ConnectDecidesUptoSaid : Prop := connectDecidesUptoRow.holds Try.pinned (OpenSpec.upto connectDecidesSpec)

/-- 'baggagelaw24.ConnectFirst', WHERE WHAT IT READS IS OF BULK AT MOST 1048576: true; the input reads as it did. -/
def connectFirstUptoRow : OpenClaim := { program := "ytkajegjghfbgaaa", sum := "49ecc5a1d3a7dcf21c614589ba3ec95d27b9553e78b2afc3ddda99982cb45380", func := "baggage/baggagelaw24.ConnectFirst", spec := "connectFirst", unfollowed := true, recurses := true, plainKeys := false, apart := false, narrowed := true }
def ConnectFirstUptoSaid : Prop := connectFirstUptoRow.holds Try.pinned (OpenSpec.upto connectFirstSpec)

/-- 'baggagelaw24.ConnectWaits', WHERE WHAT IT READS IS OF BULK AT MOST 1048576: true; the input reads as it did. -/
def connectWaitsUptoRow : OpenClaim := { program := "ytkajegjghfbgaaa", sum := "49ecc5a1d3a7dcf21c614589ba3ec95d27b9553e78b2afc3ddda99982cb45380", func := "baggage/baggagelaw24.ConnectWaits", spec := "connectWaits", unfollowed := true, recurses := true, plainKeys := false, apart := false, narrowed := true }
def ConnectWaitsUptoSaid : Prop := connectWaitsUptoRow.holds Try.pinned (OpenSpec.upto connectWaitsSpec)

/-- 'baggagelaw24.ConnectSlacks', WHERE WHAT IT READS IS OF BULK AT MOST 1048576: true; the input reads as it did. -/
def connectSlacksUptoRow : OpenClaim := { program := "ytkajegjghfbgaaa", sum := "49ecc5a1d3a7dcf21c614589ba3ec95d27b9553e78b2afc3ddda99982cb45380", func := "baggage/baggagelaw24.ConnectSlacks", spec := "connectSlacks", unfollowed := true, recurses := true, plainKeys := false, apart := false, narrowed := true }
def ConnectSlacksUptoSaid : Prop := connectSlacksUptoRow.holds Try.pinned (OpenSpec.upto connectSlacksSpec)

/-- 'baggagelaw24.ConnectLeaves', WHERE WHAT IT READS IS OF BULK AT MOST 1048576: true; the input reads as it did. -/
def connectLeavesUptoRow : OpenClaim := { program := "ytkajegjghfbgaaa", sum := "49ecc5a1d3a7dcf21c614589ba3ec95d27b9553e78b2afc3ddda99982cb45380", func := "baggage/baggagelaw24.ConnectLeaves", spec := "connectLeaves", unfollowed := true, recurses := true, plainKeys := false, apart := false, narrowed := true }
def ConnectLeavesUptoSaid : Prop := connectLeavesUptoRow.holds Try.pinned (OpenSpec.upto connectLeavesSpec)

end Rows
end Go.Proofs.Ytkajegjghfbgaaa
