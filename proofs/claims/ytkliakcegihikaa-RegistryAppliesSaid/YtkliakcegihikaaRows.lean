/-
  No cell of these rows narrows 'for every input' (looked for: loops, veiled, ifaces, maps, wideKeys, modest, calm, conditions, laid).
  DERIVED. THE GIVEN ROWS OF THIS SEAT. 6 by the template 'for every input the law returns true; each argument reads behind the call as it read before'; 0 by the template 'total and deterministic' (their statements: YtkliakcegihikaaTotals.lean).
  GIVEN WITH THE SEED: the statements are not yours to turn. If you find one false, say at which input.
  Laid BY PROGRAM, IN A SANDBOX (cutbox-rows.mjs): the forced cells as the released guide's own fill.sh prints them over the translation 97cc01a3e70a55df… (all of the seat's roots in one cut). By AI agents, Wed Nov 11 2026. No macro, syntax, notation, axiom, sorry.
-/
import Derived.Test.YtkliakcegihikaaChecked
import GoSem.Claim
import GoSem.ClaimJoined
import GoSem.ClaimMapViews
import Derived.JoinedTies
import Derived.KernelRfl
namespace Go.Proofs.Ytkliakcegihikaa
/- THE CELL 'sum', in the pinned program and in every row, IS THE sha256 OF THE DUMP (.gsa) THAT YtkliakcegihikaaProg.lean LOADS. Nothing in Lean hashes anything: it is a label: what it is worth is what the hold of that sum in a sandbox is worth. -/
noncomputable def Try.pinned : Pinned := { name := "ytkliakcegihikaa", sum := "97cc01a3e70a55df57763b57e924071370b8f46850f695a45278e46e58df6214", checked := Try.checked }
namespace Rows
def none {H : Type} : Left H := { results := [], args := [] }

/-- 'baggagelaw06.RegistryApplies': WHATEVER THE INPUT: true; the input reads as it did. -/
def registryAppliesSpec : ChangeSpec := { name := "registryApplies", fn := fun _ => fun
  | [d1, d2, d3] => { results := [.lit (.bool true)], args := [d1, d2, d3] }
  | _ => none }
def registryAppliesRow : OpenClaim := { program := "ytkliakcegihikaa", sum := "97cc01a3e70a55df57763b57e924071370b8f46850f695a45278e46e58df6214", func := "baggage/baggagelaw06.RegistryApplies", spec := "registryApplies", unfollowed := true, recurses := true, apart := false }
def RegistryAppliesSaid : Prop := registryAppliesRow.holds Try.pinned (OpenSpec.ofChange registryAppliesSpec)

/-- ITS FALSE NEIGHBOUR: 'it returns false'. Refute it at one input. -/
def registryAppliesWrong : ChangeSpec := { name := "registryApplies", fn := fun _ => fun
  | [d1, d2, d3] => { results := [.lit (.bool false)], args := [d1, d2, d3] }
  | _ => none }
def RegistryAppliesWrongFalsely : Prop := registryAppliesRow.holds Try.pinned (OpenSpec.ofChange registryAppliesWrong)

/-- 'baggagelaw06.RegistryLocal': WHATEVER THE INPUT: true; the input reads as it did. -/
def registryLocalSpec : ChangeSpec := { name := "registryLocal", fn := fun _ => fun
  | [d] => { results := [.lit (.bool true)], args := [d] }
  | _ => none }
def registryLocalRow : OpenClaim := { program := "ytkliakcegihikaa", sum := "97cc01a3e70a55df57763b57e924071370b8f46850f695a45278e46e58df6214", func := "baggage/baggagelaw06.RegistryLocal", spec := "registryLocal", unfollowed := true, recurses := true, apart := false }
def RegistryLocalSaid : Prop := registryLocalRow.holds Try.pinned (OpenSpec.ofChange registryLocalSpec)

/-- ITS FALSE NEIGHBOUR: 'it returns false'. Refute it at one input. -/
def registryLocalWrong : ChangeSpec := { name := "registryLocal", fn := fun _ => fun
  | [d] => { results := [.lit (.bool false)], args := [d] }
  | _ => none }
def RegistryLocalWrongFalsely : Prop := registryLocalRow.holds Try.pinned (OpenSpec.ofChange registryLocalWrong)

/-- 'baggagelaw06.RegistryUndone': WHATEVER THE INPUT: true; the input reads as it did. -/
def registryUndoneSpec : ChangeSpec := { name := "registryUndone", fn := fun _ => fun
  | [d1, d2] => { results := [.lit (.bool true)], args := [d1, d2] }
  | _ => none }
def registryUndoneRow : OpenClaim := { program := "ytkliakcegihikaa", sum := "97cc01a3e70a55df57763b57e924071370b8f46850f695a45278e46e58df6214", func := "baggage/baggagelaw06.RegistryUndone", spec := "registryUndone", unfollowed := true, recurses := true, apart := false }
def RegistryUndoneSaid : Prop := registryUndoneRow.holds Try.pinned (OpenSpec.ofChange registryUndoneSpec)

/-- ITS FALSE NEIGHBOUR: 'it returns false'. Refute it at one input. -/
def registryUndoneWrong : ChangeSpec := { name := "registryUndone", fn := fun _ => fun
  | [d1, d2] => { results := [.lit (.bool false)], args := [d1, d2] }
  | _ => none }
def RegistryUndoneWrongFalsely : Prop := registryUndoneRow.holds Try.pinned (OpenSpec.ofChange registryUndoneWrong)

/-- 'baggagelaw06.RegistryLimit': WHATEVER THE INPUT: true; the input reads as it did. -/
def registryLimitSpec : ChangeSpec := { name := "registryLimit", fn := fun _ => fun
  | [d] => { results := [.lit (.bool true)], args := [d] }
  | _ => none }
def registryLimitRow : OpenClaim := { program := "ytkliakcegihikaa", sum := "97cc01a3e70a55df57763b57e924071370b8f46850f695a45278e46e58df6214", func := "baggage/baggagelaw06.RegistryLimit", spec := "registryLimit", unfollowed := true, recurses := true, apart := false }
def RegistryLimitSaid : Prop := registryLimitRow.holds Try.pinned (OpenSpec.ofChange registryLimitSpec)

/-- ITS FALSE NEIGHBOUR: 'it returns false'. Refute it at one input. -/
def registryLimitWrong : ChangeSpec := { name := "registryLimit", fn := fun _ => fun
  | [d] => { results := [.lit (.bool false)], args := [d] }
  | _ => none }
def RegistryLimitWrongFalsely : Prop := registryLimitRow.holds Try.pinned (OpenSpec.ofChange registryLimitWrong)

/-- 'baggagelaw06.RegistryFinds': WHATEVER THE INPUT: true; the input reads as it did. -/
def registryFindsSpec : ChangeSpec := { name := "registryFinds", fn := fun _ => fun
  | [d1, d2, d3, d4, d5] => { results := [.lit (.bool true)], args := [d1, d2, d3, d4, d5] }
  | _ => none }
def registryFindsRow : OpenClaim := { program := "ytkliakcegihikaa", sum := "97cc01a3e70a55df57763b57e924071370b8f46850f695a45278e46e58df6214", func := "baggage/baggagelaw06.RegistryFinds", spec := "registryFinds", unfollowed := true, recurses := true, apart := false }
def RegistryFindsSaid : Prop := registryFindsRow.holds Try.pinned (OpenSpec.ofChange registryFindsSpec)

/-- ITS FALSE NEIGHBOUR: 'it returns false'. Refute it at one input. -/
def registryFindsWrong : ChangeSpec := { name := "registryFinds", fn := fun _ => fun
  | [d1, d2, d3, d4, d5] => { results := [.lit (.bool false)], args := [d1, d2, d3, d4, d5] }
  | _ => none }
def RegistryFindsWrongFalsely : Prop := registryFindsRow.holds Try.pinned (OpenSpec.ofChange registryFindsWrong)

/-- 'baggagelaw06.RegistryOwners': WHATEVER THE INPUT: true; the input reads as it did. -/
def registryOwnersSpec : ChangeSpec := { name := "registryOwners", fn := fun _ => fun
  | [d] => { results := [.lit (.bool true)], args := [d] }
  | _ => none }
def registryOwnersRow : OpenClaim := { program := "ytkliakcegihikaa", sum := "97cc01a3e70a55df57763b57e924071370b8f46850f695a45278e46e58df6214", func := "baggage/baggagelaw06.RegistryOwners", spec := "registryOwners", unfollowed := true, recurses := true, apart := false }
def RegistryOwnersSaid : Prop := registryOwnersRow.holds Try.pinned (OpenSpec.ofChange registryOwnersSpec)

/-- ITS FALSE NEIGHBOUR: 'it returns false'. Refute it at one input. -/
def registryOwnersWrong : ChangeSpec := { name := "registryOwners", fn := fun _ => fun
  | [d] => { results := [.lit (.bool false)], args := [d] }
  | _ => none }
def RegistryOwnersWrongFalsely : Prop := registryOwnersRow.holds Try.pinned (OpenSpec.ofChange registryOwnersWrong)

/- THE SECOND FORM. 'bulk': how many values and letters a reading holds, each counted each time it is reached (what is shared counts as often as it is met; a slice's spare places count too). A statement '..UptoSaid' is the law's where the arguments, and the package variables that the reading takes, are together of bulk at most 1048576: NARROWER than '..Said'. Prove '..Said' where nothing that the law and all that it calls make is longer than what came in: it says more and counts as full. Else prove '..UptoSaid'. A law counts once. -/
mutual
def uptoBulk {H : Type} : DataW H → Nat
  | .lit (.string bytes) => bytes.length + 1
  | .lit _ => 1
  | .nil => 1
  | .ptr d => uptoBulk d + 1
  | .slice elems spare => uptoBulkAll elems + uptoBulkAll spare + 1
  | .agg parts => uptoBulkAll parts + 1
  | .iface _ d => uptoBulk d + 1
  | .map entries => uptoBulkEntries entries + 1
  | .held _ => 1
def uptoBulkAll {H : Type} : List (DataW H) → Nat
  | [] => 0
  | d :: r => uptoBulk d + uptoBulkAll r
def uptoBulkEntries {H : Type} : List (Lit × DataW H) → Nat
  | [] => 0
  | x :: r => uptoBulkEntry x + uptoBulkEntries r
def uptoBulkEntry {H : Type} : Lit × DataW H → Nat
  | (.string bytes, d) => bytes.length + uptoBulk d + 1
  | (_, d) => uptoBulk d + 1
 end
def uptoSmall : (H : Type) → List (DataW H) → Bool := fun _ ds => decide (uptoBulkAll ds ≤ 1048576)
def OpenSpec.upto (s : _root_.Go.ChangeSpec) : _root_.Go.OpenSpec := { _root_.Go.OpenSpec.ofChange s with cond := some uptoSmall }

/-- 'baggagelaw06.RegistryApplies', WHERE WHAT IT READS IS OF BULK AT MOST 1048576: true; the input reads as it did. -/
def registryAppliesUptoRow : OpenClaim := { program := "ytkliakcegihikaa", sum := "97cc01a3e70a55df57763b57e924071370b8f46850f695a45278e46e58df6214", func := "baggage/baggagelaw06.RegistryApplies", spec := "registryApplies", unfollowed := true, recurses := true, apart := false, narrowed := true }
def RegistryAppliesUptoSaid : Prop := registryAppliesUptoRow.holds Try.pinned (OpenSpec.upto registryAppliesSpec)

/-- 'baggagelaw06.RegistryLocal', WHERE WHAT IT READS IS OF BULK AT MOST 1048576: true; the input reads as it did. -/
def registryLocalUptoRow : OpenClaim := { program := "ytkliakcegihikaa", sum := "97cc01a3e70a55df57763b57e924071370b8f46850f695a45278e46e58df6214", func := "baggage/baggagelaw06.RegistryLocal", spec := "registryLocal", unfollowed := true, recurses := true, apart := false, narrowed := true }
def RegistryLocalUptoSaid : Prop := registryLocalUptoRow.holds Try.pinned (OpenSpec.upto registryLocalSpec)

/-- 'baggagelaw06.RegistryUndone', WHERE WHAT IT READS IS OF BULK AT MOST 1048576: true; the input reads as it did. -/
def registryUndoneUptoRow : OpenClaim := { program := "ytkliakcegihikaa", sum := "97cc01a3e70a55df57763b57e924071370b8f46850f695a45278e46e58df6214", func := "baggage/baggagelaw06.RegistryUndone", spec := "registryUndone", unfollowed := true, recurses := true, apart := false, narrowed := true }
def RegistryUndoneUptoSaid : Prop := registryUndoneUptoRow.holds Try.pinned (OpenSpec.upto registryUndoneSpec)

/-- 'baggagelaw06.RegistryLimit', WHERE WHAT IT READS IS OF BULK AT MOST 1048576: true; the input reads as it did. -/
def registryLimitUptoRow : OpenClaim := { program := "ytkliakcegihikaa", sum := "97cc01a3e70a55df57763b57e924071370b8f46850f695a45278e46e58df6214", func := "baggage/baggagelaw06.RegistryLimit", spec := "registryLimit", unfollowed := true, recurses := true, apart := false, narrowed := true }
def RegistryLimitUptoSaid : Prop := registryLimitUptoRow.holds Try.pinned (OpenSpec.upto registryLimitSpec)

/-- 'baggagelaw06.RegistryFinds', WHERE WHAT IT READS IS OF BULK AT MOST 1048576: true; the input reads as it did. -/
def registryFindsUptoRow : OpenClaim := { program := "ytkliakcegihikaa", sum := "97cc01a3e70a55df57763b57e924071370b8f46850f695a45278e46e58df6214", func := "baggage/baggagelaw06.RegistryFinds", spec := "registryFinds", unfollowed := true, recurses := true, apart := false, narrowed := true }
def RegistryFindsUptoSaid : Prop := registryFindsUptoRow.holds Try.pinned (OpenSpec.upto registryFindsSpec)

/-- 'baggagelaw06.RegistryOwners', WHERE WHAT IT READS IS OF BULK AT MOST 1048576: true; the input reads as it did. -/
def registryOwnersUptoRow : OpenClaim := { program := "ytkliakcegihikaa", sum := "97cc01a3e70a55df57763b57e924071370b8f46850f695a45278e46e58df6214", func := "baggage/baggagelaw06.RegistryOwners", spec := "registryOwners", unfollowed := true, recurses := true, apart := false, narrowed := true }
def RegistryOwnersUptoSaid : Prop := registryOwnersUptoRow.holds Try.pinned (OpenSpec.upto registryOwnersSpec)

end Rows
end Go.Proofs.Ytkliakcegihikaa
