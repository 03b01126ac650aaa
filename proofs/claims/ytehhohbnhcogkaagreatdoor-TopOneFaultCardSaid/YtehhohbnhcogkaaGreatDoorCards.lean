/-
  DERIVED. GIVEN WITH THE SEED: THE CARDS: each row of YtehhohbnhcogkaaGreatDoorRows.lean that lists a variable, with what it lists TIED to the program's text (the seventh form; the later family's looks); each row that meets fmt, with fmt's text TOLD by the authors' own Lean function (tested against real Go, not proved from fmt's source: count such statements apart). THE CARD IS WHAT COUNTS. Prove the row's statement (the work); the ties are given (YtehhohbnhcogkaaGreatDoorTie.lean); close each card by the builder's one call (the guide's Derived/Test/ToyasCard.lean, 'card_holds'). Laid BY PROGRAM, IN A SANDBOX (cutbox-door.mjs). By AI agents, Wed Nov 11 2026. No macro, syntax, notation, axiom, sorry.
-/
import Derived.Test.YtehhohbnhcogkaaGreatDoorRows
import GoSem.ClaimSeven
namespace Go.Proofs.YtehhohbnhcogkaaGreatDoor
namespace Rows

/-- THE TIED CARD OF 'baggagetop.TopOneFault'. -/
def topOneFaultCard : Claim7 := { stood := { row := topOneFaultRow, standIns := [], harness := (true, "63c9c6f7782ba82dddec28d3f52a92e9e6a6a63a019fe8de43d7aee66407703d"), looks := false }, kinds := [], alts := [], laidByText := true, laidKinds := [.data, .data, .data], laidTests := true, laidLooks := .later }
def TopOneFaultCardSaid : Prop := Claim7.holds Tryz.pinned (.plain (OpenSpec.ofChange topOneFaultSpec)) topOneFaultCard

/-- THE SECOND FORM's CARD OF 'baggagetop.TopOneFault'. -/
def topOneFaultUptoCard : Claim7 := { stood := { row := topOneFaultUptoRow, standIns := [], harness := (true, "63c9c6f7782ba82dddec28d3f52a92e9e6a6a63a019fe8de43d7aee66407703d"), looks := false }, kinds := [], alts := [], laidByText := true, laidKinds := [.data, .data, .data], laidTests := true, laidLooks := .later }
def TopOneFaultUptoCardSaid : Prop := Claim7.holds Tryz.pinned (.plain (OpenSpec.upto topOneFaultSpec)) topOneFaultUptoCard
end Rows
end Go.Proofs.YtehhohbnhcogkaaGreatDoor
