/-
  DERIVED. GIVEN WITH THE SEED: THE CARDS: each row of YtbiofbmjonmglaaDoorRows.lean that lists a variable, with what it lists TIED to the program's text (the seventh form; the later family's looks); each row that meets fmt, with fmt's text TOLD by the authors' own Lean function (tested against real Go, not proved from fmt's source: count such statements apart). THE CARD IS WHAT COUNTS. Prove the row's statement (the work); the ties are given (YtbiofbmjonmglaaDoorTie.lean); close each card by the builder's one call (the guide's Derived/Test/ToyasCard.lean, 'card_holds'). Laid BY PROGRAM, IN A SANDBOX (cutbox-door.mjs). By AI agents, Wed Nov 11 2026. No macro, syntax, notation, axiom, sorry.
-/
import Derived.Test.YtbiofbmjonmglaaDoorRows
import GoSem.ClaimSeven
namespace Go.Proofs.YtbiofbmjonmglaaDoor
namespace Rows

/-- THE TIED CARD OF 'baggagelaw26.AuthorityDecides'. -/
def authorityDecidesCard : Claim7 := { stood := { row := authorityDecidesRow, standIns := [], harness := (true, "6af8848507c201b2d320569988c169c6dcd7c91efd51908524ca3d048d15faac"), looks := false }, kinds := [], alts := [], laidByText := true, laidKinds := [.data], laidTests := true, laidLooks := .later }
def AuthorityDecidesCardSaid : Prop := Claim7.holds Tryd.pinned (.plain (OpenSpec.ofChange authorityDecidesSpec)) authorityDecidesCard

/-- THE TIED CARD OF 'baggagelaw26.AuthorityFinal'. -/
def authorityFinalCard : Claim7 := { stood := { row := authorityFinalRow, standIns := [], harness := (true, "6af8848507c201b2d320569988c169c6dcd7c91efd51908524ca3d048d15faac"), looks := false }, kinds := [], alts := [], laidByText := true, laidKinds := [.data], laidTests := true, laidLooks := .later }
def AuthorityFinalCardSaid : Prop := Claim7.holds Tryd.pinned (.plain (OpenSpec.ofChange authorityFinalSpec)) authorityFinalCard

/-- THE TIED CARD OF 'baggagelaw26.AuthorityNever'. -/
def authorityNeverCard : Claim7 := { stood := { row := authorityNeverRow, standIns := [], harness := (true, "6af8848507c201b2d320569988c169c6dcd7c91efd51908524ca3d048d15faac"), looks := false }, kinds := [], alts := [], laidByText := true, laidKinds := [.data], laidTests := true, laidLooks := .later }
def AuthorityNeverCardSaid : Prop := Claim7.holds Tryd.pinned (.plain (OpenSpec.ofChange authorityNeverSpec)) authorityNeverCard

/-- THE TIED CARD OF 'baggagelaw26.AuthorityMore'. -/
def authorityMoreCard : Claim7 := { stood := { row := authorityMoreRow, standIns := [], harness := (true, "6af8848507c201b2d320569988c169c6dcd7c91efd51908524ca3d048d15faac"), looks := false }, kinds := [], alts := [], laidByText := true, laidKinds := [.data], laidTests := true, laidLooks := .later }
def AuthorityMoreCardSaid : Prop := Claim7.holds Tryd.pinned (.plain (OpenSpec.ofChange authorityMoreSpec)) authorityMoreCard

/-- THE TIED CARD OF 'baggagelaw26.AuthorityWithdraws'. -/
def authorityWithdrawsCard : Claim7 := { stood := { row := authorityWithdrawsRow, standIns := [], harness := (true, "6af8848507c201b2d320569988c169c6dcd7c91efd51908524ca3d048d15faac"), looks := false }, kinds := [], alts := [], laidByText := true, laidKinds := [.data], laidTests := true, laidLooks := .later }
def AuthorityWithdrawsCardSaid : Prop := Claim7.holds Tryd.pinned (.plain (OpenSpec.ofChange authorityWithdrawsSpec)) authorityWithdrawsCard

/-- THE TIED CARD OF 'baggagelaw26.AuthorityRulings'. -/
def authorityRulingsCard : Claim7 := { stood := { row := authorityRulingsRow, standIns := [], harness := (true, "6af8848507c201b2d320569988c169c6dcd7c91efd51908524ca3d048d15faac"), looks := false }, kinds := [], alts := [], laidByText := true, laidKinds := [.data], laidTests := true, laidLooks := .later }
def AuthorityRulingsCardSaid : Prop := Claim7.holds Tryd.pinned (.plain (OpenSpec.ofChange authorityRulingsSpec)) authorityRulingsCard

/-- THE TIED CARD OF 'baggagelaw26.AuthorityCancelled'. -/
def authorityCancelledCard : Claim7 := { stood := { row := authorityCancelledRow, standIns := [], harness := (true, "6af8848507c201b2d320569988c169c6dcd7c91efd51908524ca3d048d15faac"), looks := false }, kinds := [], alts := [], laidByText := true, laidKinds := [.data], laidTests := true, laidLooks := .later }
def AuthorityCancelledCardSaid : Prop := Claim7.holds Tryd.pinned (.plain (OpenSpec.ofChange authorityCancelledSpec)) authorityCancelledCard

/-- THE SECOND FORM's CARD OF 'baggagelaw26.AuthorityDecides'. -/
def authorityDecidesUptoCard : Claim7 := { stood := { row := authorityDecidesUptoRow, standIns := [], harness := (true, "6af8848507c201b2d320569988c169c6dcd7c91efd51908524ca3d048d15faac"), looks := false }, kinds := [], alts := [], laidByText := true, laidKinds := [.data], laidTests := true, laidLooks := .later }
def AuthorityDecidesUptoCardSaid : Prop := Claim7.holds Tryd.pinned (.plain (OpenSpec.upto authorityDecidesSpec)) authorityDecidesUptoCard

/-- THE SECOND FORM's CARD OF 'baggagelaw26.AuthorityFinal'. -/
def authorityFinalUptoCard : Claim7 := { stood := { row := authorityFinalUptoRow, standIns := [], harness := (true, "6af8848507c201b2d320569988c169c6dcd7c91efd51908524ca3d048d15faac"), looks := false }, kinds := [], alts := [], laidByText := true, laidKinds := [.data], laidTests := true, laidLooks := .later }
def AuthorityFinalUptoCardSaid : Prop := Claim7.holds Tryd.pinned (.plain (OpenSpec.upto authorityFinalSpec)) authorityFinalUptoCard

/-- THE SECOND FORM's CARD OF 'baggagelaw26.AuthorityNever'. -/
def authorityNeverUptoCard : Claim7 := { stood := { row := authorityNeverUptoRow, standIns := [], harness := (true, "6af8848507c201b2d320569988c169c6dcd7c91efd51908524ca3d048d15faac"), looks := false }, kinds := [], alts := [], laidByText := true, laidKinds := [.data], laidTests := true, laidLooks := .later }
def AuthorityNeverUptoCardSaid : Prop := Claim7.holds Tryd.pinned (.plain (OpenSpec.upto authorityNeverSpec)) authorityNeverUptoCard

/-- THE SECOND FORM's CARD OF 'baggagelaw26.AuthorityMore'. -/
def authorityMoreUptoCard : Claim7 := { stood := { row := authorityMoreUptoRow, standIns := [], harness := (true, "6af8848507c201b2d320569988c169c6dcd7c91efd51908524ca3d048d15faac"), looks := false }, kinds := [], alts := [], laidByText := true, laidKinds := [.data], laidTests := true, laidLooks := .later }
def AuthorityMoreUptoCardSaid : Prop := Claim7.holds Tryd.pinned (.plain (OpenSpec.upto authorityMoreSpec)) authorityMoreUptoCard

/-- THE SECOND FORM's CARD OF 'baggagelaw26.AuthorityWithdraws'. -/
def authorityWithdrawsUptoCard : Claim7 := { stood := { row := authorityWithdrawsUptoRow, standIns := [], harness := (true, "6af8848507c201b2d320569988c169c6dcd7c91efd51908524ca3d048d15faac"), looks := false }, kinds := [], alts := [], laidByText := true, laidKinds := [.data], laidTests := true, laidLooks := .later }
def AuthorityWithdrawsUptoCardSaid : Prop := Claim7.holds Tryd.pinned (.plain (OpenSpec.upto authorityWithdrawsSpec)) authorityWithdrawsUptoCard

/-- THE SECOND FORM's CARD OF 'baggagelaw26.AuthorityRulings'. -/
def authorityRulingsUptoCard : Claim7 := { stood := { row := authorityRulingsUptoRow, standIns := [], harness := (true, "6af8848507c201b2d320569988c169c6dcd7c91efd51908524ca3d048d15faac"), looks := false }, kinds := [], alts := [], laidByText := true, laidKinds := [.data], laidTests := true, laidLooks := .later }
def AuthorityRulingsUptoCardSaid : Prop := Claim7.holds Tryd.pinned (.plain (OpenSpec.upto authorityRulingsSpec)) authorityRulingsUptoCard

/-- THE SECOND FORM's CARD OF 'baggagelaw26.AuthorityCancelled'. -/
def authorityCancelledUptoCard : Claim7 := { stood := { row := authorityCancelledUptoRow, standIns := [], harness := (true, "6af8848507c201b2d320569988c169c6dcd7c91efd51908524ca3d048d15faac"), looks := false }, kinds := [], alts := [], laidByText := true, laidKinds := [.data], laidTests := true, laidLooks := .later }
def AuthorityCancelledUptoCardSaid : Prop := Claim7.holds Tryd.pinned (.plain (OpenSpec.upto authorityCancelledSpec)) authorityCancelledUptoCard
end Rows
end Go.Proofs.YtbiofbmjonmglaaDoor
