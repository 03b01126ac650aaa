/-
  NARROWER THAN 'FOR EVERY INPUT', by the rows' own cells (each row's printed sentence says how): AuthorityDecides: laid · AuthorityFinal: laid · AuthorityNever: laid · AuthorityMore: laid · AuthorityWithdraws: laid · AuthorityRulings: laid · AuthorityCancelled: laid.
  DERIVED. THE GIVEN ROWS OF THIS SEAT. 7 by the template 'for every input the law returns true; each argument reads behind the call as it read before'; 0 by the template 'total and deterministic' (their statements: YtbiofbmjonmglaaDoorTotals.lean).
  GIVEN WITH THE SEED: the statements are not yours to turn. If you find one false, say at which input.
  Laid BY PROGRAM, IN A SANDBOX (cutbox-rows.mjs): the forced cells as the released guide's own fill.sh prints them over the translation b7ef4500241892d9… (all of the seat's roots in one cut). By AI agents, Wed Nov 11 2026. No macro, syntax, notation, axiom, sorry.
-/
import Derived.Test.YtbiofbmjonmglaaDoorChecked
import GoSem.Claim
import GoSem.ClaimJoined
import GoSem.ClaimMapViews
import Derived.JoinedTies
import Derived.KernelRfl
namespace Go.Proofs.YtbiofbmjonmglaaDoor
/- THE CELL 'sum', in the pinned program and in every row, IS THE sha256 OF THE DUMP (.gsa) THAT YtbiofbmjonmglaaDoorProg.lean LOADS. Nothing in Lean hashes anything: it is a label: what it is worth is what the hold of that sum in a sandbox is worth. -/
noncomputable def Tryd.pinned : Pinned := { name := "ytbiofbmjonmglaadoor", sum := "b7ef4500241892d93cfc63b525ccce34bd21fe4fd2bc126a52d38aabcbdab7cf", checked := Tryd.checked }
namespace Rows
def none {H : Type} : Left H := { results := [], args := [] }

/- WHAT THE LISTED PACKAGE-LEVEL VARIABLES READ AS WHEN THE CALL BEGINS. Each datum BY PROGRAM (the guide's laid-datum.mjs) off the statement by which the dump's own 'gosem.cut.vars' lays the variable. In a bare row this is a premise. The card (YtbiofbmjonmglaaDoorCards.lean) ties it to the program's text. -/
def laid_baggage_authority_exceptions {H : Type} : DataW H := .agg [.lit (.int .i64 0), .lit (.int .i64 3), .lit (.int .i64 4), .lit (.int .i64 5)]

/-- 'baggagelaw26.AuthorityDecides': WHATEVER THE INPUT: true; the input reads as it did. -/
def authorityDecidesSpec : ChangeSpec := { name := "authorityDecides", fn := fun _ => fun
  | [d1, d2, d3, d4, d5, d6] => { results := [.lit (.bool true)], args := [d1, d2, d3, d4, d5, d6] }
  | _ => none }
def authorityDecidesRow : OpenClaim := { program := "ytbiofbmjonmglaadoor", sum := "b7ef4500241892d93cfc63b525ccce34bd21fe4fd2bc126a52d38aabcbdab7cf", func := "baggage/baggagelaw26.AuthorityDecides", spec := "authorityDecides", unfollowed := true, recurses := true, named := ["baggage/authority.exceptions"], apart := false, laid := [("baggage/authority.exceptions", laid_baggage_authority_exceptions)] }
def AuthorityDecidesSaid : Prop := authorityDecidesRow.holds Tryd.pinned (OpenSpec.ofChange authorityDecidesSpec)

/-- ITS FALSE NEIGHBOUR: 'it returns false'. Refute it at one input. -/
def authorityDecidesWrong : ChangeSpec := { name := "authorityDecides", fn := fun _ => fun
  | [d1, d2, d3, d4, d5, d6] => { results := [.lit (.bool false)], args := [d1, d2, d3, d4, d5, d6] }
  | _ => none }
def AuthorityDecidesWrongFalsely : Prop := authorityDecidesRow.holds Tryd.pinned (OpenSpec.ofChange authorityDecidesWrong)

/-- 'baggagelaw26.AuthorityFinal': WHATEVER THE INPUT: true; the input reads as it did. -/
def authorityFinalSpec : ChangeSpec := { name := "authorityFinal", fn := fun _ => fun
  | [d1, d2, d3] => { results := [.lit (.bool true)], args := [d1, d2, d3] }
  | _ => none }
def authorityFinalRow : OpenClaim := { program := "ytbiofbmjonmglaadoor", sum := "b7ef4500241892d93cfc63b525ccce34bd21fe4fd2bc126a52d38aabcbdab7cf", func := "baggage/baggagelaw26.AuthorityFinal", spec := "authorityFinal", unfollowed := true, recurses := true, named := ["baggage/authority.exceptions"], apart := false, laid := [("baggage/authority.exceptions", laid_baggage_authority_exceptions)] }
def AuthorityFinalSaid : Prop := authorityFinalRow.holds Tryd.pinned (OpenSpec.ofChange authorityFinalSpec)

/-- ITS FALSE NEIGHBOUR: 'it returns false'. Refute it at one input. -/
def authorityFinalWrong : ChangeSpec := { name := "authorityFinal", fn := fun _ => fun
  | [d1, d2, d3] => { results := [.lit (.bool false)], args := [d1, d2, d3] }
  | _ => none }
def AuthorityFinalWrongFalsely : Prop := authorityFinalRow.holds Tryd.pinned (OpenSpec.ofChange authorityFinalWrong)

/-- 'baggagelaw26.AuthorityNever': WHATEVER THE INPUT: true; the input reads as it did. -/
def authorityNeverSpec : ChangeSpec := { name := "authorityNever", fn := fun _ => fun
  | [d1, d2, d3, d4, d5] => { results := [.lit (.bool true)], args := [d1, d2, d3, d4, d5] }
  | _ => none }
def authorityNeverRow : OpenClaim := { program := "ytbiofbmjonmglaadoor", sum := "b7ef4500241892d93cfc63b525ccce34bd21fe4fd2bc126a52d38aabcbdab7cf", func := "baggage/baggagelaw26.AuthorityNever", spec := "authorityNever", unfollowed := true, recurses := true, named := ["baggage/authority.exceptions"], apart := false, laid := [("baggage/authority.exceptions", laid_baggage_authority_exceptions)] }
def AuthorityNeverSaid : Prop := authorityNeverRow.holds Tryd.pinned (OpenSpec.ofChange authorityNeverSpec)

/-- ITS FALSE NEIGHBOUR: 'it returns false'. Refute it at one input. -/
def authorityNeverWrong : ChangeSpec := { name := "authorityNever", fn := fun _ => fun
  | [d1, d2, d3, d4, d5] => { results := [.lit (.bool false)], args := [d1, d2, d3, d4, d5] }
  | _ => none }
def AuthorityNeverWrongFalsely : Prop := authorityNeverRow.holds Tryd.pinned (OpenSpec.ofChange authorityNeverWrong)

/-- 'baggagelaw26.AuthorityMore': WHATEVER THE INPUT: true; the input reads as it did. -/
def authorityMoreSpec : ChangeSpec := { name := "authorityMore", fn := fun _ => fun
  | [d1, d2, d3] => { results := [.lit (.bool true)], args := [d1, d2, d3] }
  | _ => none }
def authorityMoreRow : OpenClaim := { program := "ytbiofbmjonmglaadoor", sum := "b7ef4500241892d93cfc63b525ccce34bd21fe4fd2bc126a52d38aabcbdab7cf", func := "baggage/baggagelaw26.AuthorityMore", spec := "authorityMore", unfollowed := true, recurses := true, named := ["baggage/authority.exceptions"], apart := false, laid := [("baggage/authority.exceptions", laid_baggage_authority_exceptions)] }
def AuthorityMoreSaid : Prop := authorityMoreRow.holds Tryd.pinned (OpenSpec.ofChange authorityMoreSpec)

/-- ITS FALSE NEIGHBOUR: 'it returns false'. Refute it at one input. -/
def authorityMoreWrong : ChangeSpec := { name := "authorityMore", fn := fun _ => fun
  | [d1, d2, d3] => { results := [.lit (.bool false)], args := [d1, d2, d3] }
  | _ => none }
def AuthorityMoreWrongFalsely : Prop := authorityMoreRow.holds Tryd.pinned (OpenSpec.ofChange authorityMoreWrong)

/-- 'baggagelaw26.AuthorityWithdraws': WHATEVER THE INPUT: true; the input reads as it did. -/
def authorityWithdrawsSpec : ChangeSpec := { name := "authorityWithdraws", fn := fun _ => fun
  | [d1, d2] => { results := [.lit (.bool true)], args := [d1, d2] }
  | _ => none }
def authorityWithdrawsRow : OpenClaim := { program := "ytbiofbmjonmglaadoor", sum := "b7ef4500241892d93cfc63b525ccce34bd21fe4fd2bc126a52d38aabcbdab7cf", func := "baggage/baggagelaw26.AuthorityWithdraws", spec := "authorityWithdraws", unfollowed := true, recurses := true, named := ["baggage/authority.exceptions"], apart := false, laid := [("baggage/authority.exceptions", laid_baggage_authority_exceptions)] }
def AuthorityWithdrawsSaid : Prop := authorityWithdrawsRow.holds Tryd.pinned (OpenSpec.ofChange authorityWithdrawsSpec)

/-- ITS FALSE NEIGHBOUR: 'it returns false'. Refute it at one input. -/
def authorityWithdrawsWrong : ChangeSpec := { name := "authorityWithdraws", fn := fun _ => fun
  | [d1, d2] => { results := [.lit (.bool false)], args := [d1, d2] }
  | _ => none }
def AuthorityWithdrawsWrongFalsely : Prop := authorityWithdrawsRow.holds Tryd.pinned (OpenSpec.ofChange authorityWithdrawsWrong)

/-- 'baggagelaw26.AuthorityRulings': WHATEVER THE INPUT: true; the input reads as it did. -/
def authorityRulingsSpec : ChangeSpec := { name := "authorityRulings", fn := fun _ => fun
  | [d1, d2, d3] => { results := [.lit (.bool true)], args := [d1, d2, d3] }
  | _ => none }
def authorityRulingsRow : OpenClaim := { program := "ytbiofbmjonmglaadoor", sum := "b7ef4500241892d93cfc63b525ccce34bd21fe4fd2bc126a52d38aabcbdab7cf", func := "baggage/baggagelaw26.AuthorityRulings", spec := "authorityRulings", unfollowed := true, recurses := true, named := ["baggage/authority.exceptions"], apart := false, laid := [("baggage/authority.exceptions", laid_baggage_authority_exceptions)] }
def AuthorityRulingsSaid : Prop := authorityRulingsRow.holds Tryd.pinned (OpenSpec.ofChange authorityRulingsSpec)

/-- ITS FALSE NEIGHBOUR: 'it returns false'. Refute it at one input. -/
def authorityRulingsWrong : ChangeSpec := { name := "authorityRulings", fn := fun _ => fun
  | [d1, d2, d3] => { results := [.lit (.bool false)], args := [d1, d2, d3] }
  | _ => none }
def AuthorityRulingsWrongFalsely : Prop := authorityRulingsRow.holds Tryd.pinned (OpenSpec.ofChange authorityRulingsWrong)

/-- 'baggagelaw26.AuthorityCancelled': WHATEVER THE INPUT: true; the input reads as it did. -/
def authorityCancelledSpec : ChangeSpec := { name := "authorityCancelled", fn := fun _ => fun
  | [d1, d2, d3] => { results := [.lit (.bool true)], args := [d1, d2, d3] }
  | _ => none }
def authorityCancelledRow : OpenClaim := { program := "ytbiofbmjonmglaadoor", sum := "b7ef4500241892d93cfc63b525ccce34bd21fe4fd2bc126a52d38aabcbdab7cf", func := "baggage/baggagelaw26.AuthorityCancelled", spec := "authorityCancelled", unfollowed := true, recurses := true, named := ["baggage/authority.exceptions"], apart := false, laid := [("baggage/authority.exceptions", laid_baggage_authority_exceptions)] }
def AuthorityCancelledSaid : Prop := authorityCancelledRow.holds Tryd.pinned (OpenSpec.ofChange authorityCancelledSpec)

/-- ITS FALSE NEIGHBOUR: 'it returns false'. Refute it at one input. -/
def authorityCancelledWrong : ChangeSpec := { name := "authorityCancelled", fn := fun _ => fun
  | [d1, d2, d3] => { results := [.lit (.bool false)], args := [d1, d2, d3] }
  | _ => none }
def AuthorityCancelledWrongFalsely : Prop := authorityCancelledRow.holds Tryd.pinned (OpenSpec.ofChange authorityCancelledWrong)

/- THE SECOND FORM. 'bulk': how many values and letters a reading holds, each counted each time it is reached (what is shared counts as often as it is met; a slice's spare places count too). A statement '..UptoSaid' is the law's where the arguments, and the package variables that the reading takes, are together of bulk at most 1048576: NARROWER than '..Said'. Prove '..Said' where nothing that the law and all that it calls make is longer than what came in: it says more and counts as full. Else prove '..UptoSaid'. A law counts once. -/
mutual
def uptoBulk {H : Type} : DataW H → Nat
  | .lit (.string bytes) => bytes.length + 1
  | .lit _ => 1
  | .nil => 1
  | .ptr d => uptoBulk d + 1
  | .slice elems spare => uptoBulkAll elems + uptoBulkAll spare + 1
  | .agg parts => uptoBulkAll parts + 1
  | .iface _ d => uptoBulk d + 1
  | .map entries => uptoBulkEntries entries + 1
  | .held _ => 1
def uptoBulkAll {H : Type} : List (DataW H) → Nat
  | [] => 0
  | d :: r => uptoBulk d + uptoBulkAll r
def uptoBulkEntries {H : Type} : List (Lit × DataW H) → Nat
  | [] => 0
  | x :: r => uptoBulkEntry x + uptoBulkEntries r
def uptoBulkEntry {H : Type} : Lit × DataW H → Nat
  | (.string bytes, d) => bytes.length + uptoBulk d + 1
  | (_, d) => uptoBulk d + 1
 end
def uptoSmall : (H : Type) → List (DataW H) → Bool := fun _ ds => decide (uptoBulkAll ds ≤ 1048576)
def OpenSpec.upto (s : _root_.Go.ChangeSpec) : _root_.Go.OpenSpec := { _root_.Go.OpenSpec.ofChange s with cond := some uptoSmall }

/-- 'baggagelaw26.AuthorityDecides', WHERE WHAT IT READS IS OF BULK AT MOST 1048576: true; the input reads as it did. -/
def authorityDecidesUptoRow : OpenClaim := { program := "ytbiofbmjonmglaadoor", sum := "b7ef4500241892d93cfc63b525ccce34bd21fe4fd2bc126a52d38aabcbdab7cf", func := "baggage/baggagelaw26.AuthorityDecides", spec := "authorityDecides", unfollowed := true, recurses := true, named := ["baggage/authority.exceptions"], apart := false, laid := [("baggage/authority.exceptions", laid_baggage_authority_exceptions)], narrowed := true }
def AuthorityDecidesUptoSaid : Prop := authorityDecidesUptoRow.holds Tryd.pinned (OpenSpec.upto authorityDecidesSpec)

/-- 'baggagelaw26.AuthorityFinal', WHERE WHAT IT READS IS OF BULK AT MOST 1048576: true; the input reads as it did. -/
def authorityFinalUptoRow : OpenClaim := { program := "ytbiofbmjonmglaadoor", sum := "b7ef4500241892d93cfc63b525ccce34bd21fe4fd2bc126a52d38aabcbdab7cf", func := "baggage/baggagelaw26.AuthorityFinal", spec := "authorityFinal", unfollowed := true, recurses := true, named := ["baggage/authority.exceptions"], apart := false, laid := [("baggage/authority.exceptions", laid_baggage_authority_exceptions)], narrowed := true }
def AuthorityFinalUptoSaid : Prop := authorityFinalUptoRow.holds Tryd.pinned (OpenSpec.upto authorityFinalSpec)

/-- 'baggagelaw26.AuthorityNever', WHERE WHAT IT READS IS OF BULK AT MOST 1048576: true; the input reads as it did. -/
def authorityNeverUptoRow : OpenClaim := { program := "ytbiofbmjonmglaadoor", sum := "b7ef4500241892d93cfc63b525ccce34bd21fe4fd2bc126a52d38aabcbdab7cf", func := "baggage/baggagelaw26.AuthorityNever", spec := "authorityNever", unfollowed := true, recurses := true, named := ["baggage/authority.exceptions"], apart := false, laid := [("baggage/authority.exceptions", laid_baggage_authority_exceptions)], narrowed := true }
def AuthorityNeverUptoSaid : Prop := authorityNeverUptoRow.holds Tryd.pinned (OpenSpec.upto authorityNeverSpec)

/-- 'baggagelaw26.AuthorityMore', WHERE WHAT IT READS IS OF BULK AT MOST 1048576: true; the input reads as it did. -/
def authorityMoreUptoRow : OpenClaim := { program := "ytbiofbmjonmglaadoor", sum := "b7ef4500241892d93cfc63b525ccce34bd21fe4fd2bc126a52d38aabcbdab7cf", func := "baggage/baggagelaw26.AuthorityMore", spec := "authorityMore", unfollowed := true, recurses := true, named := ["baggage/authority.exceptions"], apart := false, laid := [("baggage/authority.exceptions", laid_baggage_authority_exceptions)], narrowed := true }
def AuthorityMoreUptoSaid : Prop := authorityMoreUptoRow.holds Tryd.pinned (OpenSpec.upto authorityMoreSpec)

/-- 'baggagelaw26.AuthorityWithdraws', WHERE WHAT IT READS IS OF BULK AT MOST 1048576: true; the input reads as it did. -/
def authorityWithdrawsUptoRow : OpenClaim := { program := "ytbiofbmjonmglaadoor", sum := "b7ef4500241892d93cfc63b525ccce34bd21fe4fd2bc126a52d38aabcbdab7cf", func := "baggage/baggagelaw26.AuthorityWithdraws", spec := "authorityWithdraws", unfollowed := true, recurses := true, named := ["baggage/authority.exceptions"], apart := false, laid := [("baggage/authority.exceptions", laid_baggage_authority_exceptions)], narrowed := true }
def AuthorityWithdrawsUptoSaid : Prop := authorityWithdrawsUptoRow.holds Tryd.pinned (OpenSpec.upto authorityWithdrawsSpec)

/-- 'baggagelaw26.AuthorityRulings', WHERE WHAT IT READS IS OF BULK AT MOST 1048576: true; the input reads as it did. -/
def authorityRulingsUptoRow : OpenClaim := { program := "ytbiofbmjonmglaadoor", sum := "b7ef4500241892d93cfc63b525ccce34bd21fe4fd2bc126a52d38aabcbdab7cf", func := "baggage/baggagelaw26.AuthorityRulings", spec := "authorityRulings", unfollowed := true, recurses := true, named := ["baggage/authority.exceptions"], apart := false, laid := [("baggage/authority.exceptions", laid_baggage_authority_exceptions)], narrowed := true }
def AuthorityRulingsUptoSaid : Prop := authorityRulingsUptoRow.holds Tryd.pinned (OpenSpec.upto authorityRulingsSpec)

/-- 'baggagelaw26.AuthorityCancelled', WHERE WHAT IT READS IS OF BULK AT MOST 1048576: true; the input reads as it did. -/
def authorityCancelledUptoRow : OpenClaim := { program := "ytbiofbmjonmglaadoor", sum := "b7ef4500241892d93cfc63b525ccce34bd21fe4fd2bc126a52d38aabcbdab7cf", func := "baggage/baggagelaw26.AuthorityCancelled", spec := "authorityCancelled", unfollowed := true, recurses := true, named := ["baggage/authority.exceptions"], apart := false, laid := [("baggage/authority.exceptions", laid_baggage_authority_exceptions)], narrowed := true }
def AuthorityCancelledUptoSaid : Prop := authorityCancelledUptoRow.holds Tryd.pinned (OpenSpec.upto authorityCancelledSpec)

end Rows
end Go.Proofs.YtbiofbmjonmglaaDoor
