/- Contracts of functions that only look at strings and numbers, from the kit's theorems (Calls). Nothing of the dump is used here. -/
import Derived.Test.YtpipggnfbgjefaaExB
namespace Go.Proofs.Ytpipggnfbgjefaa.Ex
open Go.RowKit Go.Proofs.Ytpipggnfbgjefaa.Ax
set_option linter.unusedVariables false
set_option linter.unusedSimpArgs false

/-- a function of two strings that leaves the world as it is -/
theorem ac_strs {P : Program} {f : FuncId} {a b : ByteArray} {r : Int} (h : ∀ w, Calls P f #[.string a, .string b] w fun e w' => e = .returned (.int .i64 r) ∧ w' = w) : AC P f [.str a, .str b] [] (.int .i64 r) [] := by
  intro C w vals hC hw0 hnt hlen hR
  obtain ⟨β, F, hB⟩ := hR
  have h0 := hB.env 0
  have h1 := hB.env 1
  have hv : vals = #[.string a, .string b] := by
    have hs : vals.size = 2 := hlen
    have e0 : RV w F β (.str a) (vals.getD 0 undef) := h0
    have e1 : RV w F β (.str b) (vals.getD 1 undef) := h1
    generalize hx : vals.getD 0 undef = x at e0
    generalize hy : vals.getD 1 undef = y at e1
    cases e0
    cases e1
    apply Array.ext
    · simpa using hs
    · intro i h1 h2
      have hi : i < 2 := by omega
      match i, hi with
      | 0, _ => simpa [Array.getD, hs] using hx
      | 1, _ => simpa [Array.getD, hs] using hy
  subst hv
  refine (h w).mono fun e w' ⟨he, hw⟩ => ?_
  subst hw
  refine ⟨.int .i64 r, he, β, F, ⟨fun t => ?_, rfl, rfl, hB.live, hB.inj, hB.dom, hB.gr, hB.sub, hB.news, hB.os, hB.tape, hB.output, hB.grow, hB.block, hB.glo⟩⟩
  match t with
  | 0 => exact .int _ _
  | t + 1 => exact .any _
end Go.Proofs.Ytpipggnfbgjefaa.Ex
