/- The reader of numbers: what its printed functions give (ranges, picks, texts). -/
import Derived.Test.YtkliakcegihikaaGreatKp0
namespace Go.Proofs.YtkliakcegihikaaGreat.Ex
open Go.RowKit Go.Proofs.YtkliakcegihikaaGreat.Ax
set_option linter.unusedVariables false
set_option linter.unusedSimpArgs false

theorem Range_ok (s : Src) (lo hi : Int) (h : SrcOk s) (h0 : lo ≤ hi) (h1 : -1000000000 ≤ lo) (h2 : hi ≤ 1000000000) : okP (keep_Src_Range s lo hi) (fun r => lo ≤ r.1 ∧ r.1 ≤ hi ∧ SrcOk r.2) := by
 unfold keep_Src_Range
 rw [w64_id (z := hi - lo) (by omega) (by omega), w64_id (z := hi - lo + 1) (by omega) (by omega)]
 refine okP_bind (N_ok s _ h (by omega) (by omega)) (fun r ⟨r1, r2, r3⟩ => okP_some ?_)
 rw [w64_id (by omega) (by omega)]
 exact ⟨by omega, by omega, r3⟩

theorem Pick_ok (s : Src) (l : List Int) (h : SrcOk s) (h1 : 1 ≤ l.length) (h2 : l.length ≤ 1000000) : okP (keep_Src_Pick s l) (fun r => r.1 ∈ l ∧ SrcOk r.2) := by
 unfold keep_Src_Pick
 refine okP_bind (N_ok s _ h (by omega) (by omega)) (fun r ⟨r1, r2, r3⟩ => ?_)
 exact okP_bind (okP_ixL (Q := fun x => x ∈ l) r1 r2 (fun x hx _ => hx)) (fun x hx => okP_some ⟨hx, r3⟩)

theorem Text_ok (s : Src) (l : List ByteArray) (h : SrcOk s) (h1 : 1 ≤ l.length) (h2 : l.length ≤ 1000000) : okP (keep_Src_Text s l) (fun r => r.1 ∈ l ∧ SrcOk r.2) := by
 unfold keep_Src_Text
 refine okP_bind (N_ok s _ h (by omega) (by omega)) (fun r ⟨r1, r2, r3⟩ => ?_)
 exact okP_bind (okP_ixL (Q := fun x => x ∈ l) r1 r2 (fun x hx _ => hx)) (fun x hx => okP_some ⟨hx, r3⟩)
end Go.Proofs.YtkliakcegihikaaGreat.Ex
