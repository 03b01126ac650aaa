/- The reader of numbers: what its printed functions give. -/
import Derived.Test.YtkajegjghfbgaaaOkP
import Derived.Test.YtkajegjghfbgaaaExF
namespace Go.Proofs.Ytkajegjghfbgaaa.Ex
open Go.RowKit Go.Proofs.Ytkajegjghfbgaaa.Ax
set_option linter.unusedVariables false
set_option linter.unusedSimpArgs false

theorem mod_eq (x n : Int) (h1 : 1 ≤ n) (h2 : n ≤ 4611686018427387904) : keep_Mod x n = some (x % n) := by
  unfold keep_Mod
  rw [show decide (n < (1 : Int)) = false from decide_eq_false (by omega)]
  have hz : nz n = some () := by unfold nz; rw [if_neg (by omega)]
  simp only [cond_false, hz, Option.bind_some]
  have t1 := Int.tmod_lt_of_pos x (show 0 < n by omega)
  have t2 := Int.lt_tmod_of_pos x (show 0 < n by omega)
  have e1 := Int.emod_nonneg x (show n ≠ 0 by omega)
  have e2 := Int.emod_lt_of_pos x (show 0 < n by omega)
  have he := Int.tmod_eq_emod (a := x) (b := n)
  by_cases hneg : x.tmod n < 0
  · rw [show decide (x.tmod n < 0) = true from decide_eq_true hneg, cond_true, w64_id (by omega) (by omega)]
    congr 1
    split at he <;> omega
  · rw [show decide (x.tmod n < 0) = false from decide_eq_false hneg, cond_false]
    congr 1
    split at he <;> omega

structure SrcOk (s : Src) : Prop where
  lo : 0 ≤ s.At
  hi : s.At ≤ s.L.length
  len : s.L.length ≤ 2000

theorem New_ok (l : List Int) : okP (keep_New l) SrcOk := by
  unfold keep_New
  refine okP_cond (fun h => ?_) (fun h => ?_)
  · have h := of_decide_eq_true h
    refine okP_bindE (slL_eq (by omega) (by omega) (by omega)) (okP_some ⟨?_, ?_, ?_⟩)
    · exact Int.le_refl 0
    · exact Int.natCast_nonneg _
    · simp only [List.length_take]; omega
  · have h := of_decide_eq_false h
    exact okP_some ⟨Int.le_refl 0, Int.natCast_nonneg _, by show l.length ≤ 2000; omega⟩

theorem Raw_ok (s : Src) (h : SrcOk s) : okP (keep_Src_Raw s) (fun r => SrcOk r.2) := by
  obtain ⟨h1, h2, h3⟩ := h
  unfold keep_Src_Raw
  refine okP_cond (fun h => okP_some ⟨h1, h2, h3⟩) (fun h => ?_)
  have h := of_decide_eq_false h
  rw [w64_id (z := s.At + 1) (by omega) (by omega), w64_id (z := s.At + 1 - 1) (by omega) (by omega)]
  refine okP_bind (okP_ixL (Q := fun _ => True) (by omega) (by omega) (fun _ _ _ => trivial)) (fun x _ => okP_some ⟨?_, ?_, h3⟩)
  · show 0 ≤ s.At + 1; omega
  · show s.At + 1 ≤ s.L.length; omega

theorem N_ok (s : Src) (n : Int) (h : SrcOk s) (h1 : 1 ≤ n) (h2 : n ≤ 4611686018427387904) : okP (keep_Src_N s n) (fun r => 0 ≤ r.1 ∧ r.1 < n ∧ SrcOk r.2) := by
  unfold keep_Src_N
  refine okP_bind (Raw_ok s h) (fun r hr => okP_bindE (mod_eq _ _ h1 h2) (okP_some ⟨Int.emod_nonneg _ (by omega), Int.emod_lt_of_pos _ (by omega), hr⟩))

end Go.Proofs.Ytkajegjghfbgaaa.Ex
