/- The reader of numbers: what its printed functions give. -/
import Derived.Test.YtkliakcegihikaaExL
import Derived.Test.YtkliakcegihikaaExF
namespace Go.Proofs.Ytkliakcegihikaa.Ex
open Go.RowKit Go.Proofs.Ytkliakcegihikaa.Ax

theorem mod_eq (x n : Int) (h1 : 1 ≤ n) (h2 : n ≤ 4611686018427387904) : keep_Mod x n = some (x % n) := by
  unfold keep_Mod
  rw [show decide (n < (1 : Int)) = false from decide_eq_false (by omega)]
  have hz : nz n = some () := by unfold nz; rw [if_neg (by omega)]
  simp only [cond_false, hz, Option.bind_some]
  have t1 := Int.tmod_lt_of_pos x (show 0 < n by omega)
  have t2 := Int.lt_tmod_of_pos x (show 0 < n by omega)
  have e1 := Int.emod_nonneg x (show n ≠ 0 by omega)
  have e2 := Int.emod_lt_of_pos x (show 0 < n by omega)
  have he := Int.tmod_eq_emod (a := x) (b := n)
  by_cases hneg : x.tmod n < 0
  · rw [show decide (x.tmod n < 0) = true from decide_eq_true hneg, cond_true, w64_id (by omega) (by omega)]
    congr 1
    split at he <;> omega
  · rw [show decide (x.tmod n < 0) = false from decide_eq_false hneg, cond_false]
    congr 1
    split at he <;> omega
end Go.Proofs.Ytkliakcegihikaa.Ex
