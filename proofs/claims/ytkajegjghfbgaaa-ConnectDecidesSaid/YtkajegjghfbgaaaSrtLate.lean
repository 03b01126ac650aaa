/- Chapter 24: slices.SortFunc for bags that are late. -/
import Derived.Test.YtkajegjghfbgaaaStdLate
import Derived.Test.YtkajegjghfbgaaaSrtLay24
namespace Go.Proofs.Ytkajegjghfbgaaa.Ex
open Go.RowKit Go.Proofs.Ytkajegjghfbgaaa.Ax Go.Sort Go.Shelf Go.Lib
set_option linter.unusedVariables false
set_option linter.unusedSimpArgs false

def lateV (x : Late) : List Value := [.int .i64 x.need, .int .i64 x.category]
set_option maxHeartbeats 1000000 in
theorem late_cmp (x y : Late) (W : World) : Calls Try.prog 42 #[.agg (lateV (lateCl x)).toArray, .agg (lateV (lateCl y)).toArray] W fun e w' => e = .returned (.int .i64 (srtC_Late x y)) ∧ ∃ q os', w' = grow (W.drewN q) os' := by
  have hx := lateC_rng x.need
  have hy := lateC_rng y.need
  have hw : IntKind.i64.wrap (lateC x.need - lateC y.need) = lateC x.need - lateC y.need := wrap64 (by omega) (by omega)
  change Calls Try.prog 42 #[.agg #[.int .i64 (lateC x.need), .int .i64 x.category], .agg #[.int .i64 (lateC y.need), .int .i64 y.category]] W fun e w' => e = .returned (.int .i64 (lateC x.need - lateC y.need)) ∧ ∃ q os', w' = grow (W.drewN q) os'
  generalize lateC x.need = a at hx hw ⊢
  generalize lateC y.need = b at hy hw ⊢
  go_enter Try.func42, Try.ntmps42
  go_wp2
  go_ret
  exact ⟨rfl, 0, _, by rw [alloc_eq_grow, alloc_eq_grow, grow_grow]; rfl⟩
theorem srtLate_ac (l r : List Late) (hF : sortL srtOk_Late srtC_Late l = some r) : AC Try.prog 41 [.osl 0, .fn 42 []] [.row 2 (l.map encLate)] (.tup []) [.row 2 (r.map encLate)] := by
  refine sort_ac sortLate 2 (by omega) Try.isAgg79 Try.sizeOf79 encLate lateV lateCl srtOk_Late (fun x h => late_ok h) (fun _ => rfl) (fun _ => rfl) (fun x v hv => by simp [lateV] at hv; rcases hv with rfl | rfl <;> rfl) (fun x u hu => by simp [encLate] at hu; rcases hu with rfl | rfl <;> rfl)
    (fun x w F β j u v hu hr => ?_) (fun x w F β j u v hu hv => ?_) srtC_Late late_swo _ (enters_of Try.func42 (by kernel_rfl) rfl) (fun blk off size w m os dk _ x y => late_cmp x y _) l r hF
  · match j, hu with
    | 0, hu => cases hu; cases hr; rfl
    | 1, hu => cases hu; cases hr; rfl
  · match j, hu, hv with
    | 0, hu, hv => cases hu; cases hv; exact .int _ _
    | 1, hu, hv => cases hu; cases hv; exact .int _ _
end Go.Proofs.Ytkajegjghfbgaaa.Ex
