/- Chapter 15: slices.SortFunc for alarms. -/
import Derived.Test.YtidhgcgbdjjdlaaStdAlarm
import Derived.Test.YtidhgcgbdjjdlaaSrtLay15
import Derived.Deep.RegionLaw
namespace Go.Proofs.Ytidhgcgbdjjdlaa.Ex
open Go.RowKit Go.Proofs.Ytidhgcgbdjjdlaa.Ax Go.Sort Go.Shelf Go.Lib
set_option linter.unusedVariables false
set_option linter.unusedSimpArgs false

def alarmV (x : Alarm) : List Value := [.int .i64 x.Image, .int .i64 x.Bag, .int .i64 x.Level, .int .i64 x.Deadline]
set_option maxHeartbeats 1000000 in
theorem isNaN_calls (x : Int) (W : World) : Calls Try.prog 54 #[.int .i64 x] W fun e w' => e = .returned (.bool false) ∧ w' = W := by
  go_enter Try.func54, Try.ntmps54
  go_wp2
  go_ret
  exact ⟨by simp, rfl⟩
set_option maxHeartbeats 1000000 in
theorem compare_calls (x y : Int) (W : World) : Calls Try.prog 44 #[.int .i64 x, .int .i64 y] W fun e w' => e = .returned (.int .i64 (cmpI x y)) ∧ w' = W := by
  go_enter Try.func44, Try.ntmps44
  unfold cmpI
  by_cases h1 : x < y
  · rw [if_pos h1]
    go_wp2_with (go_at_call 54; refine (isNaN_calls _ _).mono ?_; rintro e w' ⟨rfl, rfl⟩)
    go_ret
    exact ⟨rfl, rfl⟩
  · rw [if_neg h1]
    by_cases h2 : y < x
    · rw [if_pos h2]
      go_wp2_with (go_at_call 54; refine (isNaN_calls _ _).mono ?_; rintro e w' ⟨rfl, rfl⟩)
      go_ret
      exact ⟨rfl, rfl⟩
    · rw [if_neg h2]
      go_wp2_with (go_at_call 54; refine (isNaN_calls _ _).mono ?_; rintro e w' ⟨rfl, rfl⟩)
      go_ret
      exact ⟨rfl, rfl⟩
def orI (x y : Int) : Int := if x ≠ 0 then x else y
set_option maxHeartbeats 1000000 in
theorem or_calls (x y : Int) (b : Nat) (W : World) (h0 : W.cell? ⟨b, 0, none⟩ = some (.int .i64 x)) (h1 : W.cell? ⟨b, 1, none⟩ = some (.int .i64 y)) : Calls Try.prog 43 #[.slice (some ⟨b, 0, none⟩) 2 2] W fun e w' => e = .returned (.int .i64 (orI x y)) ∧ w' = W := by
  obtain ⟨res, hres⟩ : ∃ r, r = orI x y := ⟨_, rfl⟩
  rw [← hres]
  unfold orI at hres
  go_enter Try.func43, Try.ntmps43
  go_wp2
  refine wp_loop_rounds 3 ?_
  rw [rounds_succ]
  by_cases hx : x = 0
  · subst hx
    rw [if_neg (by simp)] at hres
    subst hres
    go_wp2
    rw [rounds_succ]
    go_wp2
    · rename_i hq
      go_ret
      exact ⟨rfl, rfl⟩
    · rename_i hq
      have hq0 : res = 0 := by simpa using hq
      subst hq0
      rw [rounds_succ]
      go_wp2
      go_ret
      exact ⟨rfl, rfl⟩
  · have hx' : (x != 0) = true := by simpa using hx
    rw [if_pos hx] at hres
    subst hres
    go_wp2
    go_ret
    exact ⟨rfl, rfl⟩
theorem cell_new2 (w : World) (a b : Value) (t : TypeId) (n : Nat) (h : n = w.heap.size) : (w.alloc (.cells #[a, b] t)).drew.cell? ⟨n, 0, none⟩ = some a ∧ (w.alloc (.cells #[a, b] t)).drew.cell? ⟨n, 1, none⟩ = some b := by
  subst h
  have e : (w.alloc (.cells #[a, b] t)).drew.heap = (w.alloc (.cells #[a, b] t)).heap := rfl
  have e2 := heap_alloc_new w (.cells #[a, b] t)
  unfold World.cell?
  rw [e, e2]
  exact ⟨rfl, rfl⟩
set_option maxHeartbeats 1000000 in
theorem alarm_cmp (x y : Alarm) (W : World) : Calls Try.prog 42 #[.agg (alarmV x).toArray, .agg (alarmV y).toArray] W fun e w' => e = .returned (.int .i64 (srtC_Alarm x y)) ∧ ∃ q os', w' = grow (W.drewN q) os' := by
  change Calls Try.prog 42 #[.agg #[.int .i64 x.Image, .int .i64 x.Bag, .int .i64 x.Level, .int .i64 x.Deadline], .agg #[.int .i64 y.Image, .int .i64 y.Bag, .int .i64 y.Level, .int .i64 y.Deadline]] W fun e w' => e = .returned (.int .i64 (srtC_Alarm x y)) ∧ ∃ q os', w' = grow (W.drewN q) os'
  go_enter Try.func42, Try.ntmps42
  go_wp2_with (first | (go_at_call 44; refine (compare_calls _ _ _).mono ?_; rintro e w' ⟨rfl, rfl⟩))
  go_region_law (first
    | (go_simp; go_at_call 44; refine (compare_calls _ _ _).mono ?_; rintro e w' ⟨rfl, rfl⟩)
    | (go_simp; go_at_call 43; refine (or_calls _ _ _ _ (cell_new2 _ _ _ _ _ (by simp)).1 (cell_new2 _ _ _ _ _ (by simp)).2).mono ?_; rintro e w' ⟨rfl, rfl⟩))
  all_goals go_wp2
  all_goals go_ret
  all_goals refine ⟨rfl, ?_⟩
  all_goals simp only [alloc_eq_grow, drew_grow, grow_grow]
  all_goals exact ⟨1, _, rfl⟩
theorem srtAlarm_ac (l r : List Alarm) (hF : sortL srtOk_Alarm srtC_Alarm l = some r) : AC Try.prog 41 [.osl 0, .fn 42 []] [.row 4 (l.map encAlarm)] (.tup []) [.row 4 (r.map encAlarm)] := by
  refine sort_ac sortAlarm 4 (by omega) Try.isAgg72 Try.sizeOf72 encAlarm alarmV (fun x => x) srtOk_Alarm (fun x h => rfl) (fun _ => rfl) (fun _ => rfl) (fun x v hv => by simp [alarmV] at hv; rcases hv with rfl | rfl | rfl | rfl <;> rfl) (fun x u hu => by simp [encAlarm] at hu; rcases hu with rfl | rfl | rfl | rfl <;> rfl)
    (fun x w F β j u v hu hr => ?_) (fun x w F β j u v hu hv => ?_) srtC_Alarm alarm_swo _ (enters_of Try.func42 (by kernel_rfl) rfl) (fun blk off size w m os dk _ x y => alarm_cmp x y _) l r hF
  · match j, hu with
    | 0, hu => cases hu; cases hr; rfl
    | 1, hu => cases hu; cases hr; rfl
    | 2, hu => cases hu; cases hr; rfl
    | 3, hu => cases hu; cases hr; rfl
  · match j, hu, hv with
    | 0, hu, hv => cases hu; cases hv; exact .int _ _
    | 1, hu, hv => cases hu; cases hv; exact .int _ _
    | 2, hu, hv => cases hu; cases hv; exact .int _ _
    | 3, hu, hv => cases hu; cases hv; exact .int _ _
end Go.Proofs.Ytidhgcgbdjjdlaa.Ex
