/- Apply of the reference, put together; IsOpen, IsClosed. -/
import Derived.Test.YtmigkmdhenkpmaaDepM
namespace Go.Proofs.Ytmigkmdhenkpmaa
open Go.RowKit

theorem RApply_any (v : Value) (l : List Dep) (r : Rev) (now : Int) (w : World) (hv : DepsV w v l) :
    Calls Try.prog 23 #[v, .agg r.cells, .int .i64 now] w (SlcRet (applyF l r now) w) := by
  obtain ⟨a, c, rfl, la, _, _⟩ := hv.open
  by_cases h0 : valE l = 0
  · obtain ⟨kd, m, f⟩ := r
    by_cases hk : 1 ≤ kd ∧ kd ≤ 5
    · have h5 : kd = 1 ∨ kd = 2 ∨ kd = 3 ∨ kd = 4 ∨ kd = 5 := by omega
      rcases h5 with rfl | rfl | rfl | rfl | rfl
      · exact RApply1 a c l m f now w hv h0
      · exact RApply2 a c l m f now w hv h0
      · exact RApply3 a c l m f now w hv h0
      · exact RApply4 a c l m f now w hv h0
      · exact RApply5 a c l m f now w hv h0
    · have VL := Lib.hid (fun w h => RValidate_any (.slice a l.length c) l w h)
      rw [h0] at VL
      have hr : applyF l ⟨kd, m, f⟩ now = (4, []) := by unfold applyF; rw [if_pos h0, if_neg hk]
      rw [hr]
      clear hr
      have HV := Lib.hid hv
      clear hv
      obtain ⟨c1, n1, s1, d1⟩ := f
      simp only [Rev.cells]
      by_cases h1 : kd < 1
      · have hb1 : decide (kd < 1) = true := decide_eq_true h1
        clear h1 hk
        go_enter Try.func23, Try.ntmps23
        go_wp2_with (go_at_call 16; refine (VL.out _ (HV.out.below (one_box _ _ _ _ rfl).2.1)).mono ?_; rintro e w1 ⟨rfl, hB1⟩; obtain ⟨hB, hq⟩ := box_then hB1; have q0 := hq 0 _ rfl; have q1 := hq 1 _ rfl; have HB := Lib.hid hB; clear hB1 hq hB)
        go_ret2
        exact slc_err rfl rfl HB.out
      · have hb1 : decide (kd < 1) = false := decide_eq_false h1
        have hb2 : decide (5 < kd) = true := decide_eq_true (by omega)
        clear h1 hk
        go_enter Try.func23, Try.ntmps23
        go_wp2_with (go_at_call 16; refine (VL.out _ (HV.out.below (one_box _ _ _ _ rfl).2.1)).mono ?_; rintro e w1 ⟨rfl, hB1⟩; obtain ⟨hB, hq⟩ := box_then hB1; have q0 := hq 0 _ rfl; have q1 := hq 1 _ rfl; have HB := Lib.hid hB; clear hB1 hq hB)
        go_ret2
        exact slc_err rfl rfl HB.out
  · have VL := Lib.hid (fun w h => RValidate_any (.slice a l.length c) l w h)
    have hr : applyF l r now = (valE l, []) := by unfold applyF; rw [if_neg h0]
    rw [hr]
    clear hr
    have HV := Lib.hid hv
    clear hv
    generalize valE l = ve at *
    have hne : (ve != 0) = true := by simp [h0]
    clear h0
    obtain ⟨kd, m, ⟨c1, n1, s1, d1⟩⟩ := r
    simp only [Rev.cells]
    go_enter Try.func23, Try.ntmps23
    go_wp2_with (go_at_call 16; refine (VL.out _ (HV.out.below (one_box _ _ _ _ rfl).2.1)).mono ?_; rintro e w1 ⟨rfl, hB1⟩; obtain ⟨hB, hq⟩ := box_then hB1)
    go_ret2
    exact slc_err rfl rfl hB

def opF (d : Dep) (now : Int) : Bool := (d.state == 0) && decide (d.opens ≤ now) && decide (now < d.closes)
def clF (d : Dep) (now : Int) : Bool := (d.state != 0) || decide (d.closes ≤ now)

theorem IsOpen_any (d : Dep) (now : Int) (w : World) : Calls Try.prog 28 #[.agg d.cells, .int .i64 now] w fun e w' => e = .returned (.bool (opF d now)) ∧ Below w.heap.size w w' := by
  obtain ⟨res, hres⟩ : ∃ r, r = opF d now := ⟨_, rfl⟩
  rw [← hres]
  have HRES := Lib.hid hres
  clear hres
  obtain ⟨⟨c2, n2, s2, d2⟩, p, op, cl, le, st, sa⟩ := d
  simp only [Dep.cells]
  go_enter Try.func28, Try.ntmps28
  go_wp2
  all_goals go_ret
  all_goals refine ⟨ret_bool ?_, (one_box _ _ _ _ rfl).2.1⟩
  all_goals rw [HRES.out]
  all_goals clear HRES
  all_goals simp_all [opF]
  all_goals (intros; omega)

theorem IsClosed_any (d : Dep) (now : Int) (w : World) : Calls Try.prog 26 #[.agg d.cells, .int .i64 now] w fun e w' => e = .returned (.bool (clF d now)) ∧ Below w.heap.size w w' := by
  obtain ⟨res, hres⟩ : ∃ r, r = clF d now := ⟨_, rfl⟩
  rw [← hres]
  have HRES := Lib.hid hres
  clear hres
  obtain ⟨⟨c2, n2, s2, d2⟩, p, op, cl, le, st, sa⟩ := d
  simp only [Dep.cells]
  go_enter Try.func26, Try.ntmps26
  go_wp2
  all_goals go_ret
  all_goals refine ⟨ret_bool ?_, (one_box _ _ _ _ rfl).2.1⟩
  all_goals rw [HRES.out]
  all_goals clear HRES
  all_goals simp_all [clF]
end Go.Proofs.Ytmigkmdhenkpmaa
