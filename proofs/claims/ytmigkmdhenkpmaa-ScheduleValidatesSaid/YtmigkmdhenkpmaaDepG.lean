/- The reference's Valid and Validate. -/
import Derived.Test.YtmigkmdhenkpmaaDepF
namespace Go.Proofs.Ytmigkmdhenkpmaa
open Go.RowKit

theorem RValid_any (d : Dep) (w : World) : Calls Try.prog 40 #[.agg d.cells] w fun e w' => e = .returned (.bool (validD d)) ∧ Below w.heap.size w w' := by
  have C1 := Lib.hid (RFValid_any d.flt)
  have C2 := Lib.hid (RValidPort_any d.port)
  unfold validD
  have HF : d.flt.cells = #[.string d.flt.car, .int .i64 d.flt.num, .string d.flt.suf, .int .i64 d.flt.day] := rfl
  rw [HF] at C1
  clear HF
  generalize validF d.flt = b1 at *
  generalize letsF d.port 3 3 = b2 at *
  obtain ⟨⟨c1, n1, s1, d1⟩, p, o, c, l, st, sa⟩ := d
  simp only [Dep.cells]
  obtain ⟨res, hres⟩ : ∃ r, r = (b1 && b2 && decide (0 ≤ o) && decide (o < c) && decide (c ≤ l) && decide (l ≤ 1048576) && decide (0 ≤ st) && decide (st ≤ 99) && decide (0 ≤ sa) && decide (sa ≤ 2)) := ⟨_, rfl⟩
  rw [← hres]
  have HRES := Lib.hid hres
  clear hres
  go_enter Try.func40, Try.ntmps40
  go_wp2_with (first
    | (go_at_call 56; refine (C1.out _).mono ?_; rintro e w1 ⟨rfl, hB1⟩; obtain ⟨hB, hq⟩ := box_then hB1; have q4 := hq 4 _ rfl; have q5 := hq 5 _ rfl; have q6 := hq 6 _ rfl; have q7 := hq 7 _ rfl; have q8 := hq 8 _ rfl; have q9 := hq 9 _ rfl; clear hB1 hq; have HB := Lib.hid hB; clear hB)
    | (go_at_call 57; refine (C2.out _).mono ?_; rintro e w2 ⟨rfl, rfl⟩))
  all_goals go_ret
  all_goals refine ⟨ret_bool ?_, HB.out⟩
  all_goals rw [HRES.out]
  all_goals clear HRES HB C1 C2
  all_goals simp_all
  all_goals (intros; omega)
theorem RValidate_any (v : Value) (l : List Dep) (w : World) (hv : DepsV w v l) :
    Calls Try.prog 16 #[v] w fun e w' => e = .returned (.int .i64 (valE l)) ∧ Below w.heap.size w w' := by
  obtain ⟨a, c, rfl, la, _, _⟩ := hv.open
  by_cases h24 : 24 < l.length
  · rw [show valE l = 2 from if_pos h24]
    go_enter Try.func16, Try.ntmps16
    go_wp2
    go_ret
    exact ⟨rfl, Below.refl _ _⟩
  · have HV := Lib.hid hv
    clear hv
    obtain ⟨res, hres⟩ : ∃ r, r = valE l := ⟨_, rfl⟩
    rw [← hres]
    rw [show valE l = vErr none l from if_neg h24] at hres
    have HRES := Lib.hid hres
    clear hres
    go_enter Try.func16, Try.ntmps16
    go_wp2
    go_loopw [3] (fun i wr => ∃ k : Nat, k ≤ l.length ∧ i = .int .i64 k ∧ Below w.heap.size w wr ∧ Hid (res = vErr (prevAt l k) (l.drop k))) (fun i _ => l.length - (intOf i).toNat)
    case atStart => exact ⟨0, Nat.zero_le _, rfl, Below.refl _ _, HRES.out⟩
    case round =>
      obtain ⟨k, hk, rfl, hBr, hR⟩ := hrel
      by_cases hlt : k < l.length
      · obtain ⟨x, hx, hd⟩ := drop_at hlt
        obtain ⟨_, _, hvD, _, _, cD⟩ := (HV.out.below hBr).open
        simp only [Value.slice.injEq] at hvD
        obtain ⟨rfl, -, rfl⟩ := hvD
        obtain ⟨b, o, rfl, hb, cc⟩ := cD (by omega)
        obtain ⟨g0, g1, g2, g3, g4, g5, g6, g7, g8, g9⟩ := dep_at (cc k x hx)
        obtain ⟨vb, hvb⟩ : ∃ vb, vb = validD x := ⟨_, rfl⟩
        have HVB := Lib.hid hvb
        have HX := Lib.hid hx
        have HD := Lib.hid hd
        have HCC := Lib.hid cc
        have HCD := Lib.hid cD
        have VX := Lib.hid (RValid_any x)
        rw [← hvb] at VX
        have HB := Lib.hid hBr
        clear hx hd cc cD hvb hBr
        obtain ⟨⟨c2, n2, s2, d2⟩, p, op, cl, le, st, sa⟩ := x
        simp only at g0 g1 g2 g3 g4 g5 g6 g7 g8 g9
        cases vb
        · go_wp2_with (go_at_call 40; refine (VX.out _).mono ?_; rintro e w2 ⟨rfl, hB2⟩)
          go_ret
          refine ⟨ret_int ?_, HB.out.trans (hB2.mono HB.out.size)⟩
          rw [hR.out, HD.out]
          cases prevAt l k <;> simp only [vErr, ← HVB.out] <;> rfl
        · by_cases hk0 : k = 0
          · subst hk0
            simp only [Nat.zero_mul, Nat.add_zero] at g0 g1 g2 g3 g4 g5 g6 g7 g8 g9
            go_wp2_with (go_at_call 40; refine (VX.out _).mono ?_; rintro e w2 ⟨rfl, hB2⟩; have HB3 := Lib.hid (HB.out.trans (hB2.mono HB.out.size)); clear hB2)
            go_roundw
            case rel =>
              refine ⟨1, by omega, by go_num, HB3.out, Lib.hid ?_⟩
              rw [hR.out, HD.out, show prevAt l 0 = none from rfl, prevAt_succ HX.out]
              simp only [vErr, ← HVB.out]
              rfl
            case measure => simp [intOf]; omega
          · obtain ⟨q, rfl⟩ : ∃ q, k = q + 1 := ⟨k - 1, by omega⟩
            obtain ⟨y, hy, -⟩ := drop_at (l := l) (k := q) (by omega)
            obtain ⟨e0, e1, e2, e3, -⟩ := dep_at (HCC.out q y hy)
            have HY := Lib.hid hy
            clear hy
            obtain ⟨⟨c3, n3, s3, d3⟩, p3, op3, cl3, le3, st3, sa3⟩ := y
            simp only at e0 e1 e2 e3
            go_wp2_with (go_at_call 40; refine (VX.out _).mono ?_; rintro e w2 ⟨rfl, hB2⟩; have z0 := cell_keep hB2 hb g0; have z1 := cell_keep hB2 hb g1; have z2 := cell_keep hB2 hb g2; have z3 := cell_keep hB2 hb g3; have f0 := cell_keep hB2 hb e0; have f1 := cell_keep hB2 hb e1; have f2 := cell_keep hB2 hb e2; have f3 := cell_keep hB2 hb e3; have HB3 := Lib.hid (HB.out.trans (hB2.mono HB.out.size)); clear hB2)
            obtain ⟨cv, hcv⟩ : ∃ cv, cv = cmpF ⟨c3, n3, s3, d3⟩ ⟨c2, n2, s2, d2⟩ := ⟨_, rfl⟩
            have hcb := cmpF_bd ⟨c3, n3, s3, d3⟩ ⟨c2, n2, s2, d2⟩
            have CX := Lib.hid (RCompare_any ⟨c3, n3, s3, d3⟩ ⟨c2, n2, s2, d2⟩)
            rw [← hcv] at hcb CX
            have HCV := Lib.hid hcv
            clear hcv
            clear g0 g1 g2 g3 g4 g5 g6 g7 g8 g9 e0 e1 e2 e3
            have hwr : IntKind.i64.wrap (q : Int) = (q : Int) := IntWalk.i64_in _ (by omega)
            have hle : (q : Int) ≤ (l.length : Int) := by omega
            have hlt2 : (q : Int) < (l.length : Int) := by omega
            have hlt3 : (q : Int) + 1 < (l.length : Int) := by omega
            have hge3 : (0 : Int) ≤ (q : Int) + 1 := by omega
            have htn : ((q : Int) + 1).toNat = q + 1 := by omega
            generalize wr.heap.size = nb at *
            refine wp_region_still_tail 11 (by kernel_rfl) (by kernel_rfl) ?_
            change wpStill _ _ w2.drew _ _ _
            simp only [List.take_succ_cons, List.take_zero, List.drop_succ_cons, List.drop_zero]
            repeat
              refine wpStill_step (fun K hK => ?_)
              go_simp
              refine hK _ ?_
              clear hK K
            refine wpStill_nil ?_
            change wpList _ _ _ _ _ w2.drew
            have HB4 := Lib.hid (HB3.out.drew)
            clear z0 z1 z2 z3 f0 f1 f2 f3 HB3 hwr
            generalize w2.drew = w3 at *
            rcases hcb with hcb | hcb | hcb
            all_goals
              subst hcb
              go_wp2_with (go_at_call 41; refine (CX.out _).mono ?_; rintro e w4 ⟨rfl, hB4⟩; have HB5 := Lib.hid (HB4.out.trans (hB4.mono HB4.out.size)); clear hB4)
            · go_ret
              refine ⟨ret_int ?_, HB5.out⟩
              rw [hR.out, HD.out, prevAt_succ HY.out]
              simp only [vErr, ← HVB.out, ← HCV.out]
              rfl
            · go_ret
              refine ⟨ret_int ?_, HB5.out⟩
              rw [hR.out, HD.out, prevAt_succ HY.out]
              simp only [vErr, ← HVB.out, ← HCV.out]
              rfl
            · go_roundw
              case rel =>
                refine ⟨q + 1 + 1, by omega, by go_num, HB5.out, Lib.hid ?_⟩
                rw [hR.out, HD.out, prevAt_succ HY.out, prevAt_succ HX.out]
                simp only [vErr, ← HVB.out, ← HCV.out]
                rfl
              case measure => simp [intOf]; omega
      · obtain rfl : k = l.length := by omega
        have HR := hR
        clear hR
        go_wp2
        go_ret
        refine ⟨ret_int ?_, hBr⟩
        rw [HR.out, List.drop_length]
        cases prevAt l l.length <;> rfl
end Go.Proofs.Ytmigkmdhenkpmaa
