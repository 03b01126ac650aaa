/- Apply of the reference: revisions of the kinds 3, 4 and 5. -/
import Derived.Test.YtmigkmdhenkpmaaDepK
namespace Go.Proofs.Ytmigkmdhenkpmaa
open Go.RowKit

theorem RAmount_any (r : Rev) (w : World) (hk : 1 ≤ r.kind ∧ r.kind ≤ 5) : Calls Try.prog 47 #[.agg r.cells] w fun e w' => e = .returned (.bool (amtF r)) ∧ Below w.heap.size w w' := by
  obtain ⟨res, hres⟩ : ∃ b, b = amtF r := ⟨_, rfl⟩
  rw [← hres]
  have HRES := Lib.hid hres
  have HK := Lib.hid hk
  clear hres hk
  obtain ⟨k, m, ⟨c1, n1, s1, d1⟩⟩ := r
  simp only [Rev.cells]
  go_enter Try.func47, Try.ntmps47
  go_wp2
  all_goals go_ret
  all_goals refine ⟨ret_bool ?_, (one_box _ _ _ _ rfl).2.1⟩
  all_goals rw [HRES.out]
  all_goals clear HRES
  all_goals have hk := HK.out
  all_goals clear HK
  all_goals simp only [beq_iff_eq, beq_eq_false_iff_ne, ne_eq] at *
  all_goals simp only [amtF, inI]
  all_goals first
    | (simp_all; done)
    | (simp_all; omega)
    | (have h45 : k = 4 ∨ k = 5 := by omega
       rcases h45 with rfl | rfl <;> simp)

theorem one_set {w3 w4 : World} {g j : Nat} {u : Value} {cs y : Array Value} {t : TypeId} (hbk : w3.heap[g]? = some (.cells cs t (0, 0))) (hy : cs.setIfInBounds j u = y) (hw : w3.setCell ⟨g, j, none⟩ u = w4) : w4.heap[g]? = some (.cells y t (0, 0)) ∧ w3.grownBy w4 (some g) := by
  subst hw
  subst hy
  exact ⟨heap_setCell_same w3 g j cs t u hbk, grownBy_set w3 g j u⟩

theorem two_sets {w3 w4 : World} {g j i : Nat} {u v : Value} {cs y : Array Value} {t : TypeId} (hbk : w3.heap[g]? = some (.cells cs t (0, 0))) (hy : (cs.setIfInBounds j u).setIfInBounds i v = y) (hw : (w3.setCell ⟨g, j, none⟩ u).setCell ⟨g, i, none⟩ v = w4) : w4.heap[g]? = some (.cells y t (0, 0)) ∧ w3.grownBy w4 (some g) := by
  obtain ⟨h1, h2⟩ := one_set hbk rfl rfl (j := j) (u := u)
  obtain ⟨h3, h4⟩ := one_set h1 hy hw
  exact ⟨h3, grownBy_trans h2 h4⟩

/-- revisions of kind 3 -/
theorem RApply3 (a : Option Addr) (c : Nat) (l : List Dep) (m : Int) (f : Flt) (now : Int) (w : World) (hv : DepsV w (.slice a l.length c) l) (h0 : valE l = 0) :
    Calls Try.prog 23 #[.slice a l.length c, .agg (⟨3, m, f⟩ : Rev).cells, .int .i64 now] w (SlcRet (applyF l ⟨3, m, f⟩ now) w) := by
  obtain ⟨_, _, hv0, la, _, cA⟩ := hv.open
  simp only [Value.slice.injEq] at hv0
  obtain ⟨rfl, -, rfl⟩ := hv0
  obtain ⟨res, hres⟩ : ∃ x, x = applyF l ⟨3, m, f⟩ now := ⟨_, rfl⟩
  have HV := Lib.hid hv
  have HCA := Lib.hid cA
  rw [← hres]
  unfold applyF at hres
  rw [if_pos h0, if_pos (by simp)] at hres
  have HRS := Lib.hid hres
  have HVE := Lib.hid h0
  have VL := Lib.hid (fun w h => RValidate_any (.slice a l.length c) l w h)
  have FL := Lib.hid (fun w h => RFind_any (.slice a l.length c) l f w h)
  rw [h0] at VL
  have h24 := valE_le h0
  clear hv cA hres h0
  rcases findD_spec f l 0 with hf | ⟨k, x, hf, hx, hxf⟩
  · have HF := Lib.hid hf
    rw [hf] at FL
    clear hf
    obtain ⟨c1, n1, s1, d1⟩ := f
    simp only [Rev.cells]
    go_enter Try.func23, Try.ntmps23
    go_wp2_with (first
      | (go_at_call 16; refine (VL.out _ (HV.out.below (one_box _ _ _ _ rfl).2.1)).mono ?_; rintro e w1 ⟨rfl, hB1⟩; obtain ⟨hB, hq⟩ := box_then hB1; have q0 := hq 0 _ rfl; have q1 := hq 1 _ rfl; have q2 := hq 2 _ rfl; have q3 := hq 3 _ rfl; have q4 := hq 4 _ rfl; have q5 := hq 5 _ rfl; have HBS := Lib.hid (box_lt hB1); have HB := Lib.hid hB; clear hB1 hq hB)
      | (go_at_call 18; refine (FL.out _ (HV.out.below HB.out)).mono ?_; rintro e w2 ⟨rfl, hB2⟩; have HB2 := Lib.hid (HB.out.trans (hB2.mono HB.out.size)); clear hB2))
    go_ret2
    refine slc_err ?_ rfl HB2.out
    rw [HRS.out, HF.out]
    rfl
  · rw [Nat.zero_add] at hf
    have HF := Lib.hid hf
    rw [hf] at FL
    clear hf
    have hkl : k < l.length := (List.getElem?_eq_some_iff.1 hx).1
    have hki : (k : Int) < (l.length : Int) := by omega
    obtain ⟨b, o, rfl, hb, cc⟩ := HCA.out (by omega)
    have HC := Lib.hid (cc k x hx)
    have HX := Lib.hid hx
    have hvd := validD_bd (valE_all HVE.out x (List.mem_of_getElem? hx))
    clear cc hx hxf
    have WL := Lib.hid (fun d w h => Put_any (.slice (some ⟨b, o, none⟩) l.length c) l k d w h hkl h24)
    have AM := Lib.hid (fun w => RAmount_any ⟨3, m, f⟩ w (by simp))
    have hres3 : res = applyAt l k ⟨3, m, f⟩ now := by
      rw [HRS.out, HF.out, if_neg (by omega), Int.toNat_natCast]
    simp only [applyAt, HX.out] at hres3
    have HR := Lib.hid hres3
    clear hres3 HRS
    obtain ⟨am, ham⟩ : ∃ z, z = amtF ⟨3, m, f⟩ := ⟨_, rfl⟩
    rw [← ham] at HR AM
    have HAM := Lib.hid ham
    clear ham
    obtain ⟨c1, n1, s1, d1⟩ := f
    obtain ⟨⟨c2, n2, s2, d2⟩, p, op, cl, le, st, sa⟩ := x
    obtain ⟨y, hy⟩ : ∃ y, y = revis ⟨⟨c2, n2, s2, d2⟩, p, op, cl, le, st, sa⟩ ⟨3, m, ⟨c1, n1, s1, d1⟩⟩ := ⟨_, rfl⟩
    rw [← hy] at HR
    obtain rfl : y = ⟨⟨c2, n2, s2, d2⟩, p, op, cl, le, m, sa⟩ := hy
    have VY := Lib.hid (RValid_any ⟨⟨c2, n2, s2, d2⟩, p, op, cl, le, m, sa⟩)
    obtain ⟨vb, hvb⟩ : ∃ vb, vb = validD ⟨⟨c2, n2, s2, d2⟩, p, op, cl, le, m, sa⟩ := ⟨_, rfl⟩
    rw [← hvb] at VY HR
    clear hvb
    simp only at hvd
    simp only [Rev.cells]
    by_cases hs : sa = 0
    · have HS := Lib.hid hs
      have hsb : (sa != 0) = false := by simp [hs]
      clear hs
      cases am
      · have HVD := Lib.hid hvd
        clear hvd
        go_enter Try.func23, Try.ntmps23
        go_wp2_with (first
          | (go_at_call 16; refine (VL.out _ (HV.out.below (one_box _ _ _ _ rfl).2.1)).mono ?_; rintro e w1 ⟨rfl, hB1⟩; obtain ⟨hB, hq⟩ := box_then hB1; have q0 := hq 0 _ rfl; have q1 := hq 1 _ rfl; have q2 := hq 2 _ rfl; have q3 := hq 3 _ rfl; have q4 := hq 4 _ rfl; have q5 := hq 5 _ rfl; have HBS := Lib.hid (box_lt hB1); have HB := Lib.hid hB; clear hB1 hq hB)
          | (go_at_call 18; refine (FL.out _ (HV.out.below HB.out)).mono ?_; rintro e w2 ⟨rfl, hB2⟩; have HB2 := Lib.hid (HB.out.trans (hB2.mono HB.out.size)); obtain ⟨g0, g1, g2, g3, g4, g5, g6, g7, g8, g9⟩ := dep_at (dep_keep HB2.out hb HC.out); have hnb : w.heap.size < w2.heap.size := Nat.lt_of_lt_of_le HBS.out hB2.size; obtain ⟨r0, r1, r2, r3, r4, r5⟩ := six_keep hB2 HBS.out q0 q1 q2 q3 q4 q5; clear hB2)
          | (go_at_call 47; refine (AM.out _).mono ?_; rintro e w3 ⟨rfl, hB3⟩; obtain ⟨hB4, hq⟩ := box_then hB3; have hB5 := HB2.out.trans (hB4.mono HB2.out.size); have HB5 := Lib.hid hB5; obtain ⟨x0, x1, x2, x3, x4, x5, x6, x7, x8, x9⟩ := dep_at0 (d := ⟨⟨c2, n2, s2, d2⟩, p, op, cl, le, st, sa⟩) hq; obtain ⟨t0, t1, t2, t3, t4, t5⟩ := six_keep hB4 hnb r0 r1 r2 r3 r4 r5; have hbk := box_heap hB3; have HSZ3 := Lib.hid hB4.size; clear hB3 hB4 hq hB5 g0 g1 g2 g3 g4 g5 g6 g7 g8 g9 r0 r1 r2 r3 r4 r5))
        go_ret2
        refine slc_err ?_ rfl HB5.out
        rw [HR.out, if_pos (show sa = wantS ⟨3, m, ⟨c1, n1, s1, d1⟩⟩ from HS.out), if_neg (by simp)]
      · have HVD := Lib.hid hvd
        clear hvd
        cases vb
        · go_enter Try.func23, Try.ntmps23
          go_wp2_with (first
            | (go_at_call 16; refine (VL.out _ (HV.out.below (one_box _ _ _ _ rfl).2.1)).mono ?_; rintro e w1 ⟨rfl, hB1⟩; obtain ⟨hB, hq⟩ := box_then hB1; have q0 := hq 0 _ rfl; have q1 := hq 1 _ rfl; have q2 := hq 2 _ rfl; have q3 := hq 3 _ rfl; have q4 := hq 4 _ rfl; have q5 := hq 5 _ rfl; have HBS := Lib.hid (box_lt hB1); have HB := Lib.hid hB; clear hB1 hq hB)
            | (go_at_call 18; refine (FL.out _ (HV.out.below HB.out)).mono ?_; rintro e w2 ⟨rfl, hB2⟩; have HB2 := Lib.hid (HB.out.trans (hB2.mono HB.out.size)); obtain ⟨g0, g1, g2, g3, g4, g5, g6, g7, g8, g9⟩ := dep_at (dep_keep HB2.out hb HC.out); have hnb : w.heap.size < w2.heap.size := Nat.lt_of_lt_of_le HBS.out hB2.size; obtain ⟨r0, r1, r2, r3, r4, r5⟩ := six_keep hB2 HBS.out q0 q1 q2 q3 q4 q5; clear hB2)
            | (go_at_call 47; refine (AM.out _).mono ?_; rintro e w3 ⟨rfl, hB3⟩; obtain ⟨hB4, hq⟩ := box_then hB3; have hB5 := HB2.out.trans (hB4.mono HB2.out.size); have HB5 := Lib.hid hB5; obtain ⟨x0, x1, x2, x3, x4, x5, x6, x7, x8, x9⟩ := dep_at0 (d := ⟨⟨c2, n2, s2, d2⟩, p, op, cl, le, st, sa⟩) hq; obtain ⟨t0, t1, t2, t3, t4, t5⟩ := six_keep hB4 hnb r0 r1 r2 r3 r4 r5; have hbk := box_heap hB3; have f0 := frozen_of_row _ _ 0 _ _ hbk; have f1 := frozen_of_row _ _ 1 _ _ hbk; have f2 := frozen_of_row _ _ 2 _ _ hbk; have f3 := frozen_of_row _ _ 3 _ _ hbk; have f4 := frozen_of_row _ _ 4 _ _ hbk; have f5 := frozen_of_row _ _ 5 _ _ hbk; have f6 := frozen_of_row _ _ 6 _ _ hbk; have f7 := frozen_of_row _ _ 7 _ _ hbk; have f8 := frozen_of_row _ _ 8 _ _ hbk; have f9 := frozen_of_row _ _ 9 _ _ hbk; have HBK := Lib.hid hbk; clear hbk hB3 hB4 hq hB5 g0 g1 g2 g3 g4 g5 g6 g7 g8 g9 r0 r1 r2 r3 r4 r5)
            | (go_at_call 40; generalize hw5 : World.setCell _ _ _ = w5; obtain ⟨hbk5, hg5⟩ := one_set (y := (⟨⟨c2, n2, s2, d2⟩, p, op, cl, le, m, sa⟩ : Dep).cells) HBK.out rfl hw5; have hB8 := below_grown HB5.out hg5 HB5.out.size HB2.out.size; refine (VY.out _).mono ?_; rintro e w6 ⟨rfl, hB9⟩; have HB10 := Lib.hid (hB8.trans (hB9.mono hB8.size)); have hbk6 := (hB9.block w2.heap.size (lt_of_block hbk5)).trans hbk5; obtain ⟨y0, y1, y2, y3, y4, y5, y6, y7, y8, y9⟩ := dep_at0 (d := ⟨⟨c2, n2, s2, d2⟩, p, op, cl, le, m, sa⟩) (fun j u hu => cell_of hbk6 hu); clear x0 x1 x2 x3 x4 x5 x6 x7 x8 x9 f0 f1 f2 f3 f4 f5 f6 f7 f8 f9 hw5 hbk5 hg5 hB8 hB9 hbk6))
          go_ret2
          refine slc_err ?_ rfl HB10.out
          rw [HR.out, if_pos (show sa = wantS ⟨3, m, ⟨c1, n1, s1, d1⟩⟩ from HS.out), if_pos (by simp), if_neg (by simp), if_neg (by simp)]
        · go_enter Try.func23, Try.ntmps23
          go_wp2_with (first
            | (go_at_call 16; refine (VL.out _ (HV.out.below (one_box _ _ _ _ rfl).2.1)).mono ?_; rintro e w1 ⟨rfl, hB1⟩; obtain ⟨hB, hq⟩ := box_then hB1; have q0 := hq 0 _ rfl; have q1 := hq 1 _ rfl; have q2 := hq 2 _ rfl; have q3 := hq 3 _ rfl; have q4 := hq 4 _ rfl; have q5 := hq 5 _ rfl; have HBS := Lib.hid (box_lt hB1); have HB := Lib.hid hB; clear hB1 hq hB)
            | (go_at_call 18; refine (FL.out _ (HV.out.below HB.out)).mono ?_; rintro e w2 ⟨rfl, hB2⟩; have HB2 := Lib.hid (HB.out.trans (hB2.mono HB.out.size)); obtain ⟨g0, g1, g2, g3, g4, g5, g6, g7, g8, g9⟩ := dep_at (dep_keep HB2.out hb HC.out); have hnb : w.heap.size < w2.heap.size := Nat.lt_of_lt_of_le HBS.out hB2.size; obtain ⟨r0, r1, r2, r3, r4, r5⟩ := six_keep hB2 HBS.out q0 q1 q2 q3 q4 q5; clear hB2)
            | (go_at_call 47; refine (AM.out _).mono ?_; rintro e w3 ⟨rfl, hB3⟩; obtain ⟨hB4, hq⟩ := box_then hB3; have hB5 := HB2.out.trans (hB4.mono HB2.out.size); have HB5 := Lib.hid hB5; obtain ⟨x0, x1, x2, x3, x4, x5, x6, x7, x8, x9⟩ := dep_at0 (d := ⟨⟨c2, n2, s2, d2⟩, p, op, cl, le, st, sa⟩) hq; obtain ⟨t0, t1, t2, t3, t4, t5⟩ := six_keep hB4 hnb r0 r1 r2 r3 r4 r5; have hbk := box_heap hB3; have f0 := frozen_of_row _ _ 0 _ _ hbk; have f1 := frozen_of_row _ _ 1 _ _ hbk; have f2 := frozen_of_row _ _ 2 _ _ hbk; have f3 := frozen_of_row _ _ 3 _ _ hbk; have f4 := frozen_of_row _ _ 4 _ _ hbk; have f5 := frozen_of_row _ _ 5 _ _ hbk; have f6 := frozen_of_row _ _ 6 _ _ hbk; have f7 := frozen_of_row _ _ 7 _ _ hbk; have f8 := frozen_of_row _ _ 8 _ _ hbk; have f9 := frozen_of_row _ _ 9 _ _ hbk; have HBK := Lib.hid hbk; clear hbk hB3 hB4 hq hB5 g0 g1 g2 g3 g4 g5 g6 g7 g8 g9 r0 r1 r2 r3 r4 r5)
            | (go_at_call 40; generalize hw5 : World.setCell _ _ _ = w5; obtain ⟨hbk5, hg5⟩ := one_set (y := (⟨⟨c2, n2, s2, d2⟩, p, op, cl, le, m, sa⟩ : Dep).cells) HBK.out rfl hw5; have hB8 := below_grown HB5.out hg5 HB5.out.size HB2.out.size; refine (VY.out _).mono ?_; rintro e w6 ⟨rfl, hB9⟩; have HB10 := Lib.hid (hB8.trans (hB9.mono hB8.size)); have hbk6 := (hB9.block w2.heap.size (lt_of_block hbk5)).trans hbk5; obtain ⟨y0, y1, y2, y3, y4, y5, y6, y7, y8, y9⟩ := dep_at0 (d := ⟨⟨c2, n2, s2, d2⟩, p, op, cl, le, m, sa⟩) (fun j u hu => cell_of hbk6 hu); clear x0 x1 x2 x3 x4 x5 x6 x7 x8 x9 f0 f1 f2 f3 f4 f5 f6 f7 f8 f9 hw5 hbk5 hg5 hB8 hB9 hbk6)
            | (go_at_call 48; refine (WL.out ⟨⟨c2, n2, s2, d2⟩, p, op, cl, le, m, sa⟩ _ (HV.out.below HB10.out)).mono ?_; rintro e w7 ⟨v7, rfl, hO7, hB11⟩))
          go_ret2
          refine slc_ok ?_ rfl hO7 HB10.out.size (HB10.out.trans (hB11.mono HB10.out.size))
          rw [HR.out, if_pos (show sa = wantS ⟨3, m, ⟨c1, n1, s1, d1⟩⟩ from HS.out), if_pos (by simp), if_neg (by simp), if_pos (by simp)]
    · have HS := Lib.hid hs
      have hsb : (sa != 0) = true := by simp [hs]
      clear hs hvd
      go_enter Try.func23, Try.ntmps23
      go_wp2_with (first
        | (go_at_call 16; refine (VL.out _ (HV.out.below (one_box _ _ _ _ rfl).2.1)).mono ?_; rintro e w1 ⟨rfl, hB1⟩; obtain ⟨hB, hq⟩ := box_then hB1; have q0 := hq 0 _ rfl; have q1 := hq 1 _ rfl; have q2 := hq 2 _ rfl; have q3 := hq 3 _ rfl; have q4 := hq 4 _ rfl; have q5 := hq 5 _ rfl; have HBS := Lib.hid (box_lt hB1); have HB := Lib.hid hB; clear hB1 hq hB)
        | (go_at_call 18; refine (FL.out _ (HV.out.below HB.out)).mono ?_; rintro e w2 ⟨rfl, hB2⟩; have HB2 := Lib.hid (HB.out.trans (hB2.mono HB.out.size)); obtain ⟨g0, g1, g2, g3, g4, g5, g6, g7, g8, g9⟩ := dep_at (dep_keep HB2.out hb HC.out); have hnb : w.heap.size < w2.heap.size := Nat.lt_of_lt_of_le HBS.out hB2.size; obtain ⟨r0, r1, r2, r3, r4, r5⟩ := six_keep hB2 HBS.out q0 q1 q2 q3 q4 q5; clear hB2))
      go_ret2
      refine slc_err ?_ rfl (box_more HB2.out _ HB2.out.size)
      rw [HR.out, if_neg (by have := HS.out; show ¬ sa = 0; omega)]

/-- revisions of kind 4 -/
theorem RApply4 (a : Option Addr) (c : Nat) (l : List Dep) (m : Int) (f : Flt) (now : Int) (w : World) (hv : DepsV w (.slice a l.length c) l) (h0 : valE l = 0) :
    Calls Try.prog 23 #[.slice a l.length c, .agg (⟨4, m, f⟩ : Rev).cells, .int .i64 now] w (SlcRet (applyF l ⟨4, m, f⟩ now) w) := by
  obtain ⟨_, _, hv0, la, _, cA⟩ := hv.open
  simp only [Value.slice.injEq] at hv0
  obtain ⟨rfl, -, rfl⟩ := hv0
  obtain ⟨res, hres⟩ : ∃ x, x = applyF l ⟨4, m, f⟩ now := ⟨_, rfl⟩
  have HV := Lib.hid hv
  have HCA := Lib.hid cA
  rw [← hres]
  unfold applyF at hres
  rw [if_pos h0, if_pos (by simp)] at hres
  have HRS := Lib.hid hres
  have HVE := Lib.hid h0
  have VL := Lib.hid (fun w h => RValidate_any (.slice a l.length c) l w h)
  have FL := Lib.hid (fun w h => RFind_any (.slice a l.length c) l f w h)
  rw [h0] at VL
  have h24 := valE_le h0
  clear hv cA hres h0
  rcases findD_spec f l 0 with hf | ⟨k, x, hf, hx, hxf⟩
  · have HF := Lib.hid hf
    rw [hf] at FL
    clear hf
    obtain ⟨c1, n1, s1, d1⟩ := f
    simp only [Rev.cells]
    go_enter Try.func23, Try.ntmps23
    go_wp2_with (first
      | (go_at_call 16; refine (VL.out _ (HV.out.below (one_box _ _ _ _ rfl).2.1)).mono ?_; rintro e w1 ⟨rfl, hB1⟩; obtain ⟨hB, hq⟩ := box_then hB1; have q0 := hq 0 _ rfl; have q1 := hq 1 _ rfl; have q2 := hq 2 _ rfl; have q3 := hq 3 _ rfl; have q4 := hq 4 _ rfl; have q5 := hq 5 _ rfl; have HBS := Lib.hid (box_lt hB1); have HB := Lib.hid hB; clear hB1 hq hB)
      | (go_at_call 18; refine (FL.out _ (HV.out.below HB.out)).mono ?_; rintro e w2 ⟨rfl, hB2⟩; have HB2 := Lib.hid (HB.out.trans (hB2.mono HB.out.size)); clear hB2))
    go_ret2
    refine slc_err ?_ rfl HB2.out
    rw [HRS.out, HF.out]
    rfl
  · rw [Nat.zero_add] at hf
    have HF := Lib.hid hf
    rw [hf] at FL
    clear hf
    have hkl : k < l.length := (List.getElem?_eq_some_iff.1 hx).1
    have hki : (k : Int) < (l.length : Int) := by omega
    obtain ⟨b, o, rfl, hb, cc⟩ := HCA.out (by omega)
    have HC := Lib.hid (cc k x hx)
    have HX := Lib.hid hx
    have hvd := validD_bd (valE_all HVE.out x (List.mem_of_getElem? hx))
    clear cc hx hxf
    have WL := Lib.hid (fun d w h => Put_any (.slice (some ⟨b, o, none⟩) l.length c) l k d w h hkl h24)
    have AM := Lib.hid (fun w => RAmount_any ⟨4, m, f⟩ w (by simp))
    have hres3 : res = applyAt l k ⟨4, m, f⟩ now := by
      rw [HRS.out, HF.out, if_neg (by omega), Int.toNat_natCast]
    simp only [applyAt, HX.out] at hres3
    have HR := Lib.hid hres3
    clear hres3 HRS
    obtain ⟨am, ham⟩ : ∃ z, z = amtF ⟨4, m, f⟩ := ⟨_, rfl⟩
    rw [← ham] at HR AM
    have HAM := Lib.hid ham
    clear ham
    obtain ⟨c1, n1, s1, d1⟩ := f
    obtain ⟨⟨c2, n2, s2, d2⟩, p, op, cl, le, st, sa⟩ := x
    obtain ⟨y, hy⟩ : ∃ y, y = revis ⟨⟨c2, n2, s2, d2⟩, p, op, cl, le, st, sa⟩ ⟨4, m, ⟨c1, n1, s1, d1⟩⟩ := ⟨_, rfl⟩
    rw [← hy] at HR
    obtain rfl : y = ⟨⟨c2, n2, s2, d2⟩, p, op, cl, le, st, 1⟩ := hy
    have VY := Lib.hid (RValid_any ⟨⟨c2, n2, s2, d2⟩, p, op, cl, le, st, 1⟩)
    obtain ⟨vb, hvb⟩ : ∃ vb, vb = validD ⟨⟨c2, n2, s2, d2⟩, p, op, cl, le, st, 1⟩ := ⟨_, rfl⟩
    rw [← hvb] at VY HR
    clear hvb
    simp only at hvd
    simp only [Rev.cells]
    by_cases hs : sa = 0
    · have HS := Lib.hid hs
      have hsb : (sa != 0) = false := by simp [hs]
      clear hs
      cases am
      · have HVD := Lib.hid hvd
        clear hvd
        go_enter Try.func23, Try.ntmps23
        go_wp2_with (first
          | (go_at_call 16; refine (VL.out _ (HV.out.below (one_box _ _ _ _ rfl).2.1)).mono ?_; rintro e w1 ⟨rfl, hB1⟩; obtain ⟨hB, hq⟩ := box_then hB1; have q0 := hq 0 _ rfl; have q1 := hq 1 _ rfl; have q2 := hq 2 _ rfl; have q3 := hq 3 _ rfl; have q4 := hq 4 _ rfl; have q5 := hq 5 _ rfl; have HBS := Lib.hid (box_lt hB1); have HB := Lib.hid hB; clear hB1 hq hB)
          | (go_at_call 18; refine (FL.out _ (HV.out.below HB.out)).mono ?_; rintro e w2 ⟨rfl, hB2⟩; have HB2 := Lib.hid (HB.out.trans (hB2.mono HB.out.size)); obtain ⟨g0, g1, g2, g3, g4, g5, g6, g7, g8, g9⟩ := dep_at (dep_keep HB2.out hb HC.out); have hnb : w.heap.size < w2.heap.size := Nat.lt_of_lt_of_le HBS.out hB2.size; obtain ⟨r0, r1, r2, r3, r4, r5⟩ := six_keep hB2 HBS.out q0 q1 q2 q3 q4 q5; clear hB2)
          | (go_at_call 47; refine (AM.out _).mono ?_; rintro e w3 ⟨rfl, hB3⟩; obtain ⟨hB4, hq⟩ := box_then hB3; have hB5 := HB2.out.trans (hB4.mono HB2.out.size); have HB5 := Lib.hid hB5; obtain ⟨x0, x1, x2, x3, x4, x5, x6, x7, x8, x9⟩ := dep_at0 (d := ⟨⟨c2, n2, s2, d2⟩, p, op, cl, le, st, sa⟩) hq; obtain ⟨t0, t1, t2, t3, t4, t5⟩ := six_keep hB4 hnb r0 r1 r2 r3 r4 r5; have hbk := box_heap hB3; have HSZ3 := Lib.hid hB4.size; clear hB3 hB4 hq hB5 g0 g1 g2 g3 g4 g5 g6 g7 g8 g9 r0 r1 r2 r3 r4 r5))
        go_ret2
        refine slc_err ?_ rfl HB5.out
        rw [HR.out, if_pos (show sa = wantS ⟨4, m, ⟨c1, n1, s1, d1⟩⟩ from HS.out), if_neg (by simp)]
      · have HVD := Lib.hid hvd
        clear hvd
        cases vb
        · go_enter Try.func23, Try.ntmps23
          go_wp2_with (first
            | (go_at_call 16; refine (VL.out _ (HV.out.below (one_box _ _ _ _ rfl).2.1)).mono ?_; rintro e w1 ⟨rfl, hB1⟩; obtain ⟨hB, hq⟩ := box_then hB1; have q0 := hq 0 _ rfl; have q1 := hq 1 _ rfl; have q2 := hq 2 _ rfl; have q3 := hq 3 _ rfl; have q4 := hq 4 _ rfl; have q5 := hq 5 _ rfl; have HBS := Lib.hid (box_lt hB1); have HB := Lib.hid hB; clear hB1 hq hB)
            | (go_at_call 18; refine (FL.out _ (HV.out.below HB.out)).mono ?_; rintro e w2 ⟨rfl, hB2⟩; have HB2 := Lib.hid (HB.out.trans (hB2.mono HB.out.size)); obtain ⟨g0, g1, g2, g3, g4, g5, g6, g7, g8, g9⟩ := dep_at (dep_keep HB2.out hb HC.out); have hnb : w.heap.size < w2.heap.size := Nat.lt_of_lt_of_le HBS.out hB2.size; obtain ⟨r0, r1, r2, r3, r4, r5⟩ := six_keep hB2 HBS.out q0 q1 q2 q3 q4 q5; clear hB2)
            | (go_at_call 47; refine (AM.out _).mono ?_; rintro e w3 ⟨rfl, hB3⟩; obtain ⟨hB4, hq⟩ := box_then hB3; have hB5 := HB2.out.trans (hB4.mono HB2.out.size); have HB5 := Lib.hid hB5; obtain ⟨x0, x1, x2, x3, x4, x5, x6, x7, x8, x9⟩ := dep_at0 (d := ⟨⟨c2, n2, s2, d2⟩, p, op, cl, le, st, sa⟩) hq; obtain ⟨t0, t1, t2, t3, t4, t5⟩ := six_keep hB4 hnb r0 r1 r2 r3 r4 r5; have hbk := box_heap hB3; have f0 := frozen_of_row _ _ 0 _ _ hbk; have f1 := frozen_of_row _ _ 1 _ _ hbk; have f2 := frozen_of_row _ _ 2 _ _ hbk; have f3 := frozen_of_row _ _ 3 _ _ hbk; have f4 := frozen_of_row _ _ 4 _ _ hbk; have f5 := frozen_of_row _ _ 5 _ _ hbk; have f6 := frozen_of_row _ _ 6 _ _ hbk; have f7 := frozen_of_row _ _ 7 _ _ hbk; have f8 := frozen_of_row _ _ 8 _ _ hbk; have f9 := frozen_of_row _ _ 9 _ _ hbk; have HBK := Lib.hid hbk; clear hbk hB3 hB4 hq hB5 g0 g1 g2 g3 g4 g5 g6 g7 g8 g9 r0 r1 r2 r3 r4 r5)
            | (go_at_call 40; generalize hw5 : World.setCell _ _ _ = w5; obtain ⟨hbk5, hg5⟩ := one_set (y := (⟨⟨c2, n2, s2, d2⟩, p, op, cl, le, st, 1⟩ : Dep).cells) HBK.out rfl hw5; have hB8 := below_grown HB5.out hg5 HB5.out.size HB2.out.size; refine (VY.out _).mono ?_; rintro e w6 ⟨rfl, hB9⟩; have HB10 := Lib.hid (hB8.trans (hB9.mono hB8.size)); have hbk6 := (hB9.block w2.heap.size (lt_of_block hbk5)).trans hbk5; obtain ⟨y0, y1, y2, y3, y4, y5, y6, y7, y8, y9⟩ := dep_at0 (d := ⟨⟨c2, n2, s2, d2⟩, p, op, cl, le, st, 1⟩) (fun j u hu => cell_of hbk6 hu); clear x0 x1 x2 x3 x4 x5 x6 x7 x8 x9 f0 f1 f2 f3 f4 f5 f6 f7 f8 f9 hw5 hbk5 hg5 hB8 hB9 hbk6))
          go_ret2
          refine slc_err ?_ rfl HB10.out
          rw [HR.out, if_pos (show sa = wantS ⟨4, m, ⟨c1, n1, s1, d1⟩⟩ from HS.out), if_pos (by simp), if_neg (by simp), if_neg (by simp)]
        · go_enter Try.func23, Try.ntmps23
          go_wp2_with (first
            | (go_at_call 16; refine (VL.out _ (HV.out.below (one_box _ _ _ _ rfl).2.1)).mono ?_; rintro e w1 ⟨rfl, hB1⟩; obtain ⟨hB, hq⟩ := box_then hB1; have q0 := hq 0 _ rfl; have q1 := hq 1 _ rfl; have q2 := hq 2 _ rfl; have q3 := hq 3 _ rfl; have q4 := hq 4 _ rfl; have q5 := hq 5 _ rfl; have HBS := Lib.hid (box_lt hB1); have HB := Lib.hid hB; clear hB1 hq hB)
            | (go_at_call 18; refine (FL.out _ (HV.out.below HB.out)).mono ?_; rintro e w2 ⟨rfl, hB2⟩; have HB2 := Lib.hid (HB.out.trans (hB2.mono HB.out.size)); obtain ⟨g0, g1, g2, g3, g4, g5, g6, g7, g8, g9⟩ := dep_at (dep_keep HB2.out hb HC.out); have hnb : w.heap.size < w2.heap.size := Nat.lt_of_lt_of_le HBS.out hB2.size; obtain ⟨r0, r1, r2, r3, r4, r5⟩ := six_keep hB2 HBS.out q0 q1 q2 q3 q4 q5; clear hB2)
            | (go_at_call 47; refine (AM.out _).mono ?_; rintro e w3 ⟨rfl, hB3⟩; obtain ⟨hB4, hq⟩ := box_then hB3; have hB5 := HB2.out.trans (hB4.mono HB2.out.size); have HB5 := Lib.hid hB5; obtain ⟨x0, x1, x2, x3, x4, x5, x6, x7, x8, x9⟩ := dep_at0 (d := ⟨⟨c2, n2, s2, d2⟩, p, op, cl, le, st, sa⟩) hq; obtain ⟨t0, t1, t2, t3, t4, t5⟩ := six_keep hB4 hnb r0 r1 r2 r3 r4 r5; have hbk := box_heap hB3; have f0 := frozen_of_row _ _ 0 _ _ hbk; have f1 := frozen_of_row _ _ 1 _ _ hbk; have f2 := frozen_of_row _ _ 2 _ _ hbk; have f3 := frozen_of_row _ _ 3 _ _ hbk; have f4 := frozen_of_row _ _ 4 _ _ hbk; have f5 := frozen_of_row _ _ 5 _ _ hbk; have f6 := frozen_of_row _ _ 6 _ _ hbk; have f7 := frozen_of_row _ _ 7 _ _ hbk; have f8 := frozen_of_row _ _ 8 _ _ hbk; have f9 := frozen_of_row _ _ 9 _ _ hbk; have HBK := Lib.hid hbk; clear hbk hB3 hB4 hq hB5 g0 g1 g2 g3 g4 g5 g6 g7 g8 g9 r0 r1 r2 r3 r4 r5)
            | (go_at_call 40; generalize hw5 : World.setCell _ _ _ = w5; obtain ⟨hbk5, hg5⟩ := one_set (y := (⟨⟨c2, n2, s2, d2⟩, p, op, cl, le, st, 1⟩ : Dep).cells) HBK.out rfl hw5; have hB8 := below_grown HB5.out hg5 HB5.out.size HB2.out.size; refine (VY.out _).mono ?_; rintro e w6 ⟨rfl, hB9⟩; have HB10 := Lib.hid (hB8.trans (hB9.mono hB8.size)); have hbk6 := (hB9.block w2.heap.size (lt_of_block hbk5)).trans hbk5; obtain ⟨y0, y1, y2, y3, y4, y5, y6, y7, y8, y9⟩ := dep_at0 (d := ⟨⟨c2, n2, s2, d2⟩, p, op, cl, le, st, 1⟩) (fun j u hu => cell_of hbk6 hu); clear x0 x1 x2 x3 x4 x5 x6 x7 x8 x9 f0 f1 f2 f3 f4 f5 f6 f7 f8 f9 hw5 hbk5 hg5 hB8 hB9 hbk6)
            | (go_at_call 48; refine (WL.out ⟨⟨c2, n2, s2, d2⟩, p, op, cl, le, st, 1⟩ _ (HV.out.below HB10.out)).mono ?_; rintro e w7 ⟨v7, rfl, hO7, hB11⟩))
          go_ret2
          refine slc_ok ?_ rfl hO7 HB10.out.size (HB10.out.trans (hB11.mono HB10.out.size))
          rw [HR.out, if_pos (show sa = wantS ⟨4, m, ⟨c1, n1, s1, d1⟩⟩ from HS.out), if_pos (by simp), if_neg (by simp), if_pos (by simp)]
    · have HS := Lib.hid hs
      have hsb : (sa != 0) = true := by simp [hs]
      clear hs hvd
      go_enter Try.func23, Try.ntmps23
      go_wp2_with (first
        | (go_at_call 16; refine (VL.out _ (HV.out.below (one_box _ _ _ _ rfl).2.1)).mono ?_; rintro e w1 ⟨rfl, hB1⟩; obtain ⟨hB, hq⟩ := box_then hB1; have q0 := hq 0 _ rfl; have q1 := hq 1 _ rfl; have q2 := hq 2 _ rfl; have q3 := hq 3 _ rfl; have q4 := hq 4 _ rfl; have q5 := hq 5 _ rfl; have HBS := Lib.hid (box_lt hB1); have HB := Lib.hid hB; clear hB1 hq hB)
        | (go_at_call 18; refine (FL.out _ (HV.out.below HB.out)).mono ?_; rintro e w2 ⟨rfl, hB2⟩; have HB2 := Lib.hid (HB.out.trans (hB2.mono HB.out.size)); obtain ⟨g0, g1, g2, g3, g4, g5, g6, g7, g8, g9⟩ := dep_at (dep_keep HB2.out hb HC.out); have hnb : w.heap.size < w2.heap.size := Nat.lt_of_lt_of_le HBS.out hB2.size; obtain ⟨r0, r1, r2, r3, r4, r5⟩ := six_keep hB2 HBS.out q0 q1 q2 q3 q4 q5; clear hB2))
      go_ret2
      refine slc_err ?_ rfl (box_more HB2.out _ HB2.out.size)
      rw [HR.out, if_neg (by have := HS.out; show ¬ sa = 0; omega)]

/-- revisions of kind 5 -/
theorem RApply5 (a : Option Addr) (c : Nat) (l : List Dep) (m : Int) (f : Flt) (now : Int) (w : World) (hv : DepsV w (.slice a l.length c) l) (h0 : valE l = 0) :
    Calls Try.prog 23 #[.slice a l.length c, .agg (⟨5, m, f⟩ : Rev).cells, .int .i64 now] w (SlcRet (applyF l ⟨5, m, f⟩ now) w) := by
  obtain ⟨_, _, hv0, la, _, cA⟩ := hv.open
  simp only [Value.slice.injEq] at hv0
  obtain ⟨rfl, -, rfl⟩ := hv0
  obtain ⟨res, hres⟩ : ∃ x, x = applyF l ⟨5, m, f⟩ now := ⟨_, rfl⟩
  have HV := Lib.hid hv
  have HCA := Lib.hid cA
  rw [← hres]
  unfold applyF at hres
  rw [if_pos h0, if_pos (by simp)] at hres
  have HRS := Lib.hid hres
  have HVE := Lib.hid h0
  have VL := Lib.hid (fun w h => RValidate_any (.slice a l.length c) l w h)
  have FL := Lib.hid (fun w h => RFind_any (.slice a l.length c) l f w h)
  rw [h0] at VL
  have h24 := valE_le h0
  clear hv cA hres h0
  rcases findD_spec f l 0 with hf | ⟨k, x, hf, hx, hxf⟩
  · have HF := Lib.hid hf
    rw [hf] at FL
    clear hf
    obtain ⟨c1, n1, s1, d1⟩ := f
    simp only [Rev.cells]
    go_enter Try.func23, Try.ntmps23
    go_wp2_with (first
      | (go_at_call 16; refine (VL.out _ (HV.out.below (one_box _ _ _ _ rfl).2.1)).mono ?_; rintro e w1 ⟨rfl, hB1⟩; obtain ⟨hB, hq⟩ := box_then hB1; have q0 := hq 0 _ rfl; have q1 := hq 1 _ rfl; have q2 := hq 2 _ rfl; have q3 := hq 3 _ rfl; have q4 := hq 4 _ rfl; have q5 := hq 5 _ rfl; have HBS := Lib.hid (box_lt hB1); have HB := Lib.hid hB; clear hB1 hq hB)
      | (go_at_call 18; refine (FL.out _ (HV.out.below HB.out)).mono ?_; rintro e w2 ⟨rfl, hB2⟩; have HB2 := Lib.hid (HB.out.trans (hB2.mono HB.out.size)); clear hB2))
    go_ret2
    refine slc_err ?_ rfl HB2.out
    rw [HRS.out, HF.out]
    rfl
  · rw [Nat.zero_add] at hf
    have HF := Lib.hid hf
    rw [hf] at FL
    clear hf
    have hkl : k < l.length := (List.getElem?_eq_some_iff.1 hx).1
    have hki : (k : Int) < (l.length : Int) := by omega
    obtain ⟨b, o, rfl, hb, cc⟩ := HCA.out (by omega)
    have HC := Lib.hid (cc k x hx)
    have HX := Lib.hid hx
    have hvd := validD_bd (valE_all HVE.out x (List.mem_of_getElem? hx))
    clear cc hx hxf
    have WL := Lib.hid (fun d w h => Put_any (.slice (some ⟨b, o, none⟩) l.length c) l k d w h hkl h24)
    have AM := Lib.hid (fun w => RAmount_any ⟨5, m, f⟩ w (by simp))
    have hres3 : res = applyAt l k ⟨5, m, f⟩ now := by
      rw [HRS.out, HF.out, if_neg (by omega), Int.toNat_natCast]
    simp only [applyAt, HX.out] at hres3
    have HR := Lib.hid hres3
    clear hres3 HRS
    obtain ⟨am, ham⟩ : ∃ z, z = amtF ⟨5, m, f⟩ := ⟨_, rfl⟩
    rw [← ham] at HR AM
    have HAM := Lib.hid ham
    clear ham
    obtain ⟨c1, n1, s1, d1⟩ := f
    obtain ⟨⟨c2, n2, s2, d2⟩, p, op, cl, le, st, sa⟩ := x
    obtain ⟨y, hy⟩ : ∃ y, y = revis ⟨⟨c2, n2, s2, d2⟩, p, op, cl, le, st, sa⟩ ⟨5, m, ⟨c1, n1, s1, d1⟩⟩ := ⟨_, rfl⟩
    rw [← hy] at HR
    obtain rfl : y = ⟨⟨c2, n2, s2, d2⟩, p, op, cl, le, st, 0⟩ := hy
    have VY := Lib.hid (RValid_any ⟨⟨c2, n2, s2, d2⟩, p, op, cl, le, st, 0⟩)
    obtain ⟨vb, hvb⟩ : ∃ vb, vb = validD ⟨⟨c2, n2, s2, d2⟩, p, op, cl, le, st, 0⟩ := ⟨_, rfl⟩
    rw [← hvb] at VY HR
    clear hvb
    simp only at hvd
    simp only [Rev.cells]
    by_cases hs : sa = 1
    · have HS := Lib.hid hs
      have hsb : (sa != 1) = false := by simp [hs]
      clear hs
      cases am
      · have HVD := Lib.hid hvd
        clear hvd
        go_enter Try.func23, Try.ntmps23
        go_wp2_with (first
          | (go_at_call 16; refine (VL.out _ (HV.out.below (one_box _ _ _ _ rfl).2.1)).mono ?_; rintro e w1 ⟨rfl, hB1⟩; obtain ⟨hB, hq⟩ := box_then hB1; have q0 := hq 0 _ rfl; have q1 := hq 1 _ rfl; have q2 := hq 2 _ rfl; have q3 := hq 3 _ rfl; have q4 := hq 4 _ rfl; have q5 := hq 5 _ rfl; have HBS := Lib.hid (box_lt hB1); have HB := Lib.hid hB; clear hB1 hq hB)
          | (go_at_call 18; refine (FL.out _ (HV.out.below HB.out)).mono ?_; rintro e w2 ⟨rfl, hB2⟩; have HB2 := Lib.hid (HB.out.trans (hB2.mono HB.out.size)); obtain ⟨g0, g1, g2, g3, g4, g5, g6, g7, g8, g9⟩ := dep_at (dep_keep HB2.out hb HC.out); have hnb : w.heap.size < w2.heap.size := Nat.lt_of_lt_of_le HBS.out hB2.size; obtain ⟨r0, r1, r2, r3, r4, r5⟩ := six_keep hB2 HBS.out q0 q1 q2 q3 q4 q5; clear hB2)
          | (go_at_call 47; refine (AM.out _).mono ?_; rintro e w3 ⟨rfl, hB3⟩; obtain ⟨hB4, hq⟩ := box_then hB3; have hB5 := HB2.out.trans (hB4.mono HB2.out.size); have HB5 := Lib.hid hB5; obtain ⟨x0, x1, x2, x3, x4, x5, x6, x7, x8, x9⟩ := dep_at0 (d := ⟨⟨c2, n2, s2, d2⟩, p, op, cl, le, st, sa⟩) hq; obtain ⟨t0, t1, t2, t3, t4, t5⟩ := six_keep hB4 hnb r0 r1 r2 r3 r4 r5; have hbk := box_heap hB3; have HSZ3 := Lib.hid hB4.size; clear hB3 hB4 hq hB5 g0 g1 g2 g3 g4 g5 g6 g7 g8 g9 r0 r1 r2 r3 r4 r5))
        go_ret2
        refine slc_err ?_ rfl HB5.out
        rw [HR.out, if_pos (show sa = wantS ⟨5, m, ⟨c1, n1, s1, d1⟩⟩ from HS.out), if_neg (by simp)]
      · have HVD := Lib.hid hvd
        clear hvd
        cases vb
        · go_enter Try.func23, Try.ntmps23
          go_wp2_with (first
            | (go_at_call 16; refine (VL.out _ (HV.out.below (one_box _ _ _ _ rfl).2.1)).mono ?_; rintro e w1 ⟨rfl, hB1⟩; obtain ⟨hB, hq⟩ := box_then hB1; have q0 := hq 0 _ rfl; have q1 := hq 1 _ rfl; have q2 := hq 2 _ rfl; have q3 := hq 3 _ rfl; have q4 := hq 4 _ rfl; have q5 := hq 5 _ rfl; have HBS := Lib.hid (box_lt hB1); have HB := Lib.hid hB; clear hB1 hq hB)
            | (go_at_call 18; refine (FL.out _ (HV.out.below HB.out)).mono ?_; rintro e w2 ⟨rfl, hB2⟩; have HB2 := Lib.hid (HB.out.trans (hB2.mono HB.out.size)); obtain ⟨g0, g1, g2, g3, g4, g5, g6, g7, g8, g9⟩ := dep_at (dep_keep HB2.out hb HC.out); have hnb : w.heap.size < w2.heap.size := Nat.lt_of_lt_of_le HBS.out hB2.size; obtain ⟨r0, r1, r2, r3, r4, r5⟩ := six_keep hB2 HBS.out q0 q1 q2 q3 q4 q5; clear hB2)
            | (go_at_call 47; refine (AM.out _).mono ?_; rintro e w3 ⟨rfl, hB3⟩; obtain ⟨hB4, hq⟩ := box_then hB3; have hB5 := HB2.out.trans (hB4.mono HB2.out.size); have HB5 := Lib.hid hB5; obtain ⟨x0, x1, x2, x3, x4, x5, x6, x7, x8, x9⟩ := dep_at0 (d := ⟨⟨c2, n2, s2, d2⟩, p, op, cl, le, st, sa⟩) hq; obtain ⟨t0, t1, t2, t3, t4, t5⟩ := six_keep hB4 hnb r0 r1 r2 r3 r4 r5; have hbk := box_heap hB3; have f0 := frozen_of_row _ _ 0 _ _ hbk; have f1 := frozen_of_row _ _ 1 _ _ hbk; have f2 := frozen_of_row _ _ 2 _ _ hbk; have f3 := frozen_of_row _ _ 3 _ _ hbk; have f4 := frozen_of_row _ _ 4 _ _ hbk; have f5 := frozen_of_row _ _ 5 _ _ hbk; have f6 := frozen_of_row _ _ 6 _ _ hbk; have f7 := frozen_of_row _ _ 7 _ _ hbk; have f8 := frozen_of_row _ _ 8 _ _ hbk; have f9 := frozen_of_row _ _ 9 _ _ hbk; have HBK := Lib.hid hbk; clear hbk hB3 hB4 hq hB5 g0 g1 g2 g3 g4 g5 g6 g7 g8 g9 r0 r1 r2 r3 r4 r5)
            | (go_at_call 40; generalize hw5 : World.setCell _ _ _ = w5; obtain ⟨hbk5, hg5⟩ := one_set (y := (⟨⟨c2, n2, s2, d2⟩, p, op, cl, le, st, 0⟩ : Dep).cells) HBK.out rfl hw5; have hB8 := below_grown HB5.out hg5 HB5.out.size HB2.out.size; refine (VY.out _).mono ?_; rintro e w6 ⟨rfl, hB9⟩; have HB10 := Lib.hid (hB8.trans (hB9.mono hB8.size)); have hbk6 := (hB9.block w2.heap.size (lt_of_block hbk5)).trans hbk5; obtain ⟨y0, y1, y2, y3, y4, y5, y6, y7, y8, y9⟩ := dep_at0 (d := ⟨⟨c2, n2, s2, d2⟩, p, op, cl, le, st, 0⟩) (fun j u hu => cell_of hbk6 hu); clear x0 x1 x2 x3 x4 x5 x6 x7 x8 x9 f0 f1 f2 f3 f4 f5 f6 f7 f8 f9 hw5 hbk5 hg5 hB8 hB9 hbk6))
          go_ret2
          refine slc_err ?_ rfl HB10.out
          rw [HR.out, if_pos (show sa = wantS ⟨5, m, ⟨c1, n1, s1, d1⟩⟩ from HS.out), if_pos (by simp), if_neg (by simp), if_neg (by simp)]
        · go_enter Try.func23, Try.ntmps23
          go_wp2_with (first
            | (go_at_call 16; refine (VL.out _ (HV.out.below (one_box _ _ _ _ rfl).2.1)).mono ?_; rintro e w1 ⟨rfl, hB1⟩; obtain ⟨hB, hq⟩ := box_then hB1; have q0 := hq 0 _ rfl; have q1 := hq 1 _ rfl; have q2 := hq 2 _ rfl; have q3 := hq 3 _ rfl; have q4 := hq 4 _ rfl; have q5 := hq 5 _ rfl; have HBS := Lib.hid (box_lt hB1); have HB := Lib.hid hB; clear hB1 hq hB)
            | (go_at_call 18; refine (FL.out _ (HV.out.below HB.out)).mono ?_; rintro e w2 ⟨rfl, hB2⟩; have HB2 := Lib.hid (HB.out.trans (hB2.mono HB.out.size)); obtain ⟨g0, g1, g2, g3, g4, g5, g6, g7, g8, g9⟩ := dep_at (dep_keep HB2.out hb HC.out); have hnb : w.heap.size < w2.heap.size := Nat.lt_of_lt_of_le HBS.out hB2.size; obtain ⟨r0, r1, r2, r3, r4, r5⟩ := six_keep hB2 HBS.out q0 q1 q2 q3 q4 q5; clear hB2)
            | (go_at_call 47; refine (AM.out _).mono ?_; rintro e w3 ⟨rfl, hB3⟩; obtain ⟨hB4, hq⟩ := box_then hB3; have hB5 := HB2.out.trans (hB4.mono HB2.out.size); have HB5 := Lib.hid hB5; obtain ⟨x0, x1, x2, x3, x4, x5, x6, x7, x8, x9⟩ := dep_at0 (d := ⟨⟨c2, n2, s2, d2⟩, p, op, cl, le, st, sa⟩) hq; obtain ⟨t0, t1, t2, t3, t4, t5⟩ := six_keep hB4 hnb r0 r1 r2 r3 r4 r5; have hbk := box_heap hB3; have f0 := frozen_of_row _ _ 0 _ _ hbk; have f1 := frozen_of_row _ _ 1 _ _ hbk; have f2 := frozen_of_row _ _ 2 _ _ hbk; have f3 := frozen_of_row _ _ 3 _ _ hbk; have f4 := frozen_of_row _ _ 4 _ _ hbk; have f5 := frozen_of_row _ _ 5 _ _ hbk; have f6 := frozen_of_row _ _ 6 _ _ hbk; have f7 := frozen_of_row _ _ 7 _ _ hbk; have f8 := frozen_of_row _ _ 8 _ _ hbk; have f9 := frozen_of_row _ _ 9 _ _ hbk; have HBK := Lib.hid hbk; clear hbk hB3 hB4 hq hB5 g0 g1 g2 g3 g4 g5 g6 g7 g8 g9 r0 r1 r2 r3 r4 r5)
            | (go_at_call 40; generalize hw5 : World.setCell _ _ _ = w5; obtain ⟨hbk5, hg5⟩ := one_set (y := (⟨⟨c2, n2, s2, d2⟩, p, op, cl, le, st, 0⟩ : Dep).cells) HBK.out rfl hw5; have hB8 := below_grown HB5.out hg5 HB5.out.size HB2.out.size; refine (VY.out _).mono ?_; rintro e w6 ⟨rfl, hB9⟩; have HB10 := Lib.hid (hB8.trans (hB9.mono hB8.size)); have hbk6 := (hB9.block w2.heap.size (lt_of_block hbk5)).trans hbk5; obtain ⟨y0, y1, y2, y3, y4, y5, y6, y7, y8, y9⟩ := dep_at0 (d := ⟨⟨c2, n2, s2, d2⟩, p, op, cl, le, st, 0⟩) (fun j u hu => cell_of hbk6 hu); clear x0 x1 x2 x3 x4 x5 x6 x7 x8 x9 f0 f1 f2 f3 f4 f5 f6 f7 f8 f9 hw5 hbk5 hg5 hB8 hB9 hbk6)
            | (go_at_call 48; refine (WL.out ⟨⟨c2, n2, s2, d2⟩, p, op, cl, le, st, 0⟩ _ (HV.out.below HB10.out)).mono ?_; rintro e w7 ⟨v7, rfl, hO7, hB11⟩))
          go_ret2
          refine slc_ok ?_ rfl hO7 HB10.out.size (HB10.out.trans (hB11.mono HB10.out.size))
          rw [HR.out, if_pos (show sa = wantS ⟨5, m, ⟨c1, n1, s1, d1⟩⟩ from HS.out), if_pos (by simp), if_neg (by simp), if_pos (by simp)]
    · have HS := Lib.hid hs
      have hsb : (sa != 1) = true := by simp [hs]
      clear hs hvd
      go_enter Try.func23, Try.ntmps23
      go_wp2_with (first
        | (go_at_call 16; refine (VL.out _ (HV.out.below (one_box _ _ _ _ rfl).2.1)).mono ?_; rintro e w1 ⟨rfl, hB1⟩; obtain ⟨hB, hq⟩ := box_then hB1; have q0 := hq 0 _ rfl; have q1 := hq 1 _ rfl; have q2 := hq 2 _ rfl; have q3 := hq 3 _ rfl; have q4 := hq 4 _ rfl; have q5 := hq 5 _ rfl; have HBS := Lib.hid (box_lt hB1); have HB := Lib.hid hB; clear hB1 hq hB)
        | (go_at_call 18; refine (FL.out _ (HV.out.below HB.out)).mono ?_; rintro e w2 ⟨rfl, hB2⟩; have HB2 := Lib.hid (HB.out.trans (hB2.mono HB.out.size)); obtain ⟨g0, g1, g2, g3, g4, g5, g6, g7, g8, g9⟩ := dep_at (dep_keep HB2.out hb HC.out); have hnb : w.heap.size < w2.heap.size := Nat.lt_of_lt_of_le HBS.out hB2.size; obtain ⟨r0, r1, r2, r3, r4, r5⟩ := six_keep hB2 HBS.out q0 q1 q2 q3 q4 q5; clear hB2))
      go_ret2
      refine slc_err ?_ rfl (box_more HB2.out _ HB2.out.size)
      rw [HR.out, if_neg (by have := HS.out; show ¬ sa = 1; omega)]
end Go.Proofs.Ytmigkmdhenkpmaa
