/- Apply of the reference: revisions of the kinds 1 and 2. -/
import Derived.Test.YtmigkmdhenkpmaaDepL
namespace Go.Proofs.Ytmigkmdhenkpmaa
open Go.RowKit

set_option maxHeartbeats 2000000 in
/-- revisions of kind 2 -/
theorem RApply2 (a : Option Addr) (c : Nat) (l : List Dep) (m : Int) (f : Flt) (now : Int) (w : World) (hv : DepsV w (.slice a l.length c) l) (h0 : valE l = 0) :
    Calls Try.prog 23 #[.slice a l.length c, .agg (⟨2, m, f⟩ : Rev).cells, .int .i64 now] w (SlcRet (applyF l ⟨2, m, f⟩ now) w) := by
  obtain ⟨_, _, hv0, la, _, cA⟩ := hv.open
  simp only [Value.slice.injEq] at hv0
  obtain ⟨rfl, -, rfl⟩ := hv0
  obtain ⟨res, hres⟩ : ∃ x, x = applyF l ⟨2, m, f⟩ now := ⟨_, rfl⟩
  have HV := Lib.hid hv
  have HCA := Lib.hid cA
  rw [← hres]
  unfold applyF at hres
  rw [if_pos h0, if_pos (by simp)] at hres
  have HRS := Lib.hid hres
  have HVE := Lib.hid h0
  have VL := Lib.hid (fun w h => RValidate_any (.slice a l.length c) l w h)
  have FL := Lib.hid (fun w h => RFind_any (.slice a l.length c) l f w h)
  rw [h0] at VL
  have h24 := valE_le h0
  clear hv cA hres h0
  rcases findD_spec f l 0 with hf | ⟨k, x, hf, hx, hxf⟩
  · have HF := Lib.hid hf
    rw [hf] at FL
    clear hf
    obtain ⟨c1, n1, s1, d1⟩ := f
    simp only [Rev.cells]
    go_enter Try.func23, Try.ntmps23
    go_wp2_with (first
      | (go_at_call 16; refine (VL.out _ (HV.out.below (one_box _ _ _ _ rfl).2.1)).mono ?_; rintro e w1 ⟨rfl, hB1⟩; obtain ⟨hB, hq⟩ := box_then hB1; have q0 := hq 0 _ rfl; have q1 := hq 1 _ rfl; have q2 := hq 2 _ rfl; have q3 := hq 3 _ rfl; have q4 := hq 4 _ rfl; have q5 := hq 5 _ rfl; have HBS := Lib.hid (box_lt hB1); have HB := Lib.hid hB; clear hB1 hq hB)
      | (go_at_call 18; refine (FL.out _ (HV.out.below HB.out)).mono ?_; rintro e w2 ⟨rfl, hB2⟩; have HB2 := Lib.hid (HB.out.trans (hB2.mono HB.out.size)); clear hB2))
    go_ret2
    refine slc_err ?_ rfl HB2.out
    rw [HRS.out, HF.out]
    rfl
  · rw [Nat.zero_add] at hf
    have HF := Lib.hid hf
    rw [hf] at FL
    clear hf
    have hkl : k < l.length := (List.getElem?_eq_some_iff.1 hx).1
    have hki : (k : Int) < (l.length : Int) := by omega
    obtain ⟨b, o, rfl, hb, cc⟩ := HCA.out (by omega)
    have HC := Lib.hid (cc k x hx)
    have HX := Lib.hid hx
    have hvd := validD_bd (valE_all HVE.out x (List.mem_of_getElem? hx))
    clear cc hx hxf
    have WL := Lib.hid (fun d w h => Put_any (.slice (some ⟨b, o, none⟩) l.length c) l k d w h hkl h24)
    have AM := Lib.hid (fun w => RAmount_any ⟨2, m, f⟩ w (by simp))
    have hres3 : res = applyAt l k ⟨2, m, f⟩ now := by
      rw [HRS.out, HF.out, if_neg (by omega), Int.toNat_natCast]
    simp only [applyAt, HX.out] at hres3
    have HR := Lib.hid hres3
    clear hres3 HRS
    obtain ⟨am, ham⟩ : ∃ z, z = amtF ⟨2, m, f⟩ := ⟨_, rfl⟩
    rw [← ham] at HR AM
    have HAM := Lib.hid ham
    clear ham
    obtain ⟨c1, n1, s1, d1⟩ := f
    obtain ⟨⟨c2, n2, s2, d2⟩, p, op, cl, le, st, sa⟩ := x
    obtain ⟨y, hy⟩ : ∃ y, y = revis ⟨⟨c2, n2, s2, d2⟩, p, op, cl, le, st, sa⟩ ⟨2, m, ⟨c1, n1, s1, d1⟩⟩ := ⟨_, rfl⟩
    rw [← hy] at HR
    obtain rfl : y = ⟨⟨c2, n2, s2, d2⟩, p, m, cl, le, st, sa⟩ := hy
    have VY := Lib.hid (RValid_any ⟨⟨c2, n2, s2, d2⟩, p, m, cl, le, st, sa⟩)
    obtain ⟨vb, hvb⟩ : ∃ vb, vb = validD ⟨⟨c2, n2, s2, d2⟩, p, m, cl, le, st, sa⟩ := ⟨_, rfl⟩
    rw [← hvb] at VY HR
    clear hvb
    simp only at hvd
    simp only [Rev.cells]
    by_cases hs : sa = 0
    · have HS := Lib.hid hs
      have hsb : (sa != 0) = false := by simp [hs]
      clear hs
      cases am
      · have HVD := Lib.hid hvd
        clear hvd
        go_enter Try.func23, Try.ntmps23
        go_wp2_with (first
          | (go_at_call 16; refine (VL.out _ (HV.out.below (one_box _ _ _ _ rfl).2.1)).mono ?_; rintro e w1 ⟨rfl, hB1⟩; obtain ⟨hB, hq⟩ := box_then hB1; have q0 := hq 0 _ rfl; have q1 := hq 1 _ rfl; have q2 := hq 2 _ rfl; have q3 := hq 3 _ rfl; have q4 := hq 4 _ rfl; have q5 := hq 5 _ rfl; have HBS := Lib.hid (box_lt hB1); have HB := Lib.hid hB; clear hB1 hq hB)
          | (go_at_call 18; refine (FL.out _ (HV.out.below HB.out)).mono ?_; rintro e w2 ⟨rfl, hB2⟩; have HB2 := Lib.hid (HB.out.trans (hB2.mono HB.out.size)); obtain ⟨g0, g1, g2, g3, g4, g5, g6, g7, g8, g9⟩ := dep_at (dep_keep HB2.out hb HC.out); have hnb : w.heap.size < w2.heap.size := Nat.lt_of_lt_of_le HBS.out hB2.size; obtain ⟨r0, r1, r2, r3, r4, r5⟩ := six_keep hB2 HBS.out q0 q1 q2 q3 q4 q5; clear hB2)
          | (go_at_call 47; refine (AM.out _).mono ?_; rintro e w3 ⟨rfl, hB3⟩; obtain ⟨hB4, hq⟩ := box_then hB3; have hB5 := HB2.out.trans (hB4.mono HB2.out.size); have HB5 := Lib.hid hB5; obtain ⟨x0, x1, x2, x3, x4, x5, x6, x7, x8, x9⟩ := dep_at0 (d := ⟨⟨c2, n2, s2, d2⟩, p, op, cl, le, st, sa⟩) hq; obtain ⟨t0, t1, t2, t3, t4, t5⟩ := six_keep hB4 hnb r0 r1 r2 r3 r4 r5; have hbk := box_heap hB3; have HSZ3 := Lib.hid hB4.size; clear hB3 hB4 hq hB5 g0 g1 g2 g3 g4 g5 g6 g7 g8 g9 r0 r1 r2 r3 r4 r5))
        go_ret2
        refine slc_err ?_ rfl HB5.out
        rw [HR.out, if_pos (show sa = wantS ⟨2, m, ⟨c1, n1, s1, d1⟩⟩ from HS.out), if_neg (by simp)]
      · have HVD := Lib.hid hvd
        clear hvd
        by_cases ho : op ≤ now
        · have hob : decide (op ≤ now) = true := decide_eq_true ho
          have HO := Lib.hid ho
          clear ho
          go_enter Try.func23, Try.ntmps23
          go_wp2_with (first
            | (go_at_call 16; refine (VL.out _ (HV.out.below (one_box _ _ _ _ rfl).2.1)).mono ?_; rintro e w1 ⟨rfl, hB1⟩; obtain ⟨hB, hq⟩ := box_then hB1; have q0 := hq 0 _ rfl; have q1 := hq 1 _ rfl; have q2 := hq 2 _ rfl; have q3 := hq 3 _ rfl; have q4 := hq 4 _ rfl; have q5 := hq 5 _ rfl; have HBS := Lib.hid (box_lt hB1); have HB := Lib.hid hB; clear hB1 hq hB)
            | (go_at_call 18; refine (FL.out _ (HV.out.below HB.out)).mono ?_; rintro e w2 ⟨rfl, hB2⟩; have HB2 := Lib.hid (HB.out.trans (hB2.mono HB.out.size)); obtain ⟨g0, g1, g2, g3, g4, g5, g6, g7, g8, g9⟩ := dep_at (dep_keep HB2.out hb HC.out); have hnb : w.heap.size < w2.heap.size := Nat.lt_of_lt_of_le HBS.out hB2.size; obtain ⟨r0, r1, r2, r3, r4, r5⟩ := six_keep hB2 HBS.out q0 q1 q2 q3 q4 q5; clear hB2)
            | (go_at_call 47; refine (AM.out _).mono ?_; rintro e w3 ⟨rfl, hB3⟩; obtain ⟨hB4, hq⟩ := box_then hB3; have hB5 := HB2.out.trans (hB4.mono HB2.out.size); have HB5 := Lib.hid hB5; obtain ⟨x0, x1, x2, x3, x4, x5, x6, x7, x8, x9⟩ := dep_at0 (d := ⟨⟨c2, n2, s2, d2⟩, p, op, cl, le, st, sa⟩) hq; obtain ⟨t0, t1, t2, t3, t4, t5⟩ := six_keep hB4 hnb r0 r1 r2 r3 r4 r5; have hbk := box_heap hB3; have HSZ3 := Lib.hid hB4.size; clear hB3 hB4 hq hB5 g0 g1 g2 g3 g4 g5 g6 g7 g8 g9 r0 r1 r2 r3 r4 r5))
          go_ret2
          refine slc_err ?_ rfl HB5.out
          rw [HR.out, if_pos (show sa = wantS ⟨2, m, ⟨c1, n1, s1, d1⟩⟩ from HS.out), if_pos (by simp), if_pos (by have := HO.out; simp; omega)]
        · have hob : decide (op ≤ now) = false := decide_eq_false ho
          have HO := Lib.hid ho
          clear ho
          by_cases hm : m < now
          · have hmb : decide (m < now) = true := decide_eq_true hm
            have HM := Lib.hid hm
            clear hm
            go_enter Try.func23, Try.ntmps23
            go_wp2_with (first
              | (go_at_call 16; refine (VL.out _ (HV.out.below (one_box _ _ _ _ rfl).2.1)).mono ?_; rintro e w1 ⟨rfl, hB1⟩; obtain ⟨hB, hq⟩ := box_then hB1; have q0 := hq 0 _ rfl; have q1 := hq 1 _ rfl; have q2 := hq 2 _ rfl; have q3 := hq 3 _ rfl; have q4 := hq 4 _ rfl; have q5 := hq 5 _ rfl; have HBS := Lib.hid (box_lt hB1); have HB := Lib.hid hB; clear hB1 hq hB)
              | (go_at_call 18; refine (FL.out _ (HV.out.below HB.out)).mono ?_; rintro e w2 ⟨rfl, hB2⟩; have HB2 := Lib.hid (HB.out.trans (hB2.mono HB.out.size)); obtain ⟨g0, g1, g2, g3, g4, g5, g6, g7, g8, g9⟩ := dep_at (dep_keep HB2.out hb HC.out); have hnb : w.heap.size < w2.heap.size := Nat.lt_of_lt_of_le HBS.out hB2.size; obtain ⟨r0, r1, r2, r3, r4, r5⟩ := six_keep hB2 HBS.out q0 q1 q2 q3 q4 q5; clear hB2)
              | (go_at_call 47; refine (AM.out _).mono ?_; rintro e w3 ⟨rfl, hB3⟩; obtain ⟨hB4, hq⟩ := box_then hB3; have hB5 := HB2.out.trans (hB4.mono HB2.out.size); have HB5 := Lib.hid hB5; obtain ⟨x0, x1, x2, x3, x4, x5, x6, x7, x8, x9⟩ := dep_at0 (d := ⟨⟨c2, n2, s2, d2⟩, p, op, cl, le, st, sa⟩) hq; obtain ⟨t0, t1, t2, t3, t4, t5⟩ := six_keep hB4 hnb r0 r1 r2 r3 r4 r5; have hbk := box_heap hB3; have HSZ3 := Lib.hid hB4.size; clear hB3 hB4 hq hB5 g0 g1 g2 g3 g4 g5 g6 g7 g8 g9 r0 r1 r2 r3 r4 r5))
            go_ret2
            refine slc_err ?_ rfl HB5.out
            rw [HR.out, if_pos (show sa = wantS ⟨2, m, ⟨c1, n1, s1, d1⟩⟩ from HS.out), if_pos (by simp), if_pos (by have := HM.out; simp; omega)]
          · have hmb : decide (m < now) = false := decide_eq_false hm
            have HM := Lib.hid hm
            clear hm
            cases vb
            · go_enter Try.func23, Try.ntmps23
              go_wp2_with (first
                | (go_at_call 16; refine (VL.out _ (HV.out.below (one_box _ _ _ _ rfl).2.1)).mono ?_; rintro e w1 ⟨rfl, hB1⟩; obtain ⟨hB, hq⟩ := box_then hB1; have q0 := hq 0 _ rfl; have q1 := hq 1 _ rfl; have q2 := hq 2 _ rfl; have q3 := hq 3 _ rfl; have q4 := hq 4 _ rfl; have q5 := hq 5 _ rfl; have HBS := Lib.hid (box_lt hB1); have HB := Lib.hid hB; clear hB1 hq hB)
                | (go_at_call 18; refine (FL.out _ (HV.out.below HB.out)).mono ?_; rintro e w2 ⟨rfl, hB2⟩; have HB2 := Lib.hid (HB.out.trans (hB2.mono HB.out.size)); obtain ⟨g0, g1, g2, g3, g4, g5, g6, g7, g8, g9⟩ := dep_at (dep_keep HB2.out hb HC.out); have hnb : w.heap.size < w2.heap.size := Nat.lt_of_lt_of_le HBS.out hB2.size; obtain ⟨r0, r1, r2, r3, r4, r5⟩ := six_keep hB2 HBS.out q0 q1 q2 q3 q4 q5; clear hB2)
                | (go_at_call 47; refine (AM.out _).mono ?_; rintro e w3 ⟨rfl, hB3⟩; obtain ⟨hB4, hq⟩ := box_then hB3; have hB5 := HB2.out.trans (hB4.mono HB2.out.size); have HB5 := Lib.hid hB5; obtain ⟨x0, x1, x2, x3, x4, x5, x6, x7, x8, x9⟩ := dep_at0 (d := ⟨⟨c2, n2, s2, d2⟩, p, op, cl, le, st, sa⟩) hq; obtain ⟨t0, t1, t2, t3, t4, t5⟩ := six_keep hB4 hnb r0 r1 r2 r3 r4 r5; have hbk := box_heap hB3; have f0 := frozen_of_row _ _ 0 _ _ hbk; have f1 := frozen_of_row _ _ 1 _ _ hbk; have f2 := frozen_of_row _ _ 2 _ _ hbk; have f3 := frozen_of_row _ _ 3 _ _ hbk; have f4 := frozen_of_row _ _ 4 _ _ hbk; have f5 := frozen_of_row _ _ 5 _ _ hbk; have f6 := frozen_of_row _ _ 6 _ _ hbk; have f7 := frozen_of_row _ _ 7 _ _ hbk; have f8 := frozen_of_row _ _ 8 _ _ hbk; have f9 := frozen_of_row _ _ 9 _ _ hbk; have HBK := Lib.hid hbk; clear hbk hB3 hB4 hq hB5 g0 g1 g2 g3 g4 g5 g6 g7 g8 g9 r0 r1 r2 r3 r4 r5)
                | (go_at_call 40; generalize hw5 : World.setCell _ _ _ = w5; obtain ⟨hbk5, hg5⟩ := one_set (y := (⟨⟨c2, n2, s2, d2⟩, p, m, cl, le, st, sa⟩ : Dep).cells) HBK.out rfl hw5; have hB8 := below_grown HB5.out hg5 HB5.out.size HB2.out.size; refine (VY.out _).mono ?_; rintro e w6 ⟨rfl, hB9⟩; have HB10 := Lib.hid (hB8.trans (hB9.mono hB8.size)); have hbk6 := (hB9.block w2.heap.size (lt_of_block hbk5)).trans hbk5; obtain ⟨y0, y1, y2, y3, y4, y5, y6, y7, y8, y9⟩ := dep_at0 (d := ⟨⟨c2, n2, s2, d2⟩, p, m, cl, le, st, sa⟩) (fun j u hu => cell_of hbk6 hu); clear x0 x1 x2 x3 x4 x5 x6 x7 x8 x9 f0 f1 f2 f3 f4 f5 f6 f7 f8 f9 hw5 hbk5 hg5 hB8 hB9 hbk6))
              go_ret2
              refine slc_err ?_ rfl HB10.out
              rw [HR.out, if_pos (show sa = wantS ⟨2, m, ⟨c1, n1, s1, d1⟩⟩ from HS.out), if_pos (by simp), if_neg (by have := HM.out; have := HO.out; simp; omega), if_neg (by simp)]
            · go_enter Try.func23, Try.ntmps23
              go_wp2_with (first
                | (go_at_call 16; refine (VL.out _ (HV.out.below (one_box _ _ _ _ rfl).2.1)).mono ?_; rintro e w1 ⟨rfl, hB1⟩; obtain ⟨hB, hq⟩ := box_then hB1; have q0 := hq 0 _ rfl; have q1 := hq 1 _ rfl; have q2 := hq 2 _ rfl; have q3 := hq 3 _ rfl; have q4 := hq 4 _ rfl; have q5 := hq 5 _ rfl; have HBS := Lib.hid (box_lt hB1); have HB := Lib.hid hB; clear hB1 hq hB)
                | (go_at_call 18; refine (FL.out _ (HV.out.below HB.out)).mono ?_; rintro e w2 ⟨rfl, hB2⟩; have HB2 := Lib.hid (HB.out.trans (hB2.mono HB.out.size)); obtain ⟨g0, g1, g2, g3, g4, g5, g6, g7, g8, g9⟩ := dep_at (dep_keep HB2.out hb HC.out); have hnb : w.heap.size < w2.heap.size := Nat.lt_of_lt_of_le HBS.out hB2.size; obtain ⟨r0, r1, r2, r3, r4, r5⟩ := six_keep hB2 HBS.out q0 q1 q2 q3 q4 q5; clear hB2)
                | (go_at_call 47; refine (AM.out _).mono ?_; rintro e w3 ⟨rfl, hB3⟩; obtain ⟨hB4, hq⟩ := box_then hB3; have hB5 := HB2.out.trans (hB4.mono HB2.out.size); have HB5 := Lib.hid hB5; obtain ⟨x0, x1, x2, x3, x4, x5, x6, x7, x8, x9⟩ := dep_at0 (d := ⟨⟨c2, n2, s2, d2⟩, p, op, cl, le, st, sa⟩) hq; obtain ⟨t0, t1, t2, t3, t4, t5⟩ := six_keep hB4 hnb r0 r1 r2 r3 r4 r5; have hbk := box_heap hB3; have f0 := frozen_of_row _ _ 0 _ _ hbk; have f1 := frozen_of_row _ _ 1 _ _ hbk; have f2 := frozen_of_row _ _ 2 _ _ hbk; have f3 := frozen_of_row _ _ 3 _ _ hbk; have f4 := frozen_of_row _ _ 4 _ _ hbk; have f5 := frozen_of_row _ _ 5 _ _ hbk; have f6 := frozen_of_row _ _ 6 _ _ hbk; have f7 := frozen_of_row _ _ 7 _ _ hbk; have f8 := frozen_of_row _ _ 8 _ _ hbk; have f9 := frozen_of_row _ _ 9 _ _ hbk; have HBK := Lib.hid hbk; clear hbk hB3 hB4 hq hB5 g0 g1 g2 g3 g4 g5 g6 g7 g8 g9 r0 r1 r2 r3 r4 r5)
                | (go_at_call 40; generalize hw5 : World.setCell _ _ _ = w5; obtain ⟨hbk5, hg5⟩ := one_set (y := (⟨⟨c2, n2, s2, d2⟩, p, m, cl, le, st, sa⟩ : Dep).cells) HBK.out rfl hw5; have hB8 := below_grown HB5.out hg5 HB5.out.size HB2.out.size; refine (VY.out _).mono ?_; rintro e w6 ⟨rfl, hB9⟩; have HB10 := Lib.hid (hB8.trans (hB9.mono hB8.size)); have hbk6 := (hB9.block w2.heap.size (lt_of_block hbk5)).trans hbk5; obtain ⟨y0, y1, y2, y3, y4, y5, y6, y7, y8, y9⟩ := dep_at0 (d := ⟨⟨c2, n2, s2, d2⟩, p, m, cl, le, st, sa⟩) (fun j u hu => cell_of hbk6 hu); clear x0 x1 x2 x3 x4 x5 x6 x7 x8 x9 f0 f1 f2 f3 f4 f5 f6 f7 f8 f9 hw5 hbk5 hg5 hB8 hB9 hbk6)
                | (go_at_call 48; refine (WL.out ⟨⟨c2, n2, s2, d2⟩, p, m, cl, le, st, sa⟩ _ (HV.out.below HB10.out)).mono ?_; rintro e w7 ⟨v7, rfl, hO7, hB11⟩))
              go_ret2
              refine slc_ok ?_ rfl hO7 HB10.out.size (HB10.out.trans (hB11.mono HB10.out.size))
              rw [HR.out, if_pos (show sa = wantS ⟨2, m, ⟨c1, n1, s1, d1⟩⟩ from HS.out), if_pos (by simp), if_neg (by have := HM.out; have := HO.out; simp; omega), if_pos (by simp)]
    · have HS := Lib.hid hs
      have hsb : (sa != 0) = true := by simp [hs]
      clear hs hvd
      go_enter Try.func23, Try.ntmps23
      go_wp2_with (first
        | (go_at_call 16; refine (VL.out _ (HV.out.below (one_box _ _ _ _ rfl).2.1)).mono ?_; rintro e w1 ⟨rfl, hB1⟩; obtain ⟨hB, hq⟩ := box_then hB1; have q0 := hq 0 _ rfl; have q1 := hq 1 _ rfl; have q2 := hq 2 _ rfl; have q3 := hq 3 _ rfl; have q4 := hq 4 _ rfl; have q5 := hq 5 _ rfl; have HBS := Lib.hid (box_lt hB1); have HB := Lib.hid hB; clear hB1 hq hB)
        | (go_at_call 18; refine (FL.out _ (HV.out.below HB.out)).mono ?_; rintro e w2 ⟨rfl, hB2⟩; have HB2 := Lib.hid (HB.out.trans (hB2.mono HB.out.size)); obtain ⟨g0, g1, g2, g3, g4, g5, g6, g7, g8, g9⟩ := dep_at (dep_keep HB2.out hb HC.out); have hnb : w.heap.size < w2.heap.size := Nat.lt_of_lt_of_le HBS.out hB2.size; obtain ⟨r0, r1, r2, r3, r4, r5⟩ := six_keep hB2 HBS.out q0 q1 q2 q3 q4 q5; clear hB2))
      go_ret2
      refine slc_err ?_ rfl (box_more HB2.out _ HB2.out.size)
      rw [HR.out, if_neg (by have := HS.out; show ¬ sa = 0; omega)]

set_option maxHeartbeats 2000000 in
/-- revisions of kind 1 -/
theorem RApply1 (a : Option Addr) (c : Nat) (l : List Dep) (m : Int) (f : Flt) (now : Int) (w : World) (hv : DepsV w (.slice a l.length c) l) (h0 : valE l = 0) :
    Calls Try.prog 23 #[.slice a l.length c, .agg (⟨1, m, f⟩ : Rev).cells, .int .i64 now] w (SlcRet (applyF l ⟨1, m, f⟩ now) w) := by
  obtain ⟨_, _, hv0, la, _, cA⟩ := hv.open
  simp only [Value.slice.injEq] at hv0
  obtain ⟨rfl, -, rfl⟩ := hv0
  obtain ⟨res, hres⟩ : ∃ x, x = applyF l ⟨1, m, f⟩ now := ⟨_, rfl⟩
  have HV := Lib.hid hv
  have HCA := Lib.hid cA
  rw [← hres]
  unfold applyF at hres
  rw [if_pos h0, if_pos (by simp)] at hres
  have HRS := Lib.hid hres
  have HVE := Lib.hid h0
  have VL := Lib.hid (fun w h => RValidate_any (.slice a l.length c) l w h)
  have FL := Lib.hid (fun w h => RFind_any (.slice a l.length c) l f w h)
  rw [h0] at VL
  have h24 := valE_le h0
  clear hv cA hres h0
  rcases findD_spec f l 0 with hf | ⟨k, x, hf, hx, hxf⟩
  · have HF := Lib.hid hf
    rw [hf] at FL
    clear hf
    obtain ⟨c1, n1, s1, d1⟩ := f
    simp only [Rev.cells]
    go_enter Try.func23, Try.ntmps23
    go_wp2_with (first
      | (go_at_call 16; refine (VL.out _ (HV.out.below (one_box _ _ _ _ rfl).2.1)).mono ?_; rintro e w1 ⟨rfl, hB1⟩; obtain ⟨hB, hq⟩ := box_then hB1; have q0 := hq 0 _ rfl; have q1 := hq 1 _ rfl; have q2 := hq 2 _ rfl; have q3 := hq 3 _ rfl; have q4 := hq 4 _ rfl; have q5 := hq 5 _ rfl; have HBS := Lib.hid (box_lt hB1); have HB := Lib.hid hB; clear hB1 hq hB)
      | (go_at_call 18; refine (FL.out _ (HV.out.below HB.out)).mono ?_; rintro e w2 ⟨rfl, hB2⟩; have HB2 := Lib.hid (HB.out.trans (hB2.mono HB.out.size)); clear hB2))
    go_ret2
    refine slc_err ?_ rfl HB2.out
    rw [HRS.out, HF.out]
    rfl
  · rw [Nat.zero_add] at hf
    have HF := Lib.hid hf
    rw [hf] at FL
    clear hf
    have hkl : k < l.length := (List.getElem?_eq_some_iff.1 hx).1
    have hki : (k : Int) < (l.length : Int) := by omega
    obtain ⟨b, o, rfl, hb, cc⟩ := HCA.out (by omega)
    have HC := Lib.hid (cc k x hx)
    have HX := Lib.hid hx
    have hvd := validD_bd (valE_all HVE.out x (List.mem_of_getElem? hx))
    clear cc hx hxf
    have WL := Lib.hid (fun d w h => Put_any (.slice (some ⟨b, o, none⟩) l.length c) l k d w h hkl h24)
    have AM := Lib.hid (fun w => RAmount_any ⟨1, m, f⟩ w (by simp))
    have hres3 : res = applyAt l k ⟨1, m, f⟩ now := by
      rw [HRS.out, HF.out, if_neg (by omega), Int.toNat_natCast]
    simp only [applyAt, HX.out] at hres3
    have HR := Lib.hid hres3
    clear hres3 HRS
    obtain ⟨am, ham⟩ : ∃ z, z = amtF ⟨1, m, f⟩ := ⟨_, rfl⟩
    rw [← ham] at HR AM
    have HAM := Lib.hid ham
    clear ham
    obtain ⟨c1, n1, s1, d1⟩ := f
    obtain ⟨⟨c2, n2, s2, d2⟩, p, op, cl, le, st, sa⟩ := x
    obtain ⟨y, hy⟩ : ∃ y, y = revis ⟨⟨c2, n2, s2, d2⟩, p, op, cl, le, st, sa⟩ ⟨1, m, ⟨c1, n1, s1, d1⟩⟩ := ⟨_, rfl⟩
    rw [← hy] at HR
    obtain rfl : y = ⟨⟨c2, n2, s2, d2⟩, p, op, cl + m, le + m, st, sa⟩ := hy
    have VY := Lib.hid (RValid_any ⟨⟨c2, n2, s2, d2⟩, p, op, cl + m, le + m, st, sa⟩)
    obtain ⟨vb, hvb⟩ : ∃ vb, vb = validD ⟨⟨c2, n2, s2, d2⟩, p, op, cl + m, le + m, st, sa⟩ := ⟨_, rfl⟩
    rw [← hvb] at VY HR
    clear hvb
    simp only at hvd
    simp only [Rev.cells]
    by_cases hs : sa = 0
    · have HS := Lib.hid hs
      have hsb : (sa != 0) = false := by simp [hs]
      clear hs
      cases am
      · have HVD := Lib.hid hvd
        clear hvd
        go_enter Try.func23, Try.ntmps23
        go_wp2_with (first
          | (go_at_call 16; refine (VL.out _ (HV.out.below (one_box _ _ _ _ rfl).2.1)).mono ?_; rintro e w1 ⟨rfl, hB1⟩; obtain ⟨hB, hq⟩ := box_then hB1; have q0 := hq 0 _ rfl; have q1 := hq 1 _ rfl; have q2 := hq 2 _ rfl; have q3 := hq 3 _ rfl; have q4 := hq 4 _ rfl; have q5 := hq 5 _ rfl; have HBS := Lib.hid (box_lt hB1); have HB := Lib.hid hB; clear hB1 hq hB)
          | (go_at_call 18; refine (FL.out _ (HV.out.below HB.out)).mono ?_; rintro e w2 ⟨rfl, hB2⟩; have HB2 := Lib.hid (HB.out.trans (hB2.mono HB.out.size)); obtain ⟨g0, g1, g2, g3, g4, g5, g6, g7, g8, g9⟩ := dep_at (dep_keep HB2.out hb HC.out); have hnb : w.heap.size < w2.heap.size := Nat.lt_of_lt_of_le HBS.out hB2.size; obtain ⟨r0, r1, r2, r3, r4, r5⟩ := six_keep hB2 HBS.out q0 q1 q2 q3 q4 q5; clear hB2)
          | (go_at_call 47; refine (AM.out _).mono ?_; rintro e w3 ⟨rfl, hB3⟩; obtain ⟨hB4, hq⟩ := box_then hB3; have hB5 := HB2.out.trans (hB4.mono HB2.out.size); have HB5 := Lib.hid hB5; obtain ⟨x0, x1, x2, x3, x4, x5, x6, x7, x8, x9⟩ := dep_at0 (d := ⟨⟨c2, n2, s2, d2⟩, p, op, cl, le, st, sa⟩) hq; obtain ⟨t0, t1, t2, t3, t4, t5⟩ := six_keep hB4 hnb r0 r1 r2 r3 r4 r5; have hbk := box_heap hB3; have HSZ3 := Lib.hid hB4.size; clear hB3 hB4 hq hB5 g0 g1 g2 g3 g4 g5 g6 g7 g8 g9 r0 r1 r2 r3 r4 r5))
        go_ret2
        refine slc_err ?_ rfl HB5.out
        rw [HR.out, if_pos (show sa = wantS ⟨1, m, ⟨c1, n1, s1, d1⟩⟩ from HS.out), if_neg (by simp)]
      · have hmm : 1 ≤ m ∧ m ≤ 1048576 := by
          have h2 := HAM.out
          simp [amtF, inI] at h2
          omega
        cases vb
        · go_enter Try.func23, Try.ntmps23
          go_wp2_with (first
            | (go_at_call 16; refine (VL.out _ (HV.out.below (one_box _ _ _ _ rfl).2.1)).mono ?_; rintro e w1 ⟨rfl, hB1⟩; obtain ⟨hB, hq⟩ := box_then hB1; have q0 := hq 0 _ rfl; have q1 := hq 1 _ rfl; have q2 := hq 2 _ rfl; have q3 := hq 3 _ rfl; have q4 := hq 4 _ rfl; have q5 := hq 5 _ rfl; have HBS := Lib.hid (box_lt hB1); have HB := Lib.hid hB; clear hB1 hq hB)
            | (go_at_call 18; refine (FL.out _ (HV.out.below HB.out)).mono ?_; rintro e w2 ⟨rfl, hB2⟩; have HB2 := Lib.hid (HB.out.trans (hB2.mono HB.out.size)); obtain ⟨g0, g1, g2, g3, g4, g5, g6, g7, g8, g9⟩ := dep_at (dep_keep HB2.out hb HC.out); have hnb : w.heap.size < w2.heap.size := Nat.lt_of_lt_of_le HBS.out hB2.size; obtain ⟨r0, r1, r2, r3, r4, r5⟩ := six_keep hB2 HBS.out q0 q1 q2 q3 q4 q5; clear hB2)
            | (go_at_call 47; refine (AM.out _).mono ?_; rintro e w3 ⟨rfl, hB3⟩; obtain ⟨hB4, hq⟩ := box_then hB3; have hB5 := HB2.out.trans (hB4.mono HB2.out.size); have HB5 := Lib.hid hB5; obtain ⟨x0, x1, x2, x3, x4, x5, x6, x7, x8, x9⟩ := dep_at0 (d := ⟨⟨c2, n2, s2, d2⟩, p, op, cl, le, st, sa⟩) hq; obtain ⟨t0, t1, t2, t3, t4, t5⟩ := six_keep hB4 hnb r0 r1 r2 r3 r4 r5; have hbk := box_heap hB3; have f0 := frozen_of_row _ _ 0 _ _ hbk; have f1 := frozen_of_row _ _ 1 _ _ hbk; have f2 := frozen_of_row _ _ 2 _ _ hbk; have f3 := frozen_of_row _ _ 3 _ _ hbk; have f4 := frozen_of_row _ _ 4 _ _ hbk; have f5 := frozen_of_row _ _ 5 _ _ hbk; have f6 := frozen_of_row _ _ 6 _ _ hbk; have f7 := frozen_of_row _ _ 7 _ _ hbk; have f8 := frozen_of_row _ _ 8 _ _ hbk; have f9 := frozen_of_row _ _ 9 _ _ hbk; have HBK := Lib.hid hbk; clear hbk hB3 hB4 hq hB5 g0 g1 g2 g3 g4 g5 g6 g7 g8 g9 r0 r1 r2 r3 r4 r5)
            | (go_at_call 40; generalize hw5 : World.setCell _ _ _ = w5; obtain ⟨hbk5, hg5⟩ := two_sets (y := (⟨⟨c2, n2, s2, d2⟩, p, op, cl + m, le + m, st, sa⟩ : Dep).cells) HBK.out rfl hw5; have hB8 := (below_grown HB5.out hg5 HB5.out.size HB2.out.size).drew; refine (VY.out _).mono ?_; rintro e w6 ⟨rfl, hB9⟩; have HB10 := Lib.hid (hB8.trans (hB9.mono hB8.size)); have hbk6 := (hB9.block w2.heap.size (lt_of_block hbk5)).trans hbk5; obtain ⟨y0, y1, y2, y3, y4, y5, y6, y7, y8, y9⟩ := dep_at0 (d := ⟨⟨c2, n2, s2, d2⟩, p, op, cl + m, le + m, st, sa⟩) (fun j u hu => cell_of hbk6 hu); clear x0 x1 x2 x3 x4 x5 x6 x7 x8 x9 f0 f1 f2 f3 f4 f5 f6 f7 f8 f9 hw5 hbk5 hg5 hB8 hB9 hbk6))
          go_region
          go_wp2_with (first
            | (go_at_call 40; generalize hw5 : World.setCell _ _ _ = w5; obtain ⟨hbk5, hg5⟩ := two_sets (y := (⟨⟨c2, n2, s2, d2⟩, p, op, cl + m, le + m, st, sa⟩ : Dep).cells) HBK.out rfl hw5; have hB8 := (below_grown HB5.out hg5 HB5.out.size HB2.out.size).drew; refine (VY.out _).mono ?_; rintro e w6 ⟨rfl, hB9⟩; have HB10 := Lib.hid (hB8.trans (hB9.mono hB8.size)); have hbk6 := (hB9.block w2.heap.size (lt_of_block hbk5)).trans hbk5; obtain ⟨y0, y1, y2, y3, y4, y5, y6, y7, y8, y9⟩ := dep_at0 (d := ⟨⟨c2, n2, s2, d2⟩, p, op, cl + m, le + m, st, sa⟩) (fun j u hu => cell_of hbk6 hu); clear x0 x1 x2 x3 x4 x5 x6 x7 x8 x9 f0 f1 f2 f3 f4 f5 f6 f7 f8 f9 hw5 hbk5 hg5 hB8 hB9 hbk6))
          go_ret2
          refine slc_err ?_ rfl HB10.out
          rw [HR.out, if_pos (show sa = wantS ⟨1, m, ⟨c1, n1, s1, d1⟩⟩ from HS.out), if_pos (by simp), if_neg (by simp), if_neg (by simp)]
        · go_enter Try.func23, Try.ntmps23
          go_wp2_with (first
            | (go_at_call 16; refine (VL.out _ (HV.out.below (one_box _ _ _ _ rfl).2.1)).mono ?_; rintro e w1 ⟨rfl, hB1⟩; obtain ⟨hB, hq⟩ := box_then hB1; have q0 := hq 0 _ rfl; have q1 := hq 1 _ rfl; have q2 := hq 2 _ rfl; have q3 := hq 3 _ rfl; have q4 := hq 4 _ rfl; have q5 := hq 5 _ rfl; have HBS := Lib.hid (box_lt hB1); have HB := Lib.hid hB; clear hB1 hq hB)
            | (go_at_call 18; refine (FL.out _ (HV.out.below HB.out)).mono ?_; rintro e w2 ⟨rfl, hB2⟩; have HB2 := Lib.hid (HB.out.trans (hB2.mono HB.out.size)); obtain ⟨g0, g1, g2, g3, g4, g5, g6, g7, g8, g9⟩ := dep_at (dep_keep HB2.out hb HC.out); have hnb : w.heap.size < w2.heap.size := Nat.lt_of_lt_of_le HBS.out hB2.size; obtain ⟨r0, r1, r2, r3, r4, r5⟩ := six_keep hB2 HBS.out q0 q1 q2 q3 q4 q5; clear hB2)
            | (go_at_call 47; refine (AM.out _).mono ?_; rintro e w3 ⟨rfl, hB3⟩; obtain ⟨hB4, hq⟩ := box_then hB3; have hB5 := HB2.out.trans (hB4.mono HB2.out.size); have HB5 := Lib.hid hB5; obtain ⟨x0, x1, x2, x3, x4, x5, x6, x7, x8, x9⟩ := dep_at0 (d := ⟨⟨c2, n2, s2, d2⟩, p, op, cl, le, st, sa⟩) hq; obtain ⟨t0, t1, t2, t3, t4, t5⟩ := six_keep hB4 hnb r0 r1 r2 r3 r4 r5; have hbk := box_heap hB3; have f0 := frozen_of_row _ _ 0 _ _ hbk; have f1 := frozen_of_row _ _ 1 _ _ hbk; have f2 := frozen_of_row _ _ 2 _ _ hbk; have f3 := frozen_of_row _ _ 3 _ _ hbk; have f4 := frozen_of_row _ _ 4 _ _ hbk; have f5 := frozen_of_row _ _ 5 _ _ hbk; have f6 := frozen_of_row _ _ 6 _ _ hbk; have f7 := frozen_of_row _ _ 7 _ _ hbk; have f8 := frozen_of_row _ _ 8 _ _ hbk; have f9 := frozen_of_row _ _ 9 _ _ hbk; have HBK := Lib.hid hbk; clear hbk hB3 hB4 hq hB5 g0 g1 g2 g3 g4 g5 g6 g7 g8 g9 r0 r1 r2 r3 r4 r5)
            | (go_at_call 40; generalize hw5 : World.setCell _ _ _ = w5; obtain ⟨hbk5, hg5⟩ := two_sets (y := (⟨⟨c2, n2, s2, d2⟩, p, op, cl + m, le + m, st, sa⟩ : Dep).cells) HBK.out rfl hw5; have hB8 := (below_grown HB5.out hg5 HB5.out.size HB2.out.size).drew; refine (VY.out _).mono ?_; rintro e w6 ⟨rfl, hB9⟩; have HB10 := Lib.hid (hB8.trans (hB9.mono hB8.size)); have hbk6 := (hB9.block w2.heap.size (lt_of_block hbk5)).trans hbk5; obtain ⟨y0, y1, y2, y3, y4, y5, y6, y7, y8, y9⟩ := dep_at0 (d := ⟨⟨c2, n2, s2, d2⟩, p, op, cl + m, le + m, st, sa⟩) (fun j u hu => cell_of hbk6 hu); clear x0 x1 x2 x3 x4 x5 x6 x7 x8 x9 f0 f1 f2 f3 f4 f5 f6 f7 f8 f9 hw5 hbk5 hg5 hB8 hB9 hbk6)
            | (go_at_call 48; refine (WL.out ⟨⟨c2, n2, s2, d2⟩, p, op, cl + m, le + m, st, sa⟩ _ (HV.out.below HB10.out)).mono ?_; rintro e w7 ⟨v7, rfl, hO7, hB11⟩))
          go_region
          go_wp2_with (first
            | (go_at_call 40; generalize hw5 : World.setCell _ _ _ = w5; obtain ⟨hbk5, hg5⟩ := two_sets (y := (⟨⟨c2, n2, s2, d2⟩, p, op, cl + m, le + m, st, sa⟩ : Dep).cells) HBK.out rfl hw5; have hB8 := (below_grown HB5.out hg5 HB5.out.size HB2.out.size).drew; refine (VY.out _).mono ?_; rintro e w6 ⟨rfl, hB9⟩; have HB10 := Lib.hid (hB8.trans (hB9.mono hB8.size)); have hbk6 := (hB9.block w2.heap.size (lt_of_block hbk5)).trans hbk5; obtain ⟨y0, y1, y2, y3, y4, y5, y6, y7, y8, y9⟩ := dep_at0 (d := ⟨⟨c2, n2, s2, d2⟩, p, op, cl + m, le + m, st, sa⟩) (fun j u hu => cell_of hbk6 hu); clear x0 x1 x2 x3 x4 x5 x6 x7 x8 x9 f0 f1 f2 f3 f4 f5 f6 f7 f8 f9 hw5 hbk5 hg5 hB8 hB9 hbk6)
            | (go_at_call 48; refine (WL.out ⟨⟨c2, n2, s2, d2⟩, p, op, cl + m, le + m, st, sa⟩ _ (HV.out.below HB10.out)).mono ?_; rintro e w7 ⟨v7, rfl, hO7, hB11⟩))
          go_ret2
          refine slc_ok ?_ rfl hO7 HB10.out.size (HB10.out.trans (hB11.mono HB10.out.size))
          rw [HR.out, if_pos (show sa = wantS ⟨1, m, ⟨c1, n1, s1, d1⟩⟩ from HS.out), if_pos (by simp), if_neg (by simp), if_pos (by simp)]
    · have HS := Lib.hid hs
      have hsb : (sa != 0) = true := by simp [hs]
      clear hs hvd
      go_enter Try.func23, Try.ntmps23
      go_wp2_with (first
        | (go_at_call 16; refine (VL.out _ (HV.out.below (one_box _ _ _ _ rfl).2.1)).mono ?_; rintro e w1 ⟨rfl, hB1⟩; obtain ⟨hB, hq⟩ := box_then hB1; have q0 := hq 0 _ rfl; have q1 := hq 1 _ rfl; have q2 := hq 2 _ rfl; have q3 := hq 3 _ rfl; have q4 := hq 4 _ rfl; have q5 := hq 5 _ rfl; have HBS := Lib.hid (box_lt hB1); have HB := Lib.hid hB; clear hB1 hq hB)
        | (go_at_call 18; refine (FL.out _ (HV.out.below HB.out)).mono ?_; rintro e w2 ⟨rfl, hB2⟩; have HB2 := Lib.hid (HB.out.trans (hB2.mono HB.out.size)); obtain ⟨g0, g1, g2, g3, g4, g5, g6, g7, g8, g9⟩ := dep_at (dep_keep HB2.out hb HC.out); have hnb : w.heap.size < w2.heap.size := Nat.lt_of_lt_of_le HBS.out hB2.size; obtain ⟨r0, r1, r2, r3, r4, r5⟩ := six_keep hB2 HBS.out q0 q1 q2 q3 q4 q5; clear hB2))
      go_ret2
      refine slc_err ?_ rfl (box_more HB2.out _ HB2.out.size)
      rw [HR.out, if_neg (by have := HS.out; show ¬ sa = 0; omega)]
end Go.Proofs.Ytmigkmdhenkpmaa
