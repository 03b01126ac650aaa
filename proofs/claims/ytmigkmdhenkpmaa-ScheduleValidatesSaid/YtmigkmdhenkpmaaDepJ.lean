/- Put, Depart and Same of the reference. -/
import Derived.Test.YtmigkmdhenkpmaaDepI
namespace Go.Proofs.Ytmigkmdhenkpmaa
open Go.RowKit

theorem own_none (w : World) (o : Obj) : DepT.Own (w.heap.size + 1) ((w.alloc o).alloc (.cells #[] 35)) (.slice (some ⟨w.heap.size + 1, 0, none⟩) 0 0) [] := by
  have h := World.ownsRow_made (e := 35) (size := 10) (base := (w.alloc o).heap.size) (w.alloc o) #[] 0 (Nat.le_refl _) (Nat.zero_le _) rfl
  rw [size_new] at h
  exact h

theorem own_shape {base : Nat} {w : World} {v : Value} {l : List Dep} (h : DepT.Own base w v l) (h0 : 0 < l.length) : ∃ g cap, v = .slice (some ⟨g, 0, none⟩) l.length cap ∧ base ≤ g := by
  rcases h.2 with ⟨_, h2⟩ | ⟨g, cap, cur, h2, h3, _⟩
  · omega
  · exact ⟨g, cap, h2, h3⟩

theorem Put_any (v : Value) (l : List Dep) (k : Nat) (d : Dep) (w : World) (hv : DepsV w v l) (hk : k < l.length) (h24 : l.length ≤ 24) :
    Calls Try.prog 48 #[v, .int .i64 k, .agg d.cells] w fun e w' => ∃ v', e = .returned v' ∧ DepT.Own w.heap.size w' v' (l.set k d) ∧ Below w.heap.size w w' := by
  have hv' : DepT.V w v l := hv
  obtain ⟨a, c, rfl, la, _, _⟩ := hv.open
  obtain ⟨⟨c2, n2, s2, d2⟩, p, op, cl, le, st, sa⟩ := d
  simp only [Dep.cells]
  have hkl : (k : Int) < (l.length : Int) := by omega
  go_enter Try.func48, Try.ntmps48
  go_wp2_with (at_builtin; refine DepT.appendV rfl _ _ rfl (w.heap.size + 1) _ [] _ l rfl rfl (own_none w _) (hv'.below (two_boxes _ _ _ _ _ _ rfl).2.2.1) (by simp [maxLen]; omega) (by show (0 + _) * 104 ≤ _; omega) (by have := (two_boxes _ _ _ _ _ _ (rfl : (w.alloc (.cells #[.string c2, .int .i64 n2, .string s2, .int .i64 d2, .string p, .int .i64 op, .int .i64 cl, .int .i64 le, .int .i64 st, .int .i64 sa] 35)).alloc (.cells #[] 35) = _)).2.2.2; omega) ?_; intro v3 w3 hown3 hgrow3; obtain ⟨hq, -, hB2, hS2⟩ := two_boxes _ _ _ _ _ _ (rfl : (w.alloc (.cells #[.string c2, .int .i64 n2, .string s2, .int .i64 d2, .string p, .int .i64 op, .int .i64 cl, .int .i64 le, .int .i64 st, .int .i64 sa] 35)).alloc (.cells #[] 35) = _); rw [List.nil_append] at hown3; have hB3 := below_grown hB2 hgrow3 hB2.size (Nat.le_succ _); obtain ⟨q0, q1, q2, q3, q4, q5, q6, q7, q8, q9⟩ := dep_at0 (d := ⟨⟨c2, n2, s2, d2⟩, p, op, cl, le, st, sa⟩) (fun j u hu => hgrow3.cell (hq j u hu) (by show some w.heap.size ≠ some (w.heap.size + 1); simp)); obtain ⟨g, cap, rfl, hgb⟩ := own_shape hown3 (by omega); obtain ⟨x, hx, hxc, hxf⟩ := own_dep hown3 k hk; obtain ⟨y0, y1, y2, y3, y4, y5, y6, y7, y8, y9⟩ := dep_at hxc; have f0 := hxf (k * 10); have f1 := hxf (k * 10 + 1); have f2 := hxf (k * 10 + 2); have f3 := hxf (k * 10 + 3); have f4 := hxf (k * 10 + 4); have f5 := hxf (k * 10 + 5); have f6 := hxf (k * 10 + 6); have f7 := hxf (k * 10 + 7); have f8 := hxf (k * 10 + 8); have f9 := hxf (k * 10 + 9); clear hxc hxf hq hx)
  go_ret
  obtain ⟨hS1, hS3⟩ := DepT.set hown3 rfl k hk ⟨⟨c2, n2, s2, d2⟩, p, op, cl, le, st, sa⟩
  exact ⟨_, rfl, OwnR.below hS1 (Nat.le_succ _), below_grown hB3 hS3 hB3.size (by omega)⟩

theorem RDepart_any (v : Value) (l : List Dep) (f : Flt) (now : Int) (w : World) (hv : DepsV w v l) :
    Calls Try.prog 34 #[v, .agg f.cells, .int .i64 now] w (SlcRet (departF l f now) w) := by
  obtain ⟨a, c, rfl, la, _, cA⟩ := hv.open
  obtain ⟨res, hres⟩ : ∃ r, r = departF l f now := ⟨_, rfl⟩
  have HV := Lib.hid hv
  have HCA := Lib.hid cA
  rw [← hres]
  unfold departF at hres
  have HRES := Lib.hid hres
  have VL := Lib.hid (fun w h => RValidate_any (.slice a l.length c) l w h)
  have FL := Lib.hid (fun w h => RFind_any (.slice a l.length c) l f w h)
  clear hv cA hres
  generalize hve : valE l = ve at *
  have HVE := Lib.hid hve
  clear hve
  by_cases h0 : ve = 0
  · subst h0
    have h24 := valE_le HVE.out
    rcases findD_spec f l 0 with hf | ⟨k, x, hf, hx, hxf⟩
    · have HF := Lib.hid hf
      rw [hf] at FL
      clear hf
      obtain ⟨c1, n1, s1, d1⟩ := f
      simp only [Flt.cells]
      go_enter Try.func34, Try.ntmps34
      go_wp2_with (first
        | (go_at_call 16; refine (VL.out _ (HV.out.below (one_box _ _ _ _ rfl).2.1)).mono ?_; rintro e w1 ⟨rfl, hB1⟩; obtain ⟨hB, hq⟩ := box_then hB1; have q0 := hq 0 _ rfl; have q1 := hq 1 _ rfl; have q2 := hq 2 _ rfl; have q3 := hq 3 _ rfl; have HB := Lib.hid hB; clear hB1 hq hB)
        | (go_at_call 18; refine (FL.out _ (HV.out.below HB.out)).mono ?_; rintro e w2 ⟨rfl, hB2⟩; have HB2 := Lib.hid (HB.out.trans (hB2.mono HB.out.size)); clear hB2))
      go_ret2
      refine slc_err ?_ rfl HB2.out
      rw [HRES.out, HF.out]
      rfl
    · rw [Nat.zero_add] at hf
      have HF := Lib.hid hf
      rw [hf] at FL
      clear hf
      have hkl : k < l.length := (List.getElem?_eq_some_iff.1 hx).1
      have hki : (k : Int) < (l.length : Int) := by omega
      obtain ⟨b, o, rfl, hb, cc⟩ := HCA.out (by omega)
      have HC := Lib.hid (cc k x hx)
      have HX := Lib.hid hx
      clear cc hx hxf
      have WL := Lib.hid (fun d w h => Put_any (.slice (some ⟨b, o, none⟩) l.length c) l k d w h hkl h24)
      obtain ⟨c1, n1, s1, d1⟩ := f
      obtain ⟨⟨c2, n2, s2, d2⟩, p, op, cl, le, st, sa⟩ := x
      simp only [Flt.cells]
      have hres1 : res = if sa = 0 ∧ cl ≤ now then (0, l.set k ⟨⟨c2, n2, s2, d2⟩, p, op, cl, le, st, 2⟩) else (7, []) := by
        rw [HRES.out, if_pos rfl, HF.out, if_neg (by omega), Int.toNat_natCast, departAt, HX.out]
      have HR1 := Lib.hid hres1
      clear hres1
      by_cases hs : sa = 0
      · subst hs
        by_cases hn : cl ≤ now
        · have hnb : decide (now < cl) = false := decide_eq_false (by omega)
          have HN := Lib.hid hn
          clear hn
          go_enter Try.func34, Try.ntmps34
          go_wp2_with (first
            | (go_at_call 16; refine (VL.out _ (HV.out.below (one_box _ _ _ _ rfl).2.1)).mono ?_; rintro e w1 ⟨rfl, hB1⟩; obtain ⟨hB, hq⟩ := box_then hB1; have q0 := hq 0 _ rfl; have q1 := hq 1 _ rfl; have q2 := hq 2 _ rfl; have q3 := hq 3 _ rfl; have HB := Lib.hid hB; clear hB1 hq hB)
            | (go_at_call 18; refine (FL.out _ (HV.out.below HB.out)).mono ?_; rintro e w2 ⟨rfl, hB2⟩; have HB2 := Lib.hid (HB.out.trans (hB2.mono HB.out.size)); clear hB2; obtain ⟨g0, g1, g2, g3, g4, g5, g6, g7, g8, g9⟩ := dep_at (dep_keep HB2.out hb HC.out))
            | (go_at_call 48; refine (WL.out ⟨⟨c2, n2, s2, d2⟩, p, op, cl, le, st, 2⟩ _ (HV.out.below (box_more HB2.out _ HB2.out.size))).mono ?_; rintro e w3 ⟨v3, rfl, hO3, hB3⟩; obtain ⟨hB4, -⟩ := box_then hB3))
          go_ret2
          exact slc_ok (HR1.out.trans (if_pos (by have := HN.out; simp; omega))) rfl hO3 (by have := HB2.out.size; rw [size_new]; omega) (HB2.out.trans (hB4.mono HB2.out.size))
        · have hnb : decide (now < cl) = true := decide_eq_true (by omega)
          have HN := Lib.hid hn
          clear hn
          go_enter Try.func34, Try.ntmps34
          go_wp2_with (first
            | (go_at_call 16; refine (VL.out _ (HV.out.below (one_box _ _ _ _ rfl).2.1)).mono ?_; rintro e w1 ⟨rfl, hB1⟩; obtain ⟨hB, hq⟩ := box_then hB1; have q0 := hq 0 _ rfl; have q1 := hq 1 _ rfl; have q2 := hq 2 _ rfl; have q3 := hq 3 _ rfl; have HB := Lib.hid hB; clear hB1 hq hB)
            | (go_at_call 18; refine (FL.out _ (HV.out.below HB.out)).mono ?_; rintro e w2 ⟨rfl, hB2⟩; have HB2 := Lib.hid (HB.out.trans (hB2.mono HB.out.size)); clear hB2; obtain ⟨g0, g1, g2, g3, g4, g5, g6, g7, g8, g9⟩ := dep_at (dep_keep HB2.out hb HC.out)))
          go_ret2
          refine slc_err ?_ rfl (box_more HB2.out _ HB2.out.size)
          rw [HR1.out, if_neg (fun h => by have := HN.out; omega)]
      · have hsb : (sa != 0) = true := by simp [hs]
        have HS := Lib.hid hs
        clear hs
        go_enter Try.func34, Try.ntmps34
        go_wp2_with (first
          | (go_at_call 16; refine (VL.out _ (HV.out.below (one_box _ _ _ _ rfl).2.1)).mono ?_; rintro e w1 ⟨rfl, hB1⟩; obtain ⟨hB, hq⟩ := box_then hB1; have q0 := hq 0 _ rfl; have q1 := hq 1 _ rfl; have q2 := hq 2 _ rfl; have q3 := hq 3 _ rfl; have HB := Lib.hid hB; clear hB1 hq hB)
          | (go_at_call 18; refine (FL.out _ (HV.out.below HB.out)).mono ?_; rintro e w2 ⟨rfl, hB2⟩; have HB2 := Lib.hid (HB.out.trans (hB2.mono HB.out.size)); clear hB2; obtain ⟨g0, g1, g2, g3, g4, g5, g6, g7, g8, g9⟩ := dep_at (dep_keep HB2.out hb HC.out)))
        go_ret2
        refine slc_err ?_ rfl (box_more HB2.out _ HB2.out.size)
        rw [HR1.out, if_neg (fun h => HS.out h.1)]
  · have hne : (ve != 0) = true := by simp [h0]
    have H0 := Lib.hid h0
    clear h0
    obtain ⟨c1, n1, s1, d1⟩ := f
    simp only [Flt.cells]
    go_enter Try.func34, Try.ntmps34
    go_wp2_with (go_at_call 16; refine (VL.out _ (HV.out.below (one_box _ _ _ _ rfl).2.1)).mono ?_; rintro e w1 ⟨rfl, hB1⟩; obtain ⟨hB, hq⟩ := box_then hB1)
    go_ret2
    refine slc_err ?_ rfl hB
    rw [HRES.out, if_neg H0.out]
/-- two readings of one list are the same -/
theorem Same_same (u v : Value) (l : List Dep) (w : World) (hu : DepsV w u l) (hv : DepsV w v l) :
    Calls Try.prog 24 #[u, v] w fun e w' => e = .returned (.bool true) ∧ ∃ n, w' = w.drewN n := by
  obtain ⟨a, c, rfl, la, _, cA⟩ := hu.open
  obtain ⟨a', c', rfl, la', _, cA'⟩ := hv.open
  have HCA := Lib.hid cA
  have HCA' := Lib.hid cA'
  clear hu hv cA cA'
  go_enter Try.func24, Try.ntmps24
  go_wp2
  go_loopw [5] (fun i wr => ∃ k n : Nat, k ≤ l.length ∧ i = .int .i64 k ∧ wr = w.drewN n) (fun i _ => l.length - (intOf i).toNat)
  case atStart => exact ⟨0, 0, Nat.zero_le _, rfl, rfl⟩
  case round =>
    obtain ⟨k, n, hk, rfl, rfl⟩ := hrel
    by_cases hlt : k < l.length
    · obtain ⟨x, hx, -⟩ := drop_at hlt
      have hki : (k : Int) < (l.length : Int) := by omega
      obtain ⟨b, o, rfl, hb, cc⟩ := HCA.out (by omega)
      obtain ⟨b', o', rfl, hb', cc'⟩ := HCA'.out (by omega)
      obtain ⟨g0, g1, g2, g3, g4, g5, g6, g7, g8, g9⟩ := dep_at (cc k x hx)
      obtain ⟨y0, y1, y2, y3, y4, y5, y6, y7, y8, y9⟩ := dep_at (cc' k x hx)
      clear cc cc' hx
      obtain ⟨⟨c2, n2, s2, d2⟩, p, op, cl, le, st, sa⟩ := x
      simp only at g0 g1 g2 g3 g4 g5 g6 g7 g8 g9 y0 y1 y2 y3 y4 y5 y6 y7 y8 y9
      go_wp2
      go_quiet (fail)
      go_wp2
      go_roundw
      case rel => exact ⟨k + 1, _, by omega, by go_num, rfl⟩
      case measure => simp [intOf]; omega
    · obtain rfl : k = l.length := by omega
      go_wp2
      go_ret
      exact ⟨rfl, _, rfl⟩
end Go.Proofs.Ytmigkmdhenkpmaa
