/- Law ScheduleRestores returns true for every input. -/
import Derived.Test.YtmigkmdhenkpmaaDepV
namespace Go.Proofs.Ytmigkmdhenkpmaa
open Go.RowKit

theorem rows_keep {w w' : World} {v : Value} {l : List Dep} (h : DepsV w v l) (hB : Below w.heap.size w w') : DepsV w' v l := h.below hB

set_option maxHeartbeats 4000000 in
set_option maxRecDepth 100000 in
theorem ScheduleRestores_any (u : Value) (l : List Int) (now thn : Int) (w : World) (hu : IntsV w u l) :
    Calls Try.prog 6 #[u, .int .i64 now, .int .i64 thn] w fun e w' => e = .returned (.bool true) ∧ Below w.heap.size w w' := by
  have NW := New_any u l w hu
  have tokA : True := trivial
  obtain ⟨a0, c0, rfl, _⟩ := hu.open
  go_enter Try.func6, Try.ntmps6
  go_wp2_with (first
    | (go_at_call 11; refine NW.mono ?_; rintro e w1 ⟨b, rfl, hs1, hB1⟩)
    | (go_at_call 12; refine (Schedule_any w.heap.size b 10 _ w1 (by omega) hs1).mono ?_; rintro e w2 ⟨v2, ls, r2, rfl, hO2, hl10, hv0, hs2, hg2⟩; have hB2 := below_grown hB1 hg2 hB1.size hs1.ge; have hV2 : DepsV w2 v2 ls := OwnR.rows DepT.hsz hO2; obtain ⟨a2, c2, rfl, la2, _, _⟩ := hV2.open))
  have hval := valE_of hv0 (by omega)
  have HV := Lib.hid hV2
  have HVAL := Lib.hid hval
  have HB2 := Lib.hid hB2
  clear hO2 hV2 hval hv0 hs2 hg2 hs1 hB1 hB2 NW
  go_loopw [20] (fun i wr => ∃ k : Nat, k ≤ ls.length ∧ i = .int .i64 k ∧ Below w2.heap.size w2 wr) (fun i _ => ls.length - (intOf i).toNat)
  case atStart => exact ⟨0, Nat.zero_le _, rfl, Below.refl _ _⟩
  case round =>
    obtain ⟨k, hk, rfl, hBr⟩ := hrel
    by_cases hlt : k < ls.length
    · obtain ⟨x, hx, -⟩ := drop_at hlt
      have hki : (k : Int) < (ls.length : Int) := by omega
      obtain ⟨_, _, hvD, _, _, cD⟩ := (HV.out.below hBr).open
      simp only [Value.slice.injEq] at hvD
      obtain ⟨rfl, -, rfl⟩ := hvD
      obtain ⟨b2, o2, rfl, hb2, cc⟩ := cD (by omega)
      have HC := Lib.hid (cc k x hx)
      have HVr := Lib.hid (HV.out.below hBr)
      have hcan := cancel_at HVAL.out hx now
      have HBr := Lib.hid (HB2.out.trans (hBr.mono HB2.out.size))
      have HBK := Lib.hid hBr
      clear cc cD hBr
      have A1 := Lib.hid (Apply_any _ ls ⟨4, 0, x.flt⟩ now wr HVr.out)
      rw [hcan] at A1
      clear hcan
      obtain ⟨g0, g1, g2, g3, g4, g5, g6, g7, g8, g9⟩ := dep_at HC.out
      by_cases hs : x.state = 0
      · rw [if_pos hs] at A1
        have hres := restore_at HVAL.out hx hs thn
        have HX := Lib.hid hx
        have HRES := Lib.hid hres
        clear hres hx
        obtain ⟨⟨c2', n2, s2, d2⟩, p, op, cl, le, st, sa⟩ := x
        simp only at g0 g1 g2 g3 g4 g5 g6 g7 g8 g9 hs
        subst hs
        have HR2 : Hid (applyF (ls.set k ⟨⟨c2', n2, s2, d2⟩, p, op, cl, le, st, 1⟩) ⟨5, 0, ⟨c2', n2, s2, d2⟩⟩ thn = (0, ls)) := Lib.hid HRES.out
        have A2 : Hid (Calls Try.prog 22 #[.slice (some ⟨b2, o2, none⟩) ls.length c2, .agg (⟨4, 0, ⟨c2', n2, s2, d2⟩⟩ : Rev).cells, .int .i64 now] wr (SlcRet (0, ls.set k ⟨⟨c2', n2, s2, d2⟩, p, op, cl, le, st, 1⟩) wr)) := Lib.hid A1.out
        clear A1 HRES
        go_upto_region 10 with (go_at_call 22; have _t := tokA; refine A2.out.mono ?_; clear tokA _t; rintro e w3 ⟨v3, rfl, hO3, hB3⟩; obtain ⟨g, cap, rfl, hgb⟩ := own_shape hO3 (by simp; omega); obtain ⟨f0, f1, f2, f3, f4, f5, f6, f7, f8, f9⟩ := dep_at (dep_keep hB3 hb2 HC.out); clear g0 g1 g2 g3 g4 g5 g6 g7 g8 g9)
        have A3 : Hid (Calls Try.prog 22 #[.slice (some ⟨g, 0, none⟩) ls.length cap, .agg (⟨5, 0, ⟨c2', n2, s2, d2⟩⟩ : Rev).cells, .int .i64 thn] w3 (SlcRet (0, ls) w3)) := by
          have h := Apply_any _ (ls.set k ⟨⟨c2', n2, s2, d2⟩, p, op, cl, le, st, 1⟩) ⟨5, 0, ⟨c2', n2, s2, d2⟩⟩ thn w3 (OwnR.rows DepT.hsz hO3)
          rw [HR2.out, List.length_set] at h
          exact h
        clear A2 HR2
        go_upto_region 11 with (go_at_call 22; refine A3.out.mono ?_; rintro e w4 ⟨v4, rfl, hO4, hB4⟩)
        have hb23 := Nat.lt_of_lt_of_le hb2 hB3.size
        obtain ⟨g0, g1, g2, g3, g4, g5, g6, g7, g8, g9⟩ := dep_at (dep_keep hB4 hb23 (dep_keep hB3 hb2 HC.out))
        clear f0 f1 f2 f3 f4 f5 f6 f7 f8 f9 A3
        rw [List.length_set] at hO3
        obtain ⟨y, hy, hyc, -⟩ := own_dep hO3 k (by simp; omega)
        obtain rfl : (⟨⟨c2', n2, s2, d2⟩, p, op, cl, le, st, 1⟩ : Dep) = y := by
          rw [List.getElem?_set_self hlt] at hy
          exact Option.some.inj hy
        have hgw := (World.ownsRow.lt hO3 g rfl).2
        have HYC := Lib.hid (dep_keep hB4 hgw hyc)
        have hg4 : g < w4.heap.size := Nat.lt_of_lt_of_le hgw hB4.size
        have hb24 : b2 < w4.heap.size := Nat.lt_of_lt_of_le hb23 hB4.size
        obtain ⟨y0, y1, y2, y3, y4, y5, y6, y7, y8, y9⟩ := dep_at HYC.out
        have HZ4 : Hid (DepsV w4 v4 ls) := Lib.hid (OwnR.rows DepT.hsz hO4)
        have HX4 := Lib.hid ((HVr.out.below hB3).below hB4)
        have HB4 := Lib.hid (HBK.out.trans ((hB3.trans (hB4.mono hB3.size)).mono HBK.out.size))
        clear hy hyc hO3 hO4 hB3 hB4
        have HIC := Lib.hid (IsClosed_any ⟨⟨c2', n2, s2, d2⟩, p, op, cl, le, st, 1⟩ op)
        obtain ⟨a4, c4, rfl, _, _, _⟩ := HZ4.out.open
        go_region_held3 (fun w' => w'.cell? ⟨g, k * 10, none⟩ = some (.string c2') ∧ w'.cell? ⟨g, k * 10 + 1, none⟩ = some (.int .i64 n2) ∧ w'.cell? ⟨g, k * 10 + 2, none⟩ = some (.string s2) ∧ w'.cell? ⟨g, k * 10 + 3, none⟩ = some (.int .i64 d2) ∧ w'.cell? ⟨g, k * 10 + 4, none⟩ = some (.string p) ∧ w'.cell? ⟨g, k * 10 + 5, none⟩ = some (.int .i64 op) ∧ w'.cell? ⟨g, k * 10 + 6, none⟩ = some (.int .i64 cl) ∧ w'.cell? ⟨g, k * 10 + 7, none⟩ = some (.int .i64 le) ∧ w'.cell? ⟨g, k * 10 + 8, none⟩ = some (.int .i64 st) ∧ w'.cell? ⟨g, k * 10 + 9, none⟩ = some (.int .i64 1) ∧ w'.cell? ⟨b2, o2 + k * 10 + 5, none⟩ = some (.int .i64 op)) (first | exact ⟨y0, y1, y2, y3, y4, y5, y6, y7, y8, y9, g5⟩ | exact ⟨x0, x1, x2, x3, x4, x5, x6, x7, x8, x9, xo⟩) (first
          | (go_at_call 24; refine (Same_same _ _ ls w4.drew HZ4.out HX4.out).mono ?_; rintro e w5 ⟨rfl, n5, rfl⟩)
          | (go_at_call 26; refine (HIC.out _).mono ?_; rintro e w6 ⟨rfl, hB6⟩; have x0 := cell_keep hB6 hg4 y0; have x1 := cell_keep hB6 hg4 y1; have x2 := cell_keep hB6 hg4 y2; have x3 := cell_keep hB6 hg4 y3; have x4 := cell_keep hB6 hg4 y4; have x5 := cell_keep hB6 hg4 y5; have x6 := cell_keep hB6 hg4 y6; have x7 := cell_keep hB6 hg4 y7; have x8 := cell_keep hB6 hg4 y8; have x9 := cell_keep hB6 hg4 y9; have xo := cell_keep hB6 hb24 g5))
        go_wp2
        go_roundw
        case rel => exact ⟨k + 1, by omega, by go_num, (below_drewN HB4.out _).trans (hB6.mono HB4.out.size)⟩
        case measure => simp [intOf]; omega
      · rw [if_neg hs] at A1
        have hsb : (x.state != 0) = true := by simp [hs]
        clear hs hx
        obtain ⟨⟨c2', n2, s2, d2⟩, p, op, cl, le, st, sa⟩ := x
        simp only at g0 g1 g2 g3 g4 g5 g6 g7 g8 g9 hsb
        have A2 : Hid (Calls Try.prog 22 #[.slice (some ⟨b2, o2, none⟩) ls.length c2, .agg (⟨4, 0, ⟨c2', n2, s2, d2⟩⟩ : Rev).cells, .int .i64 now] wr (SlcRet (7, []) wr)) := Lib.hid A1.out
        clear A1
        go_wp2_with (go_at_call 22; refine A2.out.mono ?_; rintro e w3 ⟨v3, rfl, hO3, hB3⟩; obtain ⟨a3, c3, rfl, _, _, _⟩ := (OwnR.rows DepT.hsz hO3).open; obtain ⟨f0, f1, f2, f3, f4, f5, f6, f7, f8, f9⟩ := dep_at (dep_keep hB3 hb2 HC.out))
        go_roundw
        case rel => exact ⟨k + 1, by omega, by go_num, HBK.out.trans (hB3.mono HBK.out.size)⟩
        case measure => simp [intOf]; omega
    · obtain rfl : k = ls.length := by omega
      have hBw := HB2.out.trans (hBr.mono HB2.out.size)
      go_wp2_with (go_at_call 19; refine (awake_any _).mono ?_; rintro e w6 ⟨rfl, hB6⟩)
      go_ret
      exact ⟨rfl, hBw.trans (hB6.mono hBw.size)⟩
end Go.Proofs.Ytmigkmdhenkpmaa
