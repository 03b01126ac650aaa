/- Law ScheduleValidates returns true for every input. -/
import Derived.Test.YtmigkmdhenkpmaaDepFew
import Derived.Test.YtmigkmdhenkpmaaSpo
import Derived.Test.YtmigkmdhenkpmaaLawScT
import Derived.Deep.RegionHeld3
namespace Go.Proofs.Ytmigkmdhenkpmaa
open Go.RowKit

set_option maxHeartbeats 4000000 in
set_option maxRecDepth 100000 in
theorem ScheduleValidates_any (vr u : Value) (raw : List Dep) (l : List Int) (rf : Flt) (w : World) (hr : DepsV w vr raw) (hu : IntsV w u l) :
    Calls Try.prog 3 #[vr, u, .agg rf.cells] w fun e w' => e = .returned (.bool true) ∧ Below w.heap.size w w' := by
  obtain ⟨a0, c0, rfl, _⟩ := hu.open
  obtain ⟨ar, cr, rfl, _⟩ := hr.open
  have NW := fun w0 hB => New_any _ l w0 (IntsV.below hu hB)
  have tokA : True := trivial
  have tokB : True := trivial
  obtain ⟨fs, hfs⟩ : ∃ fs, fs = raw.take 30 := ⟨_, rfl⟩
  have hF30 : fs.length ≤ 30 := by rw [hfs, List.length_take]; omega
  have FW := fun w0 hB => few_any _ raw w0 (RowV.below hr hB)
  rw [← hfs] at FW
  have HFW := Lib.hid FW
  have HR := Lib.hid hr
  clear FW hfs hr
  obtain ⟨rc, rn, rs, rd⟩ := rf
  simp only [Flt.cells]
  go_enter Try.func3, Try.ntmps3
  go_wp2_with (first
    | (go_at_call 11; refine (NW _ ((Below.refl _ _).alloc (Nat.le_refl _) _)).mono ?_; rintro e w1 ⟨b, rfl, hs1, hB1⟩; have hbw := hs1.lt)
    | (go_at_call 12; refine (Schedule_any _ b 26 _ w1 (by omega) hs1).mono ?_; rintro e w2 ⟨v2, ls, r2, rfl, hO2, hl10, hv0, hs2, hg2⟩; have hB2 := below_grown hB1 hg2 hB1.size hs1.ge; have hBa : Below w.heap.size w (w.alloc (.cells #[.string rc, .int .i64 rn, .string rs, .int .i64 rd] 25)) := (Below.refl _ _).alloc (Nat.le_refl _) _; have hB02 := hBa.trans (hB2.mono hBa.size); have hV2 : DepsV w2 v2 ls := OwnR.rows DepT.hsz hO2; obtain ⟨a2, c2, rfl, la2, _, _⟩ := hV2.open)
    | (go_at_call 13; have _t := tokA; refine (HFW.out w2 hB02).mono ?_; clear tokA _t; rintro e w3 ⟨v3, rfl, hf3, n3, rfl⟩; have hf4 := hf3 w HR.out; clear hf3; obtain ⟨a3, c3, rfl, la3, _, _⟩ := hf4.open)
    | (go_at_call 14; refine (Spoilt_any _ b r2 _ ls (w2.drewN n3) (hs2.below (below_drewN (Below.refl _ _) n3)) (RowV.below hV2 (below_drewN (Below.refl _ _) n3)) (by omega) (fun x hx => valid_wf (vErr_all ls none hv0 x hx))).mono ?_; rintro e w4 ⟨v4, xs, r4, rfl, hO4, hl30, hwx, hs4, hg4⟩; have hV4 : DepsV w4 v4 xs := OwnR.rows DepT.hsz hO4; obtain ⟨a4, c4, rfl, la4, _, _⟩ := hV4.open; have hG4 : DepsV w4 (.slice a2 ls.length c2) ls := (((DepsN.own hO2 hbw).below (below_drewN (Below.refl _ _) n3)).grown hg4).1; have hge1 := hs1.ge)
    | (at_builtin; have _t := tokB; refine DepT.appendV rfl _ _ rfl w4.heap.size _ [] _ ls rfl rfl (own_zero w4) (RowV.below hG4 ((Below.refl _ _).alloc (Nat.le_refl _) _)) (by simp [maxLen]; omega) (by show (0 + _) * 104 ≤ _; omega) (by rw [size_new]; omega) ?_; clear tokB _t; intro v5 w5 hO5 hg5; have hg5' : (w4.alloc (.cells #[] 35)).grownBy w5 (some w4.heap.size) := hg5; have hB45 : Below w4.heap.size w4 w5 := ((Below.refl _ _).alloc (Nat.le_refl _) _).grown hg5' (by rw [size_new]; omega) (fun q hq => (by cases hq; exact Nat.le_refl _)); have hB04 : Below w.heap.size w w4 := hBa.trans ((below_grown (below_drewN hB2 n3) hg4 (below_drewN hB2 n3).size hge1).mono hBa.size); have hB05 := hB04.trans (hB45.mono hB04.size))
    | (go_at_call 13; refine (HFW.out w5 hB05).mono ?_; rintro e w6 ⟨v6, rfl, hf6, n6, rfl⟩; have hf7 := hf6 w HR.out; clear hf6; obtain ⟨a6, c6, rfl, la6, _, _⟩ := hf7.open)
    | (at_builtin; refine DepT.appendV rfl _ _ rfl w4.heap.size v5 ([] ++ ls) _ fs rfl rfl (World.ownsRow.kept hO5 (grownBy_below (row := none) (below_drewN (Below.refl _ _) n6)) (by cases hvo : v5.ownBlock with | none => exact .inl rfl | some g => exact .inr (by simp))) (RowV.below hf7 (below_drewN hB05 n6)) (by simp [maxLen]; omega) (by show ((([] : List Dep) ++ ls).length + fs.length) * 104 ≤ _; simp only [List.nil_append]; omega) hB45.size ?_; intro v7 w7 hO7 hg7; obtain ⟨a7, c7, rfl, la7, _, _⟩ := (OwnR.rows DepT.hsz hO7).open))
  have hg7' : (w5.drewN n6).grownBy w7 v5.ownBlock := hg7
  have hB47 : Below w4.heap.size w4 w7 := (below_drewN hB45 n6).grown hg7' hB45.size (fun q hq => (World.ownsRow.lt hO5 q hq).1)
  have hB07 := hB04.trans (hB47.mono hB04.size)
  have hc0 : ∀ j u, (⟨rc, rn, rs, rd⟩ : Flt).cells[j]? = some u → w4.cell? ⟨w.heap.size, j, none⟩ = some u := fun j u hu => by
    have h1 := cell_keep hB2 (by rw [size_new]; omega) (cell_of (heap_alloc_new w (.cells (⟨rc, rn, rs, rd⟩ : Flt).cells 25)) hu)
    exact hg4.cell h1 (by rw [size_new] at hge1; simp; omega)
  generalize hW8 : w7.alloc _ = W8
  obtain ⟨hq, hBW, hsW⟩ := one_box _ _ _ _ hW8
  have hB48 := hB47.trans (hBW.mono hB47.size)
  have HB8 := Lib.hid (hB07.trans (hBW.mono hB07.size))
  have HL : Hid (∀ k, k < 4 → ∃ ax cx X, DepsV W8 (.slice ax (X : List Dep).length cx) X ∧ W8.cell? ⟨w7.heap.size, k, none⟩ = some (.slice ax X.length cx)) := Lib.hid (fun k hk => by
    rcases (by omega : k = 0 ∨ k = 1 ∨ k = 2 ∨ k = 3) with rfl | rfl | rfl | rfl
    · exact ⟨a3, c3, fs, RowV.below hf4 (hB07.trans (hBW.mono hB07.size)), hq 0 _ rfl⟩
    · exact ⟨a2, c2, ls, RowV.below hG4 hB48, hq 1 _ rfl⟩
    · exact ⟨a4, c4, xs, RowV.below hV4 hB48, hq 2 _ rfl⟩
    · exact ⟨a7, c7, [] ++ ls ++ fs, RowV.below (OwnR.rows DepT.hsz hO7) hBW, by have h := hq 3 _ rfl; simpa using h⟩)
  have hsz4 := hB04.size
  have HC := Lib.hid (fun (j : Nat) (u : Value) (hu : (⟨rc, rn, rs, rd⟩ : Flt).cells[j]? = some u) => cell_keep hB48 (World.block_lt_of_cell? w4 _ (hc0 j u hu)) (hc0 j u hu))
  have hrl : w.heap.size < W8.heap.size := World.block_lt_of_cell? W8 _ (HC.out 0 _ rfl)
  have hnl : w7.heap.size < W8.heap.size := by omega
  clear hq hBW hsW hW8 hB48 hB07 hB47 hg7' hg7 hO7 hf7 hB05 hB04 hB45 hg5' hg5 hO5 hG4 hV4 hO4 hg4 hs4 hwx hf4 hV2 hO2 hB02 hB2 hg2 hs2 hv0 hB1 hs1 hBa NW HFW HR hu hc0
  generalize w7.heap.size = nb at *
  generalize hrbe : w.heap.size = rb at hrl HC ⊢
  go_loopw [30] (fun i wr => ∃ k : Nat, k ≤ 4 ∧ i = .int .i64 k ∧ Below W8.heap.size W8 wr) (fun i _ => 4 - (intOf i).toNat)
  case atStart => exact ⟨0, by omega, rfl, Below.refl _ _⟩
  case round =>
    obtain ⟨k, hk, rfl, hBk⟩ := hrel
    by_cases hk4 : k < 4
    · have hkb : decide ((k : Int) < 4) = true := decide_eq_true (by omega)
      obtain ⟨ax, cx, X, hX, hXc⟩ := HL.out k hk4
      have hXk := cell_keep hBk hnl hXc
      have g0 := cell_keep hBk hrl (HC.out 0 _ rfl)
      have g1 := cell_keep hBk hrl (HC.out 1 _ rfl)
      have g2 := cell_keep hBk hrl (HC.out 2 _ rfl)
      have g3 := cell_keep hBk hrl (HC.out 3 _ rfl)
      simp only [Flt.cells, List.getElem_toArray, List.getElem_cons_zero, List.getElem_cons_succ] at g0 g1 g2 g3
      have hrk := Nat.lt_of_lt_of_le hrl hBk.size
      have HX := Lib.hid (RowV.below hX hBk)
      have HBk := Lib.hid hBk
      clear hX hXc hBk
      have HXd : Hid (DepsV wr.drew (.slice ax X.length cx) X) := Lib.hid (RowV.below HX.out (below_drewN (Below.refl _ _) 1))
      have V1 := Lib.hid (Validate_any (.slice ax X.length cx) X wr.drew HXd.out)
      have V2 := Lib.hid (fun w' h => RValidate_any (.slice ax X.length cx) X w' h)
      have F1 := Lib.hid (fun w' h => Find_any (.slice ax X.length cx) X ⟨rc, rn, rs, rd⟩ w' h)
      have F2 := Lib.hid (fun w' h => RFind_any (.slice ax X.length cx) X ⟨rc, rn, rs, rd⟩ w' h)
      generalize valE X = ve at *
      generalize findD ⟨rc, rn, rs, rd⟩ X 0 = fe at *
      go_upto_region 6 with (fail)
      go_region_held3 (fun w' => w'.cell? ⟨rb, 0, none⟩ = some (.string rc) ∧ w'.cell? ⟨rb, 1, none⟩ = some (.int .i64 rn) ∧ w'.cell? ⟨rb, 2, none⟩ = some (.string rs) ∧ w'.cell? ⟨rb, 3, none⟩ = some (.int .i64 rd)) (first | exact ⟨g0, g1, g2, g3⟩ | exact ⟨y0, y1, y2, y3⟩ | exact ⟨z0, z1, z2, z3⟩ | exact ⟨u0, u1, u2, u3⟩ | exact ⟨vv0, vv1, vv2, vv3⟩) (first
        | (go_at_call 15; refine V1.out.mono ?_; rintro e v1 ⟨rfl, hC1⟩; have y0 := cell_keep hC1 hrk g0; have y1 := cell_keep hC1 hrk g1; have y2 := cell_keep hC1 hrk g2; have y3 := cell_keep hC1 hrk g3; have l1 := Nat.lt_of_lt_of_le hrk hC1.size; have hX1 := RowV.below HXd.out hC1)
        | (go_at_call 16; refine (V2.out v1 hX1).mono ?_; rintro e v2 ⟨rfl, hC2⟩; have z0 := cell_keep hC2 l1 y0; have z1 := cell_keep hC2 l1 y1; have z2 := cell_keep hC2 l1 y2; have z3 := cell_keep hC2 l1 y3; have l2 := Nat.lt_of_lt_of_le l1 hC2.size; have hX2 := RowV.below hX1 hC2)
        | (go_at_call 17; refine (F1.out v2 hX2).mono ?_; rintro e v3 ⟨rfl, hC3⟩; have u0 := cell_keep hC3 l2 z0; have u1 := cell_keep hC3 l2 z1; have u2 := cell_keep hC3 l2 z2; have u3 := cell_keep hC3 l2 z3; have l3 := Nat.lt_of_lt_of_le l2 hC3.size; have hX3 := RowV.below hX2 hC3)
        | (go_at_call 18; refine (F2.out v3 hX3).mono ?_; rintro e v4 ⟨rfl, hC4⟩; have vv0 := cell_keep hC4 l3 u0; have vv1 := cell_keep hC4 l3 u1; have vv2 := cell_keep hC4 l3 u2; have vv3 := cell_keep hC4 l3 u3))
      go_wp2
      have HX4 : Hid (DepsV v4 (.slice ax X.length cx) X) := Lib.hid (RowV.below hX3 hC4)
      have HB4 := Lib.hid ((below_drewN HBk.out 1).trans ((hC1.trans ((hC2.trans ((hC3.trans (hC4.mono hC3.size)).mono hC2.size)).mono hC1.size)).mono HBk.out.size))
      clear hC1 hC2 hC3 hC4 hX1 hX2 hX3 V1 V2 F1 F2 HXd HX HBk
      go_loopw [50] (fun v wq => ∃ i : Nat, i ≤ X.length ∧ v = .int .i64 i ∧ Below v4.heap.size v4 wq) (fun v _ => X.length - (intOf v).toNat)
      case atStart => exact ⟨0, by omega, rfl, Below.refl _ _⟩
      case round =>
        obtain ⟨i, hi, rfl, hBi⟩ := hrel
        by_cases hiX : i < X.length
        · have hki : (i : Int) < (X.length : Int) := by omega
          obtain ⟨x, hx, -⟩ := drop_at hiX
          have hXi : DepsV wr (.slice ax X.length cx) X := RowV.below HX4.out hBi
          obtain ⟨_, _, e1, _, _, cX⟩ := hXi.open
          simp only [Value.slice.injEq] at e1
          obtain ⟨rfl, -, rfl⟩ := e1
          obtain ⟨bx, ox, rfl, hbx, ccX⟩ := cX (by omega)
          obtain ⟨x0, x1, x2, x3, -⟩ := dep_at (ccX i x hx)
          have HXi : Hid (DepsV wr.drew (.slice (some ⟨bx, ox, none⟩) X.length cx) X) := Lib.hid (RowV.below hXi (below_drewN (Below.refl _ _) 1))
          have F1 := Lib.hid (Find_any _ X x.flt wr.drew HXi.out)
          have F2 := Lib.hid (fun w' h => RFind_any (.slice (some ⟨bx, ox, none⟩) X.length cx) X x.flt w' h)
          have HBi := Lib.hid hBi
          clear cX ccX hx hXi hBi
          generalize findD x.flt X 0 = fx at *
          obtain ⟨⟨c2, n2, s2, d2⟩, p, op, cl, le, st, sa⟩ := x
          simp only at x0 x1 x2 x3
          go_wp2
          go_region_held3 (fun w' => w'.cell? ⟨bx, ox + i * 10, none⟩ = some (.string c2) ∧ w'.cell? ⟨bx, ox + i * 10 + 1, none⟩ = some (.int .i64 n2) ∧ w'.cell? ⟨bx, ox + i * 10 + 2, none⟩ = some (.string s2) ∧ w'.cell? ⟨bx, ox + i * 10 + 3, none⟩ = some (.int .i64 d2)) (first | exact ⟨x0, x1, x2, x3⟩ | exact ⟨pp0, pp1, pp2, pp3⟩ | exact ⟨qq0, qq1, qq2, qq3⟩) (first
            | (go_at_call 17; refine F1.out.mono ?_; rintro e v5 ⟨rfl, hC5⟩; have pp0 := cell_keep hC5 hbx x0; have pp1 := cell_keep hC5 hbx x1; have pp2 := cell_keep hC5 hbx x2; have pp3 := cell_keep hC5 hbx x3; have l5 := Nat.lt_of_lt_of_le hbx hC5.size; have hX5 := RowV.below HXi.out hC5)
            | (go_at_call 18; refine (F2.out v5 hX5).mono ?_; rintro e v6 ⟨rfl, hC6⟩; have qq0 := cell_keep hC6 l5 pp0; have qq1 := cell_keep hC6 l5 pp1; have qq2 := cell_keep hC6 l5 pp2; have qq3 := cell_keep hC6 l5 pp3))
          go_wp2
          go_roundw
          case rel => exact ⟨i + 1, by omega, by go_num, (below_drewN HBi.out 1).trans ((hC5.trans (hC6.mono hC5.size)).mono HBi.out.size)⟩
          case measure => simp [intOf]; omega
        · obtain rfl : i = X.length := by omega
          go_wp2
          go_roundw
          case rel => exact ⟨k + 1, by omega, by go_num, HB4.out.trans (hBi.mono HB4.out.size)⟩
          case measure => simp [intOf]; omega
    · obtain rfl : k = 4 := by omega
      have hkb : decide (((4 : Nat) : Int) < 4) = false := by decide
      have hBr := HB8.out.trans (hBk.mono HB8.out.size)
      go_wp2_with (go_at_call 19; refine (awake_any _).mono ?_; rintro e w6 ⟨rfl, hB6⟩)
      go_ret
      exact ⟨rfl, hBr.trans (hB6.mono hBr.size)⟩
end Go.Proofs.Ytmigkmdhenkpmaa
