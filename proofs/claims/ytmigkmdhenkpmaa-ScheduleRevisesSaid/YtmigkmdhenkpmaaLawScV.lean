/- Law ScheduleRevises returns true for every input. -/
import Derived.Test.YtmigkmdhenkpmaaDepFew
import Derived.Test.YtmigkmdhenkpmaaSpo
import Derived.Deep.RegionHeld3
namespace Go.Proofs.Ytmigkmdhenkpmaa
open Go.RowKit

theorem held_alloc {w : World} {b o : Nat} {v : Value} {x : Obj} (hb : b < w.heap.size) (e : w.cell? ⟨b, o, none⟩ = some v) : (w.alloc x).cell? ⟨b, o, none⟩ = some v := cell_keep ((Below.refl _ _).alloc (Nat.le_refl _) x) hb e

set_option maxHeartbeats 4000000 in
set_option maxRecDepth 100000 in
theorem ScheduleRevises_any (vr u : Value) (raw : List Dep) (l : List Int) (rv : Rev) (now : Int) (w : World) (hr : DepsV w vr raw) (hu : IntsV w u l) :
    Calls Try.prog 4 #[vr, u, .agg rv.cells, .int .i64 now] w fun e w' => e = .returned (.bool true) ∧ Below w.heap.size w w' := by
  obtain ⟨a0, c0, rfl, _⟩ := hu.open
  obtain ⟨ar, cr, rfl, _⟩ := hr.open
  have NW := fun w0 hB => New_any _ l w0 (IntsV.below hu hB)
  obtain ⟨kd, am, ⟨rc, rn, rs, rd⟩⟩ := rv
  simp only [Rev.cells]
  go_enter Try.func4, Try.ntmps4
  go_wp2_with (first
    | (go_at_call 11; refine (NW _ ((Below.refl _ _).alloc (Nat.le_refl _) _)).mono ?_; rintro e w1 ⟨b, rfl, hs1, hB1⟩; have hbw := hs1.lt)
    | (go_at_call 12; refine (Schedule_any _ b 12 _ w1 (by omega) hs1).mono ?_; rintro e w2 ⟨v2, ls, r2, rfl, hO2, hl10, hv0, hs2, hg2⟩; have hB2 := below_grown hB1 hg2 hB1.size hs1.ge; have hV2 : DepsV w2 v2 ls := OwnR.rows DepT.hsz hO2; obtain ⟨a2, c2, rfl, la2, _, _⟩ := hV2.open)
    | (go_at_call 13; refine (few_any _ raw w2 ((hr.below ((Below.refl _ _).alloc (Nat.le_refl _) _)).below hB2)).mono ?_; rintro e w3 ⟨v3, rfl, hf3, n3, rfl⟩; obtain ⟨fs, hfs⟩ : ∃ fs, fs = raw.take 30 := ⟨_, rfl⟩; have hf4 := hf3 w hr; rw [← hfs] at hf4; have HFS := Lib.hid hfs; clear hfs hf3; obtain ⟨a3, c3, rfl, la3, _, _⟩ := hf4.open)
    | (go_at_call 14; refine (Spoilt_any _ b r2 _ ls (w2.drewN n3) (hs2.below (below_drewN (Below.refl _ _) n3)) (RowV.below hV2 (below_drewN (Below.refl _ _) n3)) (by omega) (fun x hx => valid_wf (vErr_all ls none hv0 x hx))).mono ?_; rintro e w4 ⟨v4, xs, r4, rfl, hO4, hl30, hwx, hs4, hg4⟩; have hV4 : DepsV w4 v4 xs := OwnR.rows DepT.hsz hO4; obtain ⟨a4, c4, rfl, la4, _, _⟩ := hV4.open))
  have hBa : Below w.heap.size w (w.alloc (.cells (⟨kd, am, ⟨rc, rn, rs, rd⟩⟩ : Rev).cells 39)) := (Below.refl _ _).alloc (Nat.le_refl _) _
  have hsA := size_new w (.cells (⟨kd, am, ⟨rc, rn, rs, rd⟩⟩ : Rev).cells 39)
  have hc0 : ∀ j u, (⟨kd, am, ⟨rc, rn, rs, rd⟩⟩ : Rev).cells[j]? = some u → (w.alloc (.cells (⟨kd, am, ⟨rc, rn, rs, rd⟩⟩ : Rev).cells 39)).cell? ⟨w.heap.size, j, none⟩ = some u := fun j u hu => cell_of (heap_alloc_new _ _) hu
  have hge := hs1.ge
  have hB2' : Below (w.alloc (.cells (⟨kd, am, ⟨rc, rn, rs, rd⟩⟩ : Rev).cells 39)).heap.size (w.alloc (.cells (⟨kd, am, ⟨rc, rn, rs, rd⟩⟩ : Rev).cells 39)) w2 := hB2
  have hge' : (w.alloc (.cells (⟨kd, am, ⟨rc, rn, rs, rd⟩⟩ : Rev).cells 39)).heap.size ≤ b := hge
  have hs4' : SrcR (w.alloc (.cells (⟨kd, am, ⟨rc, rn, rs, rd⟩⟩ : Rev).cells 39)).heap.size w4 b r4 := hs4
  generalize w.alloc (.cells (⟨kd, am, ⟨rc, rn, rs, rd⟩⟩ : Rev).cells 39) = wa at *
  have hB3 := below_drewN hB2' n3
  have hB4 := below_grown hB3 hg4 hB3.size hge'
  have hBw4 := hBa.trans (hB4.mono hBa.size)
  have hc4 : ∀ j u, (⟨kd, am, ⟨rc, rn, rs, rd⟩⟩ : Rev).cells[j]? = some u → w4.cell? ⟨w.heap.size, j, none⟩ = some u := fun j u hu => cell_keep hB4 (by omega) (hc0 j u hu)
  have hF4 : DepsN b w4 (.slice a3 fs.length c3) fs := (DepsN.old hf4 (hBa.trans (hB3.mono hBa.size)) (by omega)).grown hg4
  have hbw2 : b < w2.heap.size := hs2.lt
  have hG4 : DepsN b w4 (.slice a2 ls.length c2) ls := ((DepsN.own hO2 hbw).below (below_drewN (Below.refl _ _) n3)).grown hg4
  have hH4 : DepsN b w4 (.slice a4 xs.length c4) xs := DepsN.own hO4 hbw2
  have hF30 : fs.length ≤ 30 := by rw [HFS.out, List.length_take]; omega
  have hrb : w.heap.size ≠ b := by omega
  have hB0 : w.heap.size ≤ wa.heap.size := by omega
  generalize hW5 : w4.alloc _ = W5
  obtain ⟨hq, hBW, hsW⟩ := one_box _ _ _ _ hW5
  have HF := Lib.hid (hF4.below hBW)
  have HG := Lib.hid (hG4.below hBW)
  have HH := Lib.hid (hH4.below hBW)
  have hs5 := hs4'.below hBW
  have HB5 := Lib.hid (hBw4.trans (hBW.mono hBw4.size))
  have HC := Lib.hid (fun (j : Nat) (u : Value) (hu : (⟨kd, am, ⟨rc, rn, rs, rd⟩⟩ : Rev).cells[j]? = some u) => cell_keep hBW (by have := hBw4.size; have := hB4.size; omega) (hc4 j u hu))
  have q0 := hq 0 _ rfl
  have q1 := hq 1 _ rfl
  have q2 := hq 2 _ rfl
  simp only [List.getElem_toArray, List.getElem_cons_zero, List.getElem_cons_succ] at q0 q1 q2
  have hnb : w4.heap.size ≠ b := by have := hs4'.lt; omega
  have HQ := Lib.hid (And.intro q0 (And.intro q1 q2))
  clear q0 q1 q2 hq hBW hsW hF4 hG4 hH4 hc4 hc0 hB4 hB3 hBw4 hB2 hB2' hs1 hs2 hs4 hs4' hg2 hg4 hBa hB1 hO2 hO4 hV2 hV4 hf4 hv0 NW hr hu hwx HFS hW5
  generalize w4.heap.size = nb at *
  generalize hrbe : w.heap.size = rb at *
  generalize wa.heap.size = B0 at *
  go_loopw [33] (fun i wr => ∃ (k : Nat) (r : List Int), k ≤ 3 ∧ i = .int .i64 k ∧ SrcR B0 wr b r ∧ W5.grownBy wr (some b)) (fun i _ => 3 - (intOf i).toNat)
  case atStart => exact ⟨0, r4, by omega, rfl, hs5, grownBy_refl _ _⟩
  case round =>
    clear hs5
    obtain ⟨k, r, hk, rfl, hs, hg⟩ := hrel
    by_cases hk3 : k < 3
    · have hkb : decide ((k : Int) < 3) = true := decide_eq_true (by omega)
      obtain ⟨ax, cx, X, hX, hX30, hXc⟩ : ∃ ax cx X, DepsN b wr (.slice ax X.length cx) X ∧ X.length ≤ 30 ∧ wr.cell? ⟨nb, k, none⟩ = some (.slice ax X.length cx) := by
        rcases (by omega : k = 0 ∨ k = 1 ∨ k = 2) with rfl | rfl | rfl
        · exact ⟨a3, c3, fs, HF.out.grown hg, hF30, hg.cell HQ.out.1 (by simp; exact hnb)⟩
        · exact ⟨a2, c2, ls, HG.out.grown hg, by omega, hg.cell HQ.out.2.1 (by simp; exact hnb)⟩
        · exact ⟨a4, c4, xs, HH.out.grown hg, by omega, hg.cell HQ.out.2.2 (by simp; exact hnb)⟩
      have gc := fun j u hu => hg.cell (HC.out j u hu) (by simp; exact hrb)
      have g0 := gc 0 _ rfl
      have g1 := gc 1 _ rfl
      have g2 := gc 2 _ rfl
      have g3 := gc 3 _ rfl
      have g4 := gc 4 _ rfl
      have g5 := gc 5 _ rfl
      simp only [Rev.cells, List.getElem_toArray, List.getElem_cons_zero, List.getElem_cons_succ] at g0 g1 g2 g3 g4 g5
      have HS := Lib.hid hs
      have HX := Lib.hid hX
      have HG' := Lib.hid hg
      have tokA : True := trivial
      have hrl : rb < wr.heap.size := World.block_lt_of_cell? wr _ g0
      clear gc hs hX hg HF HG HH
      go_upto_region 6 with (fail)
      have HX1 := Lib.hid (HX.out.below (below_drewN (Below.refl _ _) 1))
      have R1 := Lib.hid (Revision_any B0 b r (.slice ax X.length cx) X wr.drew (HS.out.below (below_drewN (Below.refl _ _) 1)) HX1.out.1 HX1.out.2)
      go_region_held3 (fun w' => w'.cell? ⟨rb, 0, none⟩ = some (.int .i64 kd) ∧ w'.cell? ⟨rb, 1, none⟩ = some (.int .i64 am) ∧ w'.cell? ⟨rb, 2, none⟩ = some (.string rc) ∧ w'.cell? ⟨rb, 3, none⟩ = some (.int .i64 rn) ∧ w'.cell? ⟨rb, 4, none⟩ = some (.string rs) ∧ w'.cell? ⟨rb, 5, none⟩ = some (.int .i64 rd)) (first | exact ⟨g0, g1, g2, g3, g4, g5⟩ | exact ⟨y0, y1, y2, y3, y4, y5⟩ | exact ⟨z0, z1, z2, z3, z4, z5⟩ | exact ⟨held_alloc hl8 z0, held_alloc hl8 z1, held_alloc hl8 z2, held_alloc hl8 z3, held_alloc hl8 z4, held_alloc hl8 z5⟩) (first
        | (go_at_call 20; have _t := tokA; refine R1.out.mono ?_; clear tokA _t; rintro e w7 ⟨q1, r7, rfl, hs7, hg7⟩; have y0 := hg7.cell g0 (by simp; exact hrb); have y1 := hg7.cell g1 (by simp; exact hrb); have y2 := hg7.cell g2 (by simp; exact hrb); have y3 := hg7.cell g3 (by simp; exact hrb); have y4 := hg7.cell g4 (by simp; exact hrb); have y5 := hg7.cell g5 (by simp; exact hrb); have HX7 := Lib.hid (HX1.out.grown hg7); obtain ⟨ka, ma, ⟨ca, na, sa, da⟩⟩ := q1; simp only [Rev.cells])
        | (go_at_call 20; refine (Revision_any B0 b r7 _ X w7 hs7 HX7.out.1 HX7.out.2).mono ?_; rintro e w8 ⟨q2, r8, rfl, hs8, hg8⟩; have z0 := hg8.cell y0 (by simp; exact hrb); have z1 := hg8.cell y1 (by simp; exact hrb); have z2 := hg8.cell y2 (by simp; exact hrb); have z3 := hg8.cell y3 (by simp; exact hrb); have z4 := hg8.cell y4 (by simp; exact hrb); have z5 := hg8.cell y5 (by simp; exact hrb); have hl8 : rb < w8.heap.size := World.block_lt_of_cell? w8 _ z0; obtain ⟨kb, mb, ⟨cb, nb', sb, db⟩⟩ := q2; simp only [Rev.cells]))
      go_wp2
      have hg8' := grownBy_trans hg7 hg8
      have hX8 := HX7.out.grown hg8
      have hsz8 := hg8'.size
      generalize hW9 : w8.alloc _ = W9
      obtain ⟨hq, hBW, hsW⟩ := one_box _ _ _ _ hW9
      have hnr : w8.heap.size ≠ b := by have := hs8.lt; omega
      have HRV : Hid (∀ m, m < 3 → ∃ q : Rev, W9.cell? ⟨w8.heap.size, m * 6, none⟩ = some (.int .i64 q.kind) ∧ W9.cell? ⟨w8.heap.size, m * 6 + 1, none⟩ = some (.int .i64 q.amt) ∧ W9.cell? ⟨w8.heap.size, m * 6 + 2, none⟩ = some (.string q.flt.car) ∧ W9.cell? ⟨w8.heap.size, m * 6 + 3, none⟩ = some (.int .i64 q.flt.num) ∧ W9.cell? ⟨w8.heap.size, m * 6 + 4, none⟩ = some (.string q.flt.suf) ∧ W9.cell? ⟨w8.heap.size, m * 6 + 5, none⟩ = some (.int .i64 q.flt.day)) := Lib.hid (fun m hm => by
        rcases (by omega : m = 0 ∨ m = 1 ∨ m = 2) with rfl | rfl | rfl
        · exact ⟨⟨kd, am, ⟨rc, rn, rs, rd⟩⟩, hq 0 _ rfl, hq 1 _ rfl, hq 2 _ rfl, hq 3 _ rfl, hq 4 _ rfl, hq 5 _ rfl⟩
        · exact ⟨⟨ka, ma, ⟨ca, na, sa, da⟩⟩, hq 6 _ rfl, hq 7 _ rfl, hq 8 _ rfl, hq 9 _ rfl, hq 10 _ rfl, hq 11 _ rfl⟩
        · exact ⟨⟨kb, mb, ⟨cb, nb', sb, db⟩⟩, hq 12 _ rfl, hq 13 _ rfl, hq 14 _ rfl, hq 15 _ rfl, hq 16 _ rfl, hq 17 _ rfl⟩)
      have HX9 := Lib.hid (hX8.below hBW)
      have hs9 := hs8.below hBW
      have HG9 := Lib.hid (grownBy_trans HG'.out (grownBy_trans (grownBy_below (row := some b) (below_drewN (Below.refl _ _) 1)) (grownBy_trans hg8' (grownBy_below (row := some b) hBW))))
      have hnl : w8.heap.size < W9.heap.size := by omega
      clear hq hBW hsW hW9 hX8 hg8' hg7 hg8 HX7 HX1 HX HS HG' R1 hs7 hs8 hsz8
      generalize w8.heap.size = nr at *
      go_loopw [46] (fun i wq => ∃ (m : Nat) (r' : List Int), m ≤ 3 ∧ i = .int .i64 m ∧ SrcR B0 wq b r' ∧ W9.grownBy wq (some b)) (fun i _ => 3 - (intOf i).toNat)
      case atStart => exact ⟨0, r8, by omega, rfl, hs9, grownBy_refl _ _⟩
      case round =>
        clear hs9
        obtain ⟨m, r', hm, rfl, hs, hg⟩ := hrel
        by_cases hm3 : m < 3
        · have hmb : decide ((m : Int) < 3) = true := decide_eq_true (by omega)
          obtain ⟨q, e0, e1, e2, e3, e4, e5⟩ := HRV.out m hm3
          have f0 := hg.cell e0 (by simp; exact hnr)
          have f1 := hg.cell e1 (by simp; exact hnr)
          have f2 := hg.cell e2 (by simp; exact hnr)
          have f3 := hg.cell e3 (by simp; exact hnr)
          have f4 := hg.cell e4 (by simp; exact hnr)
          have f5 := hg.cell e5 (by simp; exact hnr)
          have HX10 := Lib.hid (HX9.out.grown hg)
          have HGm := Lib.hid hg
          have HSm := Lib.hid hs
          have AP := Lib.hid (fun v t w' h => Apply_any v X q t w' h)
          have RP := Lib.hid (fun v t w' h => RApply_any v X q t w' h)
          obtain ⟨qk, qm, ⟨qc, qn, qs, qd⟩⟩ := q
          simp only at f0 f1 f2 f3 f4 f5
          clear e0 e1 e2 e3 e4 e5 hg hs
          have m60 := modF_bd (r'.headD 0) 60 (by omega)
          have QN := Lib.hid (fun w' h' => N_any B0 b r' 60 w' h' (by omega))
          generalize modF (r'.headD 0) 60 = n60 at *
          go_wp2_with (go_at_call 21; refine (QN.out _ (HSm.out.below ((Below.refl _ _).alloc (Nat.le_refl _) _))).mono ?_; rintro e w10 ⟨rfl, hs10, hg10⟩)
          have hqb : wr.heap.size ≠ b := by have := HSm.out.lt; omega
          have cb0 := fun j u (hu : (⟨qk, qm, ⟨qc, qn, qs, qd⟩⟩ : Rev).cells[j]? = some u) => hg10.cell (cell_of (heap_alloc_new wr (.cells (⟨qk, qm, ⟨qc, qn, qs, qd⟩⟩ : Rev).cells 39)) hu) (by simp; exact hqb)
          have hX11 := (HX10.out.below ((Below.refl _ _).alloc (Nat.le_refl _) (.cells (⟨qk, qm, ⟨qc, qn, qs, qd⟩⟩ : Rev).cells 39))).grown hg10
          have hg11 : W9.grownBy w10 (some b) := grownBy_trans HGm.out (grownBy_trans (World.grownBy_alloc wr (.cells (⟨qk, qm, ⟨qc, qn, qs, qd⟩⟩ : Rev).cells 39) (some b)) hg10)
          generalize hW12 : w10.alloc _ = W12
          obtain ⟨hq, hBW, hsW⟩ := one_box _ _ _ _ hW12
          have p0 := cb0 0 _ rfl
          have HCB := Lib.hid (fun j u hu => cell_keep hBW (World.block_lt_of_cell? w10 _ p0) (cb0 j u hu))
          have hqbl : wr.heap.size < W12.heap.size := by have := World.block_lt_of_cell? w10 _ p0; have := hBW.size; simp at *; omega
          have HT : Hid (∀ j, j < 2 → ∃ t, W12.cell? ⟨w10.heap.size, j, none⟩ = some (.int .i64 t)) := Lib.hid (fun j hj => by
            rcases (by omega : j = 0 ∨ j = 1) with rfl | rfl
            · exact ⟨now, hq 0 _ rfl⟩
            · exact ⟨n60, hq 1 _ rfl⟩)
          have HX12 := Lib.hid (hX11.below hBW)
          have hs12 := hs10.below hBW
          have HG12 := Lib.hid (grownBy_trans hg11 (grownBy_below (row := some b) hBW))
          have hntl : w10.heap.size < W12.heap.size := by omega
          clear hq hBW hsW hW12 hX11 hg11 hg10 hs10 p0 cb0 QN HSm HGm HX10 HX9 f0 f1 f2 f3 f4 f5
          generalize w10.heap.size = nt at *
          generalize wr.heap.size = qb at *
          go_loopw [55] (fun i wq => ∃ j : Nat, j ≤ 2 ∧ i = .int .i64 j ∧ Below W12.heap.size W12 wq) (fun i _ => 2 - (intOf i).toNat)
          case atStart => exact ⟨0, Nat.zero_le _, rfl, Below.refl _ _⟩
          case round =>
            obtain ⟨j, hj, rfl, hBj⟩ := hrel
            by_cases hj2 : j < 2
            · have hjb : decide ((j : Int) < 2) = true := decide_eq_true (by omega)
              obtain ⟨t, ht⟩ := HT.out j hj2
              have ht' := cell_keep hBj hntl ht
              have x0 := cell_keep hBj hqbl (HCB.out 0 _ rfl)
              have x1 := cell_keep hBj hqbl (HCB.out 1 _ rfl)
              have x2 := cell_keep hBj hqbl (HCB.out 2 _ rfl)
              have x3 := cell_keep hBj hqbl (HCB.out 3 _ rfl)
              have x4 := cell_keep hBj hqbl (HCB.out 4 _ rfl)
              have x5 := cell_keep hBj hqbl (HCB.out 5 _ rfl)
              simp only [Rev.cells, List.getElem_toArray, List.getElem_cons_zero, List.getElem_cons_succ] at x0 x1 x2 x3 x4 x5
              have hqb' := Nat.lt_of_lt_of_le hqbl hBj.size
              have HXj := Lib.hid (HX12.out.below hBj)
              have HBj := Lib.hid hBj
              have A1 := Lib.hid (AP.out (.slice ax X.length cx) t)
              have A2 := Lib.hid (RP.out (.slice ax X.length cx) t)
              clear ht hBj
              obtain ⟨c, L, hcL⟩ : ∃ c L, applyF X ⟨qk, qm, ⟨qc, qn, qs, qd⟩⟩ t = (c, L) := ⟨_, _, rfl⟩
              rw [hcL] at A1 A2
              clear hcL
              go_wp2_with (first
                | (go_at_call 22; refine (A1.out _ HXj.out.1).mono ?_; rintro e v8 ⟨v, rfl, hO8, hC8⟩; have w0 := cell_keep hC8 hqb' x0; have w1 := cell_keep hC8 hqb' x1; have w2 := cell_keep hC8 hqb' x2; have w3 := cell_keep hC8 hqb' x3; have w4 := cell_keep hC8 hqb' x4; have w5 := cell_keep hC8 hqb' x5; obtain ⟨a8, c8, rfl, _, _, _⟩ := (OwnR.rows DepT.hsz hO8).open)
                | (go_at_call 23; refine (A2.out v8 (HXj.out.below hC8).1).mono ?_; rintro e v9 ⟨v', rfl, hO9, hC9⟩; obtain ⟨a9, c9, rfl, _, _, _⟩ := (OwnR.rows DepT.hsz hO9).open)
                | (go_at_call 24; refine (Same_same _ _ L v9 (RowV.below (OwnR.rows DepT.hsz hO8) hC9) (OwnR.rows DepT.hsz hO9)).mono ?_; rintro e v10 ⟨rfl, n10, rfl⟩))
              go_roundw
              case rel => exact ⟨j + 1, by omega, by go_num, below_drewN (HBj.out.trans ((hC8.trans (hC9.mono hC8.size)).mono HBj.out.size)) n10⟩
              case measure => simp [intOf]; omega
            · obtain rfl : j = 2 := by omega
              have hjb : decide (((2 : Nat) : Int) < 2) = false := by decide
              go_wp2
              go_roundw
              case rel => exact ⟨m + 1, r'.tail, by omega, by go_num, hs12.below hBj, grownBy_trans HG12.out (grownBy_below (row := some b) hBj)⟩
              case measure => simp [intOf]; omega
        · obtain rfl : m = 3 := by omega
          have hmb : decide (((3 : Nat) : Int) < 3) = false := by decide
          go_wp2
          go_roundw
          case rel => exact ⟨k + 1, r', by omega, by go_num, hs, grownBy_trans HG9.out hg⟩
          case measure => simp [intOf]; omega
    · obtain rfl : k = 3 := by omega
      have hkb : decide (((3 : Nat) : Int) < 3) = false := by decide
      have hBr := below_grown HB5.out hg (by rw [← hrbe]; exact HB5.out.size) (by omega)
      go_wp2_with (go_at_call 19; refine (awake_any _).mono ?_; rintro e w6 ⟨rfl, hB6⟩)
      go_ret
      exact ⟨rfl, by rw [hrbe]; exact hBr.trans (hB6.mono (by rw [← hrbe]; exact hBr.size))⟩
end Go.Proofs.Ytmigkmdhenkpmaa
