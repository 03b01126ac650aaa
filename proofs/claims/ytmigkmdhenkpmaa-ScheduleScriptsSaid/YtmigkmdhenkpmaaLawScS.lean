/- Law ScheduleScripts returns true for every input. -/
import Derived.Test.YtmigkmdhenkpmaaDepRev
import Derived.Test.YtmigkmdhenkpmaaDepPL
namespace Go.Proofs.Ytmigkmdhenkpmaa
open Go.RowKit

/-- a list read at v, whose block is not b -/
def DepsN (b : Nat) (w : World) (v : Value) (l : List Dep) : Prop := DepsV w v l ∧ ∀ q o n c, v = .slice (some ⟨q, o, none⟩) n c → q ≠ b

theorem DepsN.grown {b : Nat} {w w' : World} {v : Value} {l : List Dep} (h : DepsN b w v l) (hg : w.grownBy w' (some b)) : DepsN b w' v l := ⟨deps_grown h.1 hg h.2, h.2⟩
theorem DepsN.below {b : Nat} {w w' : World} {v : Value} {l : List Dep} (h : DepsN b w v l) (hB : Below w.heap.size w w') : DepsN b w' v l := ⟨RowV.below h.1 hB, h.2⟩

theorem DepsN.own {base b : Nat} {w : World} {v : Value} {l : List Dep} (h : DepT.Own base w v l) (hb : b < base) : DepsN b w v l :=
  ⟨OwnR.rows DepT.hsz h, fun q o n c hv => by
    rcases h.2 with ⟨h1, _⟩ | ⟨g, cap, cur, h1, h2, _⟩
    · rw [h1] at hv
      cases hv
    · rw [h1] at hv
      simp only [Value.slice.injEq, Option.some.injEq, Addr.mk.injEq] at hv
      omega⟩

structure ScSt (B b : Nat) (w wi : World) (r : List Int) (vx vy : Value) (X : List Dep) : Prop where
  src : SrcR B wi b r
  bel : Below B w wi
  x : DepsN b wi vx X
  y : DepsN b wi vy X
  hB : B ≤ b

theorem ScSt.n {B b : Nat} {w wi w' : World} {r r' : List Int} {vx vy : Value} {X : List Dep} (h : ScSt B b w wi r vx vy X) (hs : SrcR B w' b r') (hg : wi.grownBy w' (some b)) : ScSt B b w w' r' vx vy X where
  src := hs
  bel := below_grown h.bel hg (by have := h.src.lt; have := h.hB; omega) h.hB
  x := h.x.grown hg
  y := h.y.grown hg
  hB := h.hB

theorem ScSt.below {B b : Nat} {w wi w' : World} {r : List Int} {vx vy : Value} {X : List Dep} (h : ScSt B b w wi r vx vy X) (hB : Below wi.heap.size wi w') : ScSt B b w w' r vx vy X where
  src := h.src.below hB
  bel := h.bel.trans (hB.mono (by have := h.src.lt; have := h.hB; omega))
  x := h.x.below hB
  y := h.y.below hB
  hB := h.hB

theorem ScSt.drewN {B b : Nat} {w wi : World} {r : List Int} {vx vy : Value} {X : List Dep} (h : ScSt B b w wi r vx vy X) (n : Nat) : ScSt B b w (wi.drewN n) r vx vy X :=
  h.below (below_drewN (Below.refl _ _) n)

set_option maxHeartbeats 4000000 in
set_option maxRecDepth 100000 in
theorem ScheduleScripts_any (u : Value) (l : List Int) (w : World) (hu : IntsV w u l) :
    Calls Try.prog 10 #[u] w fun e w' => e = .returned (.bool true) ∧ Below w.heap.size w w' := by
  have NW := New_any u l w hu
  have tokA : True := trivial
  obtain ⟨a0, c0, rfl, _⟩ := hu.open
  go_enter Try.func10, Try.ntmps10
  go_wp2_with (first
    | (go_at_call 11; refine NW.mono ?_; rintro e w1 ⟨b, rfl, hs1, hB1⟩; have hbw := hs1.lt)
    | (go_at_call 12; refine (Schedule_any w.heap.size b 8 _ w1 (by omega) hs1).mono ?_; rintro e w2 ⟨v2, ls, r2, rfl, hO2, hl10, hv0, hs2, hg2⟩; have hB2 := below_grown hB1 hg2 hB1.size hs1.ge))
  have S2 : ScSt w.heap.size b w w2 r2 v2 v2 ls := ⟨hs2, hB2, DepsN.own hO2 hbw, DepsN.own hO2 hbw, hs1.ge⟩
  have hval := valE_of hv0 (by omega)
  clear NW hs1 hB1 hs2 hg2 hB2 hO2 hv0 hl10 hbw hu
  go_loopw [4, 5, 6, 7] (fun vx vy t k wr => ∃ (X : List Dep) (kk : Nat) (tt : Int) (r' : List Int), t = .int .i64 tt ∧ k = .int .i64 kk ∧ kk ≤ 30 ∧ 0 ≤ tt ∧ tt ≤ 5 * kk ∧ ScSt w.heap.size b w wr r' vx vy X ∧ valE X = 0) (fun _ _ _ k _ => 30 - (intOf k).toNat)
  case atStart => exact ⟨ls, 0, 0, r2, rfl, rfl, by omega, by omega, by omega, S2, hval⟩
  case round =>
    obtain ⟨X, kk, tt, r1, rfl, rfl, hk, ht0, ht1, hS, hv⟩ := hrel
    clear S2 hval
    obtain ⟨ax, cx, rfl, lx, _, _⟩ := hS.x.1.open
    obtain ⟨ay, cy, rfl, ly, _, _⟩ := hS.y.1.open
    have HS := Lib.hid hS
    have HV := Lib.hid hv
    have hX24 := valE_le hv
    clear hS hv
    by_cases hk3 : kk < 30
    · have hkb : decide ((kk : Int) < 30) = true := decide_eq_true (by omega)
      go_upto_if 26 with (go_at_call 35; refine (More_any _ b r1 _ HS.out.src).mono ?_; rintro e w3 ⟨bm, rfl, n3, rfl⟩)
      have HS3 := Lib.hid (HS.out.drewN n3)
      clear HS
      generalize wr.drewN n3 = w3 at *
      cases bm with
      | false =>
        go_wp2_with (go_at_call 19; refine (awake_any _).mono ?_; rintro e w6 ⟨rfl, hB6⟩)
        go_ret
        exact ⟨rfl, HS3.out.bel.trans (hB6.mono HS3.out.bel.size)⟩
      | true =>
        have m6 := modF_bd (r1.headD 0) 6 (by omega)
        have Q6 := N_any _ b r1 6 w3 HS3.out.src (by omega)
        generalize modF (r1.headD 0) 6 = x6 at *
        go_upto_region 12 with (go_at_call 21; refine Q6.mono ?_; rintro e w4 ⟨rfl, hs4, hg4⟩; have HS4 := Lib.hid (HS3.out.n hs4 hg4))
        generalize hr4 : r1.tail = r4 at *
        clear Q6 HS3 hs4 hg4 hr4
        go_cut [41] from 21 to 139 (fun v wx => ∃ (bb : Bool) (r' : List Int), v = .bool bb ∧ (bb = true → 0 < X.length) ∧ ScSt w.heap.size b w wx r' (.slice ax X.length cx) (.slice ay X.length cy) X)
        case first =>
          have Q4 := N_any _ b r4 4 w4 HS4.out.src (by omega)
          generalize modF (r4.headD 0) 4 = x4 at *
          by_cases hl : 0 < X.length
          · have hlb : decide ((0 : Int) < (X.length : Int)) = true := decide_eq_true (by omega)
            go_wp2_with (go_at_call 21; refine Q4.mono ?_; rintro e w5 ⟨rfl, hs5, hg5⟩; have HS5 := Lib.hid (HS4.out.n hs5 hg5))
            all_goals go_meet
            all_goals exact ⟨_, _, rfl, fun _ => hl, HS5.out⟩
          · have hlb : decide ((0 : Int) < (X.length : Int)) = false := decide_eq_false (by omega)
            go_wp2_with (go_at_call 21; refine Q4.mono ?_; rintro e w5 ⟨rfl, hs5, hg5⟩; have HS5 := Lib.hid (HS4.out.n hs5 hg5))
            all_goals go_meet
            all_goals exact ⟨false, _, rfl, (fun h => by simp at h), HS5.out⟩
        case rest =>
          obtain ⟨bb, r5, rfl, hbl, hS⟩ := hcut
          have HS5 := Lib.hid hS
          have HBL := Lib.hid hbl
          clear HS4 hS hbl
          go_upto_if 41 with (fail)
          go_cut [9, 10, 11, 12] from 21 to 139 (fun e f p q wx => ∃ (c : Int) (L : List Dep) (r' : List Int), e = .int .i64 c ∧ f = .int .i64 c ∧ DepsN b wx p L ∧ DepsN b wx q L ∧ (c ≠ 0 ∨ Kept X L) ∧ ScSt w.heap.size b w wx r' (.slice ax X.length cx) (.slice ay X.length cy) X)
          case first =>
            cases bb with
            | true =>
              have hl := HBL.out rfl
              obtain ⟨_, _, hax, _, _, cA⟩ := HS5.out.x.1.open
              simp only [Value.slice.injEq] at hax
              obtain ⟨rfl, -, rfl⟩ := hax
              obtain ⟨b2, o2, rfl, hb2, cc⟩ := cA hl
              have hb2n := HS5.out.x.2 b2 o2 _ _ rfl
              have mk := modF_bd (r5.headD 0) (X.length : Int) (by omega)
              have QN := N_any _ b r5 (X.length : Int) wc HS5.out.src (by omega)
              generalize modF (r5.headD 0) (X.length : Int) = kn at *
              obtain ⟨k, rfl⟩ : ∃ k : Nat, kn = k := ⟨kn.toNat, by omega⟩
              obtain ⟨x, hx, -⟩ := drop_at (show k < X.length by omega)
              have HCC := Lib.hid (cc k x hx)
              obtain ⟨⟨c2, n2, s2, d2⟩, p, op, cl, le, st, sa⟩ := x
              have hki : (k : Int) < (X.length : Int) := mk.2
              have hdk := depart_kept HV.out ⟨c2, n2, s2, d2⟩ (tt + x6)
              obtain ⟨c, L, hcL, hor⟩ : ∃ c L, departF X ⟨c2, n2, s2, d2⟩ (tt + x6) = (c, L) ∧ (c ≠ 0 ∨ Kept X L) := by
                rcases hdk with ⟨c, h0, h1⟩ | ⟨m, h1, h2⟩
                · exact ⟨c, [], h1, .inl h0⟩
                · exact ⟨0, m, h1, .inr h2⟩
              have DP := fun v w' h => Depart_any v X ⟨c2, n2, s2, d2⟩ (tt + x6) w' h
              have RP := fun v w' h => RDepart_any v X ⟨c2, n2, s2, d2⟩ (tt + x6) w' h
              rw [hcL] at DP RP
              have HDP := Lib.hid DP
              have HRP := Lib.hid RP
              have HOR := Lib.hid hor
              have hmk : 0 ≤ (k : Int) := by omega
              clear cc hx mk cA hcL hor hdk DP RP
              go_upto_region 14 with (go_at_call 21; refine QN.mono ?_; rintro e w6 ⟨rfl, hs6, hg6⟩; have HS6 := Lib.hid (HS5.out.n hs6 hg6); obtain ⟨g0, g1, g2, g3, -⟩ := dep_at (w := w6) (fun j u hu => hg6.cell (HCC.out j u hu) (by simp; exact hb2n)))
              generalize hW7 : w6.alloc _ = W7
              obtain ⟨hq, hBW, hsW⟩ := one_box _ _ _ _ hW7
              have q0 := hq 0 _ rfl
              have q1 := hq 1 _ rfl
              have q2 := hq 2 _ rfl
              have q3 := hq 3 _ rfl
              simp only [List.getElem_toArray, List.getElem_cons_zero, List.getElem_cons_succ] at q0 q1 q2 q3
              have HS7 := Lib.hid (HS6.out.below hBW)
              have hlW : w6.heap.size < W7.heap.size := by omega
              clear hq hBW hsW hW7 g0 g1 g2 g3
              generalize w6.heap.size = nb at *
              go_wp2_with (first
                | (go_at_call 33; refine (HDP.out _ W7 HS7.out.x.1).mono ?_; rintro e w8 ⟨v8, rfl, hO8, hB8⟩; have y0 := cell_keep hB8 hlW q0; have y1 := cell_keep hB8 hlW q1; have y2 := cell_keep hB8 hlW q2; have y3 := cell_keep hB8 hlW q3; have HS8 := Lib.hid (HS7.out.below hB8))
                | (go_at_call 34; refine (HRP.out _ w8 HS8.out.y.1).mono ?_; rintro e w9 ⟨v9, rfl, hO9, hB9⟩))
              go_meet
              case rel => exact ⟨c, L, _, rfl, rfl, (DepsN.own hO8 HS7.out.src.lt).below hB9, DepsN.own hO9 HS8.out.src.lt, HOR.out, HS8.out.below hB9⟩
            | false =>
              have RV := Lib.hid (fun h => Revision_any _ b r5 (.slice ax X.length cx) X wc HS5.out.src HS5.out.x.1 h)
              go_upto_region 17 with (go_at_call 20; refine (RV.out HS5.out.x.2).mono ?_; rintro e w6 ⟨rv, r6, rfl, hs6, hg6⟩; obtain ⟨kd, am, ⟨c2, n2, s2, d2⟩⟩ := rv; simp only [Rev.cells]; have HS6 := Lib.hid (HS5.out.n hs6 hg6))
              obtain ⟨c, L, hcL, hor⟩ : ∃ c L, applyF X ⟨kd, am, ⟨c2, n2, s2, d2⟩⟩ (tt + x6) = (c, L) ∧ (c ≠ 0 ∨ Kept X L) := by
                rcases apply_kept HV.out ⟨kd, am, ⟨c2, n2, s2, d2⟩⟩ (tt + x6) with ⟨c, h0, h1⟩ | ⟨m, h1, h2⟩
                · exact ⟨c, [], h1, .inl h0⟩
                · exact ⟨0, m, h1, .inr h2⟩
              have DP := fun v w' h => Apply_any v X ⟨kd, am, ⟨c2, n2, s2, d2⟩⟩ (tt + x6) w' h
              have RP := fun v w' h => RApply_any v X ⟨kd, am, ⟨c2, n2, s2, d2⟩⟩ (tt + x6) w' h
              rw [hcL] at DP RP
              have HDP := Lib.hid DP
              have HRP := Lib.hid RP
              have HOR := Lib.hid hor
              clear hcL hor DP RP RV hs6 hg6
              generalize hW7 : w6.alloc _ = W7
              obtain ⟨hq, hBW, hsW⟩ := one_box _ _ _ _ hW7
              have q0 := hq 0 _ rfl
              have q1 := hq 1 _ rfl
              have q2 := hq 2 _ rfl
              have q3 := hq 3 _ rfl
              have q4 := hq 4 _ rfl
              have q5 := hq 5 _ rfl
              simp only [List.getElem_toArray, List.getElem_cons_zero, List.getElem_cons_succ] at q0 q1 q2 q3 q4 q5
              have HS7 := Lib.hid (HS6.out.below hBW)
              have hlW : w6.heap.size < W7.heap.size := by omega
              clear hq hBW hsW hW7 
              generalize w6.heap.size = nb at *
              go_wp2_with (first
                | (go_at_call 22; refine (HDP.out _ W7 HS7.out.x.1).mono ?_; rintro e w8 ⟨v8, rfl, hO8, hB8⟩; have y0 := cell_keep hB8 hlW q0; have y1 := cell_keep hB8 hlW q1; have y2 := cell_keep hB8 hlW q2; have y3 := cell_keep hB8 hlW q3; have y4 := cell_keep hB8 hlW q4; have y5 := cell_keep hB8 hlW q5; have HS8 := Lib.hid (HS7.out.below hB8))
                | (go_at_call 23; refine (HRP.out _ w8 HS8.out.y.1).mono ?_; rintro e w9 ⟨v9, rfl, hO9, hB9⟩))
              go_meet
              case rel => exact ⟨c, L, _, rfl, rfl, (DepsN.own hO8 HS7.out.src.lt).below hB9, DepsN.own hO9 HS8.out.src.lt, HOR.out, HS8.out.below hB9⟩
          case rest =>
            obtain ⟨c, L, r6, rfl, rfl, hp, hq, hor, hS⟩ := hcut
            obtain ⟨ap, cp, rfl, lp, _, _⟩ := hp.1.open
            obtain ⟨aq, cq, rfl, lq, _, _⟩ := hq.1.open
            have SM := Lib.hid (Same_same _ _ L wc hp.1 hq.1)
            have HP := Lib.hid hp
            have HQ := Lib.hid hq
            have HOR := Lib.hid hor
            have HS6 := Lib.hid hS
            clear hp hq hor hS HS5 HBL
            go_upto_if 91 with (go_at_call 24; refine SM.out.mono ?_; rintro e w7 ⟨rfl, n7, rfl⟩)
            have HP7 := Lib.hid (HP.out.below (below_drewN (Below.refl _ _) n7))
            have HQ7 := Lib.hid (HQ.out.below (below_drewN (Below.refl _ _) n7))
            have HS7 := Lib.hid (HS6.out.drewN n7)
            clear HP HQ HS6 SM
            generalize wc.drewN n7 = w7 at *
            go_cut [4, 5] from 21 to 139 (fun vx' vy' wx => w7 = wx ∧ ∃ X', DepsN b w7 vx' X' ∧ DepsN b w7 vy' X' ∧ Kept X X')
            case first =>
              by_cases hc : c = 0
              · subst hc
                go_wp2
                go_meet
                case rel => exact ⟨rfl, L, HP7.out, HQ7.out, HOR.out.resolve_left (fun h => h rfl)⟩
              · have hcb : (c == 0) = false := by simp [hc]
                go_wp2
                go_meet
                case rel => exact ⟨rfl, X, HS7.out.x, HS7.out.y, Kept.refl HV.out⟩
            case rest =>
              obtain ⟨rfl, Y, hx', hy', hK⟩ := hcut
              obtain ⟨ax', cx', rfl, _, _, _⟩ := hx'.1.open
              obtain ⟨ay', cy', rfl, _, _, _⟩ := hy'.1.open
              rw [hK.1] at hx' hy'
              rw [hK.1]
              have VL := Validate_any _ Y w7 hx'.1
              rw [hK.2.1] at VL
              have HVL := Lib.hid VL
              have HX := Lib.hid hx'
              have HY := Lib.hid hy'
              have HK := Lib.hid hK
              clear VL hx' hy' hK HP7 HQ7 HOR
              go_wp2_with (go_at_call 15; refine HVL.out.mono ?_; rintro e w8 ⟨rfl, hB8⟩)
              have HS8 := Lib.hid (HS7.out.below hB8)
              have HX8 := Lib.hid (HX.out.below hB8)
              have HY8 := Lib.hid (HY.out.below hB8)
              clear HVL hB8 HS7 HX HY
              go_loopw [106] (fun i wq => ∃ i' : Nat, i' ≤ X.length ∧ i = .int .i64 i' ∧ Below w8.heap.size w8 wq) (fun i _ => X.length - (intOf i).toNat)
              case atStart => exact ⟨0, Nat.zero_le _, rfl, Below.refl _ _⟩
              case round =>
                obtain ⟨i', hi, rfl, hBq⟩ := hrel
                by_cases hlt : i' < X.length
                · obtain ⟨x, hx, -⟩ := drop_at hlt
                  obtain ⟨y, hy, -⟩ := drop_at (show i' < Y.length by rw [HK.out.1]; exact hlt)
                  have hki : (i' : Int) < (X.length : Int) := by omega
                  obtain ⟨hf, h2⟩ := HK.out.2.2 i' x y hx hy
                  obtain ⟨_, _, e1, _, _, cX⟩ := (HX8.out.below hBq).1.open
                  obtain ⟨_, _, e2, _, _, cY⟩ := (HS8.out.y.below hBq).1.open
                  simp only [Value.slice.injEq] at e1 e2
                  obtain ⟨rfl, -, rfl⟩ := e1
                  obtain ⟨rfl, -, rfl⟩ := e2
                  obtain ⟨bx, ox, rfl, _, ccX⟩ := cX (by rw [HK.out.1]; omega)
                  obtain ⟨by', oy, rfl, _, ccY⟩ := cY (by omega)
                  obtain ⟨g0, g1, g2, g3, g4, g5, g6, g7, g8, g9⟩ := dep_at (ccX i' y hy)
                  obtain ⟨y0, y1, y2, y3, y4, y5, y6, y7, y8, y9⟩ := dep_at (ccY i' x hx)
                  have HBq := Lib.hid hBq
                  clear cX cY ccX ccY hx hy hBq
                  obtain ⟨⟨c2, n2, s2, d2⟩, p, op, cl, le, st, sa⟩ := x
                  obtain ⟨f2, p', op', cl', le', st', sa'⟩ := y
                  simp only at hf
                  subst hf
                  simp only at g0 g1 g2 g3 g4 g5 g6 g7 g8 g9 y0 y1 y2 y3 y4 y5 y6 y7 y8 y9
                  by_cases hs : sa = 2
                  · have h3 := h2 hs
                    simp only [Dep.mk.injEq, true_and] at h3
                    obtain ⟨rfl, rfl, rfl, rfl, rfl, rfl⟩ := h3
                    subst hs
                    clear h2
                    go_wp2
                    go_quiet (fail)
                    go_wp2
                    go_roundw
                    case rel => exact ⟨i' + 1, by omega, by go_num, below_drewN HBq.out _⟩
                    case measure => simp [intOf]; omega
                  · have hsb : (sa == 2) = false := by simp [hs]
                    clear h2
                    go_wp2
                    go_quiet (fail)
                    go_wp2
                    go_roundw
                    case rel => exact ⟨i' + 1, by omega, by go_num, below_drewN HBq.out _⟩
                    case measure => simp [intOf]; omega
                · obtain rfl : i' = X.length := by omega
                  go_wp2
                  go_roundw
                  case rel => exact ⟨Y, kk + 1, tt + x6, r6, by go_num, by go_num, by omega, by omega, by omega, ⟨HS8.out.src.below hBq, HS8.out.bel.trans (hBq.mono HS8.out.bel.size), HX8.out.below hBq, HY8.out.below hBq, HS8.out.hB⟩, HK.out.2.1⟩
                  case measure => simp [intOf]; omega
    · obtain rfl : kk = 30 := by omega
      have hkb : decide (((30 : Nat) : Int) < 30) = false := by decide
      go_wp2_with (go_at_call 19; refine (awake_any _).mono ?_; rintro e w6 ⟨rfl, hB6⟩)
      go_ret
      exact ⟨rfl, HS.out.bel.trans (hB6.mono HS.out.bel.size)⟩
end Go.Proofs.Ytmigkmdhenkpmaa
