/- Law SchedulePhases returns true for every input. -/
import Derived.Test.YtmigkmdhenkpmaaDepV
namespace Go.Proofs.Ytmigkmdhenkpmaa
open Go.RowKit

theorem one_phase {d : Dep} (h : validD d = true) (t : Int) : (if (decide (t < d.opens) && (d.state == 0)) then 1 else 0) + (if opF d t then 1 else 0) + (if clF d t then 1 else 0) = (1 : Int) := by
  unfold validD at h
  simp only [Bool.and_eq_true, decide_eq_true_eq] at h
  have h1 : d.opens < d.closes := h.1.1.1.1.1.1.2
  unfold opF clF
  by_cases hs : d.state = 0
  · by_cases h2 : t < d.opens
    · have h3 : ¬ d.opens ≤ t := by omega
      have h4 : ¬ d.closes ≤ t := by omega
      simp [hs, h2, h3, h4]
    · by_cases h3 : t < d.closes
      · have h4 : ¬ d.closes ≤ t := by omega
        have h5 : d.opens ≤ t := by omega
        simp [hs, h2, h3, h4, h5]
      · have h4 : d.closes ≤ t := by omega
        simp [hs, h2, h3, h4]
  · simp [hs]

theorem phase_order {d : Dep} {now later : Int} (h : now ≤ later) : ((clF d now && !clF d later) || (opF d now && decide (later < d.opens))) = false := by
  unfold opF clF
  by_cases hs : d.state = 0
  · by_cases h1 : d.closes ≤ now
    · have h2 : d.closes ≤ later := by omega
      have h3 : ¬ now < d.closes := by omega
      simp [hs, h1, h2, h3]
    · by_cases h2 : d.opens ≤ now
      · have h3 : ¬ later < d.opens := by omega
        simp [h1, h2, hs, h3]
      · simp [h1, h2, hs]
  · simp [hs]

theorem cell_alloc {w : World} {b o : Nat} {v : Value} {x : Obj} (hb : b < w.heap.size) (e : w.cell? ⟨b, o, none⟩ = some v) : (w.alloc x).cell? ⟨b, o, none⟩ = some v := cell_keep ((Below.refl _ _).alloc (Nat.le_refl _) x) hb e

def bs3 (a b c : Bool) (j : Nat) : Bool := if j = 0 then a else if j = 1 then b else c
def cnt3 (a b c : Bool) : Nat → Int
  | 0 => 0
  | j + 1 => cnt3 a b c j + (if bs3 a b c j then 1 else 0)

theorem cnt3_bd (a b c : Bool) : ∀ j, 0 ≤ cnt3 a b c j ∧ cnt3 a b c j ≤ j
  | 0 => by simp [cnt3]
  | j + 1 => by
    have := cnt3_bd a b c j
    simp only [cnt3]
    split <;> omega

theorem cnt3_three (a b c : Bool) : cnt3 a b c 3 = (if a then 1 else 0) + (if b then 1 else 0) + (if c then 1 else 0) := by
  simp [cnt3, bs3]

def tm4 (a b c d : Int) (q : Nat) : Int := if q = 0 then a else if q = 1 then b else if q = 2 then c else d

theorem tm4_at (a b c d : Int) (q : Nat) (h : q < 4) : (#[.int .i64 a, .int .i64 b, .int .i64 c, .int .i64 d] : Array Value)[q]? = some (.int .i64 (tm4 a b c d q)) := by
  match q, h with
  | 0, _ => rfl
  | 1, _ => rfl
  | 2, _ => rfl
  | 3, _ => rfl

theorem bs3_at (a b c : Bool) (q : Nat) (h : q < 3) : (#[.bool a, .bool b, .bool c] : Array Value)[q]? = some (.bool (bs3 a b c q)) := by
  match q, h with
  | 0, _ => rfl
  | 1, _ => rfl
  | 2, _ => rfl

set_option maxHeartbeats 4000000 in
set_option maxRecDepth 100000 in
theorem SchedulePhases_any (u : Value) (l : List Int) (now later : Int) (w : World) (hu : IntsV w u l) :
    Calls Try.prog 7 #[u, .int .i64 now, .int .i64 later] w fun e w' => e = .returned (.bool true) ∧ Below w.heap.size w w' := by
  have NW := New_any u l w hu
  have tokA : True := trivial
  have EX := fun w => Example_any w
  rw [show exD.cells = #[.string ⟨#[66, 65]⟩, .int .i64 1, .string ⟨#[]⟩, .int .i64 1, .string ⟨#[67, 80, 72]⟩, .int .i64 10, .int .i64 20, .int .i64 25, .int .i64 0, .int .i64 0] from rfl] at EX
  have EX := Lib.hid EX
  obtain ⟨m, hm⟩ : ∃ m, (if now < later then later else now) = m := ⟨_, rfl⟩
  have hnm : now ≤ m := by split at hm <;> omega
  obtain ⟨a0, c0, rfl, _⟩ := hu.open
  go_enter Try.func7, Try.ntmps7
  go_wp2_with (first
    | (go_at_call 11; refine NW.mono ?_; rintro e w1 ⟨b, rfl, hs1, hB1⟩; have hbw := hs1.lt)
    | (go_at_call 12; refine (Schedule_any w.heap.size b 8 _ w1 (by omega) hs1).mono ?_; rintro e w2 ⟨v2, ls, r2, rfl, hO2, hl10, hv0, hs2, hg2⟩; have hB2 := below_grown hB1 hg2 hB1.size hs1.ge)
    | (go_at_call 27; refine (EX.out w2).mono ?_; rintro e w3 ⟨rfl, hB3⟩; have hO3 : DepT.Own w1.heap.size w3 v2 ls := World.ownsRow.kept hO2 (grownBy_below (row := none) hB3) (by cases hvo : v2.ownBlock with | none => exact .inl rfl | some g => exact .inr (by simp)); have hB13 := hB2.trans (hB3.mono hB2.size))
    | (at_builtin; refine DepT.append1 rfl _ _ rfl w1.heap.size _ ls exD w3 rfl rfl rfl hO3 (by unfold maxLen; omega) (by show (ls.length + 1) * 104 ≤ _; omega) (Nat.le_trans hg2.size hB3.size) ?_; intro v5 w5 hO5 hg5; obtain ⟨X, hX⟩ : ∃ X, X = ls ++ [exD] := ⟨_, rfl⟩; rw [← hX] at hO5; obtain ⟨g, cap, rfl, hgb⟩ := own_shape hO5 (by rw [hX]; simp); have HX := Lib.hid hX; clear hX))
  have hgW : (w3.alloc (.cells (DepT.enc exD) DepT.e)).grownBy w5 v2.ownBlock := hg5
  have hB3a : Below w3.heap.size w3 (w3.alloc (.cells (DepT.enc exD) DepT.e)) := (Below.refl _ _).alloc (Nat.le_refl _) _
  have hB5 : Below w.heap.size w w5 := (hB13.trans (hB3a.mono hB13.size)).grown hgW (by have := hB13.size; rw [size_new]; omega) (fun q hq => by have := (World.ownsRow.lt hO3 q hq).1; have := hB1.size; omega)
  have hvd : ∀ x ∈ X, validD x = true := by
    intro x hx
    rw [HX.out, List.mem_append, List.mem_singleton] at hx
    rcases hx with hx | rfl
    · exact vErr_all ls none hv0 x hx
    · decide +kernel
  have hXl : X.length = ls.length + 1 := by rw [HX.out]; simp
  have HV : Hid (DepsV w5 (.slice (some ⟨g, 0, none⟩) X.length cap) X) := Lib.hid (OwnR.rows DepT.hsz hO5)
  have HVD := Lib.hid hvd
  have HB5 := Lib.hid hB5
  have HNM := Lib.hid hnm
  have hk9 : X.length ≤ 9 := by omega
  clear HX hO2 hO3 hO5 hvd hv0 hs1 hs2 hg2 hg5 hgW hB1 hB2 hB3 hB3a hB13 hB5 NW EX hm hnm hXl
  go_loopw [27] (fun i wr => ∃ k : Nat, k ≤ X.length ∧ i = .int .i64 k ∧ Below w5.heap.size w5 wr) (fun i _ => X.length - (intOf i).toNat)
  case atStart => exact ⟨0, Nat.zero_le _, rfl, Below.refl _ _⟩
  case round =>
    obtain ⟨k, hk, rfl, hBr⟩ := hrel
    by_cases hlt : k < X.length
    · obtain ⟨x, hx, -⟩ := drop_at hlt
      have hki : (k : Int) < (X.length : Int) := by omega
      obtain ⟨_, _, hvD, _, _, cD⟩ := (HV.out.below hBr).open
      simp only [Value.slice.injEq] at hvD
      obtain ⟨rfl, -, rfl⟩ := hvD
      obtain ⟨b2, o2, hb2e, hb2, cc⟩ := cD (by omega)
      simp only [Option.some.injEq, Addr.mk.injEq, and_true] at hb2e
      obtain ⟨rfl, rfl⟩ := hb2e
      have HC := Lib.hid (cc k x hx)
      have hvx := HVD.out x (List.mem_of_getElem? hx)
      have HP1 := Lib.hid (one_phase hvx)
      have HP2 := Lib.hid (phase_order (d := x) HNM.out)
      have HBr := Lib.hid (HB5.out.trans (hBr.mono HB5.out.size))
      clear cc cD hvx
      obtain ⟨g0, g1, g2, g3, g4, g5, g6, g7, g8, g9⟩ := dep_at HC.out
      have HOP := Lib.hid (IsOpen_any x)
      have HCL := Lib.hid (IsClosed_any x)
      obtain ⟨⟨c2', n2, s2, d2⟩, p, op, cl, le, st, sa⟩ := x
      simp only [Nat.zero_add] at g0 g1 g2 g3 g4 g5 g6 g7 g8 g9
      go_wp2
      generalize hW2 : (wr.alloc _).alloc _ = W2
      obtain ⟨hq1, hq2, hBW, hsW⟩ := two_boxes _ _ _ _ _ _ hW2
      have HQ1 := Lib.hid hq1
      have HQ2 : Hid (∀ q, q < 4 → W2.cell? ⟨wr.heap.size + 1, q, none⟩ = some (.int .i64 (tm4 now m op cl q))) := Lib.hid (fun q h => hq2 q _ (tm4_at _ _ _ _ q h))
      have HBW := Lib.hid (hBr.trans (hBW.mono hBr.size))
      have hlW : wr.heap.size < W2.heap.size ∧ wr.heap.size + 1 < W2.heap.size := by omega
      clear hW2 hq1 hq2 hBW hsW g0 g1 g2 g3 g4 g5 g6 g7 g8 g9
      generalize wr.heap.size = nb at *
      go_loopw [39] (fun i wq => ∃ q : Nat, q ≤ 4 ∧ i = .int .i64 q ∧ Below W2.heap.size W2 wq) (fun i _ => 4 - (intOf i).toNat)
      case atStart => exact ⟨0, Nat.zero_le _, rfl, Below.refl _ _⟩
      case round =>
        obtain ⟨q, hq4, rfl, hBq⟩ := hrel
        have x0 := cell_keep hBq hlW.1 (HQ1.out 0 _ rfl)
        have x1 := cell_keep hBq hlW.1 (HQ1.out 1 _ rfl)
        have x2 := cell_keep hBq hlW.1 (HQ1.out 2 _ rfl)
        have x3 := cell_keep hBq hlW.1 (HQ1.out 3 _ rfl)
        have x4 := cell_keep hBq hlW.1 (HQ1.out 4 _ rfl)
        have x5 := cell_keep hBq hlW.1 (HQ1.out 5 _ rfl)
        have x6 := cell_keep hBq hlW.1 (HQ1.out 6 _ rfl)
        have x7 := cell_keep hBq hlW.1 (HQ1.out 7 _ rfl)
        have x8 := cell_keep hBq hlW.1 (HQ1.out 8 _ rfl)
        have x9 := cell_keep hBq hlW.1 (HQ1.out 9 _ rfl)
        simp only [List.getElem_toArray, List.getElem_cons_zero, List.getElem_cons_succ] at x0 x1 x2 x3 x4 x5 x6 x7 x8 x9
        by_cases hq : q < 4
        · have xt := cell_keep hBq hlW.2 (HQ2.out q hq)
          have HBq := Lib.hid hBq
          have hqi : decide ((q : Int) < 4) = true := decide_eq_true (by omega)
          clear hBq
          have HT1 := Lib.hid (HP1.out (tm4 now m op cl q))
          generalize tm4 now m op cl q = t at *
          obtain ⟨b0, hb0⟩ : ∃ b0 : Bool, b0 = (decide (t < op) && (sa == 0)) := ⟨_, rfl⟩
          have hnq : nb < wr.heap.size := Nat.lt_of_lt_of_le hlW.1 HBq.out.size
          have IO := Lib.hid (HOP.out t)
          have IC := Lib.hid (HCL.out t)
          have hc3 := HT1.out
          rw [← hb0, ← cnt3_three] at hc3
          generalize opF ⟨⟨c2', n2, s2, d2⟩, p, op, cl, le, st, sa⟩ t = bo at *
          generalize clF ⟨⟨c2', n2, s2, d2⟩, p, op, cl, le, st, sa⟩ t = bc at *
          clear HT1 HP1 HOP HCL
          by_cases hto : t < op
          · have htb : decide (t < op) = true := decide_eq_true hto
            have hsb : (sa == 0) = b0 := by rw [hb0, htb]; rfl
            have HC3 := Lib.hid hc3
            clear hb0 hc3
            go_upto_region 11 with (fail)
            go_region_held3 (fun w' => w'.cell? ⟨nb, 0, none⟩ = some (.string c2') ∧ w'.cell? ⟨nb, 1, none⟩ = some (.int .i64 n2) ∧ w'.cell? ⟨nb, 2, none⟩ = some (.string s2) ∧ w'.cell? ⟨nb, 3, none⟩ = some (.int .i64 d2) ∧ w'.cell? ⟨nb, 4, none⟩ = some (.string p) ∧ w'.cell? ⟨nb, 5, none⟩ = some (.int .i64 op) ∧ w'.cell? ⟨nb, 6, none⟩ = some (.int .i64 cl) ∧ w'.cell? ⟨nb, 7, none⟩ = some (.int .i64 le) ∧ w'.cell? ⟨nb, 8, none⟩ = some (.int .i64 st) ∧ w'.cell? ⟨nb, 9, none⟩ = some (.int .i64 sa)) (first | exact ⟨x0, x1, x2, x3, x4, x5, x6, x7, x8, x9⟩ | exact ⟨y0, y1, y2, y3, y4, y5, y6, y7, y8, y9⟩ | exact ⟨z0, z1, z2, z3, z4, z5, z6, z7, z8, z9⟩ | exact ⟨cell_alloc hn7 z0, cell_alloc hn7 z1, cell_alloc hn7 z2, cell_alloc hn7 z3, cell_alloc hn7 z4, cell_alloc hn7 z5, cell_alloc hn7 z6, cell_alloc hn7 z7, cell_alloc hn7 z8, cell_alloc hn7 z9⟩) (first
              | (go_at_call 28; refine (IO.out _).mono ?_; rintro e w6 ⟨rfl, hB6⟩; have y0 := cell_keep hB6 hnq x0; have y1 := cell_keep hB6 hnq x1; have y2 := cell_keep hB6 hnq x2; have y3 := cell_keep hB6 hnq x3; have y4 := cell_keep hB6 hnq x4; have y5 := cell_keep hB6 hnq x5; have y6 := cell_keep hB6 hnq x6; have y7 := cell_keep hB6 hnq x7; have y8 := cell_keep hB6 hnq x8; have y9 := cell_keep hB6 hnq x9)
              | (go_at_call 26; refine (IC.out _).mono ?_; rintro e w7 ⟨rfl, hB7⟩; have hn7 : nb < w7.heap.size := Nat.lt_of_lt_of_le (Nat.lt_of_lt_of_le hnq hB6.size) hB7.size; have z0 := cell_keep hB7 (Nat.lt_of_lt_of_le hnq hB6.size) y0; have z1 := cell_keep hB7 (Nat.lt_of_lt_of_le hnq hB6.size) y1; have z2 := cell_keep hB7 (Nat.lt_of_lt_of_le hnq hB6.size) y2; have z3 := cell_keep hB7 (Nat.lt_of_lt_of_le hnq hB6.size) y3; have z4 := cell_keep hB7 (Nat.lt_of_lt_of_le hnq hB6.size) y4; have z5 := cell_keep hB7 (Nat.lt_of_lt_of_le hnq hB6.size) y5; have z6 := cell_keep hB7 (Nat.lt_of_lt_of_le hnq hB6.size) y6; have z7 := cell_keep hB7 (Nat.lt_of_lt_of_le hnq hB6.size) y7; have z8 := cell_keep hB7 (Nat.lt_of_lt_of_le hnq hB6.size) y8; have z9 := cell_keep hB7 (Nat.lt_of_lt_of_le hnq hB6.size) y9))
            go_wp2
            generalize hW3 : w7.alloc _ = W3
            obtain ⟨hq3, hBW3, hsW3⟩ := one_box _ _ _ _ hW3
            have HQ3 : Hid (∀ j, j < 3 → W3.cell? ⟨w7.heap.size, j, none⟩ = some (.bool (bs3 b0 bo bc j))) := Lib.hid (fun j h => hq3 j _ (bs3_at _ _ _ j h))
            have hl3 : w7.heap.size < W3.heap.size := by omega
            have HBa := Lib.hid ((below_drewN HBq.out 1).trans ((hB6.trans ((hB7.trans (hBW3.mono hB7.size)).mono hB6.size)).mono HBq.out.size))
            have hsz3 : W2.heap.size ≤ W3.heap.size := HBa.out.size
            clear hB6 hB7 hBW3 hsW3 hq3 hW3 hn7 IO IC xt x0 x1 x2 x3 x4 x5 x6 x7 x8 x9 y0 y1 y2 y3 y4 y5 y6 y7 y8 y9 z0 z1 z2 z3 z4 z5 z6 z7 z8 z9
            generalize w7.heap.size = n7 at *
            go_loopw [13, 61] (fun n i wz => ∃ j : Nat, j ≤ 3 ∧ n = .int .i64 (cnt3 b0 bo bc j) ∧ i = .int .i64 j ∧ Below W3.heap.size W3 wz) (fun _ i _ => 3 - (intOf i).toNat)
            case atStart => exact ⟨0, Nat.zero_le _, rfl, rfl, Below.refl _ _⟩
            case round =>
              obtain ⟨j, hj3, rfl, rfl, hBz⟩ := hrel
              by_cases hj : j < 3
              · have xb := cell_keep hBz hl3 (HQ3.out j hj)
                have cb := cnt3_bd b0 bo bc j
                have hcs : cnt3 b0 bo bc (j + 1) = cnt3 b0 bo bc j + (if bs3 b0 bo bc j then 1 else 0) := rfl
                have hjb : decide ((j : Int) < 3) = true := decide_eq_true (by omega)
                generalize bs3 b0 bo bc j = bj at *
                have HCS := Lib.hid hcs
                have HBz := Lib.hid hBz
                clear hcs hBz
                cases bj with
                | true =>
                  go_wp2
                  go_roundw
                  case rel => exact ⟨j + 1, by omega, by rw [HCS.out, if_pos rfl], by go_num, HBz.out⟩
                  case measure => simp [intOf]; omega
                | false =>
                  go_wp2
                  go_roundw
                  case rel => exact ⟨j + 1, by omega, by rw [HCS.out, if_neg (by simp)]; go_num, by go_num, HBz.out⟩
                  case measure => simp [intOf]; omega
              · obtain rfl : j = 3 := by omega
                rw [HC3.out]
                go_wp2
                go_roundw
                case rel => exact ⟨q + 1, by omega, by go_num, HBa.out.trans (hBz.mono hsz3)⟩
                case measure => simp [intOf]; omega
          · have htb : decide (t < op) = false := decide_eq_false hto
            obtain rfl : b0 = false := by rw [hb0, htb]; rfl
            have HC3 := Lib.hid hc3
            clear hb0 hc3
            go_upto_region 11 with (fail)
            go_region_held3 (fun w' => w'.cell? ⟨nb, 0, none⟩ = some (.string c2') ∧ w'.cell? ⟨nb, 1, none⟩ = some (.int .i64 n2) ∧ w'.cell? ⟨nb, 2, none⟩ = some (.string s2) ∧ w'.cell? ⟨nb, 3, none⟩ = some (.int .i64 d2) ∧ w'.cell? ⟨nb, 4, none⟩ = some (.string p) ∧ w'.cell? ⟨nb, 5, none⟩ = some (.int .i64 op) ∧ w'.cell? ⟨nb, 6, none⟩ = some (.int .i64 cl) ∧ w'.cell? ⟨nb, 7, none⟩ = some (.int .i64 le) ∧ w'.cell? ⟨nb, 8, none⟩ = some (.int .i64 st) ∧ w'.cell? ⟨nb, 9, none⟩ = some (.int .i64 sa)) (first | exact ⟨x0, x1, x2, x3, x4, x5, x6, x7, x8, x9⟩ | exact ⟨y0, y1, y2, y3, y4, y5, y6, y7, y8, y9⟩ | exact ⟨z0, z1, z2, z3, z4, z5, z6, z7, z8, z9⟩ | exact ⟨cell_alloc hn7 z0, cell_alloc hn7 z1, cell_alloc hn7 z2, cell_alloc hn7 z3, cell_alloc hn7 z4, cell_alloc hn7 z5, cell_alloc hn7 z6, cell_alloc hn7 z7, cell_alloc hn7 z8, cell_alloc hn7 z9⟩) (first
              | (go_at_call 28; refine (IO.out _).mono ?_; rintro e w6 ⟨rfl, hB6⟩; have y0 := cell_keep hB6 hnq x0; have y1 := cell_keep hB6 hnq x1; have y2 := cell_keep hB6 hnq x2; have y3 := cell_keep hB6 hnq x3; have y4 := cell_keep hB6 hnq x4; have y5 := cell_keep hB6 hnq x5; have y6 := cell_keep hB6 hnq x6; have y7 := cell_keep hB6 hnq x7; have y8 := cell_keep hB6 hnq x8; have y9 := cell_keep hB6 hnq x9)
              | (go_at_call 26; refine (IC.out _).mono ?_; rintro e w7 ⟨rfl, hB7⟩; have hn7 : nb < w7.heap.size := Nat.lt_of_lt_of_le (Nat.lt_of_lt_of_le hnq hB6.size) hB7.size; have z0 := cell_keep hB7 (Nat.lt_of_lt_of_le hnq hB6.size) y0; have z1 := cell_keep hB7 (Nat.lt_of_lt_of_le hnq hB6.size) y1; have z2 := cell_keep hB7 (Nat.lt_of_lt_of_le hnq hB6.size) y2; have z3 := cell_keep hB7 (Nat.lt_of_lt_of_le hnq hB6.size) y3; have z4 := cell_keep hB7 (Nat.lt_of_lt_of_le hnq hB6.size) y4; have z5 := cell_keep hB7 (Nat.lt_of_lt_of_le hnq hB6.size) y5; have z6 := cell_keep hB7 (Nat.lt_of_lt_of_le hnq hB6.size) y6; have z7 := cell_keep hB7 (Nat.lt_of_lt_of_le hnq hB6.size) y7; have z8 := cell_keep hB7 (Nat.lt_of_lt_of_le hnq hB6.size) y8; have z9 := cell_keep hB7 (Nat.lt_of_lt_of_le hnq hB6.size) y9))
            go_wp2
            generalize hW3 : w7.alloc _ = W3
            obtain ⟨hq3, hBW3, hsW3⟩ := one_box _ _ _ _ hW3
            have HQ3 : Hid (∀ j, j < 3 → W3.cell? ⟨w7.heap.size, j, none⟩ = some (.bool (bs3 false bo bc j))) := Lib.hid (fun j h => hq3 j _ (bs3_at _ _ _ j h))
            have hl3 : w7.heap.size < W3.heap.size := by omega
            have HBa := Lib.hid ((below_drewN HBq.out 1).trans ((hB6.trans ((hB7.trans (hBW3.mono hB7.size)).mono hB6.size)).mono HBq.out.size))
            have hsz3 : W2.heap.size ≤ W3.heap.size := HBa.out.size
            clear hB6 hB7 hBW3 hsW3 hq3 hW3 hn7 IO IC xt x0 x1 x2 x3 x4 x5 x6 x7 x8 x9 y0 y1 y2 y3 y4 y5 y6 y7 y8 y9 z0 z1 z2 z3 z4 z5 z6 z7 z8 z9
            generalize w7.heap.size = n7 at *
            go_loopw [13, 61] (fun n i wz => ∃ j : Nat, j ≤ 3 ∧ n = .int .i64 (cnt3 false bo bc j) ∧ i = .int .i64 j ∧ Below W3.heap.size W3 wz) (fun _ i _ => 3 - (intOf i).toNat)
            case atStart => exact ⟨0, Nat.zero_le _, rfl, rfl, Below.refl _ _⟩
            case round =>
              obtain ⟨j, hj3, rfl, rfl, hBz⟩ := hrel
              by_cases hj : j < 3
              · have xb := cell_keep hBz hl3 (HQ3.out j hj)
                have cb := cnt3_bd false bo bc j
                have hcs : cnt3 false bo bc (j + 1) = cnt3 false bo bc j + (if bs3 false bo bc j then 1 else 0) := rfl
                have hjb : decide ((j : Int) < 3) = true := decide_eq_true (by omega)
                generalize bs3 false bo bc j = bj at *
                have HCS := Lib.hid hcs
                have HBz := Lib.hid hBz
                clear hcs hBz
                cases bj with
                | true =>
                  go_wp2
                  go_roundw
                  case rel => exact ⟨j + 1, by omega, by rw [HCS.out, if_pos rfl], by go_num, HBz.out⟩
                  case measure => simp [intOf]; omega
                | false =>
                  go_wp2
                  go_roundw
                  case rel => exact ⟨j + 1, by omega, by rw [HCS.out, if_neg (by simp)]; go_num, by go_num, HBz.out⟩
                  case measure => simp [intOf]; omega
              · obtain rfl : j = 3 := by omega
                rw [HC3.out]
                go_wp2
                go_roundw
                case rel => exact ⟨q + 1, by omega, by go_num, HBa.out.trans (hBz.mono hsz3)⟩
                case measure => simp [intOf]; omega
        · obtain rfl : q = 4 := by omega
          have HBq := Lib.hid hBq
          have hqi : decide (((4 : Nat) : Int) < 4) = false := by decide
          have hnq : nb < wr.heap.size := Nat.lt_of_lt_of_le hlW.1 HBq.out.size
          have I1 := Lib.hid (HCL.out now)
          have I2 := Lib.hid (HCL.out m)
          have I3 := Lib.hid (HOP.out now)
          have hp2 := HP2.out
          generalize clF ⟨⟨c2', n2, s2, d2⟩, p, op, cl, le, st, sa⟩ now = b1 at *
          generalize clF ⟨⟨c2', n2, s2, d2⟩, p, op, cl, le, st, sa⟩ m = b2 at *
          generalize opF ⟨⟨c2', n2, s2, d2⟩, p, op, cl, le, st, sa⟩ now = b3 at *
          clear hBq HP1 HP2 HCL HOP
          have hcs : (b1 = false ∨ (b1 = true ∧ b2 = true)) ∧ (b3 = false ∨ (b3 = true ∧ decide (m < op) = false)) := by
            revert hp2
            cases b1 <;> cases b2 <;> cases b3 <;> simp
          obtain ⟨h1, h2⟩ := hcs
          clear hp2
          rcases h1 with rfl | ⟨rfl, rfl⟩
          · rcases h2 with rfl | ⟨rfl, hmo⟩
            · go_wp2_with (first
                | (go_at_call 26; have _t := tokA; refine (I1.out _).mono ?_; clear tokA _t; rintro e w6 ⟨rfl, hB6⟩; have y0 := cell_keep hB6 hnq x0; have y1 := cell_keep hB6 hnq x1; have y2 := cell_keep hB6 hnq x2; have y3 := cell_keep hB6 hnq x3; have y4 := cell_keep hB6 hnq x4; have y5 := cell_keep hB6 hnq x5; have y6 := cell_keep hB6 hnq x6; have y7 := cell_keep hB6 hnq x7; have y8 := cell_keep hB6 hnq x8; have y9 := cell_keep hB6 hnq x9; have hn6 := Nat.lt_of_lt_of_le hnq hB6.size)
                | (go_at_call 28; refine (I3.out _).mono ?_; rintro e w8 ⟨rfl, hB8⟩))
              go_roundw
              case rel => exact ⟨k + 1, by omega, by go_num, HBW.out.trans ((HBq.out.trans ((hB6.trans (hB8.mono hB6.size)).mono HBq.out.size)).mono HBW.out.size)⟩
              case measure => simp [intOf]; omega
            · go_wp2_with (first
                | (go_at_call 26; have _t := tokA; refine (I1.out _).mono ?_; clear tokA _t; rintro e w6 ⟨rfl, hB6⟩; have y0 := cell_keep hB6 hnq x0; have y1 := cell_keep hB6 hnq x1; have y2 := cell_keep hB6 hnq x2; have y3 := cell_keep hB6 hnq x3; have y4 := cell_keep hB6 hnq x4; have y5 := cell_keep hB6 hnq x5; have y6 := cell_keep hB6 hnq x6; have y7 := cell_keep hB6 hnq x7; have y8 := cell_keep hB6 hnq x8; have y9 := cell_keep hB6 hnq x9; have hn6 := Nat.lt_of_lt_of_le hnq hB6.size)
                | (go_at_call 28; refine (I3.out _).mono ?_; rintro e w8 ⟨rfl, hB8⟩; have v5 := cell_keep hB8 hn6 y5))
              go_roundw
              case rel => exact ⟨k + 1, by omega, by go_num, HBW.out.trans ((HBq.out.trans ((hB6.trans (hB8.mono hB6.size)).mono HBq.out.size)).mono HBW.out.size)⟩
              case measure => simp [intOf]; omega
          · rcases h2 with rfl | ⟨rfl, hmo⟩
            · go_wp2_with (first
                | (go_at_call 26; have _t := tokA; refine (I1.out _).mono ?_; clear tokA _t; rintro e w6 ⟨rfl, hB6⟩; have y0 := cell_keep hB6 hnq x0; have y1 := cell_keep hB6 hnq x1; have y2 := cell_keep hB6 hnq x2; have y3 := cell_keep hB6 hnq x3; have y4 := cell_keep hB6 hnq x4; have y5 := cell_keep hB6 hnq x5; have y6 := cell_keep hB6 hnq x6; have y7 := cell_keep hB6 hnq x7; have y8 := cell_keep hB6 hnq x8; have y9 := cell_keep hB6 hnq x9; have hn6 := Nat.lt_of_lt_of_le hnq hB6.size)
                | (go_at_call 26; refine (I2.out _).mono ?_; rintro e w7 ⟨rfl, hB7⟩; have z0 := cell_keep hB7 hn6 y0; have z1 := cell_keep hB7 hn6 y1; have z2 := cell_keep hB7 hn6 y2; have z3 := cell_keep hB7 hn6 y3; have z4 := cell_keep hB7 hn6 y4; have z5 := cell_keep hB7 hn6 y5; have z6 := cell_keep hB7 hn6 y6; have z7 := cell_keep hB7 hn6 y7; have z8 := cell_keep hB7 hn6 y8; have z9 := cell_keep hB7 hn6 y9)
                | (go_at_call 28; refine (I3.out _).mono ?_; rintro e w8 ⟨rfl, hB8⟩))
              go_roundw
              case rel => exact ⟨k + 1, by omega, by go_num, HBW.out.trans ((HBq.out.trans ((hB6.trans ((hB7.trans (hB8.mono hB7.size)).mono hB6.size)).mono HBq.out.size)).mono HBW.out.size)⟩
              case measure => simp [intOf]; omega
            · go_wp2_with (first
                | (go_at_call 26; have _t := tokA; refine (I1.out _).mono ?_; clear tokA _t; rintro e w6 ⟨rfl, hB6⟩; have y0 := cell_keep hB6 hnq x0; have y1 := cell_keep hB6 hnq x1; have y2 := cell_keep hB6 hnq x2; have y3 := cell_keep hB6 hnq x3; have y4 := cell_keep hB6 hnq x4; have y5 := cell_keep hB6 hnq x5; have y6 := cell_keep hB6 hnq x6; have y7 := cell_keep hB6 hnq x7; have y8 := cell_keep hB6 hnq x8; have y9 := cell_keep hB6 hnq x9; have hn6 := Nat.lt_of_lt_of_le hnq hB6.size)
                | (go_at_call 26; refine (I2.out _).mono ?_; rintro e w7 ⟨rfl, hB7⟩; have z0 := cell_keep hB7 hn6 y0; have z1 := cell_keep hB7 hn6 y1; have z2 := cell_keep hB7 hn6 y2; have z3 := cell_keep hB7 hn6 y3; have z4 := cell_keep hB7 hn6 y4; have z5 := cell_keep hB7 hn6 y5; have z6 := cell_keep hB7 hn6 y6; have z7 := cell_keep hB7 hn6 y7; have z8 := cell_keep hB7 hn6 y8; have z9 := cell_keep hB7 hn6 y9)
                | (go_at_call 28; refine (I3.out _).mono ?_; rintro e w8 ⟨rfl, hB8⟩; have v5 := cell_keep hB8 (Nat.lt_of_lt_of_le hn6 hB7.size) z5))
              go_roundw
              case rel => exact ⟨k + 1, by omega, by go_num, HBW.out.trans ((HBq.out.trans ((hB6.trans ((hB7.trans (hB8.mono hB7.size)).mono hB6.size)).mono HBq.out.size)).mono HBW.out.size)⟩
              case measure => simp [intOf]; omega
    · obtain rfl : k = X.length := by omega
      have hBw := HB5.out.trans (hBr.mono HB5.out.size)
      go_wp2_with (go_at_call 19; refine (awake_any _).mono ?_; rintro e w6 ⟨rfl, hB6⟩)
      go_ret
      exact ⟨rfl, hBw.trans (hB6.mono hBw.size)⟩
end Go.Proofs.Ytmigkmdhenkpmaa
