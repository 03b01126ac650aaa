/- Apply of the program. -/
import Derived.Test.YtmigkmdhenkpmaaDepJ
import Derived.Deep.CutBlock
import Derived.Deep.CutRange
namespace Go.Proofs.Ytmigkmdhenkpmaa
open Go.RowKit

def wantS (r : Rev) : Int := if r.kind = 5 then 1 else 0

def applyAt (l : List Dep) (k : Nat) (r : Rev) (now : Int) : Int × List Dep :=
  match l[k]? with
  | none => (6, [])
  | some d =>
    if d.state = wantS r then
      if amtF r = true then
        if r.kind = 2 ∧ (d.opens ≤ now ∨ r.amt < now) then (12, []) else if validD (revis d r) = true then (0, l.set k (revis d r)) else (1, [])
      else (1, [])
    else (7, [])

def applyF (l : List Dep) (r : Rev) (now : Int) : Int × List Dep :=
  if valE l = 0 then
    if 1 ≤ r.kind ∧ r.kind ≤ 5 then (if findD r.flt l 0 < 0 then (6, []) else applyAt l (findD r.flt l 0).toNat r now) else (4, [])
  else (valE l, [])

theorem vErr_all : ∀ (l : List Dep) (p : Option Flt), vErr p l = 0 → ∀ x ∈ l, validD x = true
  | [], _, _, x, hx => by cases hx
  | d :: l, p, h, x, hx => by
    cases hd : validD d
    · cases p <;> simp [vErr, hd] at h
    · have hrec : vErr (some d.flt) l = 0 := by
        cases p with
        | none => simpa [vErr, hd] using h
        | some p =>
          simp only [vErr, hd, if_true] at h
          split at h
          · omega
          · split at h
            · omega
            · exact h
      rcases List.mem_cons.1 hx with rfl | hx
      · exact hd
      · exact vErr_all l _ hrec x hx

theorem valE_all {l : List Dep} (h : valE l = 0) : ∀ x ∈ l, validD x = true := by
  have h24 := valE_le h
  unfold valE at h
  rw [if_neg (by omega)] at h
  exact vErr_all l none h

theorem validD_bd {d : Dep} (h : validD d = true) : 0 ≤ d.opens ∧ d.opens < d.closes ∧ d.closes ≤ d.leaves ∧ d.leaves ≤ 1048576 ∧ 0 ≤ d.stand ∧ d.stand ≤ 99 ∧ 0 ≤ d.state ∧ d.state ≤ 2 := by
  simp only [validD, Bool.and_eq_true, decide_eq_true_eq] at h
  omega

theorem six_keep {B : Nat} {w w' : World} {b : Nat} {v0 v1 v2 v3 v4 v5 : Value} (h : Below B w w') (hb : b < B) (h0 : w.cell? ⟨b, 0, none⟩ = some v0) (h1 : w.cell? ⟨b, 1, none⟩ = some v1) (h2 : w.cell? ⟨b, 2, none⟩ = some v2) (h3 : w.cell? ⟨b, 3, none⟩ = some v3) (h4 : w.cell? ⟨b, 4, none⟩ = some v4) (h5 : w.cell? ⟨b, 5, none⟩ = some v5) :
    w'.cell? ⟨b, 0, none⟩ = some v0 ∧ w'.cell? ⟨b, 1, none⟩ = some v1 ∧ w'.cell? ⟨b, 2, none⟩ = some v2 ∧ w'.cell? ⟨b, 3, none⟩ = some v3 ∧ w'.cell? ⟨b, 4, none⟩ = some v4 ∧ w'.cell? ⟨b, 5, none⟩ = some v5 :=
  ⟨cell_keep h hb h0, cell_keep h hb h1, cell_keep h hb h2, cell_keep h hb h3, cell_keep h hb h4, cell_keep h hb h5⟩

theorem box_heap {w w1 : World} {A : Array Value} {t : TypeId} (h : Below (w.alloc (.cells A t)).heap.size (w.alloc (.cells A t)) w1) : w1.heap[w.heap.size]? = some (.cells A t (0, 0)) :=
  (h.block w.heap.size (by rw [size_new]; exact Nat.lt_succ_self _)).trans (heap_alloc_new _ _)

theorem box_lt {w w1 : World} {A : Array Value} {t : TypeId} (h : Below (w.alloc (.cells A t)).heap.size (w.alloc (.cells A t)) w1) : w.heap.size < w1.heap.size := by
  have := h.size
  rw [size_new] at this
  omega

theorem store_dep {w3 w4 : World} {g : Nat} {cs : Array Value} {t : TypeId} (hbk : w3.heap[g]? = some (.cells cs t (0, 0))) (hs : cs.size = 10) (y : Dep) (hw : setCells w3 g 0 y.cells.toList = w4) : w4.heap[g]? = some (.cells y.cells t (0, 0)) ∧ w3.grownBy w4 (some g) := by
  have h0 : w3.ownsRow g t 10 (.slice (some ⟨g, 0, none⟩) 1 1) 1 cs.toList := ⟨by simp [hs], .inr ⟨g, 1, cs, rfl, Nat.le_refl _, hbk, Nat.le_refl _, by simp [maxLen], by omega, List.take_of_length_le (by rw [Array.length_toList]; omega)⟩⟩
  obtain ⟨h1, h2⟩ := own_sets y.cells.toList w3 0 _ h0
  rw [hw] at h1 h2
  have hy : y.cells.toList.length = 10 := rfl
  rw [setsFrom_eq _ _ _ (by rw [hy, Array.length_toList]; omega), List.take_zero, List.nil_append, hy, List.drop_eq_nil_of_le (by rw [Array.length_toList]; omega), List.append_nil] at h1
  refine ⟨?_, h2⟩
  rcases h1.2 with ⟨h3, _⟩ | ⟨g', cap, cur, h3, _, h4, _, _, h5, h6⟩
  · cases h3
  · simp only [Value.slice.injEq, Option.some.injEq, Addr.mk.injEq, and_true, true_and] at h3
    obtain ⟨rfl, rfl⟩ := h3
    rw [List.take_of_length_le (by rw [Array.length_toList]; omega)] at h6
    rw [h4, Array.toList_inj.1 h6]

set_option maxHeartbeats 1000000 in
theorem Apply_any (v : Value) (l : List Dep) (r : Rev) (now : Int) (w : World) (hv : DepsV w v l) :
    Calls Try.prog 22 #[v, .agg r.cells, .int .i64 now] w (SlcRet (applyF l r now) w) := by
  obtain ⟨a, c, rfl, la, _, cA⟩ := hv.open
  obtain ⟨res, hres⟩ : ∃ x, x = applyF l r now := ⟨_, rfl⟩
  have HV := Lib.hid hv
  have HCA := Lib.hid cA
  rw [← hres]
  unfold applyF at hres
  have HRES := Lib.hid hres
  have VL := Lib.hid (fun w h => Validate_any (.slice a l.length c) l w h)
  have FL := Lib.hid (fun w h => Find_any (.slice a l.length c) l r.flt w h)
  clear hv cA hres
  generalize hve : valE l = ve at *
  have HVE := Lib.hid hve
  clear hve
  by_cases h0 : ve = 0
  · subst h0
    have hres2 := HRES.out.trans (if_pos rfl)
    have HRS := Lib.hid hres2
    clear hres2 HRES
    have h24 := valE_le HVE.out
    obtain ⟨kd, m, ⟨c1, n1, s1, d1⟩⟩ := r
    simp only [Rev.cells]
    go_enter Try.func22, Try.ntmps22
    go_upto_block 0 with (go_at_call 15; refine (VL.out _ (HV.out.below (one_box _ _ _ _ rfl).2.1)).mono ?_; rintro e w1 ⟨rfl, hB1⟩; obtain ⟨hB, hq⟩ := box_then hB1; have q0 := hq 0 _ rfl; have q1 := hq 1 _ rfl; have q2 := hq 2 _ rfl; have q3 := hq 3 _ rfl; have q4 := hq 4 _ rfl; have q5 := hq 5 _ rfl; have hbs : w.heap.size < w1.heap.size := (by have := hB1.size; rw [size_new] at this; omega); have HB := Lib.hid hB; clear hB1 hq hB)
    go_cut [9] from 17 to 67 (fun v wx => v = .int .i64 (wantS ⟨kd, m, ⟨c1, n1, s1, d1⟩⟩) ∧ wx = w1 ∧ 1 ≤ kd ∧ kd ≤ 5)
    case first =>
      go_wp2
      all_goals first
        | (go_meet
           clear VL FL HRS HV HCA HB
           simp only [beq_iff_eq, beq_eq_false_iff_ne, ne_eq] at *
           exact ⟨congrArg (Value.int .i64) (by show _ = if kd = 5 then (1 : Int) else 0; split <;> omega), trivial, by omega, by omega⟩)
        | (go_ret2
           refine slc_err ?_ rfl HB.out
           rw [HRS.out, if_neg]
           clear VL FL HRS HV HCA HB
           simp only [beq_eq_false_iff_ne, ne_eq] at *
           show ¬ (1 ≤ kd ∧ kd ≤ 5)
           omega)
    case rest =>
      obtain ⟨rfl, rfl, hk1, hk5⟩ := hcut
      have HK := Lib.hid (And.intro hk1 hk5)
      clear hk1 hk5
      rcases findD_spec ⟨c1, n1, s1, d1⟩ l 0 with hf | ⟨k, x, hf, hx, hxf⟩
      · have HF := Lib.hid hf
        rw [hf] at FL
        clear hf
        go_wp2_with (go_at_call 17; refine (FL.out _ (HV.out.below HB.out)).mono ?_; rintro e w2 ⟨rfl, hB2⟩; have HB2 := Lib.hid (HB.out.trans (hB2.mono HB.out.size)); clear hB2)
        go_ret2
        refine slc_err ?_ rfl HB2.out
        rw [HRS.out, if_pos HK.out, HF.out]
        rfl
      · rw [Nat.zero_add] at hf
        have HF := Lib.hid hf
        rw [hf] at FL
        clear hf
        have hkl : k < l.length := (List.getElem?_eq_some_iff.1 hx).1
        have hki : (k : Int) < (l.length : Int) := by omega
        obtain ⟨b, o, rfl, hb, cc⟩ := HCA.out (by omega)
        have HC := Lib.hid (cc k x hx)
        have HX := Lib.hid hx
        have HVD := Lib.hid (validD_bd (valE_all HVE.out x (List.mem_of_getElem? hx)))
        clear cc hx hxf
        have WL := Lib.hid (fun d w h => with_any (.slice (some ⟨b, o, none⟩) l.length c) l k d w h hkl h24)
        have AM := Lib.hid (amount_any ⟨kd, m, ⟨c1, n1, s1, d1⟩⟩)
        have hres3 : res = applyAt l k ⟨kd, m, ⟨c1, n1, s1, d1⟩⟩ now := by
          rw [HRS.out, if_pos HK.out, HF.out, if_neg (by omega), Int.toNat_natCast]
        simp only [applyAt, HX.out] at hres3
        have HR := Lib.hid hres3
        clear hres3 HRS
        obtain ⟨ws, hws⟩ : ∃ z, z = wantS ⟨kd, m, ⟨c1, n1, s1, d1⟩⟩ := ⟨_, rfl⟩
        rw [← hws] at HR
        rw [← hws]
        clear hws
        obtain ⟨am, ham⟩ : ∃ z, z = amtF ⟨kd, m, ⟨c1, n1, s1, d1⟩⟩ := ⟨_, rfl⟩
        rw [← ham] at HR AM
        have HAM := Lib.hid ham
        clear ham
        obtain ⟨⟨c2, n2, s2, d2⟩, p, op, cl, le, st, sa⟩ := x
        by_cases hs : sa = ws
        · have hsb : (sa != ws) = false := by simp [hs]
          have HS := Lib.hid hs
          clear hs
          have HBS := Lib.hid hbs
          cases am
          · go_wp2_with (first
              | (go_at_call 17; refine (FL.out _ (HV.out.below HB.out)).mono ?_; rintro e w2 ⟨rfl, hB2⟩; have HB2 := Lib.hid (HB.out.trans (hB2.mono HB.out.size)); obtain ⟨g0, g1, g2, g3, g4, g5, g6, g7, g8, g9⟩ := dep_at (dep_keep HB2.out hb HC.out); have hnb : w.heap.size < w2.heap.size := Nat.lt_of_lt_of_le HBS.out hB2.size; obtain ⟨r0, r1, r2, r3, r4, r5⟩ := six_keep hB2 HBS.out q0 q1 q2 q3 q4 q5; clear hB2)
              | (go_at_call 44; refine (AM.out _).mono ?_; rintro e w3 ⟨rfl, hB3⟩; obtain ⟨hB4, hq⟩ := box_then hB3; have hB5 := HB2.out.trans (hB4.mono HB2.out.size); have HB5 := Lib.hid hB5; obtain ⟨x0, x1, x2, x3, x4, x5, x6, x7, x8, x9⟩ := dep_at0 (d := ⟨⟨c2, n2, s2, d2⟩, p, op, cl, le, st, sa⟩) hq; obtain ⟨t0, t1, t2, t3, t4, t5⟩ := six_keep hB4 hnb r0 r1 r2 r3 r4 r5; have hbk := box_heap hB3; have HSZ3 := Lib.hid hB4.size; clear hB3 hB4 hq hB5 g0 g1 g2 g3 g4 g5 g6 g7 g8 g9 r0 r1 r2 r3 r4 r5))
            go_ret2
            refine slc_err ?_ rfl HB5.out
            rw [HR.out, if_pos HS.out, if_neg (by simp)]
          · by_cases hl : kd = 2 ∧ (op ≤ now ∨ m < now)
            · have HL := Lib.hid hl
              obtain ⟨hl1, hl2⟩ := hl
              have hkb : (kd == 2) = true := by simp [hl1]
              have HLK := Lib.hid hl1
              clear hl1
              by_cases ho : op ≤ now
              · have hob : decide (op ≤ now) = true := decide_eq_true ho
                clear hl2 ho
                go_wp2_with (first
                  | (go_at_call 17; refine (FL.out _ (HV.out.below HB.out)).mono ?_; rintro e w2 ⟨rfl, hB2⟩; have HB2 := Lib.hid (HB.out.trans (hB2.mono HB.out.size)); obtain ⟨g0, g1, g2, g3, g4, g5, g6, g7, g8, g9⟩ := dep_at (dep_keep HB2.out hb HC.out); have hnb : w.heap.size < w2.heap.size := Nat.lt_of_lt_of_le HBS.out hB2.size; obtain ⟨r0, r1, r2, r3, r4, r5⟩ := six_keep hB2 HBS.out q0 q1 q2 q3 q4 q5; clear hB2)
                  | (go_at_call 44; refine (AM.out _).mono ?_; rintro e w3 ⟨rfl, hB3⟩; obtain ⟨hB4, hq⟩ := box_then hB3; have hB5 := HB2.out.trans (hB4.mono HB2.out.size); have HB5 := Lib.hid hB5; obtain ⟨x0, x1, x2, x3, x4, x5, x6, x7, x8, x9⟩ := dep_at0 (d := ⟨⟨c2, n2, s2, d2⟩, p, op, cl, le, st, sa⟩) hq; obtain ⟨t0, t1, t2, t3, t4, t5⟩ := six_keep hB4 hnb r0 r1 r2 r3 r4 r5; have hbk := box_heap hB3; have HSZ3 := Lib.hid hB4.size; clear hB3 hB4 hq hB5 g0 g1 g2 g3 g4 g5 g6 g7 g8 g9 r0 r1 r2 r3 r4 r5))
                go_ret2
                refine slc_err ?_ rfl HB5.out
                rw [HR.out, if_pos HS.out, if_pos trivial, if_pos HL.out]
              · have hob : decide (op ≤ now) = false := decide_eq_false ho
                have hmb : decide (m < now) = true := decide_eq_true (by omega)
                clear hl2 ho
                go_wp2_with (first
                  | (go_at_call 17; refine (FL.out _ (HV.out.below HB.out)).mono ?_; rintro e w2 ⟨rfl, hB2⟩; have HB2 := Lib.hid (HB.out.trans (hB2.mono HB.out.size)); obtain ⟨g0, g1, g2, g3, g4, g5, g6, g7, g8, g9⟩ := dep_at (dep_keep HB2.out hb HC.out); have hnb : w.heap.size < w2.heap.size := Nat.lt_of_lt_of_le HBS.out hB2.size; obtain ⟨r0, r1, r2, r3, r4, r5⟩ := six_keep hB2 HBS.out q0 q1 q2 q3 q4 q5; clear hB2)
                  | (go_at_call 44; refine (AM.out _).mono ?_; rintro e w3 ⟨rfl, hB3⟩; obtain ⟨hB4, hq⟩ := box_then hB3; have hB5 := HB2.out.trans (hB4.mono HB2.out.size); have HB5 := Lib.hid hB5; obtain ⟨x0, x1, x2, x3, x4, x5, x6, x7, x8, x9⟩ := dep_at0 (d := ⟨⟨c2, n2, s2, d2⟩, p, op, cl, le, st, sa⟩) hq; obtain ⟨t0, t1, t2, t3, t4, t5⟩ := six_keep hB4 hnb r0 r1 r2 r3 r4 r5; have hbk := box_heap hB3; have HSZ3 := Lib.hid hB4.size; clear hB3 hB4 hq hB5 g0 g1 g2 g3 g4 g5 g6 g7 g8 g9 r0 r1 r2 r3 r4 r5))
                go_ret2
                refine slc_err ?_ rfl HB5.out
                rw [HR.out, if_pos HS.out, if_pos trivial, if_pos HL.out]
            · have HL := Lib.hid hl
              have hrb : (⟨kd, m, ⟨c1, n1, s1, d1⟩⟩ : Rev).kind = 1 → -1000000000 ≤ (⟨⟨c2, n2, s2, d2⟩, p, op, cl, le, st, sa⟩ : Dep).closes ∧ (⟨⟨c2, n2, s2, d2⟩, p, op, cl, le, st, sa⟩ : Dep).closes ≤ 1000000000 ∧ -1000000000 ≤ (⟨⟨c2, n2, s2, d2⟩, p, op, cl, le, st, sa⟩ : Dep).leaves ∧ (⟨⟨c2, n2, s2, d2⟩, p, op, cl, le, st, sa⟩ : Dep).leaves ≤ 1000000000 ∧ -1000000000 ≤ (⟨kd, m, ⟨c1, n1, s1, d1⟩⟩ : Rev).amt ∧ (⟨kd, m, ⟨c1, n1, s1, d1⟩⟩ : Rev).amt ≤ 1000000000 := by
                intro h1
                have h2 := HAM.out
                have h3 := HVD.out
                simp only at h1 h3
                subst h1
                simp [amtF, inI] at h2
                simp only
                omega
              have RVL := Lib.hid (fun w => revised_any ⟨⟨c2, n2, s2, d2⟩, p, op, cl, le, st, sa⟩ ⟨kd, m, ⟨c1, n1, s1, d1⟩⟩ w hrb)
              clear hrb
              obtain ⟨y, hy⟩ : ∃ y, y = revis ⟨⟨c2, n2, s2, d2⟩, p, op, cl, le, st, sa⟩ ⟨kd, m, ⟨c1, n1, s1, d1⟩⟩ := ⟨_, rfl⟩
              rw [← hy] at RVL HR
              clear hy
              have VY := Lib.hid (Valid_any y)
              obtain ⟨vb, hvb⟩ : ∃ vb, vb = validD y := ⟨_, rfl⟩
              rw [← hvb] at VY HR
              clear hvb
              obtain ⟨⟨c3, n3, s3, d3⟩, p3, op3, cl3, le3, st3, sa3⟩ := y
              by_cases hk2 : kd = 2
              · have hkb : (kd == 2) = true := by simp [hk2]
                have hob : decide (op ≤ now) = false := decide_eq_false (by omega)
                have hmb : decide (m < now) = false := decide_eq_false (by omega)
                clear hk2 hl
                cases vb
                · go_wp2_with (first
                    | (go_at_call 17; refine (FL.out _ (HV.out.below HB.out)).mono ?_; rintro e w2 ⟨rfl, hB2⟩; have HB2 := Lib.hid (HB.out.trans (hB2.mono HB.out.size)); obtain ⟨g0, g1, g2, g3, g4, g5, g6, g7, g8, g9⟩ := dep_at (dep_keep HB2.out hb HC.out); have hnb : w.heap.size < w2.heap.size := Nat.lt_of_lt_of_le HBS.out hB2.size; obtain ⟨r0, r1, r2, r3, r4, r5⟩ := six_keep hB2 HBS.out q0 q1 q2 q3 q4 q5; clear hB2)
                    | (go_at_call 44; refine (AM.out _).mono ?_; rintro e w3 ⟨rfl, hB3⟩; obtain ⟨hB4, hq⟩ := box_then hB3; have hB5 := HB2.out.trans (hB4.mono HB2.out.size); have HB5 := Lib.hid hB5; obtain ⟨x0, x1, x2, x3, x4, x5, x6, x7, x8, x9⟩ := dep_at0 (d := ⟨⟨c2, n2, s2, d2⟩, p, op, cl, le, st, sa⟩) hq; obtain ⟨t0, t1, t2, t3, t4, t5⟩ := six_keep hB4 hnb r0 r1 r2 r3 r4 r5; have hbk := box_heap hB3; have HNB3 := Lib.hid (box_lt hB3); have HBK := Lib.hid hbk; clear hbk hB3 hB4 hq hB5 g0 g1 g2 g3 g4 g5 g6 g7 g8 g9 r0 r1 r2 r3 r4 r5)
                    | (go_at_call 45; refine (RVL.out _).mono ?_; rintro e w4 ⟨rfl, hB6⟩; have hbk4 := (hB6.block w2.heap.size (Nat.lt_of_lt_of_le HNB3.out (Nat.le_refl _))).trans HBK.out; have HB7 := Lib.hid (HB5.out.trans (hB6.mono HB5.out.size)); simp only [Dep.cells]; obtain ⟨z0, z1, z2, z3, z4, z5, z6, z7, z8, z9⟩ := dep_at0 (d := ⟨⟨c2, n2, s2, d2⟩, p, op, cl, le, st, sa⟩) (fun j u hu => cell_of hbk4 hu); have f0 := frozen_of_row _ _ 0 _ _ hbk4; have f1 := frozen_of_row _ _ 1 _ _ hbk4; have f2 := frozen_of_row _ _ 2 _ _ hbk4; have f3 := frozen_of_row _ _ 3 _ _ hbk4; have f4 := frozen_of_row _ _ 4 _ _ hbk4; have f5 := frozen_of_row _ _ 5 _ _ hbk4; have f6 := frozen_of_row _ _ 6 _ _ hbk4; have f7 := frozen_of_row _ _ 7 _ _ hbk4; have f8 := frozen_of_row _ _ 8 _ _ hbk4; have f9 := frozen_of_row _ _ 9 _ _ hbk4; have HBK4 := Lib.hid hbk4; clear hB6 hbk4 x0 x1 x2 x3 x4 x5 x6 x7 x8 x9 t0 t1 t2 t3 t4 t5)
                    | (go_at_call 38; generalize hw5 : World.setCell _ _ _ = w5; obtain ⟨hbk5, hg5⟩ := store_dep HBK4.out rfl ⟨⟨c3, n3, s3, d3⟩, p3, op3, cl3, le3, st3, sa3⟩ hw5; have hB8 := below_grown HB7.out hg5 HB7.out.size HB2.out.size; refine (VY.out _).mono ?_; rintro e w6 ⟨rfl, hB9⟩; have HB10 := Lib.hid (hB8.trans (hB9.mono hB8.size)); have hbk6 := (hB9.block w2.heap.size (lt_of_block hbk5)).trans hbk5; obtain ⟨y0, y1, y2, y3, y4, y5, y6, y7, y8, y9⟩ := dep_at0 (d := ⟨⟨c3, n3, s3, d3⟩, p3, op3, cl3, le3, st3, sa3⟩) (fun j u hu => cell_of hbk6 hu); clear z0 z1 z2 z3 z4 z5 z6 z7 z8 z9 f0 f1 f2 f3 f4 f5 f6 f7 f8 f9 hw5 hbk5 hg5 hB8 hB9 hbk6))
                  go_ret2
                  refine slc_err ?_ rfl HB10.out
                  rw [HR.out, if_pos HS.out, if_pos trivial, if_neg HL.out, if_neg (by simp)]
                · go_wp2_with (first
                    | (go_at_call 17; refine (FL.out _ (HV.out.below HB.out)).mono ?_; rintro e w2 ⟨rfl, hB2⟩; have HB2 := Lib.hid (HB.out.trans (hB2.mono HB.out.size)); obtain ⟨g0, g1, g2, g3, g4, g5, g6, g7, g8, g9⟩ := dep_at (dep_keep HB2.out hb HC.out); have hnb : w.heap.size < w2.heap.size := Nat.lt_of_lt_of_le HBS.out hB2.size; obtain ⟨r0, r1, r2, r3, r4, r5⟩ := six_keep hB2 HBS.out q0 q1 q2 q3 q4 q5; clear hB2)
                    | (go_at_call 44; refine (AM.out _).mono ?_; rintro e w3 ⟨rfl, hB3⟩; obtain ⟨hB4, hq⟩ := box_then hB3; have hB5 := HB2.out.trans (hB4.mono HB2.out.size); have HB5 := Lib.hid hB5; obtain ⟨x0, x1, x2, x3, x4, x5, x6, x7, x8, x9⟩ := dep_at0 (d := ⟨⟨c2, n2, s2, d2⟩, p, op, cl, le, st, sa⟩) hq; obtain ⟨t0, t1, t2, t3, t4, t5⟩ := six_keep hB4 hnb r0 r1 r2 r3 r4 r5; have hbk := box_heap hB3; have HNB3 := Lib.hid (box_lt hB3); have HBK := Lib.hid hbk; clear hbk hB3 hB4 hq hB5 g0 g1 g2 g3 g4 g5 g6 g7 g8 g9 r0 r1 r2 r3 r4 r5)
                    | (go_at_call 45; refine (RVL.out _).mono ?_; rintro e w4 ⟨rfl, hB6⟩; have hbk4 := (hB6.block w2.heap.size (Nat.lt_of_lt_of_le HNB3.out (Nat.le_refl _))).trans HBK.out; have HB7 := Lib.hid (HB5.out.trans (hB6.mono HB5.out.size)); simp only [Dep.cells]; obtain ⟨z0, z1, z2, z3, z4, z5, z6, z7, z8, z9⟩ := dep_at0 (d := ⟨⟨c2, n2, s2, d2⟩, p, op, cl, le, st, sa⟩) (fun j u hu => cell_of hbk4 hu); have f0 := frozen_of_row _ _ 0 _ _ hbk4; have f1 := frozen_of_row _ _ 1 _ _ hbk4; have f2 := frozen_of_row _ _ 2 _ _ hbk4; have f3 := frozen_of_row _ _ 3 _ _ hbk4; have f4 := frozen_of_row _ _ 4 _ _ hbk4; have f5 := frozen_of_row _ _ 5 _ _ hbk4; have f6 := frozen_of_row _ _ 6 _ _ hbk4; have f7 := frozen_of_row _ _ 7 _ _ hbk4; have f8 := frozen_of_row _ _ 8 _ _ hbk4; have f9 := frozen_of_row _ _ 9 _ _ hbk4; have HBK4 := Lib.hid hbk4; clear hB6 hbk4 x0 x1 x2 x3 x4 x5 x6 x7 x8 x9 t0 t1 t2 t3 t4 t5)
                    | (go_at_call 38; generalize hw5 : World.setCell _ _ _ = w5; obtain ⟨hbk5, hg5⟩ := store_dep HBK4.out rfl ⟨⟨c3, n3, s3, d3⟩, p3, op3, cl3, le3, st3, sa3⟩ hw5; have hB8 := below_grown HB7.out hg5 HB7.out.size HB2.out.size; refine (VY.out _).mono ?_; rintro e w6 ⟨rfl, hB9⟩; have HB10 := Lib.hid (hB8.trans (hB9.mono hB8.size)); have hbk6 := (hB9.block w2.heap.size (lt_of_block hbk5)).trans hbk5; obtain ⟨y0, y1, y2, y3, y4, y5, y6, y7, y8, y9⟩ := dep_at0 (d := ⟨⟨c3, n3, s3, d3⟩, p3, op3, cl3, le3, st3, sa3⟩) (fun j u hu => cell_of hbk6 hu); clear z0 z1 z2 z3 z4 z5 z6 z7 z8 z9 f0 f1 f2 f3 f4 f5 f6 f7 f8 f9 hw5 hbk5 hg5 hB8 hB9 hbk6)
                    | (go_at_call 46; refine (WL.out ⟨⟨c3, n3, s3, d3⟩, p3, op3, cl3, le3, st3, sa3⟩ _ (HV.out.below HB10.out)).mono ?_; rintro e w7 ⟨v7, rfl, hO7, hB11⟩))
                  go_ret2
                  refine slc_ok ?_ rfl hO7 HB10.out.size (HB10.out.trans (hB11.mono HB10.out.size))
                  rw [HR.out, if_pos HS.out, if_pos trivial, if_neg HL.out, if_pos trivial]

              · have hkb : (kd == 2) = false := by simp [hk2]
                clear hk2 hl
                cases vb
                · go_wp2_with (first
                    | (go_at_call 17; refine (FL.out _ (HV.out.below HB.out)).mono ?_; rintro e w2 ⟨rfl, hB2⟩; have HB2 := Lib.hid (HB.out.trans (hB2.mono HB.out.size)); obtain ⟨g0, g1, g2, g3, g4, g5, g6, g7, g8, g9⟩ := dep_at (dep_keep HB2.out hb HC.out); have hnb : w.heap.size < w2.heap.size := Nat.lt_of_lt_of_le HBS.out hB2.size; obtain ⟨r0, r1, r2, r3, r4, r5⟩ := six_keep hB2 HBS.out q0 q1 q2 q3 q4 q5; clear hB2)
                    | (go_at_call 44; refine (AM.out _).mono ?_; rintro e w3 ⟨rfl, hB3⟩; obtain ⟨hB4, hq⟩ := box_then hB3; have hB5 := HB2.out.trans (hB4.mono HB2.out.size); have HB5 := Lib.hid hB5; obtain ⟨x0, x1, x2, x3, x4, x5, x6, x7, x8, x9⟩ := dep_at0 (d := ⟨⟨c2, n2, s2, d2⟩, p, op, cl, le, st, sa⟩) hq; obtain ⟨t0, t1, t2, t3, t4, t5⟩ := six_keep hB4 hnb r0 r1 r2 r3 r4 r5; have hbk := box_heap hB3; have HNB3 := Lib.hid (box_lt hB3); have HBK := Lib.hid hbk; clear hbk hB3 hB4 hq hB5 g0 g1 g2 g3 g4 g5 g6 g7 g8 g9 r0 r1 r2 r3 r4 r5)
                    | (go_at_call 45; refine (RVL.out _).mono ?_; rintro e w4 ⟨rfl, hB6⟩; have hbk4 := (hB6.block w2.heap.size (Nat.lt_of_lt_of_le HNB3.out (Nat.le_refl _))).trans HBK.out; have HB7 := Lib.hid (HB5.out.trans (hB6.mono HB5.out.size)); simp only [Dep.cells]; obtain ⟨z0, z1, z2, z3, z4, z5, z6, z7, z8, z9⟩ := dep_at0 (d := ⟨⟨c2, n2, s2, d2⟩, p, op, cl, le, st, sa⟩) (fun j u hu => cell_of hbk4 hu); have f0 := frozen_of_row _ _ 0 _ _ hbk4; have f1 := frozen_of_row _ _ 1 _ _ hbk4; have f2 := frozen_of_row _ _ 2 _ _ hbk4; have f3 := frozen_of_row _ _ 3 _ _ hbk4; have f4 := frozen_of_row _ _ 4 _ _ hbk4; have f5 := frozen_of_row _ _ 5 _ _ hbk4; have f6 := frozen_of_row _ _ 6 _ _ hbk4; have f7 := frozen_of_row _ _ 7 _ _ hbk4; have f8 := frozen_of_row _ _ 8 _ _ hbk4; have f9 := frozen_of_row _ _ 9 _ _ hbk4; have HBK4 := Lib.hid hbk4; clear hB6 hbk4 x0 x1 x2 x3 x4 x5 x6 x7 x8 x9 t0 t1 t2 t3 t4 t5)
                    | (go_at_call 38; generalize hw5 : World.setCell _ _ _ = w5; obtain ⟨hbk5, hg5⟩ := store_dep HBK4.out rfl ⟨⟨c3, n3, s3, d3⟩, p3, op3, cl3, le3, st3, sa3⟩ hw5; have hB8 := below_grown HB7.out hg5 HB7.out.size HB2.out.size; refine (VY.out _).mono ?_; rintro e w6 ⟨rfl, hB9⟩; have HB10 := Lib.hid (hB8.trans (hB9.mono hB8.size)); have hbk6 := (hB9.block w2.heap.size (lt_of_block hbk5)).trans hbk5; obtain ⟨y0, y1, y2, y3, y4, y5, y6, y7, y8, y9⟩ := dep_at0 (d := ⟨⟨c3, n3, s3, d3⟩, p3, op3, cl3, le3, st3, sa3⟩) (fun j u hu => cell_of hbk6 hu); clear z0 z1 z2 z3 z4 z5 z6 z7 z8 z9 f0 f1 f2 f3 f4 f5 f6 f7 f8 f9 hw5 hbk5 hg5 hB8 hB9 hbk6))
                  go_ret2
                  refine slc_err ?_ rfl HB10.out
                  rw [HR.out, if_pos HS.out, if_pos trivial, if_neg HL.out, if_neg (by simp)]
                · go_wp2_with (first
                    | (go_at_call 17; refine (FL.out _ (HV.out.below HB.out)).mono ?_; rintro e w2 ⟨rfl, hB2⟩; have HB2 := Lib.hid (HB.out.trans (hB2.mono HB.out.size)); obtain ⟨g0, g1, g2, g3, g4, g5, g6, g7, g8, g9⟩ := dep_at (dep_keep HB2.out hb HC.out); have hnb : w.heap.size < w2.heap.size := Nat.lt_of_lt_of_le HBS.out hB2.size; obtain ⟨r0, r1, r2, r3, r4, r5⟩ := six_keep hB2 HBS.out q0 q1 q2 q3 q4 q5; clear hB2)
                    | (go_at_call 44; refine (AM.out _).mono ?_; rintro e w3 ⟨rfl, hB3⟩; obtain ⟨hB4, hq⟩ := box_then hB3; have hB5 := HB2.out.trans (hB4.mono HB2.out.size); have HB5 := Lib.hid hB5; obtain ⟨x0, x1, x2, x3, x4, x5, x6, x7, x8, x9⟩ := dep_at0 (d := ⟨⟨c2, n2, s2, d2⟩, p, op, cl, le, st, sa⟩) hq; obtain ⟨t0, t1, t2, t3, t4, t5⟩ := six_keep hB4 hnb r0 r1 r2 r3 r4 r5; have hbk := box_heap hB3; have HNB3 := Lib.hid (box_lt hB3); have HBK := Lib.hid hbk; clear hbk hB3 hB4 hq hB5 g0 g1 g2 g3 g4 g5 g6 g7 g8 g9 r0 r1 r2 r3 r4 r5)
                    | (go_at_call 45; refine (RVL.out _).mono ?_; rintro e w4 ⟨rfl, hB6⟩; have hbk4 := (hB6.block w2.heap.size (Nat.lt_of_lt_of_le HNB3.out (Nat.le_refl _))).trans HBK.out; have HB7 := Lib.hid (HB5.out.trans (hB6.mono HB5.out.size)); simp only [Dep.cells]; obtain ⟨z0, z1, z2, z3, z4, z5, z6, z7, z8, z9⟩ := dep_at0 (d := ⟨⟨c2, n2, s2, d2⟩, p, op, cl, le, st, sa⟩) (fun j u hu => cell_of hbk4 hu); have f0 := frozen_of_row _ _ 0 _ _ hbk4; have f1 := frozen_of_row _ _ 1 _ _ hbk4; have f2 := frozen_of_row _ _ 2 _ _ hbk4; have f3 := frozen_of_row _ _ 3 _ _ hbk4; have f4 := frozen_of_row _ _ 4 _ _ hbk4; have f5 := frozen_of_row _ _ 5 _ _ hbk4; have f6 := frozen_of_row _ _ 6 _ _ hbk4; have f7 := frozen_of_row _ _ 7 _ _ hbk4; have f8 := frozen_of_row _ _ 8 _ _ hbk4; have f9 := frozen_of_row _ _ 9 _ _ hbk4; have HBK4 := Lib.hid hbk4; clear hB6 hbk4 x0 x1 x2 x3 x4 x5 x6 x7 x8 x9 t0 t1 t2 t3 t4 t5)
                    | (go_at_call 38; generalize hw5 : World.setCell _ _ _ = w5; obtain ⟨hbk5, hg5⟩ := store_dep HBK4.out rfl ⟨⟨c3, n3, s3, d3⟩, p3, op3, cl3, le3, st3, sa3⟩ hw5; have hB8 := below_grown HB7.out hg5 HB7.out.size HB2.out.size; refine (VY.out _).mono ?_; rintro e w6 ⟨rfl, hB9⟩; have HB10 := Lib.hid (hB8.trans (hB9.mono hB8.size)); have hbk6 := (hB9.block w2.heap.size (lt_of_block hbk5)).trans hbk5; obtain ⟨y0, y1, y2, y3, y4, y5, y6, y7, y8, y9⟩ := dep_at0 (d := ⟨⟨c3, n3, s3, d3⟩, p3, op3, cl3, le3, st3, sa3⟩) (fun j u hu => cell_of hbk6 hu); clear z0 z1 z2 z3 z4 z5 z6 z7 z8 z9 f0 f1 f2 f3 f4 f5 f6 f7 f8 f9 hw5 hbk5 hg5 hB8 hB9 hbk6)
                    | (go_at_call 46; refine (WL.out ⟨⟨c3, n3, s3, d3⟩, p3, op3, cl3, le3, st3, sa3⟩ _ (HV.out.below HB10.out)).mono ?_; rintro e w7 ⟨v7, rfl, hO7, hB11⟩))
                  go_ret2
                  refine slc_ok ?_ rfl hO7 HB10.out.size (HB10.out.trans (hB11.mono HB10.out.size))
                  rw [HR.out, if_pos HS.out, if_pos trivial, if_neg HL.out, if_pos trivial]
        · have hsb : (sa != ws) = true := by simp [hs]
          have HS := Lib.hid hs
          clear hs
          go_wp2_with (go_at_call 17; refine (FL.out _ (HV.out.below HB.out)).mono ?_; rintro e w2 ⟨rfl, hB2⟩; have HB2 := Lib.hid (HB.out.trans (hB2.mono HB.out.size)); clear hB2; obtain ⟨g0, g1, g2, g3, g4, g5, g6, g7, g8, g9⟩ := dep_at (dep_keep HB2.out hb HC.out))
          go_ret2
          refine slc_err ?_ rfl (box_more HB2.out _ HB2.out.size)
          rw [HR.out, if_neg HS.out]
  · have hne : (ve != 0) = true := by simp [h0]
    have H0 := Lib.hid h0
    clear h0
    obtain ⟨kd, m, ⟨c1, n1, s1, d1⟩⟩ := r
    simp only [Rev.cells]
    go_enter Try.func22, Try.ntmps22
    go_wp2_with (go_at_call 15; refine (VL.out _ (HV.out.below (one_box _ _ _ _ rfl).2.1)).mono ?_; rintro e w1 ⟨rfl, hB1⟩; obtain ⟨hB, hq⟩ := box_then hB1)
    go_ret2
    refine slc_err ?_ rfl hB
    rw [HRES.out, if_neg H0.out]
end Go.Proofs.Ytmigkmdhenkpmaa
