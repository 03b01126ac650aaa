/- keep.Src.Spoilt: some list of departures. -/
import Derived.Test.YtmigkmdhenkpmaaDepN2
import Derived.Test.YtmigkmdhenkpmaaRowP
namespace Go.Proofs.Ytmigkmdhenkpmaa
open Go.RowKit

def SpoPost (B b : Nat) (w : World) (e : Ending) (w' : World) : Prop :=
  ∃ v l r, e = .returned v ∧ DepT.Own w.heap.size w' v l ∧ l.length ≤ 30 ∧ (∀ x ∈ l, DepWf x) ∧ SrcR B w' b r ∧ w.grownBy w' (some b)

theorem set_wf {l : List Dep} (h : ∀ x ∈ l, DepWf x) (k : Nat) {y : Dep} (hy : DepWf y) : ∀ x ∈ l.set k y, DepWf x := by
  intro x hx
  rcases List.mem_or_eq_of_mem_set hx with hx | rfl
  · exact h x hx
  · exact hy

theorem SrcR.wfI {B : Nat} {w : World} {b : Nat} {r : List Int} (h : SrcR B w b r) : wfI (r.headD 0) := by
  have := h.wf
  simp only [Go.Proofs.Ytmigkmdhenkpmaa.wfI, Lit.wf, Bool.and_eq_true, decide_eq_true_eq]
  exact ⟨Int.le_trans (by decide) this.1, Int.le_trans this.2 (by decide)⟩

theorem wrap64_wf' (z : Int) : wfI (wrap64 z) := wrap64_wf z

structure SpSt (B b : Nat) (w wi : World) (r : List Int) (g cap : Nat) (l : List Dep) : Prop where
  own : DepT.Own w.heap.size wi (.slice (some ⟨g, 0, none⟩) l.length cap) l
  src : SrcR B wi b r
  grow : w.grownBy wi (some b)
  hb : b < w.heap.size

theorem SpSt.n {B b : Nat} {w wi w' : World} {r r' : List Int} {g cap : Nat} {l : List Dep} (h : SpSt B b w wi r g cap l) (hs : SrcR B w' b r') (hg : wi.grownBy w' (some b)) : SpSt B b w w' r' g cap l where
  own := World.ownsRow.kept h.own hg (.inr (fun e => by have := (World.ownsRow.lt h.own b e).1; have := h.hb; omega))
  src := hs
  grow := grownBy_trans h.grow hg
  hb := h.hb

theorem SpSt.put {B b : Nat} {w wi : World} {r : List Int} {g cap : Nat} {l : List Dep} (h : SpSt B b w wi r g cap l) {k : Nat} {x : Dep} (hx : l[k]? = some x) (j : Nat) (us : List Value) (y : Dep)
    (hy : y.cells.toList = setsFrom x.cells.toList j us) (hj : j + us.length ≤ 10) : SpSt B b w (setCells wi g (k * 10 + j) us) r g cap (l.set k y) := by
  obtain ⟨h1, h2⟩ := DepT.put h.own rfl k hx j us y hy hj
  have hgl := (World.ownsRow.lt h.own g rfl).1
  have hb := h.hb
  have hge := h.src.ge
  refine ⟨by rw [List.length_set]; exact h1, h.src.other h2 (fun q hq => by cases hq; exact ⟨by omega, by omega⟩), grownBy_new h.grow h2 (fun q hq => by cases hq; exact hgl), hb⟩

theorem SpSt.drew {B b : Nat} {w wi : World} {r : List Int} {g cap : Nat} {l : List Dep} (h : SpSt B b w wi r g cap l) : SpSt B b w wi.drew r g cap l :=
  ⟨h.own, h.src.below (below_drewN (Below.refl _ _) 1), ⟨h.grow.os, h.grow.tape, h.grow.output, h.grow.size, h.grow.block⟩, h.hb⟩

theorem set_zero {l : List Dep} {k : Nat} {x y : Dep} (_hx : l[k]? = some x) (hy : l[0]? = some y) : (l.set k y)[0]? = some y := by
  by_cases h : k = 0
  · subst h
    rw [List.getElem?_set_self (List.getElem?_eq_some_iff.1 hy).1]
  · rw [List.getElem?_set_ne h, hy]

theorem SpSt.fin {B b : Nat} {w wi : World} {r : List Int} {g cap n : Nat} {l : List Dep} (h : SpSt B b w wi r g cap l) (hn : n = l.length) (hl : l.length ≤ 30) (hwf : ∀ x ∈ l, DepWf x) : SpoPost B b w (.returned (.slice (some ⟨g, 0, none⟩) n cap)) wi := by
  subst hn
  exact ⟨_, l, r, rfl, h.own, hl, hwf, h.src, h.grow⟩

theorem own_zero (w : World) : DepT.Own w.heap.size (w.alloc (.cells #[] 35)) (.slice (some ⟨w.heap.size, 0, none⟩) 0 0) [] := World.ownsRow_made w #[] 0 (Nat.le_refl _) (Nat.zero_le _) rfl

set_option maxHeartbeats 4000000 in
set_option maxRecDepth 100000 in
theorem Spoilt_any (B b : Nat) (r : List Int) (v : Value) (l : List Dep) (w : World) (h : SrcR B w b r) (hv : DepsV w v l) (hl0 : l.length ≤ 29) (hwf : ∀ x ∈ l, DepWf x) :
    Calls Try.prog 14 #[.pointer (some ⟨b, 0, none⟩), v] w (SpoPost B b w) := by
  have hv' : DepT.V w v l := hv
  obtain ⟨a, c, rfl, la, lc, _⟩ := hv.open
  go_enter Try.func14, Try.ntmps14
  by_cases hl : l = []
  · subst hl
    go_upto_if 12 with (at_builtin; refine DepT.appendV rfl _ _ rfl w.heap.size _ [] _ [] rfl rfl (own_zero w) (hv'.below ((Below.refl _ _).alloc (Nat.le_refl _) _)) (by simp [maxLen]) (by simp) (by rw [size_new]; omega) ?_; intro v5 w5 hO5 hg5; obtain ⟨a5, c5, rfl, la5, lc5, _⟩ := (OwnR.rows DepT.hsz hO5).open)
    go_wp2_with (at_builtin; refine DepT.append1 rfl _ _ rfl w.heap.size _ [] ⟨⟨⟨#[]⟩, 0, ⟨#[]⟩, 0⟩, ⟨#[]⟩, 0, 0, 0, 0, 0⟩ w5 rfl rfl rfl hO5 (by simp [maxLen]) (by simp; decide) (by have := hg5.size; rw [size_new] at this; omega) ?_; intro v6 w6 hO6 hg6)
    go_ret
    have hg5' : (w.alloc (.cells #[] 35)).grownBy w5 (some w.heap.size) := hg5
    have hg05 : w.grownBy w5 (some b) := grownBy_new (World.grownBy_alloc w (.cells #[] 35) (some b)) hg5' (fun q hq => by cases hq; exact Nat.le_refl _)
    have hs5 := (h.below ((Below.refl _ _).alloc (Nat.le_refl _) (.cells #[] 35))).other hg5' (fun q hq => by cases hq; have := h.lt; have := h.ge; exact ⟨by omega, by omega⟩)
    have hge : ∀ q, (Value.slice a5 0 c5).ownBlock = some q → w.heap.size ≤ q := fun q hq => (World.ownsRow.lt hO5 q hq).1
    have hlb := h.lt
    have hgb := h.ge
    refine ⟨_, _, r, rfl, hO6, by simp, ?_, (hs5.below ((Below.refl _ _).alloc (Nat.le_refl _) _)).other hg6 (fun q hq => by have := hge q hq; exact ⟨by omega, by omega⟩), grownBy_new (grownBy_trans hg05 (World.grownBy_alloc _ _ _)) hg6 hge⟩
    intro x hx
    simp at hx
    subst hx
    exact ⟨⟨wfI_of (by decide) (by decide), wfI_of (by decide) (by decide)⟩, wfI_of (by decide) (by decide), wfI_of (by decide) (by decide), wfI_of (by decide) (by decide), wfI_of (by decide) (by decide), wfI_of (by decide) (by decide)⟩
  · have hlp : 0 < l.length := List.length_pos_iff.2 hl
    have hlb : decide ((l.length : Int) = 0) = false := decide_eq_false (by omega)
    go_upto_region 4 with (at_builtin; refine DepT.appendV rfl _ _ rfl w.heap.size _ [] _ l rfl rfl (own_zero w) (hv'.below ((Below.refl _ _).alloc (Nat.le_refl _) _)) (by simp [maxLen]; omega) (by show (0 + _) * 104 ≤ _; omega) (by rw [size_new]; omega) ?_; intro v5 w5 hO5 hg5; obtain ⟨g, cap, rfl, hgb⟩ := own_shape hO5 (by simpa using hlp))
    simp only [List.nil_append] at hO5
    have hg5' : (w.alloc (.cells #[] 35)).grownBy w5 (some w.heap.size) := hg5
    have hg05 : w.grownBy w5 (some b) := grownBy_new (World.grownBy_alloc w (.cells #[] 35) (some b)) hg5' (fun q hq => by cases hq; exact Nat.le_refl _)
    have S5 : SpSt B b w w5 r g cap l := ⟨hO5, (h.below ((Below.refl _ _).alloc (Nat.le_refl _) (.cells #[] 35))).other hg5' (fun q hq => by cases hq; have := h.lt; have := h.ge; exact ⟨by omega, by omega⟩), hg05, h.lt⟩
    have mk := modF_bd (r.headD 0) (l.length : Int) (by omega)
    have QN := N_any B b r (l.length : Int) w5 S5.src (by omega)
    generalize modF (r.headD 0) (l.length : Int) = kk at *
    obtain ⟨k, rfl⟩ : ∃ k : Nat, kk = k := ⟨kk.toNat, by omega⟩
    have m9 := modF_bd (r.tail.headD 0) 9 (by omega)
    have Q9 := fun w' h' => N_any B b r.tail 9 w' h' (by omega)
    generalize modF (r.tail.headD 0) 9 = x9 at *
    have tokA : True := trivial
    have hkl : k < l.length := by omega
    have hki : (k : Int) < (l.length : Int) := by omega
    have hk0 : (0 : Int) < (l.length : Int) := by omega
    have HS5 := Lib.hid S5
    clear S5 hO5 hg5 hg5' hg05 hv hv' lc
    go_upto_block 0 with (first
      | (go_at_call 21; have _t := tokA; refine QN.mono ?_; clear tokA _t; rintro e w6 ⟨rfl, hs6, hg6⟩)
      | (go_at_call 21; refine (Q9 w6 hs6).mono ?_; rintro e w7 ⟨rfl, hs7, hg7⟩))
    have HS7 := Lib.hid ((HS5.out.n hs6 hg6).n hs7 hg7)
    clear HS5 hs6 hg6 hs7 hg7 QN Q9
    generalize r.tail.tail = r7 at *
    obtain ⟨x, hx, cc, fz⟩ := own_dep HS7.out.own k hkl
    obtain ⟨g0, g1, g2, g3, g4, g5, g6, g7, g8, g9⟩ := dep_at cc
    obtain ⟨y, hy, cc0, -⟩ := own_dep HS7.out.own 0 (by omega)
    rw [Nat.zero_mul] at cc0
    obtain ⟨y0, y1, y2, y3, y4, y5, y6, y7, y8, y9⟩ := dep_at cc0
    have W := hwf x (List.mem_of_getElem? hx)
    have WY := hwf y (List.mem_of_getElem? hy)
    have HX := Lib.hid hx
    have HY := Lib.hid hy
    have HWF := Lib.hid hwf
    have HRW := Lib.hid HS7.out.src.wfI
    have hl30 : l.length ≤ 29 := hl0
    have z1 := fz (k * 10 + 1)
    have z4 := fz (k * 10 + 4)
    have z5 := fz (k * 10 + 5)
    have z7 := fz (k * 10 + 7)
    have FZ := Lib.hid fz
    clear cc cc0 hx hy fz hwf h
    obtain ⟨⟨c2, n2, s2, d2⟩, p, op, cl, le, st, sa⟩ := x
    obtain ⟨⟨yc2, yn2, ys2, yd2⟩, yp, yop, ycl, yle, yst, ysa⟩ := y
    simp only [Nat.zero_add] at g0 g1 g2 g3 g4 g5 g6 g7 g8 g9 y0 y1 y2 y3 y4 y5 y6 y7 y8 y9
    rcases (by omega : x9 = 0 ∨ x9 = 1 ∨ x9 = 2 ∨ x9 = 3 ∨ x9 = 4 ∨ x9 = 5 ∨ x9 = 6 ∨ x9 = 7 ∨ x9 = 8) with rfl | rfl | rfl | rfl | rfl | rfl | rfl | rfl | rfl
    · go_wp2
      go_ret
      exact (HS7.out.put HX.out 5 [.int .i64 cl] ⟨⟨c2, n2, s2, d2⟩, p, cl, cl, le, st, sa⟩ rfl (by simp)).fin (by rw [List.length_set]) (by rw [List.length_set]; omega) (set_wf HWF.out k ⟨⟨W.1.1, W.1.2⟩, W.2.2.1, W.2.2.1, W.2.2.2.1, W.2.2.2.2.1, W.2.2.2.2.2⟩)
    · go_wp2
      go_ret
      exact (HS7.out.put HX.out 7 [.int .i64 (wrap64 (cl - 1))] ⟨⟨c2, n2, s2, d2⟩, p, op, cl, (wrap64 (cl - 1)), st, sa⟩ rfl (by simp)).fin (by rw [List.length_set]) (by rw [List.length_set]; omega) (set_wf HWF.out k ⟨⟨W.1.1, W.1.2⟩, W.2.1, W.2.2.1, wrap64_wf' _, W.2.2.2.2.1, W.2.2.2.2.2⟩)
    · go_wp2_with (go_at_call 37; refine (Raw_any B b r7 w7 HS7.out.src).mono ?_; rintro e w8 ⟨rfl, hs8, hg8⟩; have HS8 := Lib.hid (HS7.out.n hs8 hg8); obtain ⟨x', hx', cc', fz'⟩ := own_dep HS8.out.own k hkl; obtain rfl := Option.some.inj (hx'.symm.trans HX.out); obtain ⟨t0, t1, t2, t3, t4, t5, t6, t7, t8, t9⟩ := dep_at cc'; have z := fz' (k * 10 + 8); generalize hraw : r7.headD 0 = raw)
      go_ret
      exact (HS8.out.put HX.out 8 [.int .i64 raw] ⟨⟨c2, n2, s2, d2⟩, p, op, cl, le, raw, sa⟩ rfl (by simp)).fin (by rw [List.length_set]) (by rw [List.length_set]; omega) (set_wf HWF.out k ⟨⟨W.1.1, W.1.2⟩, W.2.1, W.2.2.1, W.2.2.2.1, (hraw ▸ HRW.out), W.2.2.2.2.2⟩)
    · go_wp2_with (go_at_call 37; refine (Raw_any B b r7 w7 HS7.out.src).mono ?_; rintro e w8 ⟨rfl, hs8, hg8⟩; have HS8 := Lib.hid (HS7.out.n hs8 hg8); obtain ⟨x', hx', cc', fz'⟩ := own_dep HS8.out.own k hkl; obtain rfl := Option.some.inj (hx'.symm.trans HX.out); obtain ⟨t0, t1, t2, t3, t4, t5, t6, t7, t8, t9⟩ := dep_at cc'; have z := fz' (k * 10 + 9); generalize hraw : r7.headD 0 = raw)
      go_ret
      exact (HS8.out.put HX.out 9 [.int .i64 raw] ⟨⟨c2, n2, s2, d2⟩, p, op, cl, le, st, raw⟩ rfl (by simp)).fin (by rw [List.length_set]) (by rw [List.length_set]; omega) (set_wf HWF.out k ⟨⟨W.1.1, W.1.2⟩, W.2.1, W.2.2.1, W.2.2.2.1, W.2.2.2.2.1, (hraw ▸ HRW.out)⟩)
    · have z0 := FZ.out (k * 10)
      have z2 := FZ.out (k * 10 + 2)
      have z3 := FZ.out (k * 10 + 3)
      go_wp2
      go_ret
      exact (HS7.out.put HX.out 0 [.string yc2, .int .i64 yn2, .string ys2, .int .i64 yd2] ⟨⟨yc2, yn2, ys2, yd2⟩, p, op, cl, le, st, sa⟩ rfl (by simp)).fin (by rw [List.length_set]) (by rw [List.length_set]; omega) (set_wf HWF.out k ⟨⟨WY.1.1, WY.1.2⟩, W.2.1, W.2.2.1, W.2.2.2.1, W.2.2.2.2.1, W.2.2.2.2.2⟩)
    · have P1 := HS7.out.put HX.out 0 [.string yc2, .int .i64 yn2, .string ys2, .int .i64 yd2, .string yp, .int .i64 yop, .int .i64 ycl, .int .i64 yle, .int .i64 yst, .int .i64 ysa] ⟨⟨yc2, yn2, ys2, yd2⟩, yp, yop, ycl, yle, yst, ysa⟩ rfl (by simp)
      have P2 := P1.put (set_zero HX.out HY.out) 0 [.string c2, .int .i64 n2, .string s2, .int .i64 d2, .string p, .int .i64 op, .int .i64 cl, .int .i64 le, .int .i64 st, .int .i64 sa] ⟨⟨c2, n2, s2, d2⟩, p, op, cl, le, st, sa⟩ rfl (by simp)
      have PF := Lib.hid (P2.drew.fin (n := l.length) (by rw [List.length_set, List.length_set]) (by rw [List.length_set, List.length_set]; omega) (set_wf (set_wf HWF.out k WY) 0 W))
      clear P1 P2
      by_cases hk0 : k = 0
      · subst hk0
        have e := Option.some.inj (HX.out.symm.trans HY.out)
        simp only [Dep.mk.injEq, Flt.mk.injEq] at e
        obtain ⟨⟨rfl, rfl, rfl, rfl⟩, rfl, rfl, rfl, rfl, rfl, rfl⟩ := e
        have a0 := FZ.out 0
        have a1 := FZ.out 1
        have a2 := FZ.out 2
        have a3 := FZ.out 3
        have a4 := FZ.out 4
        have a5 := FZ.out 5
        have a6 := FZ.out 6
        have a7 := FZ.out 7
        have a8 := FZ.out 8
        have a9 := FZ.out 9
        clear z1 z4 z5 z7 g0 g1 g2 g3 g4 g5 g6 g7 g8 g9
        go_wp2
        go_region
        go_wp2
        go_ret
        exact PF.out
      · obtain ⟨K, hK⟩ : ∃ K, k * 10 = K + 10 := ⟨k * 10 - 10, by omega⟩
        rw [hK] at g0 g1 g2 g3 g4 g5 g6 g7 g8 g9 PF
        simp only [Nat.add_assoc, Nat.reduceAdd] at g0 g1 g2 g3 g4 g5 g6 g7 g8 g9
        have a0 := FZ.out 0
        have b0 := FZ.out (K + 10)
        have a1 := FZ.out 1
        have b1 := FZ.out (K + 11)
        have a2 := FZ.out 2
        have b2 := FZ.out (K + 12)
        have a3 := FZ.out 3
        have b3 := FZ.out (K + 13)
        have a4 := FZ.out 4
        have b4 := FZ.out (K + 14)
        have a5 := FZ.out 5
        have b5 := FZ.out (K + 15)
        have a6 := FZ.out 6
        have b6 := FZ.out (K + 16)
        have a7 := FZ.out 7
        have b7 := FZ.out (K + 17)
        have a8 := FZ.out 8
        have b8 := FZ.out (K + 18)
        have a9 := FZ.out 9
        have b9 := FZ.out (K + 19)
        clear z1 z4 z5 z7
        go_wp2
        go_region
        go_wp2
        go_ret
        exact PF.out
    · go_wp2_with (go_at_call 37; refine (Raw_any B b r7 w7 HS7.out.src).mono ?_; rintro e w8 ⟨rfl, hs8, hg8⟩; have HS8 := Lib.hid (HS7.out.n hs8 hg8); obtain ⟨x', hx', cc', fz'⟩ := own_dep HS8.out.own k hkl; obtain rfl := Option.some.inj (hx'.symm.trans HX.out); obtain ⟨t0, t1, t2, t3, t4, t5, t6, t7, t8, t9⟩ := dep_at cc'; have z := fz' (k * 10 + 5); generalize hraw : r7.headD 0 = raw)
      go_ret
      exact (HS8.out.put HX.out 5 [.int .i64 raw] ⟨⟨c2, n2, s2, d2⟩, p, raw, cl, le, st, sa⟩ rfl (by simp)).fin (by rw [List.length_set]) (by rw [List.length_set]; omega) (set_wf HWF.out k ⟨⟨W.1.1, W.1.2⟩, (hraw ▸ HRW.out), W.2.2.1, W.2.2.2.1, W.2.2.2.2.1, W.2.2.2.2.2⟩)
    · go_wp2
      go_ret
      exact (HS7.out.put HX.out 4 [.string ⟨#[120]⟩] ⟨⟨c2, n2, s2, d2⟩, ⟨#[120]⟩, op, cl, le, st, sa⟩ rfl (by simp)).fin (by rw [List.length_set]) (by rw [List.length_set]; omega) (set_wf HWF.out k ⟨⟨W.1.1, W.1.2⟩, W.2.1, W.2.2.1, W.2.2.2.1, W.2.2.2.2.1, W.2.2.2.2.2⟩)
    · go_wp2_with (go_at_call 37; refine (Raw_any B b r7 w7 HS7.out.src).mono ?_; rintro e w8 ⟨rfl, hs8, hg8⟩; have HS8 := Lib.hid (HS7.out.n hs8 hg8); obtain ⟨x', hx', cc', fz'⟩ := own_dep HS8.out.own k hkl; obtain rfl := Option.some.inj (hx'.symm.trans HX.out); obtain ⟨t0, t1, t2, t3, t4, t5, t6, t7, t8, t9⟩ := dep_at cc'; have z := fz' (k * 10 + 1); generalize hraw : r7.headD 0 = raw)
      go_ret
      exact (HS8.out.put HX.out 1 [.int .i64 raw] ⟨⟨c2, raw, s2, d2⟩, p, op, cl, le, st, sa⟩ rfl (by simp)).fin (by rw [List.length_set]) (by rw [List.length_set]; omega) (set_wf HWF.out k ⟨⟨(hraw ▸ HRW.out), W.1.2⟩, W.2.1, W.2.2.1, W.2.2.2.1, W.2.2.2.2.1, W.2.2.2.2.2⟩)
end Go.Proofs.Ytmigkmdhenkpmaa
