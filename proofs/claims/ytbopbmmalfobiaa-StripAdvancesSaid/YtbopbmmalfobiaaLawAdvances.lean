/- Law StripAdvances returns true for every input and changes nothing that was there. -/
import Derived.Test.YtbopbmmalfobiaaStripL
import Derived.Test.YtbopbmmalfobiaaStripR
import Derived.Deep.RegionHeld3
namespace Go.Proofs.Ytbopbmmalfobiaa
open Go.RowKit

/-- what the law's table of pairs holds in place k, in a world -/
def PairAt (w : World) (g : Nat) (k : Nat) : Prop :=
  ∃ sv fv sl fl, w.cell? ⟨g, k * 2, none⟩ = some sv ∧ w.cell? ⟨g, k * 2 + 1, none⟩ = some fv ∧ IntsV w sv sl ∧ IntsV w fv fl ∧ sl.length ≤ 1000 ∧ fl.length ≤ 1000

/-- a box of two cells, as a round of the law makes it -/
def Box2 (w : World) (b : Nat) (x y : Value) : Prop := w.cell? ⟨b, 0, none⟩ = some x ∧ w.cell? ⟨b, 1, none⟩ = some y ∧ b < w.heap.size
theorem box_new (w : World) (x y : Value) (T : TypeId) : Box2 (w.alloc (.cells #[x, y] T)) w.heap.size x y :=
  ⟨World.cell?_alloc_new _ _ _ _, World.cell?_alloc_new _ _ _ _, by simp⟩
theorem Box2.keep {w w' : World} {b : Nat} {x y : Value} (h : Box2 w b x y) (hB : Below w.heap.size w w') : Box2 w' b x y :=
  ⟨(hB.cell (p := ⟨b, 0, none⟩) h.2.2).trans h.1, (hB.cell (p := ⟨b, 1, none⟩) h.2.2).trans h.2.1, Nat.lt_of_lt_of_le h.2.2 hB.size⟩

set_option maxRecDepth 100000 in
set_option maxHeartbeats 2000000 in
theorem StripAdvances_any (sv fv : Value) (s fs : List Int) (op : Bool) (bag : Int) (v : Value) (l : List Int) (w : World) (hs : IntsV w sv s) (hf : IntsV w fv fs) (hv : IntsV w v l) (hbag : (Lit.int .i64 bag).wf = true) :
    Calls Try.prog 7 #[sv, fv, .bool op, .int .i64 bag, v] w fun e w' => e = .returned (.bool true) ∧ Below w.heap.size w w' := by
  obtain ⟨sa, sc, rfl, _⟩ := hs.open
  obtain ⟨fa, fc, rfl, _⟩ := hf.open
  have WN := windows_any v l w hv
  obtain ⟨a, cap, rfl, _⟩ := hv
  by_cases h60 : s.length ≤ 60
  · by_cases h80 : fs.length ≤ 80
    · go_enter Try.func7, Try.ntmps7
      go_wp2_with (first
        | (go_at_call 8; refine WN.mono ?_; rintro e w1 ⟨v1, v2, ws, gs, rfl, hI1, hI2, hok, hB1⟩; have hn8 := hok.2.1; have hg8 : gs.length ≤ 8 := (by rw [hok.2.2.1]; exact hok.2.1); have hs1 := hs.below hB1; have hf1 := hf.below hB1; obtain ⟨a1, c1, rfl, _⟩ := hI1.open; obtain ⟨a2, c2, rfl, _⟩ := hI2.open))
      obtain ⟨w2, hw2⟩ : ∃ w2, w1.alloc (.cells #[.slice sa s.length sc, .slice fa fs.length fc, .slice a1 ws.length c1, .slice a2 gs.length c2, .slice a1 ws.length c1, .slice fa fs.length fc] 37) = w2 := ⟨_, rfl⟩
      have hB2 : Below w1.heap.size w1 w2 := by rw [← hw2]; exact (Below.refl _ _).alloc (Nat.le_refl _) _
      have hgl : w1.heap.size < w2.heap.size := by rw [← hw2]; simp
      have P0 : PairAt w2 w1.heap.size 0 := ⟨_, _, s, fs, by rw [← hw2]; exact World.cell?_alloc_new _ _ _ _, by rw [← hw2]; exact World.cell?_alloc_new _ _ _ _, hs1.below hB2, hf1.below hB2, by omega, by omega⟩
      have P1 : PairAt w2 w1.heap.size 1 := ⟨_, _, ws, gs, by rw [← hw2]; exact World.cell?_alloc_new _ _ _ _, by rw [← hw2]; exact World.cell?_alloc_new _ _ _ _, hI1.below hB2, hI2.below hB2, by omega, by omega⟩
      have P2 : PairAt w2 w1.heap.size 2 := ⟨_, _, ws, fs, by rw [← hw2]; exact World.cell?_alloc_new _ _ _ _, by rw [← hw2]; exact World.cell?_alloc_new _ _ _ _, hI1.below hB2, hf1.below hB2, by omega, by omega⟩
      have hB02 := hB1.trans (hB2.mono hB1.size)
      rw [hw2]
      clear hs1 hf1 hs hf WN hI1 hI2 hB1 hB2 hw2 hok
      generalize w1.heap.size = g at *
      have PP : ∀ k : Int, 0 ≤ k → k < 3 → PairAt w2 g k.toNat := by
        intro k h0 h3
        have : k = 0 ∨ k = 1 ∨ k = 2 := by omega
        rcases this with rfl | rfl | rfl
        · exact P0
        · exact P1
        · exact P2
      clear P0 P1 P2
      go_loopw [48] (fun i wr => ∃ k : Int, 0 ≤ k ∧ k ≤ 3 ∧ i = .int .i64 k ∧ Below w2.heap.size w2 wr) (fun i _ => (3 - intOf i).toNat)
      case atStart => exact ⟨0, by omega, by omega, rfl, Below.refl _ _⟩
      case round =>
        obtain ⟨k, hk0, hk3, rfl, hBr⟩ := hrel
        by_cases hk : k < 3
        · obtain ⟨sv, fv, sl, fl, q1, q2, hIs0, hIf0, b1, b2⟩ := PP k hk0 hk
          have c1' := (hBr.cell (p := ⟨g, k.toNat * 2, none⟩) hgl).trans q1
          have c2' := (hBr.cell (p := ⟨g, k.toNat * 2 + 1, none⟩) hgl).trans q2
          have hIs := hIs0.below hBr
          have hIf := hIf0.below hBr
          clear hIs0 hIf0 q1 q2
          obtain ⟨sla, slc, rfl, _⟩ := hIs.open
          obtain ⟨fla, flc, rfl, _⟩ := hIf.open
          have tok1 : True := trivial
          have tok2 : True := trivial
          have hN := fun (o : Obj) => (Below.refl wr.heap.size wr).alloc (Nat.le_refl _) o
          go_wp2_with (first
            | (go_at_call 10; refine (Advance_any _ _ sl fl op _ (hIs.below (hN _)) (hIf.below (hN _)) (by omega)).mono ?_; rintro e w3 ⟨hB3, v3, rfl, hA3⟩; have hC3 := (box_new wr (.slice sla sl.length slc) (.slice fla fl.length flc) 37).keep hB3; have hT3 := (hN (.cells #[.slice sla sl.length slc, .slice fla fl.length flc] 37)).trans (hB3.mono (by simp)); have hIs3 := hIs.below hT3; have hIf3 := hIf.below hT3; obtain ⟨d0, d1, _⟩ := id hC3; have HAR := Lib.hid (advanceR_eq sl fl op); generalize advance sl fl op = r at *; obtain ⟨x, y⟩ := r)
            | (go_at_call 18; refine (AdvanceR_any _ _ sl fl op _ hIs3 hIf3 (by omega)).mono ?_; rw [HAR.out]; rintro e w4 ⟨hB4, v4, rfl, hA4⟩; have hC4 := hC3.keep hB4; have hT4 := hT3.trans (hB4.mono hT3.size); have hIs4 := hIs.below hT4; have hA34 := hA3.ints.below hB4; obtain ⟨d04, d14, _⟩ := id hC4)
            | (go_at_call 19; refine (Push_any _ sl bag _ hIs4 (by omega) hbag).mono ?_; rintro e w5 ⟨hB5, v5, ok, rfl, hok5, hP5⟩; have hC5 := hC4.keep hB5; have hT5 := hT4.trans (hB5.mono hT4.size); have hIs5 := hIs.below hT5; have hA35 := hA34.below hB5; have hA45 := hA4.ints.below hB5; obtain ⟨d05, d15, _⟩ := id hC5; subst hok5)
            | (go_at_call 20; refine (PushR_any _ sl bag _ hIs5 (by omega) hbag).mono ?_; rintro e w6 ⟨hB6, v6, ok, rfl, hok6, hP6⟩; have hC6 := hC5.keep hB6; have hT6 := hT5.trans (hB6.mono hT5.size); have hIs6 := hIs.below hT6; have hA36 := hA35.below hB6; have hA46 := hA45.below hB6; have hP56 := hP5.below hB6; obtain ⟨d06, d16, _⟩ := id hC6; subst hok6; clear hT3 hT4 hT5 hC3 hC4 hC5))
          generalize pushF sl bag = pf at *
          have q6 := hC6.1
          go_region_held3 (fun w' => w'.cell? ⟨wr.heap.size, 0, none⟩ = some (.slice sla sl.length slc)) (first | exact q6 | exact q7 | exact q8 | exact q9 | exact q10 | exact q11) (first
            | (go_at_call 11; have _t := tok1; refine (Ints_same _ _ x x w6.drew hA36 hA46 rfl).mono ?_; clear tok1 _t; rintro e w7 ⟨rfl, hB7d⟩; have hB7 := ((Below.refl w6.heap.size w6).drew).trans hB7d; have hT7 := hT6.trans (hB7.mono hT6.size); have hp5 := hP56.below hB7; have hp6 := hP6.below hB7; have hC7 := hC6.keep hB7; have q7 := hC7.1)
            | (go_at_call 11; have _t := tok2; refine (Ints_same _ _ (pf.getD []) (pf.getD []) w7 hp5 hp6 rfl).mono ?_; clear tok2 _t; rintro e w8 ⟨rfl, hB8⟩; have hT8 := hT7.trans (hB8.mono hT7.size); have hC8 := hC7.keep hB8; have hIs8 := hIs.below hT8; have q8 := hC8.1)
            | (go_at_call 14; refine (Free_any _ sl _ hIs8).mono ?_; rintro e w' ⟨rfl, rfl⟩)
            | (go_at_call 15; refine (FreeR_any _ sl _ hIs8).mono ?_; rintro e w' ⟨rfl, rfl⟩)
            | (go_at_call 9; refine (Bags_any _ sl _ hIs8 (by omega)).mono ?_; rintro e w9 ⟨v9, rfl, hO9, hB9⟩; have hT9 := hT8.trans (hB9.mono hT8.size); have hC9 := hC8.keep hB9; have hIs9 := hIs.below hT9; have q9 := hC9.1)
            | (go_at_call 13; refine (BagsR_any _ sl _ hIs9 (by omega)).mono ?_; rintro e w10 ⟨v10, rfl, hO10, hB10⟩; have hT10 := hT9.trans (hB10.mono hT9.size); have hI910 := hO9.ints.below hB10; have q10 := (hC9.keep hB10).1)
            | (go_at_call 11; refine (Ints_same _ _ (bagsF sl) (bagsF sl) w10 hI910 hO10.ints rfl).mono ?_; rintro e w11 ⟨rfl, hB11⟩; have hT11 := hT10.trans (hB11.mono hT10.size); have q11 := ((hC9.keep hB10).keep hB11).1))
          go_wp2
          go_roundw
          case rel => exact ⟨k + 1, by omega, by omega, rfl, hBr.trans (hT11.mono hBr.size)⟩
          case measure => simp [intOf]; omega
        · obtain rfl : k = 3 := by omega
          go_wp2_with (go_at_call 12; refine (awake_any _).mono ?_; rintro e w6 ⟨rfl, hB6⟩)
          go_ret
          have qq := hB02.trans (hBr.mono hB02.size)
          exact ⟨rfl, qq.trans (hB6.mono qq.size)⟩
    · have h80' : (80 : Int) < (fs.length : Int) := by omega
      have h60' : ¬ (60 : Int) < (s.length : Int) := by omega
      go_enter Try.func7, Try.ntmps7
      go_wp2_with (go_at_call 12; refine (awake_any _).mono ?_; rintro e w6 ⟨rfl, hB6⟩)
      go_ret
      exact ⟨rfl, hB6⟩
  · have h60' : (60 : Int) < (s.length : Int) := by omega
    go_enter Try.func7, Try.ntmps7
    go_wp2_with (go_at_call 12; refine (awake_any _).mono ?_; rintro e w6 ⟨rfl, hB6⟩)
    go_ret
    exact ⟨rfl, hB6⟩
end Go.Proofs.Ytbopbmmalfobiaa
