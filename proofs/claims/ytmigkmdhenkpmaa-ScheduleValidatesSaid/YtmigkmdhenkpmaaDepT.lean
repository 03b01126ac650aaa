/- keep.Schedule: the walk. -/
import Derived.Test.YtmigkmdhenkpmaaDepS
namespace Go.Proofs.Ytmigkmdhenkpmaa
open Go.RowKit

theorem grownBy_new {w w1 w2 : World} {b : Nat} {row : Option Nat} (h : w.grownBy w1 (some b)) (k : w1.grownBy w2 row) (hr : ∀ g, row = some g → w.heap.size ≤ g) : w.grownBy w2 (some b) :=
  ⟨k.os.trans h.os, k.tape.trans h.tape, k.output.trans h.output, Nat.le_trans h.size k.size, fun i hi hn => (k.block i (Nat.lt_of_lt_of_le hi h.size) (fun e => by have := hr i e.symm; omega)).trans (h.block i hi hn)⟩

theorem size_set (w : World) (p : Addr) (u : Value) : (w.setCell p u).heap.size = w.heap.size := by simp [World.setCell]

def stN (k : Nat) : Int := if k < 4 then 0 else if k = 4 then 1 else 2

theorem states_at (k : Nat) (hk : k < 6) : (#[.int .i64 0, .int .i64 0, .int .i64 0, .int .i64 0, .int .i64 1, .int .i64 2] : Array Value)[k]? = some (.int .i64 (stN k)) := by
  match k, hk with
  | 0, _ => rfl
  | 1, _ => rfl
  | 2, _ => rfl
  | 3, _ => rfl
  | 4, _ => rfl
  | 5, _ => rfl

set_option maxHeartbeats 4000000 in
theorem Schedule_any (B b most : Nat) (r : List Int) (w : World) (hmost : most ≤ 100) (h : SrcR B w b r) :
    Calls Try.prog 12 #[.pointer (some ⟨b, 0, none⟩), .int .i64 most] w (SchedPost B b most w) := by
  have hbw := h.lt
  have mn := modF_bd (r.headD 0) ((most : Int) + 1) (by omega)
  have QN := N_any B b r ((most : Int) + 1) w h (by omega)
  generalize modF (r.headD 0) ((most : Int) + 1) = n0 at *
  obtain ⟨n, rfl⟩ : ∃ n : Nat, n0 = n := ⟨n0.toNat, by omega⟩
  have tokA : True := trivial
  have tokB : True := trivial
  go_enter Try.func12, Try.ntmps12
  go_wp2_with (go_at_call 21; refine QN.mono ?_; rintro e w1 ⟨rfl, hs1, hg1⟩)
  go_loopw [6, 7, 8] (fun o a i wr => ∃ (k at_ : Nat) (l : List Dep) (r' : List Int), a = .int .i64 at_ ∧ i = .int .i64 k ∧ k ≤ n ∧ l.length = k ∧ DepT.Own w.heap.size wr o l ∧ SrcR B wr b r' ∧ w.grownBy wr (some b) ∧ Hid (at_ ≤ 27 ∧ vErr none l = 0 ∧ ∀ q, lastF none l = some q → ∃ j, j < at_ ∧ q = FL j))
    (fun _ _ i _ => n - (intOf i).toNat)
  case atStart => exact ⟨0, 0, [], _, rfl, rfl, Nat.zero_le _, rfl, OwnR.nil _ _ _ _ _, hs1, hg1, by omega, rfl, fun q hq => by cases hq⟩
  case round =>
    clear QN hs1 hg1
    obtain ⟨k, a, l, r', rfl, rfl, hk, hlk, hO, hs, hg, hI⟩ := hrel
    have HLK := Lib.hid hlk
    clear hlk
    by_cases hkn : k < n
    · have hkb : decide ((k : Int) < (n : Int)) = true := decide_eq_true (by omega)
      by_cases ha : a < 27
      · have hab : decide ((a : Int) < 27) = true := decide_eq_true (by omega)
        have m3 := modF_bd (r'.headD 0) 3 (by omega)
        have Q3 := N_any B b r' 3 wr hs (by omega)
        generalize modF (r'.headD 0) 3 = x3 at *
        obtain ⟨x, rfl⟩ : ∃ x : Nat, x3 = x := ⟨x3.toNat, by omega⟩
        by_cases h27 : a + x < 27
        · have h27b : decide ((27 : Int) ≤ (a : Int) + (x : Int)) = false := decide_eq_false (by omega)
          have hax : ((a : Int) + (x : Int)).toNat = a + x := by omega
          have FX := Lib.hid (fun w => Flights_any ((a : Int) + (x : Int)) (by omega) w)
          rw [hax] at FX
          clear hax
          have HFV := Lib.hid (FL_ok (a + x) h27)
          have HF : (FL (a + x)).cells = #[.string (FL (a + x)).car, .int .i64 (FL (a + x)).num, .string (FL (a + x)).suf, .int .i64 (FL (a + x)).day] := rfl
          obtain ⟨f, hf⟩ : ∃ f, f = FL (a + x) := ⟨_, rfl⟩
          rw [← hf] at FX HFV
          have HF := Lib.hid hf
          clear hf
          obtain ⟨c1, n1, s1, d1⟩ := f
          go_wp2_with (first
            | (go_at_call 21; have _t := tokA; refine Q3.mono ?_; clear tokA _t; rintro e w2 ⟨rfl, hs2, hg2⟩)
            | (go_at_call 25; refine (FX.out _).mono ?_; rintro e w3 ⟨rfl, hB3⟩; simp only [Flt.cells]; have hs3 := hs2.below hB3)
            | (go_at_call 36; refine (Port_any B b _ w3 hs3).mono ?_; rintro e w4 ⟨s, rfl, hls, hs4, hg4⟩; have HLS := Lib.hid hls; clear hls; generalize List.tail _ = r4 at hs4)
            | (go_at_call 21; have _t := tokB; have m40 := modF_bd (r4.headD 0) 40 (by omega); refine (N_any B b r4 40 w4 hs4 (by omega)).mono ?_; clear tokB _t; rintro e w5 ⟨rfl, hs5, hg5⟩; generalize modF (r4.headD 0) 40 = y40 at *; generalize List.tail r4 = r5 at hs5)
            | (go_at_call 21; have m100 := modF_bd (r5.headD 0) 100 (by omega); refine (N_any B b r5 100 w5 hs5 (by omega)).mono ?_; rintro e w6 ⟨rfl, hs6, hg6⟩; generalize modF (r5.headD 0) 100 = y100 at *; generalize List.tail r5 = r6 at hs6))
          have hO2 : DepT.Own w.heap.size w2 u6 l := World.ownsRow.kept hO hg2 (.inr (fun e => by have := (World.ownsRow.lt hO b e).1; omega))
          have hg3 := grownBy_trans (grownBy_trans hg hg2) (grownBy_below (row := some b) hB3)
          have hO3 : DepT.Own w.heap.size w3 u6 l := World.ownsRow.kept hO2 (grownBy_below (row := some b) hB3) (.inr (fun e => by have := (World.ownsRow.lt hO2 b e).1; omega))
          have hg36 := grownBy_trans (grownBy_trans hg4 hg5) hg6
          have hO6 : DepT.Own w.heap.size w6 u6 l := World.ownsRow.kept hO3 hg36 (.inr (fun e => by have := (World.ownsRow.lt hO3 b e).1; omega))
          have hgW := grownBy_trans hg3 hg36
          generalize hW : w6.alloc _ = W
          have SW : St B b w W r6 u6 l w6.heap.size #[.string c1, .int .i64 n1, .string s1, .int .i64 d1, .string s, .int .i64 y40, .int .i64 0, .int .i64 0, .int .i64 y100, .int .i64 0] := by
            rw [← hW]
            exact ⟨hs6.below ((Below.refl _ _).alloc (Nat.le_refl _) _), World.ownsRow.alloc hO6 _, grownBy_trans hgW (World.grownBy_alloc _ _ _), heap_alloc_new _ _, hgW.size, fun g hv e => by have := (World.ownsRow.lt hO6 g hv).2; omega, hbw⟩
          clear hW hO hO2 hO3 hO6 hs hs2 hs3 hs4 hs5 hs6 hg hg2 hB3 hg3 hg4 hg5 hg6 hg36 hgW Q3
          generalize w6.heap.size = nd at *
          have q2 := cell_of SW.blk (i := 5) rfl
          have q3 := cell_of SW.blk (i := 6) rfl
          have z3 := frozen_of_row _ _ 6 _ _ SW.blk
          have HSW := Lib.hid SW
          clear SW
          have m20 := modF_bd (r6.headD 0) 20 (by omega)
          have Q20 := N_any B b r6 20 W.drew HSW.out.drew.src (by omega)
          generalize modF (r6.headD 0) 20 = y20 at *
          have hw1 : IntKind.i64.wrap (y40 + 1) = y40 + 1 := IntWalk.i64_in _ (by omega)
          have hw2 : IntKind.i64.wrap (y40 + 1 + y20) = y40 + 1 + y20 := IntWalk.i64_in _ (by omega)
          go_region_held3 (fun w' => w'.cell? ⟨nd, 5, none⟩ = some (.int .i64 y40)) (first | exact q2 | exact q2' | exact cell_of (S7.set 6 _).blk (i := 5) rfl) (first
            | (go_at_call 21; refine Q20.mono ?_; rintro e w7 ⟨rfl, hs7, hg7⟩; have S7 := HSW.out.drew.n hs7 hg7; have q2' := cell_of S7.blk (i := 5) rfl; have q3' := cell_of S7.blk (i := 6) rfl; have z3' := frozen_of_row _ _ 6 _ _ S7.blk))
          obtain ⟨yc, hyc⟩ : ∃ yc, yc = y40 + 1 + y20 := ⟨_, rfl⟩
          rw [← hyc]
          have S8 : St B b w (w7.setCell ⟨nd, 6, none⟩ (.int .i64 yc)) r6.tail u6 l nd #[.string c1, .int .i64 n1, .string s1, .int .i64 d1, .string s, .int .i64 y40, .int .i64 yc, .int .i64 0, .int .i64 y100, .int .i64 0] := S7.set 6 (.int .i64 yc)
          generalize w7.setCell ⟨nd, 6, none⟩ (.int .i64 yc) = W8 at *
          rename_i hheld
          clear hheld q2 q3 z3 q2' q3' z3' S7 hs7 hg7 HSW Q20 hw1 hw2
          generalize List.tail r6 = r7 at *
          go_wp2
          have q2 := cell_of S8.blk (i := 6) rfl
          have q3 := cell_of S8.blk (i := 7) rfl
          have z3 := frozen_of_row _ _ 7 _ _ S8.blk
          have HSW := Lib.hid S8
          clear S8
          have m10 := modF_bd (r7.headD 0) 10 (by omega)
          have Q10 := N_any B b r7 10 W8.drew HSW.out.drew.src (by omega)
          generalize modF (r7.headD 0) 10 = y10 at *
          have hw1 : IntKind.i64.wrap (yc + y10) = yc + y10 := IntWalk.i64_in _ (by omega)
          have HYC := Lib.hid hyc
          clear hyc
          go_region_held3 (fun w' => w'.cell? ⟨nd, 6, none⟩ = some (.int .i64 yc)) (first | exact q2 | exact q2' | exact cell_of (S9.set 7 _).blk (i := 6) rfl) (first
            | (go_at_call 21; refine Q10.mono ?_; rintro e w9 ⟨rfl, hs9, hg9⟩; have S9 := HSW.out.drew.n hs9 hg9; have q2' := cell_of S9.blk (i := 6) rfl; have q3' := cell_of S9.blk (i := 7) rfl; have z3' := frozen_of_row _ _ 7 _ _ S9.blk))
          obtain ⟨yl, hyl⟩ : ∃ yl, yl = yc + y10 := ⟨_, rfl⟩
          rw [← hyl]
          have S10 : St B b w (w9.setCell ⟨nd, 7, none⟩ (.int .i64 yl)) r7.tail u6 l nd #[.string c1, .int .i64 n1, .string s1, .int .i64 d1, .string s, .int .i64 y40, .int .i64 yc, .int .i64 yl, .int .i64 y100, .int .i64 0] := S9.set 7 (.int .i64 yl)
          generalize w9.setCell ⟨nd, 7, none⟩ (.int .i64 yl) = W10 at *
          rename_i hheld
          clear hheld q2 q3 z3 q2' q3' z3' S9 hs9 hg9 HSW Q10 hw1
          generalize List.tail r7 = r8 at *
          have HYL := Lib.hid hyl
          clear hyl
          have HSW := Lib.hid S10
          clear S10
          have m6 := modF_bd (r8.headD 0) 6 (by omega)
          have Q6 := fun w' h' => N_any B b r8 6 w' h' (by omega)
          generalize modF (r8.headD 0) 6 = y6 at *
          obtain ⟨k6, rfl⟩ : ∃ k6 : Nat, y6 = k6 := ⟨y6.toNat, by omega⟩
          have hk6 : k6 < 6 := by omega
          have hb10 := HSW.out.src.lt
          have Q6H := Lib.hid Q6
          clear Q6
          have hl100 : l.length + 1 ≤ 101 := by have := HLK.out; omega
          go_wp2_with (first
            | (go_at_call 21; refine (Q6H.out _ (HSW.out.alloc _).src).mono ?_; rintro e w11 ⟨rfl, hs11, hg11⟩; have S11 := (HSW.out.alloc _).n hs11 hg11; have hck := hg11.cell (cell_of (heap_alloc_new W10 _) (states_at k6 hk6)) (by simp; omega); obtain ⟨t0, t1, t2, t3, t4, t5, t6, t7, t8, t9⟩ := dep_at0 (d := ⟨⟨c1, n1, s1, d1⟩, s, y40, yc, yl, y100, 0⟩) (fun j u hu => cell_of S11.blk hu); have z3 := frozen_of_row _ _ 9 _ _ S11.blk; have S12 := S11.set 9 (.int .i64 (stN k6)); have HS12 := Lib.hid S12; clear S12 S11 hs11 hg11)
            | (at_builtin; (refine DepT.append1 rfl _ _ rfl w.heap.size _ l ⟨⟨c1, n1, s1, d1⟩, s, y40, yc, yl, y100, stN k6⟩ (w11.setCell ⟨nd, 9, none⟩ (.int .i64 (stN k6))) rfl rfl (by rw [size_set]; rfl) HS12.out.own (by unfold maxLen; omega) (by show (l.length + 1) * 104 ≤ _; omega) HS12.out.grow.size ?_); intro v' wA hOA hgA))
          go_roundw
          case rel =>
            have hgg := grownBy_trans (World.grownBy_alloc _ _ _) hgA
            have hown := HS12.out.own
            have hflt : (⟨c1, n1, s1, d1⟩ : Flt) = FL (a + x) := HF.out
            have hyc := HYC.out
            have hyl := HYL.out
            have hst : 0 ≤ stN k6 ∧ stN k6 ≤ 2 := by unfold stN; split <;> (try split) <;> omega
            have hd : validD ⟨⟨c1, n1, s1, d1⟩, s, y40, yc, yl, y100, stN k6⟩ = true := by
              simp only [validD, HFV.out, HLS.out, Bool.and_eq_true, decide_eq_true_eq, Bool.true_and]
              omega
            refine ⟨k + 1, a + x + 1, l ++ [⟨⟨c1, n1, s1, d1⟩, s, y40, yc, yl, y100, stN k6⟩], r8.tail, by go_num, by go_num, by omega, by rw [List.length_append, HLK.out]; rfl, hOA, HS12.out.src.other hgg (fun g hg => ⟨?_, ?_⟩), grownBy_new HS12.out.grow hgg (fun g hg => (World.ownsRow.lt hown g hg).1), Lib.hid ⟨by omega, vErr_snoc _ hd l none hI.out.2.1 ?_, ?_⟩⟩
            · have := (World.ownsRow.lt hown g hg).1
              have := HS12.out.src.ge
              omega
            · have := (World.ownsRow.lt hown g hg).1
              omega
            · intro q hq
              obtain ⟨j, hj, rfl⟩ := hI.out.2.2 q hq
              rw [hflt]
              exact FL_up (a + x) h27 j (by omega)
            · intro q hq
              rw [lastF_snoc] at hq
              cases hq
              exact ⟨a + x, by omega, hflt⟩
          case measure => simp [intOf]; omega
        · have h27b : decide ((27 : Int) ≤ (a : Int) + (x : Int)) = true := decide_eq_true (by omega)
          go_wp2_with (go_at_call 21; refine Q3.mono ?_; rintro e w2 ⟨rfl, hs2, hg2⟩)
          go_ret
          refine ⟨_, l, _, rfl, World.ownsRow.kept hO hg2 (.inr (fun e => by have := (World.ownsRow.lt hO b e).1; omega)), by have := HLK.out; omega, hI.out.2.1, hs2, grownBy_trans hg hg2⟩
      · have hab : decide ((a : Int) < 27) = false := decide_eq_false (by omega)
        go_wp2
        go_ret
        exact ⟨_, l, _, rfl, hO, by have := HLK.out; omega, hI.out.2.1, hs, hg⟩
    · obtain rfl : k = n := by omega
      have hkb : decide ((k : Int) < (k : Int)) = false := decide_eq_false (by omega)
      go_wp2
      go_ret
      exact ⟨_, l, _, rfl, hO, by have := HLK.out; omega, hI.out.2.1, hs, hg⟩
end Go.Proofs.Ytmigkmdhenkpmaa
