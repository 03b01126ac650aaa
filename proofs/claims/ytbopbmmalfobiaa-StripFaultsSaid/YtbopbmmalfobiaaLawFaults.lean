/- Law StripFaults returns true for every input and changes nothing that was there. -/
import Derived.Test.YtbopbmmalfobiaaStripL
import Derived.Test.YtbopbmmalfobiaaStripPF
namespace Go.Proofs.Ytbopbmmalfobiaa
open Go.RowKit

theorem mod_nat (x : Int) (n : Nat) (h : 1 ≤ n) : ∃ k : Nat, modF x n = (k : Int) ∧ k < n := by
  have := modF_bd x n (by omega)
  exact ⟨(modF x n).toNat, by omega, by omega⟩

theorem fault_of {ws fs : List Int} (h : WinOK ws fs) (k : Nat) (hk : k < ws.length) (s : Bool) : faultAt ws k s = true := by
  have h1 := h.all faultOK fault_all
  simp only [faultOK, List.all_eq_true, List.mem_range, Bool.and_eq_true] at h1
  cases s
  · exact (h1 k hk).2
  · exact (h1 k hk).1

theorem IntsV.draws {w : World} {v : Value} {l : List Int} (h : IntsV w v l) (n : Nat) : IntsV (w.drewN n) v l := h

theorem quiet_eq {P : Program} {f : FuncId} {args : Array Value} {w : World} {n : Nat} {v : Value}
    (h : Calls P f args (w.drewN n) fun e w' => e = .returned v ∧ w.drewN n = w') : Calls P f args (w.drewN n) fun e w'' => e = .returned v ∧ ∃ m, w'' = w.drewN m :=
  h.mono fun _ _ ⟨he, hm⟩ => ⟨he, n, hm.symm⟩

theorem fault_loop {ws x x2 : List Int} {kk : Nat} {q : Bool} (h : ((List.range ws.length).all (fun i => decide (i = kk) || decide (ws[i]?.getD 0 = 0) || decide (x.findIdx (· == ws[i]?.getD 0) = x2.findIdx (· == ws[i]?.getD 0))) && q) = true) (j : Nat) (hj : j < ws.length) :
    j = kk ∨ ws[j]?.getD 0 = 0 ∨ x.findIdx (· == ws[j]?.getD 0) = x2.findIdx (· == ws[j]?.getD 0) := by
  simp only [Bool.and_eq_true, List.all_eq_true, List.mem_range, Bool.or_eq_true, decide_eq_true_eq] at h
  rcases h.1 j hj with (h | h) | h
  · exact .inl h
  · exact .inr (.inl h)
  · exact .inr (.inr h)

theorem findIdx_bd (x : List Int) (u : Int) : x.findIdx (· == u) ≤ x.length := List.findIdx_le_length

theorem fault_tail_false {q : Bool} {u : Int} {x x2 : List Int} {y y2 : Int} {kk : Nat}
    (h : (q && (if u = 0 then decide (x = x2) && decide (y = y2) else decide (x2.findIdx (· == u) = kk))) = true) :
    (u = 0 → x = x2 ∧ y = y2) ∧ (u ≠ 0 → x2.findIdx (· == u) = kk) := by
  rw [Bool.and_eq_true] at h
  obtain ⟨_, h⟩ := h
  refine ⟨fun hu => ?_, fun hu => ?_⟩
  · rw [if_pos hu] at h
    simpa using h
  · rw [if_neg hu] at h
    simpa using h

theorem fault_tail_true {q : Bool} {u : Int} {x x2 : List Int} {y y2 : Int} {kk : Nat}
    (h : (q && (if u = 0 then decide (x = x2) && decide (y = y2) else decide (x.findIdx (· == u) ≤ x2.findIdx (· == u)) && decide (x2.findIdx (· == u) ≤ x.findIdx (· == u) + 1) && (decide (kk < x.findIdx (· == u)) || decide (x2.findIdx (· == u) = x.findIdx (· == u))))) = true) :
    (u = 0 → x = x2 ∧ y = y2) ∧ (u ≠ 0 → x.findIdx (· == u) ≤ x2.findIdx (· == u) ∧ x2.findIdx (· == u) ≤ x.findIdx (· == u) + 1 ∧ (kk < x.findIdx (· == u) ∨ x2.findIdx (· == u) = x.findIdx (· == u))) := by
  rw [Bool.and_eq_true] at h
  obtain ⟨_, h⟩ := h
  refine ⟨fun hu => ?_, fun hu => ?_⟩
  · rw [if_pos hu] at h
    simpa using h
  · rw [if_neg hu] at h
    simp only [Bool.and_eq_true, Bool.or_eq_true, decide_eq_true_eq] at h
    exact ⟨h.1.1, h.1.2, h.2⟩

theorem faults_apart {w : World} {a : Option Addr} {n c : Nat} {l : List Int} (h : IntsV w (.slice a n c) l) (hl : 0 < l.length) : ∀ b, (Value.slice a n c).ownBlock = some b → some w.heap.size ≠ some b := by
  intro b hb
  obtain ⟨a', c', hv, _, _, _, _, h5⟩ := h
  cases hv
  obtain ⟨b', off, rfl, hlt, _⟩ := h5 hl
  cases hb
  intro e
  simp at e
  omega

set_option maxRecDepth 100000 in
theorem StripFaults_false (v : Value) (l : List Int) (at_ : Int) (w : World) (hv : IntsV w v l) (hat : -9223372036854775808 ≤ at_ ∧ at_ ≤ 9223372036854775807) :
    Calls Try.prog 6 #[v, .int .i64 at_, .bool false] w fun e w' => e = .returned (.bool true) ∧ Below w.heap.size w w' := by
  have WN := windows_any v l w hv
  obtain ⟨a, cap, rfl, _⟩ := hv
  have tok1 : True := trivial
  go_enter Try.func6, Try.ntmps6
  go_wp2_with (first
    | (go_at_call 8; refine WN.mono ?_; rintro e w1 ⟨v1, v2, ws, fs, rfl, hI1, _, hok, hB1⟩; have hn1 := hok.1; have hn8 := hok.2.1; have M := Mod_any at_ ws.length w1 hat (by omega); obtain ⟨kk, hkk, hklt⟩ := mod_nat at_ ws.length hn1; rw [hkk] at M; have HF := Lib.hid (fault_of hok kk hklt false); clear hkk WN; obtain ⟨a1, c1, rfl, _, _, ccell⟩ := hI1.open)
    | (go_at_call 16; refine M.mono ?_; rintro e w' ⟨rfl, rfl⟩)
    | (at_make; refine wpList_makeI rfl _ _ rfl w1.heap.size ws.length rfl rfl (by omega) (Nat.le_refl _) ?_; intro w2 hown hgrow; have hB2 := below_none hgrow; obtain ⟨⟨z0, c0⟩, f0⟩ := hown.cellF kk (by simpa using hklt); have hI2 := hI1.below hB2)
    | (go_at_call 10; have _t := tok1; refine (Advance_any _ (.slice none 0 0) ws [] true (w2.setCell ⟨w1.heap.size, kk, none⟩ (.int .i64 1)) (hI2.other (grownBy_set w2 w1.heap.size kk (.int .i64 1)) (fun hl b hb => faults_apart hI1 hl b hb)) (ints_nil _) (by omega)).mono ?_; clear tok1 _t; rintro e w3 ⟨hB3, v3, rfl, hA3⟩; have hOf := (hown.set kk 1 (by decide)).keep hB3; skip; have hI3 := (hI2.other (grownBy_set w2 w1.heap.size kk (.int .i64 1)) (fun hl b hb => faults_apart hI1 hl b hb)).below hB3; have hBw := below_grown hB2 (grownBy_set w2 w1.heap.size kk (.int .i64 1)) hB2.size (Nat.le_refl _); have hBw3 := (hB1.trans (hBw.mono hB1.size)).trans (hB3.mono (hB1.trans (hBw.mono hB1.size)).size); clear hBw)
    | (go_at_call 10; refine (Advance_any _ _ ws ((List.replicate ws.length 0).set kk 1) true w3 hI3 hOf.ints (by omega)).mono ?_; rintro e w4 ⟨hB4, v4, rfl, hA4⟩; have hBw4 := hBw3.trans (hB4.mono hBw3.size); have hIa := hA3.ints.below hB4; have hIb := hA4.ints; have hIw := hI3.below hB4; have HX := Lib.hid (show (advance ws [] true).1.length = ws.length from advance_length _ _ _); have HX2 := Lib.hid (show (advance ws ((List.replicate ws.length 0).set kk 1) true).1.length = ws.length from advance_length _ _ _); have hF2 := HF.out; simp only [faultAt, Bool.false_eq_true, if_false] at hF2; clear HF; generalize advance ws [] true = r1 at *; generalize advance ws ((List.replicate ws.length 0).set kk 1) true = r2 at *; obtain ⟨x, y⟩ := r1; obtain ⟨x2, y2⟩ := r2; simp only at hF2 hIa hIb; have HF2 := Lib.hid hF2; clear hF2 hA3 hA4 hOf hown; have hne1 : ((x.length : Int) != (ws.length : Int)) = false := (by have := HX.out; simp at this; simp [this]); have hne2 : ((x2.length : Int) != (ws.length : Int)) = false := (by have := HX2.out; simp at this; simp [this]); obtain ⟨a3, c3, rfl, _⟩ := hIa.open; obtain ⟨a4, c4, rfl, _⟩ := hIb.open))
  have hO3c := hIw
  clear hI1 hB1 hI2 hB2 hgrow c0 f0 hI3 hBw3 hB3 hB4 M
  go_loopw [15] (fun i wr => ∃ j : Nat, j ≤ ws.length ∧ i = .int .i64 j ∧ Below w4.heap.size w4 wr) (fun i _ => ws.length - (intOf i).toNat)
  case atStart => exact ⟨0, Nat.zero_le _, rfl, Below.refl _ _⟩
  case round =>
    obtain ⟨j, hj, rfl, hBr⟩ := hrel
    have hIa' := hIa.below hBr
    have hIb' := hIb.below hBr
    have hIw' := hIw.below hBr
    obtain ⟨aw, cw, hvw, _, _, wcell⟩ := hIw'.open
    cases hvw
    by_cases hjn : j < ws.length
    · have hfj := fault_loop HF2.out j hjn
      obtain ⟨b, off, rfl, hb, hcell⟩ := wcell (by omega)
      have d := hcell j hjn
      clear hcell wcell
      generalize ws[j]?.getD 0 = u at *
      have HFJ := Lib.hid hfj
      clear hfj
      by_cases hjk : j = kk
      · subst hjk
        go_wp2
        go_quiet (fail)
        go_wp2
        go_roundw
        case rel => exact ⟨j + 1, by omega, by go_num, below_drewN hBr _⟩
        case measure => simp [intOf]; omega
      · have gjk : ((j : Int) != (kk : Int)) = true := by simp; omega
        by_cases hu : u = 0
        · subst hu
          go_wp2
          go_quiet (fail)
          go_wp2
          go_roundw
          case rel => exact ⟨j + 1, by omega, by go_num, below_drewN hBr _⟩
          case measure => simp [intOf]; omega
        · have gu : (u != 0) = true := by simpa using hu
          have hq : x.findIdx (· == u) = x2.findIdx (· == u) := (HFJ.out.resolve_left hjk).resolve_left hu
          have HQ := Lib.hid hq
          have Qa := fun n => quiet_eq (index_any _ x u (wr.drewN n) (hIa'.draws n))
          have Qb := fun n => quiet_eq (index_any _ x2 u (wr.drewN n) (hIb'.draws n))
          rw [hq] at Qa
          clear hq
          generalize x2.findIdx (· == u) = p at *
          go_wp2
          go_quiet ((go_at_call 17; first | (with_reducible exact Qa _) | (with_reducible exact Qb _)))
          go_wp2
          go_roundw
          case rel => exact ⟨j + 1, by omega, by go_num, below_drewN hBr _⟩
          case measure => simp [intOf]; omega
    · have htail := fault_tail_false HF2.out
      have HT := Lib.hid htail
      have HX' : Hid _ := HX
      obtain ⟨b, off, rfl, hb, hcell⟩ := wcell (by omega)
      have d := hcell kk hklt
      clear hcell wcell HF2 htail
      generalize ws[kk]?.getD 0 = u at *
      have hBtot := hBw4.trans (hBr.mono hBw4.size)
      by_cases hu : u = 0
      · have h2 := HT.out.1 hu
        obtain ⟨hxx, hyy⟩ := h2
        subst hu
        subst hyy
        have HXX := Lib.hid hxx
        clear hxx
        go_wp2_with (first
          | (go_at_call 11; refine (Ints_same _ _ x x2 wr hIa' hIb' HXX.out).mono ?_; rintro e w5 ⟨rfl, hB5⟩; have hB05 := hBtot.trans (hB5.mono hBtot.size))
          | (go_at_call 12; refine (awake_any _).mono ?_; rintro e w6 ⟨rfl, hB6⟩))
        go_ret
        exact ⟨rfl, hB05.trans (hB6.mono hB05.size)⟩
      · have gu : (u == 0) = false := by simpa using hu
        have h2 := HT.out.2 hu
        have H2 := Lib.hid h2
        clear h2
        have hle := findIdx_bd x2 u
        have Qb := index_any _ x2 u wr hIb'
        rw [H2.out] at Qb
        go_wp2_with (first
          | (go_at_call 17; refine Qb.mono ?_; rintro e w' ⟨rfl, rfl⟩)
          | (go_at_call 12; refine (awake_any _).mono ?_; rintro e w6 ⟨rfl, hB6⟩))
        go_ret
        exact ⟨rfl, hBtot.trans (hB6.mono hBtot.size)⟩

set_option maxRecDepth 100000 in
theorem StripFaults_true (v : Value) (l : List Int) (at_ : Int) (w : World) (hv : IntsV w v l) (hat : -9223372036854775808 ≤ at_ ∧ at_ ≤ 9223372036854775807) :
    Calls Try.prog 6 #[v, .int .i64 at_, .bool true] w fun e w' => e = .returned (.bool true) ∧ Below w.heap.size w w' := by
  have WN := windows_any v l w hv
  obtain ⟨a, cap, rfl, _⟩ := hv
  have tok1 : True := trivial
  go_enter Try.func6, Try.ntmps6
  go_wp2_with (first
    | (go_at_call 8; refine WN.mono ?_; rintro e w1 ⟨v1, v2, ws, fs, rfl, hI1, _, hok, hB1⟩; have hn1 := hok.1; have hn8 := hok.2.1; have M := Mod_any at_ ws.length w1 hat (by omega); obtain ⟨kk, hkk, hklt⟩ := mod_nat at_ ws.length hn1; rw [hkk] at M; have HF := Lib.hid (fault_of hok kk hklt true); clear hkk WN; obtain ⟨a1, c1, rfl, _, _, ccell⟩ := hI1.open)
    | (go_at_call 16; refine M.mono ?_; rintro e w' ⟨rfl, rfl⟩)
    | (at_make; refine wpList_makeI rfl _ _ rfl w1.heap.size ws.length rfl rfl (by omega) (Nat.le_refl _) ?_; intro w2 hown hgrow; have hB2 := below_none hgrow; obtain ⟨⟨z0, c0⟩, f0⟩ := hown.cellF kk (by simpa using hklt); have hI2 := hI1.below hB2)
    | (go_at_call 10; have _t := tok1; refine (Advance_any _ (.slice none 0 0) ws [] true ((w2.setCell ⟨w1.heap.size, kk, none⟩ (.int .i64 1)).setCell ⟨w1.heap.size, kk, none⟩ (.int .i64 2)) (hI2.other (grownBy_trans (grownBy_set w2 w1.heap.size kk (.int .i64 1)) (grownBy_set _ w1.heap.size kk (.int .i64 2))) (fun hl b hb => faults_apart hI1 hl b hb)) (ints_nil _) (by omega)).mono ?_; clear tok1 _t; rintro e w3 ⟨hB3, v3, rfl, hA3⟩; have hOf := (hown.set kk 1 (by decide) |>.set kk 2 (by decide)).keep hB3; rw [List.set_set] at hOf; have hI3 := (hI2.other (grownBy_trans (grownBy_set w2 w1.heap.size kk (.int .i64 1)) (grownBy_set _ w1.heap.size kk (.int .i64 2))) (fun hl b hb => faults_apart hI1 hl b hb)).below hB3; have hBw := below_grown hB2 (grownBy_trans (grownBy_set w2 w1.heap.size kk (.int .i64 1)) (grownBy_set _ w1.heap.size kk (.int .i64 2))) hB2.size (Nat.le_refl _); have hBw3 := (hB1.trans (hBw.mono hB1.size)).trans (hB3.mono (hB1.trans (hBw.mono hB1.size)).size); clear hBw)
    | (go_at_call 10; refine (Advance_any _ _ ws ((List.replicate ws.length 0).set kk 2) true w3 hI3 hOf.ints (by omega)).mono ?_; rintro e w4 ⟨hB4, v4, rfl, hA4⟩; have hBw4 := hBw3.trans (hB4.mono hBw3.size); have hIa := hA3.ints.below hB4; have hIb := hA4.ints; have hIw := hI3.below hB4; have HX := Lib.hid (show (advance ws [] true).1.length = ws.length from advance_length _ _ _); have HX2 := Lib.hid (show (advance ws ((List.replicate ws.length 0).set kk 2) true).1.length = ws.length from advance_length _ _ _); have hF2 := HF.out; simp only [faultAt, if_true] at hF2; clear HF; generalize advance ws [] true = r1 at *; generalize advance ws ((List.replicate ws.length 0).set kk 2) true = r2 at *; obtain ⟨x, y⟩ := r1; obtain ⟨x2, y2⟩ := r2; simp only at hF2 hIa hIb; have HF2 := Lib.hid hF2; clear hF2 hA3 hA4 hOf hown; have hne1 : ((x.length : Int) != (ws.length : Int)) = false := (by have := HX.out; simp at this; simp [this]); have hne2 : ((x2.length : Int) != (ws.length : Int)) = false := (by have := HX2.out; simp at this; simp [this]); obtain ⟨a3, c3, rfl, _⟩ := hIa.open; obtain ⟨a4, c4, rfl, _⟩ := hIb.open))
  have hO3c := hIw
  clear hI1 hB1 hI2 hB2 hgrow c0 f0 hI3 hBw3 hB3 hB4 M
  go_loopw [15] (fun i wr => ∃ j : Nat, j ≤ ws.length ∧ i = .int .i64 j ∧ Below w4.heap.size w4 wr) (fun i _ => ws.length - (intOf i).toNat)
  case atStart => exact ⟨0, Nat.zero_le _, rfl, Below.refl _ _⟩
  case round =>
    obtain ⟨j, hj, rfl, hBr⟩ := hrel
    have hIa' := hIa.below hBr
    have hIb' := hIb.below hBr
    have hIw' := hIw.below hBr
    obtain ⟨aw, cw, hvw, _, _, wcell⟩ := hIw'.open
    cases hvw
    by_cases hjn : j < ws.length
    · have hfj := fault_loop HF2.out j hjn
      obtain ⟨b, off, rfl, hb, hcell⟩ := wcell (by omega)
      have d := hcell j hjn
      clear hcell wcell
      generalize ws[j]?.getD 0 = u at *
      have HFJ := Lib.hid hfj
      clear hfj
      by_cases hjk : j = kk
      · subst hjk
        go_wp2
        go_quiet (fail)
        go_wp2
        go_roundw
        case rel => exact ⟨j + 1, by omega, by go_num, below_drewN hBr _⟩
        case measure => simp [intOf]; omega
      · have gjk : ((j : Int) != (kk : Int)) = true := by simp; omega
        by_cases hu : u = 0
        · subst hu
          go_wp2
          go_quiet (fail)
          go_wp2
          go_roundw
          case rel => exact ⟨j + 1, by omega, by go_num, below_drewN hBr _⟩
          case measure => simp [intOf]; omega
        · have gu : (u != 0) = true := by simpa using hu
          have hq : x.findIdx (· == u) = x2.findIdx (· == u) := (HFJ.out.resolve_left hjk).resolve_left hu
          have HQ := Lib.hid hq
          have Qa := fun n => quiet_eq (index_any _ x u (wr.drewN n) (hIa'.draws n))
          have Qb := fun n => quiet_eq (index_any _ x2 u (wr.drewN n) (hIb'.draws n))
          rw [hq] at Qa
          clear hq
          generalize x2.findIdx (· == u) = p at *
          go_wp2
          go_quiet ((go_at_call 17; first | (with_reducible exact Qa _) | (with_reducible exact Qb _)))
          go_wp2
          go_roundw
          case rel => exact ⟨j + 1, by omega, by go_num, below_drewN hBr _⟩
          case measure => simp [intOf]; omega
    · have htail := fault_tail_true HF2.out
      have HT := Lib.hid htail
      have HX' : Hid _ := HX
      obtain ⟨b, off, rfl, hb, hcell⟩ := wcell (by omega)
      have d := hcell kk hklt
      clear hcell wcell HF2 htail
      generalize ws[kk]?.getD 0 = u at *
      have hBtot := hBw4.trans (hBr.mono hBw4.size)
      by_cases hu : u = 0
      · have h2 := HT.out.1 hu
        obtain ⟨hxx, hyy⟩ := h2
        subst hu
        subst hyy
        have HXX := Lib.hid hxx
        clear hxx
        go_wp2_with (first
          | (go_at_call 11; refine (Ints_same _ _ x x2 wr hIa' hIb' HXX.out).mono ?_; rintro e w5 ⟨rfl, hB5⟩; have hB05 := hBtot.trans (hB5.mono hBtot.size))
          | (go_at_call 12; refine (awake_any _).mono ?_; rintro e w6 ⟨rfl, hB6⟩))
        go_ret
        exact ⟨rfl, hB05.trans (hB6.mono hB05.size)⟩
      · have gu : (u == 0) = false := by simpa using hu
        have h2 := HT.out.2 hu
        have l1 := findIdx_bd x u
        have l2 := findIdx_bd x2 u
        have hx8 : x.length ≤ 8 := by have := HX.out; omega
        have hx28 : x2.length ≤ 8 := by have := HX2.out; omega
        have Qa := fun n => quiet_eq (index_any _ x u (wr.drewN n) (hIa'.draws n))
        have Qb := fun n => quiet_eq (index_any _ x2 u (wr.drewN n) (hIb'.draws n))
        generalize x.findIdx (· == u) = p at *
        generalize x2.findIdx (· == u) = p2 at *
        obtain ⟨h3, h4, h5⟩ := h2
        have k3 : (p : Int) ≤ (p2 : Int) := by omega
        have k4 : (p2 : Int) ≤ (p : Int) + 1 := by omega
        by_cases h6 : kk < p
        · have k6 : (kk : Int) < (p : Int) := by omega
          go_wp2
          go_quiet ((go_at_call 17; first | (with_reducible exact Qa _) | (with_reducible exact Qb _)))
          go_wp2_with (go_at_call 12; refine (awake_any _).mono ?_; rintro e w6 ⟨rfl, hB6⟩)
          go_ret
          exact ⟨rfl, (below_drewN hBtot _).trans (hB6.mono hBtot.size)⟩
        · have k6 : ¬ (kk : Int) < (p : Int) := by omega
          obtain rfl : p2 = p := h5.resolve_left h6
          go_wp2
          go_quiet ((go_at_call 17; first | (with_reducible exact Qa _) | (with_reducible exact Qb _)))
          go_wp2_with (go_at_call 12; refine (awake_any _).mono ?_; rintro e w6 ⟨rfl, hB6⟩)
          go_ret
          exact ⟨rfl, (below_drewN hBtot _).trans (hB6.mono hBtot.size)⟩

theorem StripFaults_any (v : Value) (l : List Int) (at_ : Int) (s : Bool) (w : World) (hv : IntsV w v l) (hat : -9223372036854775808 ≤ at_ ∧ at_ ≤ 9223372036854775807) :
    Calls Try.prog 6 #[v, .int .i64 at_, .bool s] w fun e w' => e = .returned (.bool true) ∧ Below w.heap.size w w' := by
  cases s
  · exact StripFaults_false v l at_ w hv hat
  · exact StripFaults_true v l at_ w hv hat
end Go.Proofs.Ytbopbmmalfobiaa
