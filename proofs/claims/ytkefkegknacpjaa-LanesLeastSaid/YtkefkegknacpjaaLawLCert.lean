/- Law LanesCertificate returns true for every input. -/
import Derived.Test.YtkefkegknacpjaaLanesP
namespace Go.Proofs.Ytkefkegknacpjaa
open Go.RowKit Go.Maps

/-- the cells of a row whose address is known -/
theorem ints_at {w : World} {b o n c : Nat} {l : List Int} (h : IntsV w (.slice (some ⟨b, o, none⟩) n c) l) (k : Nat) (hk : k < l.length) : w.cell? ⟨b, o + k, none⟩ = some (.int .i64 (atF l k)) := by
  obtain ⟨a', c', hv, _, _, cc⟩ := h.open
  simp only [Value.slice.injEq] at hv
  obtain ⟨rfl, _, rfl⟩ := hv
  obtain ⟨b', o', e, _, hc⟩ := cc (by omega)
  cases e
  exact hc k hk

theorem asgN_le (due : List Int) : asgN due ≤ due.length := by
  unfold asgN
  split
  · have h : ∀ i, (asg due i).1.length ≤ i := by
      intro i
      induction i with
      | zero => simp [asg]
      | succ i ih =>
        have := asg_grow due i
        have := laneA_le due i (asg due i)
        omega
    exact h _
  · omega

set_option maxHeartbeats 1000000 in
set_option maxRecDepth 100000 in
theorem LanesCertificate_any (u : Value) (l : List Int) (w : World) (hu : IntsV w u l) :
    Calls Try.prog 4 #[u] w fun e w' => e = .returned (.bool true) ∧ Below w.heap.size w w' := by
  have TM := times_any u l w hu
  obtain ⟨a', c', rfl, la', _, _⟩ := hu.open
  have tokC : True := trivial
  go_enter Try.func4, Try.ntmps4
  go_wp2_with (first
    | (go_at_call 10; refine TM.mono ?_; rintro e w1 ⟨v1, due, rfl, hO1, ho1, ho2, hB1⟩; obtain ⟨a1, c1, rfl, _, _, cd⟩ := hO1.ints.open; have HE := Lib.hid (times_err ho1 ho2); have HD := Lib.hid hO1.ints; have HLA := Lib.hid ((asgL_len due).trans (if_pos HE.out)); have HCD := Lib.hid cd; clear cd ho2)
    | (go_at_call 11; refine (Assign_any _ due w1 HD.out).mono ?_; rintro e w2 ⟨v2, rfl, hO2, hB2⟩; rw [HE.out]; obtain ⟨a2, c2, rfl, _, _, _⟩ := hO2.ints.open; rw [HLA.out] at hO2 ⊢)
    | (go_at_call 14; refine (Count_any _ due w2 (HD.out.below hB2)).mono ?_; rintro e w3 ⟨rfl, hB3⟩; have hB13 := hB2.trans (hB3.mono hB2.size))
    | (go_at_call 16; refine (Chain_any _ due w3 (HD.out.below hB13)).mono ?_; rintro e w4 ⟨v4, rfl, hO4, hB4⟩; have hB14 := hB13.trans (hB4.mono hB13.size); obtain ⟨a4, c4, rfl, lc4, _, _⟩ := hO4.ints.open; have HCF := Lib.hid (chain_facts due HE.out); rw [HCF.out.1] at hO4 ⊢)
    | (go_at_call 18; have hO24 : OwnI w1.heap.size w4 (.slice a2 due.length c2) (asgL due) := (hO2.keep hB3).keep hB4; have hI24 := hO24.ints; refine (Check_any _ _ due (asgL due) w4 (HD.out.below hB14) hI24).mono ?_; rintro e w5 ⟨rfl, hB5⟩; rw [asgL_ok HE.out]; have hB15 := hB14.trans (hB5.mono hB14.size); have hI5 := (hO24.keep hB5).ints; have hD5 := HD.out.below hB15; have hC5 := (hO4.keep hB5).ints))
  have hB05 := hB1.trans (hB15.mono hB1.size)
  have HI := Lib.hid hI5
  have HDD := Lib.hid hD5
  have HC := Lib.hid hC5
  have hl29 : due.length ≤ 29 := ho1
  have hn0 : (0 : Int) ≤ asgN due := by omega
  have hIo := hI5
  clear hI5 hD5 hC5 TM hO1 hO2 hO24 hO4 hI24 hIo hB2 hB3 hB13 hB4 hB14 hB5 hB15
  go_loopw [8] (fun i wr => ∃ k : Nat, k ≤ due.length ∧ i = .int .i64 k ∧ Below w5.heap.size w5 wr) (fun i _ => due.length - (intOf i).toNat)
  case atStart => exact ⟨0, Nat.zero_le _, rfl, Below.refl _ _⟩
  case round =>
    obtain ⟨wo, hwo⟩ : ∃ wo : World, wo = wr := ⟨_, rfl⟩
    obtain ⟨i, hi, rfl, hBr⟩ := hrel
    subst hwo
    by_cases hlt : i < due.length
    · obtain ⟨_, _, hvA, _, _, cA⟩ := (HI.out.below hBr).open
      simp only [Value.slice.injEq] at hvA
      obtain ⟨rfl, -, rfl⟩ := hvA
      obtain ⟨b2, o2, rfl, hb2, ccA⟩ := cA (by have := HLA.out; omega)
      obtain ⟨_, _, hvD, _, _, cD⟩ := (HDD.out.below hBr).open
      simp only [Value.slice.injEq] at hvD
      obtain ⟨rfl, -, rfl⟩ := hvD
      obtain ⟨b1, o1, rfl, hb1, ccD⟩ := cD (by omega)
      have d1 : wo.cell? ⟨b2, o2 + i, none⟩ = some (.int .i64 (atF (asgL due) i)) := ccA i (by have := HLA.out; omega)
      obtain ⟨hx1, hx2⟩ := asgL_lt (due := due) i (by have := HLA.out; omega)
      have hkd : (i : Int) < (due.length : Int) := by omega
      have HCA := Lib.hid ccA
      have HCCD := Lib.hid ccD
      clear ccA ccD cA cD
      generalize hy : atF (asgL due) i = y at *
      have HY := Lib.hid hy
      clear hy
      go_wp2
      go_loopw [9] (fun j wr => ∃ k : Nat, k ≤ i ∧ j = .int .i64 k ∧ Below w5.heap.size w5 wr) (fun j _ => i - (intOf j).toNat)
      case atStart => exact ⟨0, Nat.zero_le _, rfl, hBr⟩
      case round =>
        obtain ⟨k, hk, rfl, hBi⟩ := hrel
        by_cases hki : k < i
        · have g1 := ints_at (HI.out.below hBi) k (by have := HLA.out; omega)
          have g2 := ints_at (HI.out.below hBi) i (by have := HLA.out; omega)
          have g3 := ints_at (HDD.out.below hBi) k (by omega)
          have g4 := ints_at (HDD.out.below hBi) i (by omega)
          rw [HY.out] at g2
          have hP : pairOK due (asgL due) i k := by
            have := asg_pairs due i k hlt hki
            unfold asgL
            rw [if_pos HE.out]
            exact this
          rw [pairOK, HY.out] at hP
          have HP := Lib.hid hP
          have hkd2 : (k : Int) < (due.length : Int) := by omega
          clear hP
          generalize atF due k = x1 at *
          generalize atF due i = x2 at *
          generalize atF (asgL due) k = y1 at *
          by_cases hy : y1 = y
          · have hyb : (y1 == y) = true := by simp [hy]
            have hxb : decide (x2 < x1) = false := decide_eq_false (by have := HP.out hy; omega)
            have HYY := Lib.hid hy
            clear hy
            go_wp2
            go_quiet (fail)
            go_wp2
            go_roundw
            case rel => exact ⟨k + 1, by omega, by go_num, below_drewN hBi _⟩
            case measure => simp [intOf]; omega
          · have hyb : (y1 == y) = false := by simp [hy]
            have HYY := Lib.hid hy
            clear hy
            go_wp2
            go_quiet (fail)
            go_wp2
            go_roundw
            case rel => exact ⟨k + 1, by omega, by go_num, below_drewN hBi _⟩
            case measure => simp [intOf]; omega
        · have HBI := Lib.hid hBi
          go_wp2
          go_roundw
          case rel => exact ⟨i + 1, by omega, by go_num, HBI.out⟩
          case measure => simp [intOf]; omega
    · obtain rfl : i = due.length := by omega
      go_wp2
      go_loopw [10] (fun j wr => ∃ k : Nat, k ≤ asgN due ∧ j = .int .i64 k ∧ Below w5.heap.size w5 wr) (fun j _ => asgN due - (intOf j).toNat)
      case atStart => exact ⟨0, Nat.zero_le _, rfl, hBr⟩
      case round =>
        obtain ⟨k, hk, rfl, hBi⟩ := hrel
        by_cases hkn : k < asgN due
        · obtain ⟨_, _, hvC, _, _, cC⟩ := (HC.out.below hBi).open
          simp only [Value.slice.injEq] at hvC
          obtain ⟨rfl, -, rfl⟩ := hvC
          obtain ⟨b4, o4, rfl, hb4, ccC⟩ := cC (by rw [HCF.out.1]; omega)
          obtain ⟨_, _, hvD, _, _, cD⟩ := (HDD.out.below hBi).open
          simp only [Value.slice.injEq] at hvD
          obtain ⟨rfl, -, rfl⟩ := hvD
          obtain ⟨b1, o1, rfl, hb1, ccD⟩ := cD (by have := asgN_pos due; have := HCF.out.2.1 (atF (chainF due) k) (atF_mem (by rw [HCF.out.1]; exact hkn)); omega)
          clear ccC cC ccD cD
          have g1 := ints_at (HC.out.below hBi) k (by rw [HCF.out.1]; exact hkn)
          obtain ⟨x, hx⟩ : ∃ x : Nat, atF (chainF due) k = x := ⟨(atF (chainF due) k).toNat, by have := HCF.out.2.1 (atF (chainF due) k) (atF_mem (by rw [HCF.out.1]; exact hkn)); omega⟩
          have hxd : x < due.length := by have := HCF.out.2.1 (atF (chainF due) k) (atF_mem (by rw [HCF.out.1]; exact hkn)); omega
          have g2 := ints_at (HDD.out.below hBi) x hxd
          rw [hx] at g1
          have hkd2 : (k : Int) < (asgN due : Int) := by omega
          have hxd2 : (x : Int) < (due.length : Int) := by omega
          by_cases hk0 : 0 < k
          · obtain ⟨q, rfl⟩ : ∃ q, k = q + 1 := ⟨k - 1, by omega⟩
            have g3 := ints_at (HC.out.below hBi) q (by rw [HCF.out.1]; omega)
            obtain ⟨x', hx'⟩ : ∃ x : Nat, atF (chainF due) q = x := ⟨(atF (chainF due) q).toNat, by have := HCF.out.2.1 (atF (chainF due) q) (atF_mem (by rw [HCF.out.1]; omega)); omega⟩
            have hxd' : x' < due.length := by have := HCF.out.2.1 (atF (chainF due) q) (atF_mem (by rw [HCF.out.1]; omega)); omega
            have hxd2' : (x' : Int) < (due.length : Int) := by omega
            have g4 := ints_at (HDD.out.below hBi) x' hxd'
            obtain ⟨hL1, hL2⟩ := HCF.out.2.2 q (by rw [HCF.out.1]; omega)
            rw [hx, hx'] at hL1
            rw [hx, hx', Int.toNat_natCast, Int.toNat_natCast] at hL2
            rw [hx'] at g3
            have HX := Lib.hid hx
            have HX' := Lib.hid hx'
            clear hx hx'
            generalize atF due x = x1 at *
            generalize atF due x' = x2 at *
            have hb1 : decide (x ≤ x') = false := decide_eq_false (by omega)
            have hb2 : decide (x2 ≤ x1) = false := decide_eq_false (by omega)
            have hqb : (q : Int) ≤ 29 := by have := asgN_le due; omega
            have hb3 : decide ((x : Int) < 0) = false := decide_eq_false (by omega)
            have hb4 : decide (due.length ≤ x) = false := decide_eq_false (by omega)
            have hb5 : decide (0 < ((q + 1 : Nat) : Int)) = true := decide_eq_true (by omega)
            have hb6 : decide ((0 : Int) < (q : Int) + 1) = true := decide_eq_true (by omega)
            go_wp2
            go_quiet (fail)
            go_wp2
            go_roundw
            case rel => exact ⟨q + 1 + 1, by omega, by go_num, below_drewN hBi _⟩
            case measure => simp [intOf]; omega
          · obtain rfl : k = 0 := by omega
            rw [Nat.add_zero] at g1
            have HX := Lib.hid hx
            clear hx
            have hb3 : decide ((x : Int) < 0) = false := decide_eq_false (by omega)
            have hb4 : decide (due.length ≤ x) = false := decide_eq_false (by omega)
            go_wp2
            go_quiet (fail)
            go_wp2
            go_roundw
            case rel => exact ⟨0 + 1, by omega, by go_num, below_drewN hBi _⟩
            case measure => simp [intOf]; omega
        · have hiff : 0 < asgN due ↔ 0 < due.length := by
            rw [asgN_pos]
            refine ⟨fun h => ?_, fun h => ?_⟩
            · by_cases e : due = []
              · exact absurd (Or.inl e) h
              · exact List.length_pos_iff.2 e
            · rintro (e | e)
              · rw [e] at h; exact absurd h (Nat.lt_irrefl 0)
              · exact e HE.out
          go_wp2_with (first
            | (go_at_call 9; refine (awake_any _).mono ?_; rintro e w6 ⟨rfl, hB6⟩; have hB06 := hB05.trans ((hBi.trans (hB6.mono hBi.size)).mono hB05.size)))
          go_ret
          exact ⟨rfl, hB06⟩
end Go.Proofs.Ytkefkegknacpjaa
