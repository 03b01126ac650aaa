/- The reference's carriers, suffixes and ports. -/
import Derived.Test.YtmigkmdhenkpmaaDepA
import Derived.Lib.Strings
namespace Go.Proofs.Ytmigkmdhenkpmaa
open Go.RowKit

set_option maxHeartbeats 1000000 in
theorem RCarrier_any (s : ByteArray) (w : World) : Calls Try.prog 62 #[.string s] w fun e w' => e = .returned (.bool (carF s)) ∧ ∃ n, w' = w.drewN n := by
  by_cases h : s.size = 2
  · obtain ⟨h0, h1, hl⟩ := two_bytes s h
    have hc : carF s = ((letF s[0].toNat || digF s[0].toNat) && (letF s[1].toNat || digF s[1].toNat) && (letF s[0].toNat || letF s[1].toNat)) := by
      unfold carF
      rw [hl]
    rw [hc]
    have hne : (s.size == 2) = true := by simp [h]
    clear hc hl
    have cL0 := fun w => RLetter_any (s[0].toNat : Int) w
    have cL1 := fun w => RLetter_any (s[1].toNat : Int) w
    have cD0 := fun w => RDigit_any (s[0].toNat : Int) w
    have cD1 := fun w => RDigit_any (s[1].toNat : Int) w
    generalize letF s[0].toNat = a0 at *
    generalize letF s[1].toNat = a1 at *
    generalize digF s[0].toNat = d0 at *
    generalize digF s[1].toNat = d1 at *
    have CL0 := Lib.hid cL0
    have CL1 := Lib.hid cL1
    have CD0 := Lib.hid cD0
    have CD1 := Lib.hid cD1
    clear cL0 cL1 cD0 cD1
    cases a0 <;> cases a1 <;> cases d0 <;> cases d1
    all_goals
      go_enter Try.func62, Try.ntmps62
      go_wp2
      go_quiet (first | (go_at_call 64; with_reducible exact Calls.quiet_of_same (CL0.out _)) | (go_at_call 64; with_reducible exact Calls.quiet_of_same (CL1.out _)))
      go_wp2_with (first | (go_at_call 68; with_reducible refine (CD0.out _).mono ?_; rintro e w1 ⟨rfl, rfl⟩) | (go_at_call 68; refine (CD1.out _).mono ?_; rintro e w1 ⟨rfl, rfl⟩))
      go_ret
      exact ⟨rfl, _, rfl⟩
  · rw [carF_ne s h]
    go_enter Try.func62, Try.ntmps62
    go_wp2
    go_ret
    exact ⟨rfl, 0, rfl⟩

theorem list_one (l : List UInt8) (h : l.length = 1) : l = [l[0]] := by
  match l, h with
  | [a], _ => rfl

theorem list_three (l : List UInt8) (h : l.length = 3) : l = [l[0], l[1], l[2]] := by
  match l, h with
  | [a, b, c], _ => rfl

theorem toList_ne {s : ByteArray} (h : ¬ s.size = 0) : s.toList.isEmpty = false := by
  have : s.toList = s.data.toList := ByteArray.toList_eq s
  rw [this]
  have hl : s.data.toList.length = s.size := by rw [Array.length_toList]; rfl
  cases e : s.data.toList with
  | nil => rw [e] at hl; exact absurd hl.symm h
  | cons => rfl

theorem suffix_one {s : ByteArray} (h1 : s.size = 1) (hlt : 0 < s.size) : letsF s 0 1 = letF s[0].toNat := by
  have hl : s.data.toList.length = 1 := by rw [Array.length_toList]; exact h1
  have ha : allL s = letF s[0].toNat := by
    unfold allL
    rw [list_one _ hl, byte_at s 0 hlt]
    simp
  unfold letsF
  rw [ha, decide_eq_true (show (0 : Int) ≤ (s.size : Int) by omega), decide_eq_true (show (s.size : Int) ≤ 1 by omega)]
  rfl

theorem RSuffix_any (s : ByteArray) (w : World) : Calls Try.prog 63 #[.string s] w fun e w' => e = .returned (.bool (letsF s 0 1)) ∧ w' = w := by
  by_cases h0 : s.size = 0
  · obtain rfl : s = ⟨#[]⟩ := by
      obtain ⟨d⟩ := s
      have : d.size = 0 := h0
      rw [Array.size_eq_zero_iff.1 this]
    go_enter Try.func63, Try.ntmps63
    go_wp2
    go_ret
    exact ⟨rfl, rfl⟩
  · have he := toList_ne h0
    by_cases h1 : s.size = 1
    · have hlt : 0 < s.size := by omega
      rw [suffix_one h1 hlt]
      go_enter Try.func63, Try.ntmps63
      go_wp2_with (go_at_call 64; refine (RLetter_any _ _).mono ?_; rintro e w1 ⟨rfl, rfl⟩)
      go_ret
      exact ⟨rfl, rfl⟩
    · have hb : letsF s 0 1 = false := by unfold letsF; rw [decide_eq_false (show ¬ (s.size : Int) ≤ 1 by omega)]; simp
      rw [hb]
      clear hb
      have h1i : ((s.size : Int) == 1) = false := by simp; omega
      go_enter Try.func63, Try.ntmps63
      go_wp2
      go_ret
      exact ⟨rfl, rfl⟩

theorem port_three {s : ByteArray} (h : s.size = 3) (h0 : 0 < s.size) (h1 : 1 < s.size) (h2 : 2 < s.size) : letsF s 3 3 = (letF s[0].toNat && letF s[1].toNat && letF s[2].toNat) := by
  have hl : s.data.toList.length = 3 := by rw [Array.length_toList]; exact h
  have ha : allL s = (letF s[0].toNat && letF s[1].toNat && letF s[2].toNat) := by
    unfold allL
    rw [list_three _ hl, byte_at s 0 h0, byte_at s 1 h1, byte_at s 2 h2]
    simp [Bool.and_assoc]
  unfold letsF
  rw [ha, decide_eq_true (show (3 : Int) ≤ (s.size : Int) by omega), decide_eq_true (show (s.size : Int) ≤ 3 by omega)]
  rfl

theorem RValidPort_any (s : ByteArray) (w : World) : Calls Try.prog 57 #[.string s] w fun e w' => e = .returned (.bool (letsF s 3 3)) ∧ w' = w := by
  by_cases h : s.size = 3
  · have h0 : 0 < s.size := by omega
    have h1 : 1 < s.size := by omega
    have h2 : 2 < s.size := by omega
    rw [port_three h h0 h1 h2]
    have CL0 := Lib.hid fun w => RLetter_any (s[0].toNat : Int) w
    have CL1 := Lib.hid fun w => RLetter_any (s[1].toNat : Int) w
    have CL2 := Lib.hid fun w => RLetter_any (s[2].toNat : Int) w
    generalize letF s[0].toNat = a0 at *
    generalize letF s[1].toNat = a1 at *
    generalize letF s[2].toNat = a2 at *
    cases a0 <;> cases a1
    all_goals
      go_enter Try.func57, Try.ntmps57
      go_wp2_with (first
        | (go_at_call 64; with_reducible refine (CL0.out _).mono ?_; rintro e w1 ⟨rfl, rfl⟩)
        | (go_at_call 64; with_reducible refine (CL1.out _).mono ?_; rintro e w1 ⟨rfl, rfl⟩)
        | (go_at_call 64; with_reducible refine (CL2.out _).mono ?_; rintro e w1 ⟨rfl, rfl⟩))
      go_ret
      exact ⟨rfl, rfl⟩
  · have hb : letsF s 3 3 = false := by
      unfold letsF
      by_cases h3 : (3 : Int) ≤ s.size
      · rw [decide_eq_false (show ¬ (s.size : Int) ≤ 3 by omega)]; simp
      · rw [decide_eq_false h3]; simp
    rw [hb]
    clear hb
    have h1i : ((s.size : Int) == 3) = false := by simp; omega
    go_enter Try.func57, Try.ntmps57
    go_wp2
    go_ret
    exact ⟨rfl, rfl⟩
end Go.Proofs.Ytmigkmdhenkpmaa
