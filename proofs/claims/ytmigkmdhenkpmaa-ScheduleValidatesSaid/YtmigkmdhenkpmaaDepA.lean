/- Letters, digits, carriers, suffixes and ports: the program's functions and the reference's. -/
import Derived.Test.YtmigkmdhenkpmaaSrcM
namespace Go.Proofs.Ytmigkmdhenkpmaa
open Go.RowKit

def letF (c : Int) : Bool := decide (65 ≤ c) && decide (c ≤ 90)
def digF (c : Int) : Bool := decide (48 ≤ c) && decide (c ≤ 57)

theorem Letter_any (c : Int) (w : World) : Calls Try.prog 65 #[.int .u8 c] w fun e w' => e = .returned (.bool (letF c)) ∧ w' = w := by
  by_cases h : 65 ≤ c
  · have h1 : decide (65 ≤ c) = true := decide_eq_true h
    go_enter Try.func65, Try.ntmps65
    go_wp2
    go_ret
    exact ⟨ret_bool (by unfold letF; rw [h1]; simp), rfl⟩
  · have h1 : decide (65 ≤ c) = false := decide_eq_false h
    go_enter Try.func65, Try.ntmps65
    go_wp2
    go_ret
    exact ⟨ret_bool (by unfold letF; rw [h1]; simp), rfl⟩

def allL (s : ByteArray) : Bool := s.data.toList.all fun c => letF c.toNat

theorem take_all {l : List UInt8} {p : UInt8 → Bool} {k : Nat} (hk : k < l.length) (h : (l.take k).all p = true) (hp : p l[k] = true) : (l.take (k + 1)).all p = true := by
  rw [List.take_succ_eq_append_getElem hk, List.all_append, h]
  simp [hp]

theorem byte_at (s : ByteArray) (k : Nat) (hk : k < s.size) : s[k] = s.data.toList[k]'(by rw [Array.length_toList]; exact hk) := by
  rw [Array.getElem_toList]
  rfl

theorem AllL_any (s : ByteArray) (_hs : s.size ≤ 9223372036854775807) (w : World) : Calls Try.prog 67 #[.string s, .func (.func 65) #[] #[]] w fun e w' => e = .returned (.bool (allL s)) ∧ w' = w := by
  obtain ⟨res, hres⟩ : ∃ r, r = allL s := ⟨_, rfl⟩
  have HRES := Lib.hid hres
  rw [← hres]
  clear hres
  have hsl : s.data.toList.length = s.size := by rw [Array.length_toList]; rfl
  have HSL := Lib.hid hsl
  clear hsl
  go_enter Try.func67, Try.ntmps67
  go_wp2
  go_loopw [8] (fun i wr => ∃ k : Nat, k ≤ s.size ∧ i = .int .i64 k ∧ wr = w ∧ (s.data.toList.take k).all (fun c => letF c.toNat) = true) (fun i _ => s.size - (intOf i).toNat)
  case atStart => exact ⟨0, Nat.zero_le _, rfl, rfl, by simp⟩
  case round =>
    obtain ⟨k, hk, rfl, rfl, hall⟩ := hrel
    have HALL := Lib.hid hall
    clear hall
    by_cases hlt : k < s.size
    · have HB := Lib.hid (byte_at s k hlt)
      by_cases hc : letF s[k].toNat = true
      · have HC := Lib.hid hc
        go_wp2_with (go_at_call 65; refine (Letter_any _ wr).mono ?_; rintro e w1 ⟨rfl, rfl⟩)
        go_roundw
        case rel => exact ⟨k + 1, by omega, by go_num, trivial, take_all (by rw [HSL.out]; exact hlt) HALL.out (by have := HC.out; rw [HB.out] at this; exact this)⟩
        case measure => simp [intOf]; omega
      · have hc' : letF s[k].toNat = false := by simpa using hc
        have HC := Lib.hid hc'
        clear hc
        go_wp2_with (go_at_call 65; refine (Letter_any _ wr).mono ?_; rintro e w1 ⟨rfl, rfl⟩)
        go_ret
        refine ⟨ret_bool ?_, rfl⟩
        rw [HRES.out]
        symm
        unfold allL
        rw [List.all_eq_false]
        exact ⟨_, List.getElem_mem (by rw [HSL.out]; exact hlt), by have := HC.out; rw [HB.out] at this; rw [this]; exact Bool.false_ne_true⟩
    · obtain rfl : k = s.size := by omega
      go_wp2
      go_ret
      exact ⟨ret_bool (by have := HALL.out; rw [List.take_of_length_le (by rw [HSL.out]; exact Nat.le_refl _)] at this; exact (HRES.out.trans this).symm), rfl⟩

theorem Digit_any (c : Int) (w : World) : Calls Try.prog 66 #[.int .u8 c] w fun e w' => e = .returned (.bool (digF c)) ∧ w' = w := by
  by_cases h : 48 ≤ c
  · have h1 : decide (48 ≤ c) = true := decide_eq_true h
    go_enter Try.func66, Try.ntmps66
    go_wp2
    go_ret
    exact ⟨ret_bool (by unfold digF; rw [h1]; simp), rfl⟩
  · have h1 : decide (48 ≤ c) = false := decide_eq_false h
    go_enter Try.func66, Try.ntmps66
    go_wp2
    go_ret
    exact ⟨ret_bool (by unfold digF; rw [h1]; simp), rfl⟩

theorem RLetter_any (c : Int) (w : World) : Calls Try.prog 64 #[.int .u8 c] w fun e w' => e = .returned (.bool (letF c)) ∧ w' = w := by
  by_cases h : 65 ≤ c
  · have h1 : decide (65 ≤ c) = true := decide_eq_true h
    go_enter Try.func64, Try.ntmps64
    go_wp2
    go_ret
    exact ⟨ret_bool (by unfold letF; rw [h1]; simp), rfl⟩
  · have h1 : decide (65 ≤ c) = false := decide_eq_false h
    go_enter Try.func64, Try.ntmps64
    go_wp2
    go_ret
    exact ⟨ret_bool (by unfold letF; rw [h1]; simp), rfl⟩

theorem RDigit_any (c : Int) (w : World) : Calls Try.prog 68 #[.int .u8 c] w fun e w' => e = .returned (.bool (digF c)) ∧ w' = w := by
  by_cases h : 48 ≤ c
  · have h1 : decide (48 ≤ c) = true := decide_eq_true h
    go_enter Try.func68, Try.ntmps68
    go_wp2
    go_ret
    exact ⟨ret_bool (by unfold digF; rw [h1]; simp), rfl⟩
  · have h1 : decide (48 ≤ c) = false := decide_eq_false h
    go_enter Try.func68, Try.ntmps68
    go_wp2
    go_ret
    exact ⟨ret_bool (by unfold digF; rw [h1]; simp), rfl⟩

def letsF (s : ByteArray) (lo hi : Int) : Bool := decide (lo ≤ (s.size : Int)) && decide ((s.size : Int) ≤ hi) && allL s

theorem Letters_any (s : ByteArray) (lo hi : Int) (hh : hi ≤ 1000) (w : World) : Calls Try.prog 59 #[.string s, .int .i64 lo, .int .i64 hi] w fun e w' => e = .returned (.bool (letsF s lo hi)) ∧ w' = w := by
  by_cases h1 : lo ≤ (s.size : Int)
  · have b1 : decide (lo ≤ (s.size : Int)) = true := decide_eq_true h1
    by_cases h2 : (s.size : Int) ≤ hi
    · have b2 : decide ((s.size : Int) ≤ hi) = true := decide_eq_true h2
      have hs : s.size ≤ 9223372036854775807 := by omega
      go_enter Try.func59, Try.ntmps59
      go_wp2_with (go_at_call 67; refine (AllL_any s hs w).mono ?_; rintro e w1 ⟨rfl, rfl⟩)
      go_ret
      exact ⟨ret_bool (by unfold letsF; rw [b1, b2]; simp), rfl⟩
    · have b2 : decide ((s.size : Int) ≤ hi) = false := decide_eq_false h2
      go_enter Try.func59, Try.ntmps59
      go_wp2
      go_ret
      exact ⟨ret_bool (by unfold letsF; rw [b1, b2]; simp), rfl⟩
  · have b1 : decide (lo ≤ (s.size : Int)) = false := decide_eq_false h1
    go_enter Try.func59, Try.ntmps59
    go_wp2
    go_ret
    exact ⟨ret_bool (by unfold letsF; rw [b1]; simp), rfl⟩

theorem ValidPort_any (s : ByteArray) (w : World) : Calls Try.prog 51 #[.string s] w fun e w' => e = .returned (.bool (letsF s 3 3)) ∧ w' = w := by
  go_enter Try.func51, Try.ntmps51
  go_wp2_with (go_at_call 59; refine (Letters_any s 3 3 (by omega) w).mono ?_; rintro e w1 ⟨rfl, rfl⟩)
  go_ret
  exact ⟨rfl, rfl⟩

def cI (b : Bool) : Int := if b then 1 else 0

def carF (s : ByteArray) : Bool :=
  match s.data.toList with
  | [a, b] => (letF a.toNat || digF a.toNat) && (letF b.toNat || digF b.toNat) && (letF a.toNat || letF b.toNat)
  | _ => false

theorem two_list (l : List UInt8) (h : l.length = 2) : l = [l[0], l[1]] := by
  match l, h with
  | [a, b], _ => rfl

theorem two_bytes (s : ByteArray) (h : s.size = 2) : ∃ (h0 : 0 < s.size) (h1 : 1 < s.size), s.data.toList = [s[0], s[1]] := by
  have hl : s.data.toList.length = 2 := by rw [Array.length_toList]; exact h
  refine ⟨by omega, by omega, ?_⟩
  rw [byte_at s 0 (by omega), byte_at s 1 (by omega)]
  exact two_list _ hl

theorem carF_ne (s : ByteArray) (h : s.size ≠ 2) : carF s = false := by
  have hl : s.data.toList.length ≠ 2 := by rw [Array.length_toList]; exact h
  unfold carF
  split
  · rename_i e
    rw [e] at hl
    simp at hl
  · rfl

theorem Carrier_any (s : ByteArray) (w : World) : Calls Try.prog 58 #[.string s] w fun e w' => e = .returned (.bool (carF s)) ∧ w' = w := by
  by_cases h : s.size = 2
  · obtain ⟨h0, h1, hl⟩ := two_bytes s h
    have hc : carF s = ((letF s[0].toNat || digF s[0].toNat) && (letF s[1].toNat || digF s[1].toNat) && (letF s[0].toNat || letF s[1].toNat)) := by
      unfold carF
      rw [hl]
    rw [hc]
    have hne : (s.size == 2) = true := by simp [h]
    clear hc hl
    have cL0 := fun w => Letter_any (s[0].toNat : Int) w
    have cL1 := fun w => Letter_any (s[1].toNat : Int) w
    have cD0 := fun w => Digit_any (s[0].toNat : Int) w
    have cD1 := fun w => Digit_any (s[1].toNat : Int) w
    generalize letF s[0].toNat = a0 at *
    generalize letF s[1].toNat = a1 at *
    generalize digF s[0].toNat = d0 at *
    generalize digF s[1].toNat = d1 at *
    have CL0 := Lib.hid cL0
    have CL1 := Lib.hid cL1
    have CD0 := Lib.hid cD0
    have CD1 := Lib.hid cD1
    clear cL0 cL1 cD0 cD1
    obtain ⟨res, hres⟩ : ∃ r, r = ((a0 || d0) && (a1 || d1) && (a0 || a1)) := ⟨_, rfl⟩
    have HRES := Lib.hid hres
    rw [← hres]
    clear hres
    go_enter Try.func58, Try.ntmps58
    go_wp2
    go_loopw [3, 10] (fun n i wr => wr = w ∧ ((i = .int .i64 0 ∧ n = .int .i64 0) ∨ (i = .int .i64 1 ∧ n = .int .i64 (cI a0) ∧ (a0 || d0) = true) ∨ (i = .int .i64 2 ∧ n = .int .i64 (cI a0 + cI a1) ∧ (a0 || d0) = true ∧ (a1 || d1) = true))) (fun _ i _ => 2 - (intOf i).toNat)
    case atStart => exact ⟨rfl, .inl ⟨rfl, rfl⟩⟩
    case round =>
      obtain ⟨rfl, hr⟩ := hrel
      rcases hr with ⟨rfl, rfl⟩ | ⟨rfl, rfl, ho⟩ | ⟨rfl, rfl, ho, ho'⟩
      · cases a0
        · cases d0
          · go_wp2_with (first
              | (go_at_call 65; refine (CL0.out wr).mono ?_; rintro e w1 ⟨rfl, rfl⟩)
              | (go_at_call 66; refine (CD0.out w1).mono ?_; rintro e w2 ⟨rfl, rfl⟩))
            go_ret
            exact ⟨ret_bool (by rw [HRES.out]; rfl), rfl⟩
          · go_wp2_with (first
              | (go_at_call 65; refine (CL0.out wr).mono ?_; rintro e w1 ⟨rfl, rfl⟩)
              | (go_at_call 66; refine (CD0.out w1).mono ?_; rintro e w2 ⟨rfl, rfl⟩))
            go_roundw
            case rel => exact ⟨trivial, .inr (.inl ⟨by go_num, by simp [cI], rfl⟩)⟩
            case measure => simp [intOf]
        · go_wp2_with (first
              | (go_at_call 65; refine (CL0.out wr).mono ?_; rintro e w1 ⟨rfl, rfl⟩)
              | (go_at_call 66; refine (CD0.out w1).mono ?_; rintro e w2 ⟨rfl, rfl⟩))
          go_roundw
          case rel => exact ⟨trivial, .inr (.inl ⟨by go_num, by simp [cI], rfl⟩)⟩
          case measure => simp [intOf]
      · cases a1
        · cases d1
          · go_wp2_with (first
              | (go_at_call 65; refine (CL1.out wr).mono ?_; rintro e w1 ⟨rfl, rfl⟩)
              | (go_at_call 66; refine (CD1.out w1).mono ?_; rintro e w2 ⟨rfl, rfl⟩))
            go_ret
            exact ⟨ret_bool (by rw [HRES.out]; simp), rfl⟩
          · go_wp2_with (first
              | (go_at_call 65; refine (CL1.out wr).mono ?_; rintro e w1 ⟨rfl, rfl⟩)
              | (go_at_call 66; refine (CD1.out w1).mono ?_; rintro e w2 ⟨rfl, rfl⟩))
            go_roundw
            case rel => exact ⟨trivial, .inr (.inr ⟨by go_num, by cases a0 <;> simp [cI], ho, rfl⟩)⟩
            case measure => simp [intOf]
        · go_wp2_with (first
              | (go_at_call 65; refine (CL1.out wr).mono ?_; rintro e w1 ⟨rfl, rfl⟩)
              | (go_at_call 66; refine (CD1.out w1).mono ?_; rintro e w2 ⟨rfl, rfl⟩))
          go_roundw
          case rel => exact ⟨trivial, .inr (.inr ⟨by go_num, by cases a0 <;> simp [cI, wrap64], ho, rfl⟩)⟩
          case measure => simp [intOf]
      · go_wp2
        go_ret
        exact ⟨ret_bool (by rw [HRES.out]; revert ho ho'; cases a0 <;> cases a1 <;> cases d0 <;> cases d1 <;> simp [cI]), rfl⟩
  · rw [carF_ne s h]
    go_enter Try.func58, Try.ntmps58
    go_wp2
    go_ret
    exact ⟨rfl, rfl⟩
end Go.Proofs.Ytmigkmdhenkpmaa
