/- Texts of messages: the program's and the reference's tests agree. -/
import Derived.Test.YtkliakcegihikaaRg2
namespace Go.Proofs.Ytkliakcegihikaa.Ex
open Go.RowKit Go.Proofs.Ytkliakcegihikaa.Ax
set_option linter.unusedVariables false
set_option linter.unusedSimpArgs false

/-- the bytes of a string, as numbers -/
def byL (s : ByteArray) : List Int := s.data.toList.map (fun b => (b.toNat : Int))
theorem byL_len (s : ByteArray) : (byL s).length = s.size := by unfold byL; rw [List.length_map, Array.length_toList]; rfl
theorem ixS_by (s : ByteArray) (k : Nat) {x : Int} (h : (byL s)[k]? = some x) {i : Int} (hi : i = k) : ixS s i = some x := by
  subst hi
  unfold ixS
  rw [if_pos (Int.natCast_nonneg k), Int.toNat_natCast]
  unfold byL at h
  rw [List.getElem?_map, Array.getElem?_toList] at h
  rw [show s[k]? = s.data[k]? from rfl]
  exact h
theorem by_at (s : ByteArray) {k : Nat} (h : k < s.size) : ∃ x, (byL s)[k]? = some x ∧ x ∈ byL s := ⟨(byL s)[k]'(by rw [byL_len]; exact h), List.getElem?_eq_getElem _, List.getElem_mem _⟩

def isL (b : Int) : Prop := 65 ≤ b ∧ b ≤ 90
def isD (b : Int) : Prop := 48 ≤ b ∧ b ≤ 57
instance (b : Int) : Decidable (isL b) := by unfold isL; infer_instance
instance (b : Int) : Decidable (isD b) := by unfold isD; infer_instance
theorem pl_eq (b : Int) : fields_Letter b = some (decide (isL b)) := by
  unfold fields_Letter isL
  by_cases h : 65 ≤ b <;> by_cases h2 : b ≤ 90 <;> simp [h, h2]
theorem rl_eq (b : Int) : ref02_Letter b = some (decide (isL b)) := by
  unfold ref02_Letter isL
  by_cases h : 65 ≤ b <;> by_cases h2 : b ≤ 90 <;> simp [h, h2]
theorem pd_eq (b : Int) : fields_Digit b = some (decide (isD b)) := by
  unfold fields_Digit isD
  by_cases h : 48 ≤ b <;> by_cases h2 : b ≤ 57 <;> simp [h, h2]
theorem rd_eq (b : Int) : ref02_Digit b = some (decide (isD b)) := by
  unfold ref02_Digit isD
  by_cases h : 48 ≤ b <;> by_cases h2 : b ≤ 57 <;> simp [h, h2]

theorem all_step {p : Int → Prop} [DecidablePred p] {l : List Int} {k : Nat} {x : Int} (h : l[k]? = some x) : (∀ b ∈ l.drop k, p b) ↔ p x ∧ ∀ b ∈ l.drop (k + 1), p b := by
  rw [drop_cons h]
  simp

theorem pAll_L (s : ByteArray) (hs : (s.size : Int) ≤ 4611686018427387904) : ∀ (n k : Nat), k ≤ s.size → s.size < n + k → fields_All_L1 s n (k : Int) = some (if ∀ b ∈ (byL s).drop k, isL b then Ctl.brk () else Ctl.ret false)
  | 0, k, h1, h2 => by omega
  | n + 1, k, h1, h2 => by
    rw [fields_All_L1]
    by_cases hk : k < s.size
    · obtain ⟨x, hx, _⟩ := by_at s hk
      rw [show decide ((k : Int) < (s.size : Int)) = true from decide_eq_true (by omega), cond_true, ixS_by s k hx rfl, Option.bind_some, pl_eq, Option.bind_some, w64_id (z := (k : Int) + 1) (by omega) (by omega)]
      have ih := pAll_L s hs n (k + 1) (by omega) (by omega)
      rw [show ((k + 1 : Nat) : Int) = (k : Int) + 1 by omega] at ih
      rw [ih]
      simp only [all_step (p := isL) hx]
      by_cases h : isL x <;> simp [h]
    · rw [show decide ((k : Int) < (s.size : Int)) = false from decide_eq_false (by omega), cond_false, List.drop_of_length_le (by rw [byL_len]; omega)]
      simp
theorem rAll_L (s : ByteArray) (hs : (s.size : Int) ≤ 4611686018427387904) : ∀ (n k : Nat), k ≤ s.size → s.size < n + k → ref04_letters_L1 s n (k : Int) = some (if ∀ b ∈ (byL s).drop k, isL b then Ctl.brk () else Ctl.ret false)
  | 0, k, h1, h2 => by omega
  | n + 1, k, h1, h2 => by
    rw [ref04_letters_L1]
    by_cases hk : k < s.size
    · obtain ⟨x, hx, _⟩ := by_at s hk
      rw [show decide ((k : Int) < (s.size : Int)) = true from decide_eq_true (by omega), cond_true, ixS_by s k hx rfl, Option.bind_some, rl_eq, Option.bind_some, w64_id (z := (k : Int) + 1) (by omega) (by omega)]
      have ih := rAll_L s hs n (k + 1) (by omega) (by omega)
      rw [show ((k + 1 : Nat) : Int) = (k : Int) + 1 by omega] at ih
      rw [ih]
      simp only [all_step (p := isL) hx]
      by_cases h : isL x <;> simp [h]
    · rw [show decide ((k : Int) < (s.size : Int)) = false from decide_eq_false (by omega), cond_false, List.drop_of_length_le (by rw [byL_len]; omega)]
      simp
/-- all bytes are letters -/
def allL (s : ByteArray) : Prop := ∀ b ∈ byL s, isL b
instance (s : ByteArray) : Decidable (allL s) := by unfold allL; infer_instance
theorem pLetters (s : ByteArray) (lo hi : Int) (hh : hi ≤ 4611686018427387904) : fields_Letters s lo hi = some (decide (lo ≤ s.size ∧ s.size ≤ hi ∧ allL s)) := by
  unfold fields_Letters fields_All
  by_cases h1 : lo ≤ (s.size : Int)
  · by_cases h2 : (s.size : Int) ≤ hi
    · have h := pAll_L s (by omega) 9223372036854775807 0 (by omega) (by omega)
      rw [show ((0 : Nat) : Int) = 0 from rfl, List.drop_zero] at h
      rw [decide_eq_true h1, cond_true, decide_eq_true h2, cond_true, h]
      by_cases h3 : allL s
      · rw [if_pos (show ∀ b ∈ byL s, isL b from h3), fin_brkE rfl, Option.bind_some, decide_eq_true ⟨h1, h2, h3⟩]
      · rw [if_neg (show ¬ ∀ b ∈ byL s, isL b from h3), fin_retE rfl, Option.bind_some, decide_eq_false (fun e => h3 e.2.2)]
    · rw [decide_eq_true h1, cond_true, decide_eq_false h2, cond_false, decide_eq_false (fun e => h2 e.2.1)]
  · rw [decide_eq_false h1, cond_false, decide_eq_false (fun e => h1 e.1)]
theorem rLetters (s : ByteArray) (hs : (s.size : Int) ≤ 4611686018427387904) (lo : Int) : ref04_letters s lo = some (decide (lo ≤ s.size ∧ s.size ≤ (20 : Int) ∧ allL s)) := by
  unfold ref04_letters
  have h := rAll_L s hs 9223372036854775807 0 (by omega) (by omega)
  rw [show ((0 : Nat) : Int) = 0 from rfl, List.drop_zero] at h
  rw [h]
  by_cases h3 : allL s
  · rw [if_pos (show ∀ b ∈ byL s, isL b from h3), fin_brkE rfl]
    by_cases h1 : lo ≤ (s.size : Int)
    · rw [decide_eq_true h1, cond_true]
      congr 1
      by_cases h2 : (s.size : Int) ≤ 20
      · rw [decide_eq_true h2, decide_eq_true ⟨h1, h2, h3⟩]
      · rw [decide_eq_false h2, decide_eq_false (fun e => h2 e.2.1)]
    · rw [decide_eq_false h1, cond_false, decide_eq_false (fun e => h1 e.1)]
  · rw [if_neg (show ¬ ∀ b ∈ byL s, isL b from h3), fin_retE rfl, decide_eq_false (fun e => h3 e.2.2)]

theorem by3 (s : ByteArray) (h : s.size = 3) : ∃ a b c, byL s = [a, b, c] := by
  have := byL_len s
  rw [h] at this
  match byL s, this with
  | [a, b, c], _ => exact ⟨a, b, c, rfl⟩
theorem by2 (s : ByteArray) (h : s.size = 2) : ∃ a b, byL s = [a, b] := by
  have := byL_len s
  rw [h] at this
  match byL s, this with
  | [a, b], _ => exact ⟨a, b, rfl⟩
theorem by1 (s : ByteArray) (h : s.size = 1) : ∃ a, byL s = [a] := by
  have := byL_len s
  rw [h] at this
  match byL s, this with
  | [a], _ => exact ⟨a, rfl⟩

theorem port_eq (s : ByteArray) : flight_ValidPort s = ref02_ValidPort s := by
  unfold flight_ValidPort ref02_ValidPort
  rw [pLetters s 3 3 (by omega), Option.bind_some]
  by_cases h : s.size = 3
  · obtain ⟨a, b, c, e⟩ := by3 s h
    rw [show ((s.size : Int) == 3) = true by simp [h], cond_true, ixS_by s 0 (by rw [e]; rfl) (i := 0) rfl, Option.bind_some, rl_eq, Option.bind_some, ixS_by s 1 (by rw [e]; rfl) (i := 1) rfl, Option.bind_some, rl_eq, Option.bind_some, ixS_by s 2 (by rw [e]; rfl) (i := 2) rfl, Option.bind_some, rl_eq, Option.bind_some]
    have hA : allL s ↔ isL a ∧ isL b ∧ isL c := by unfold allL; rw [e]; simp
    simp only [hA]
    by_cases ha : isL a <;> by_cases hb : isL b <;> by_cases hc : isL c <;> simp [ha, hb, hc, h]
  · rw [show ((s.size : Int) == 3) = false by simp; omega, cond_false, decide_eq_false (fun e => by omega)]
theorem suffix_eq (s : ByteArray) : fields_Letters s 0 1 = ref02_Suffix s := by
  unfold ref02_Suffix
  rw [pLetters s 0 1 (by omega)]
  by_cases h0 : s.toList == (⟨#[]⟩ : ByteArray).toList
  · have : s = ⟨#[]⟩ := toList_inj (eq_of_beq h0)
    rw [h0, cond_true, this]
    rfl
  · have hb : (s.toList == (⟨#[]⟩ : ByteArray).toList) = false := by simpa using h0
    have hne : s.size ≠ 0 := fun e => by
      apply h0
      have : s = ⟨#[]⟩ := by
        cases s with
        | mk d =>
          have : d.size = 0 := e
          rw [Array.eq_empty_of_size_eq_zero this]
      rw [this]
      exact beq_self_eq_true _
    rw [hb, cond_false]
    by_cases h : s.size = 1
    · obtain ⟨a, e⟩ := by1 s h
      rw [show ((s.size : Int) == 1) = true by simp [h], cond_true, ixS_by s 0 (by rw [e]; rfl) (i := 0) rfl, Option.bind_some, rl_eq, Option.bind_some]
      have hA : allL s ↔ isL a := by unfold allL; rw [e]; simp
      simp only [hA]
      by_cases ha : isL a <;> simp [ha, h]
    · rw [show ((s.size : Int) == 1) = false by simp; omega, cond_false, decide_eq_false (fun e => by omega)]
theorem carrier_eq (s : ByteArray) : flight_carrier s = ref02_Carrier s := by
  unfold flight_carrier ref02_Carrier
  by_cases h : s.size = 2
  · obtain ⟨a, b, e⟩ := by2 s h
    have e0 := ixS_by s 0 (x := a) (by rw [e]; rfl) (i := 0) rfl
    have e1 := ixS_by s 1 (x := b) (by rw [e]; rfl) (i := 1) rfl
    have hL : ∀ n : Nat, flight_carrier_L1 s (n + 1 + 1 + 1) 0 0 = some (if (isL a ∨ isD a) ∧ (isL b ∨ isD b) then Ctl.brk ((if isL a then 1 else 0) + (if isL b then 1 else 0)) else Ctl.ret false) := by
      intro n
      have w1 : w64 (1 : Int) = 1 := rfl
      have w2 : w64 (2 : Int) = 2 := rfl
      have d0 : decide ((0 : Int) < ((2 : Nat) : Int)) = true := rfl
      have d1 : decide ((1 : Int) < ((2 : Nat) : Int)) = true := rfl
      have d2 : decide ((2 : Int) < ((2 : Nat) : Int)) = false := rfl
      by_cases la : isL a <;> by_cases da : isD a <;> by_cases lb : isL b <;> by_cases db : isD b <;>
        simp [flight_carrier_L1, h, e0, e1, pl_eq, pd_eq, w1, w2, d0, d1, d2, la, lb, da, db]
    rw [show ((s.size : Int) != 2) = false by simp [h], cond_false, cond_false]
    have hL' := hL 9223372036854775804
    rw [show (9223372036854775804 + 1 + 1 + 1 : Nat) = 9223372036854775807 from rfl] at hL'
    rw [hL', e0, Option.bind_some, rl_eq, Option.bind_some, e1, Option.bind_some, rl_eq, Option.bind_some, Option.bind_some, rd_eq, Option.bind_some, Option.bind_some, rd_eq, Option.bind_some]
    by_cases la : isL a <;> by_cases lb : isL b <;> by_cases da : isD a <;> by_cases db : isD b <;> simp [la, lb, da, db, Ctl.fin, rd_eq]
  · rw [show ((s.size : Int) != 2) = true by simp; omega, cond_true, cond_true]
theorem flightv_eq (f : Flight) : flight_Valid f = ref02_Valid f := by
  unfold flight_Valid ref02_Valid
  simp only [carrier_eq, suffix_eq f.Suffix]
theorem leg_eq (g : Leg) : flight_ValidLeg g = ref02_ValidLeg g := by
  unfold flight_ValidLeg ref02_ValidLeg ref02_ValidClass
  simp only [flightv_eq g.Flight, port_eq g.Port, cond_ite]
  obtain ⟨b1, e1, _⟩ := flight_t g.Flight
  obtain ⟨b2, e2, _⟩ := port_t g.Port
  rw [e1, e2, Option.bind_some, Option.bind_some, Option.bind_some, Option.bind_some]
  (repeat' split) <;> rfl
end Go.Proofs.Ytkliakcegihikaa.Ex
