/- Contracts of the small functions that only read: keep.Mod, keep.Ints. -/
import Derived.Test.YtkefkegknacpjaaProg
import Derived.Test.YtkefkegknacpjaaBase
namespace Go.Proofs.Ytkefkegknacpjaa
open Go.RowKit

def modF (x n : Int) : Int := if n < 1 then 0 else x % n

theorem modF_bd (x n : Int) (h : 1 ≤ n) : 0 ≤ modF x n ∧ modF x n < n := by
  unfold modF
  rw [if_neg (by omega)]
  exact ⟨Int.emod_nonneg _ (by omega), Int.emod_lt_of_pos _ (by omega)⟩

theorem Mod_any (x n : Int) (w : World) (_hx : -9223372036854775808 ≤ x ∧ x ≤ 9223372036854775807) (hn : n ≤ 9223372036854775807) :
    Calls Try.prog 20 #[.int .i64 x, .int .i64 n] w fun e w' => e = .returned (.int .i64 (modF x n)) ∧ w = w' := by
  by_cases h1 : n < 1
  · go_enter Try.func20, Try.ntmps20
    go_wp2
    go_ret
    exact ⟨ret_int (by unfold modF; rw [if_pos h1]), rfl⟩
  · have hm : -n < x.tmod n ∧ x.tmod n < n := by
      have := Int.tmod_lt_of_pos x (show 0 < n by omega)
      have := Int.lt_tmod_of_pos x (show 0 < n by omega)
      omega
    have he : x % n = if x.tmod n < 0 then x.tmod n + n else x.tmod n := by
      have hb := Int.emod_nonneg x (show n ≠ 0 by omega)
      have hb' := Int.emod_lt_of_pos x (show 0 < n by omega)
      rw [Int.tmod_eq_emod] at *
      split
      · split at * <;> omega
      · split at * <;> omega
    have HE := Lib.hid he
    clear he
    go_enter Try.func20, Try.ntmps20
    go_wp2
    · go_ret
      have h : x.tmod n < 0 := by assumption
      exact ⟨ret_int (by unfold modF; rw [if_neg (by omega), HE.out, if_pos h]), rfl⟩
    · go_ret
      have h : 0 ≤ x.tmod n := by assumption
      exact ⟨ret_int (by unfold modF; rw [if_neg (by omega), HE.out, if_neg (by omega)]), rfl⟩

theorem Ints_any (a b : Value) (l m : List Int) (w : World) (ha : IntsV w a l) (hb : IntsV w b m) :
    Calls Try.prog 13 #[a, b] w fun e w' => e = .returned (.bool (decide (l = m))) ∧ Below w.heap.size w w' := by
  obtain ⟨aa, ac, rfl, la, _, ca⟩ := ha.open
  obtain ⟨ba, bc, rfl, lb, _, cb⟩ := hb.open
  clear ha hb
  by_cases hl : l.length = m.length
  · have HL := Lib.hid hl
    have hb0 : ((l.length : Int) != (m.length : Int)) = false := by simp [hl]
    clear hl
    go_enter Try.func13, Try.ntmps13
    go_wp2
    go_loopw [5] (fun i wr => ∃ k : Nat, k ≤ l.length ∧ i = .int .i64 k ∧ (∀ j, j < k → l[j]?.getD 0 = m[j]?.getD 0) ∧ Below w.heap.size w wr) (fun i _ => l.length - (intOf i).toNat)
    case atStart => exact ⟨0, Nat.zero_le _, rfl, by omega, Below.refl _ _⟩
    case round =>
      obtain ⟨k, hk, rfl, hj, hB⟩ := hrel
      have HJ := Lib.hid hj
      clear hj
      by_cases hlt : k < l.length
      · obtain ⟨b1, o1, rfl, hb1, c1⟩ := ca (by omega)
        obtain ⟨b2, o2, rfl, hb2, c2⟩ := cb (by have := HL.out; omega)
        have d1 := (hB.cell (p := ⟨b1, o1 + k, none⟩) hb1).trans (c1 k hlt)
        have d2 := (hB.cell (p := ⟨b2, o2 + k, none⟩) hb2).trans (c2 k (by have := HL.out; omega))
        clear ca cb c1 c2
        have hlt2 : k < m.length := by have := HL.out; omega
        go_wp2
        go_quiet (fail)
        go_wp2
        · have hne : (l[k] != m[k]) = true := by assumption
          go_ret
          exact ⟨ret_bool (by rw [decide_eq_false]; rintro rfl; simp at hne), below_drewN hB _⟩
        · have hne : (l[k] != m[k]) = false := by assumption
          have hee : l[k] = m[k] := by simpa using hne
          go_roundw
          case rel =>
            refine ⟨k + 1, by omega, by go_num, fun j hj => ?_, below_drewN hB _⟩
            rcases Nat.lt_or_ge j k with h | h
            · exact HJ.out j h
            · obtain rfl : j = k := by omega
              simp [hlt, hlt2, hee]
          case measure => simp [intOf]; omega
      · have hnk : l.length ≤ k := by omega
        go_wp2
        go_ret
        exact ⟨ret_bool (by rw [decide_eq_true]; exact ext_getD HL.out fun i hi => HJ.out i (by omega)), hB⟩
  · go_enter Try.func13, Try.ntmps13
    go_wp2
    go_ret
    exact ⟨ret_bool (by rw [decide_eq_false (fun h => hl (by rw [h]))]), Below.refl _ _⟩
end Go.Proofs.Ytkefkegknacpjaa
