/- Contracts of the small functions that only read: keep.Mod, keep.Ints. -/
import Derived.Test.YtmigkmdhenkpmaaProg
import Derived.Test.YtmigkmdhenkpmaaBase
namespace Go.Proofs.Ytmigkmdhenkpmaa
open Go.RowKit

def modF (x n : Int) : Int := if n < 1 then 0 else x % n

theorem modF_bd (x n : Int) (h : 1 ≤ n) : 0 ≤ modF x n ∧ modF x n < n := by
  unfold modF
  rw [if_neg (by omega)]
  exact ⟨Int.emod_nonneg _ (by omega), Int.emod_lt_of_pos _ (by omega)⟩

theorem Mod_any (x n : Int) (w : World) (_hx : -9223372036854775808 ≤ x ∧ x ≤ 9223372036854775807) (hn : n ≤ 9223372036854775807) :
    Calls Try.prog 43 #[.int .i64 x, .int .i64 n] w fun e w' => e = .returned (.int .i64 (modF x n)) ∧ w = w' := by
  by_cases h1 : n < 1
  · go_enter Try.func43, Try.ntmps43
    go_wp2
    go_ret
    exact ⟨ret_int (by unfold modF; rw [if_pos h1]), rfl⟩
  · have hm : -n < x.tmod n ∧ x.tmod n < n := by
      have := Int.tmod_lt_of_pos x (show 0 < n by omega)
      have := Int.lt_tmod_of_pos x (show 0 < n by omega)
      omega
    have he : x % n = if x.tmod n < 0 then x.tmod n + n else x.tmod n := by
      have hb := Int.emod_nonneg x (show n ≠ 0 by omega)
      have hb' := Int.emod_lt_of_pos x (show 0 < n by omega)
      rw [Int.tmod_eq_emod] at *
      split
      · split at * <;> omega
      · split at * <;> omega
    have HE := Lib.hid he
    clear he
    go_enter Try.func43, Try.ntmps43
    go_wp2
    · go_ret
      have h : x.tmod n < 0 := by assumption
      exact ⟨ret_int (by unfold modF; rw [if_neg (by omega), HE.out, if_pos h]), rfl⟩
    · go_ret
      have h : 0 ≤ x.tmod n := by assumption
      exact ⟨ret_int (by unfold modF; rw [if_neg (by omega), HE.out, if_neg (by omega)]), rfl⟩
end Go.Proofs.Ytmigkmdhenkpmaa
