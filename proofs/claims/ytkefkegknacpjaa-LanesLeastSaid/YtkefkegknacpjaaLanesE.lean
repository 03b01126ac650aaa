/- lanes.Check. -/
import Derived.Test.YtkefkegknacpjaaLanesD
import Derived.Maps.OwnSet
namespace Go.Proofs.Ytkefkegknacpjaa
open Go.RowKit Go.Maps

theorem neg_any (x : Int) (w : World) : Calls Try.prog 41 #[.int .i64 x] w fun e w' => e = .returned (.bool (decide (x < 0))) ∧ w = w' := by
  go_enter Try.func41, Try.ntmps41
  go_wp2
  go_ret
  exact ⟨rfl, rfl⟩

abbrev negC : Value := .func (.func 41) #[] #[]

theorem IndexNeg_any (v : Value) (l : List Int) (w : World) (hv : IntsV w v l) :
    Calls Try.prog 51 #[v, negC] w fun e w' => (∃ k : Int, e = .returned (.int .i64 k) ∧ (decide (0 ≤ k)) = l.any (fun x => decide (x < 0))) ∧ w = w' := by
  obtain ⟨a, c, rfl, la, _, ca⟩ := hv.open
  clear hv
  go_enter Try.func51, Try.ntmps51
  go_wp2
  go_loop [8] (fun i => ∃ k : Nat, k ≤ l.length ∧ i = .int .i64 k ∧ ∀ j, j < k → 0 ≤ atF l j) (fun i => l.length - (intOf i).toNat)
  case atStart => exact ⟨0, Nat.zero_le _, rfl, fun j hj => by omega⟩
  case round =>
    obtain ⟨k, hk, rfl, hall⟩ := hrel
    by_cases hlt : k < l.length
    · obtain ⟨b, o, rfl, hb, cc⟩ := ca (by omega)
      have d : w.cell? ⟨b, o + k, none⟩ = some (.int .i64 (atF l k)) := cc k hlt
      have hhit : ∀ y, atF l k = y → y < 0 → l.any (fun x => decide (x < 0)) = true := fun y hy h => List.any_eq_true.2 ⟨_, atF_mem hlt, by simp [hy, h]⟩
      have hstep : ∀ y, atF l k = y → 0 ≤ y → ∀ j, j < k + 1 → 0 ≤ atF l j := by
        intro y hy hyx j hj
        by_cases hjk : j = k
        · rw [hjk, hy]; exact hyx
        · exact hall j (by omega)
      clear cc ca hall
      obtain ⟨y, hy⟩ : ∃ y, atF l k = y := ⟨_, rfl⟩
      rw [hy] at d
      have HY := Lib.hid hy
      clear hy
      by_cases h0 : y < 0
      · have hd0 : decide (y < 0) = true := decide_eq_true h0
        go_wp2_with (go_at_call 41; refine (neg_any y w).mono ?_; rintro e w5 ⟨rfl, rfl⟩; rw [hd0])
        go_ret
        exact ⟨⟨k, rfl, by rw [hhit _ HY.out h0]; simp⟩, rfl⟩
      · have hd0 : decide (y < 0) = false := decide_eq_false h0
        go_wp2_with (go_at_call 41; refine (neg_any y w).mono ?_; rintro e w5 ⟨rfl, rfl⟩; rw [hd0])
        go_round
        case rel => exact ⟨k + 1, by omega, by go_num, hstep y HY.out (by omega)⟩
        case measure => simp [intOf]; omega
    · go_wp2
      go_ret
      refine ⟨⟨-1, rfl, ?_⟩, rfl⟩
      symm
      simp only [show decide ((0 : Int) ≤ -1) = false by decide, List.any_eq_false]
      intro x hx
      obtain ⟨j, hj, rfl⟩ := List.mem_iff_getElem.1 hx
      have := hall j (by omega)
      simp [atF, hj] at this
      simpa using this

theorem HasNeg_any (v : Value) (l : List Int) (w : World) (hv : IntsV w v l) :
    Calls Try.prog 40 #[v, negC] w fun e w' => e = .returned (.bool (l.any (fun x => decide (x < 0)))) ∧ w = w' := by
  have Q := IndexNeg_any v l w hv
  go_enter Try.func40, Try.ntmps40
  go_wp2_with (go_at_call 51; refine Q.mono ?_; rintro e w5 ⟨⟨k, rfl, hk⟩, rfl⟩)
  go_ret
  exact ⟨ret_bool (by simp), rfl⟩
end Go.Proofs.Ytkefkegknacpjaa
