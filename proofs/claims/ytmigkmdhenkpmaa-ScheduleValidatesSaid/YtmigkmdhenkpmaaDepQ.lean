/- keep.Flights, Text, Port, and the law's example. -/
import Derived.Test.YtmigkmdhenkpmaaDepN
namespace Go.Proofs.Ytmigkmdhenkpmaa
open Go.RowKit

def carN (q : Nat) : ByteArray := if q = 0 then ⟨#[66, 65]⟩ else if q = 1 then ⟨#[76, 72]⟩ else ⟨#[83, 75]⟩
def FL (i : Nat) : Flt := ⟨carN (i / 9), 1 + (i / 3 % 3 : Nat), ⟨#[]⟩, 1 + (i % 3 : Nat)⟩

theorem two_blocks (w : World) (a b : Obj) : Below w.heap.size w ((w.alloc a).alloc b) := ((Below.refl _ _).alloc (Nat.le_refl _) _).alloc (by rw [size_new]; exact Nat.le_succ _) _

set_option maxHeartbeats 2000000 in
theorem Flights_any (x : Int) (hx : 0 ≤ x ∧ x < 27) (w : World) : Calls Try.prog 25 #[.int .i64 x] w fun e w' => e = .returned (.agg (FL x.toNat).cells) ∧ Below w.heap.size w w' := by
  have hm : modF x 27 = x := by unfold modF; rw [if_neg (by omega)]; exact Int.emod_eq_of_lt hx.1 hx.2
  have MX := Lib.hid (fun w => Mod_any x 27 w (by omega) (by omega))
  rw [hm] at MX
  clear hm
  have h27 : x = 0 ∨ x = 1 ∨ x = 2 ∨ x = 3 ∨ x = 4 ∨ x = 5 ∨ x = 6 ∨ x = 7 ∨ x = 8 ∨ x = 9 ∨ x = 10 ∨ x = 11 ∨ x = 12 ∨ x = 13 ∨ x = 14 ∨ x = 15 ∨ x = 16 ∨ x = 17 ∨ x = 18 ∨ x = 19 ∨ x = 20 ∨ x = 21 ∨ x = 22 ∨ x = 23 ∨ x = 24 ∨ x = 25 ∨ x = 26 := by omega
  clear hx
  obtain ⟨res, hres⟩ : ∃ r, r = (FL x.toNat).cells := ⟨_, rfl⟩
  have HRES := Lib.hid hres
  rw [← hres]
  clear hres
  rcases h27 with rfl | rfl | rfl | rfl | rfl | rfl | rfl | rfl | rfl | rfl | rfl | rfl | rfl | rfl | rfl | rfl | rfl | rfl | rfl | rfl | rfl | rfl | rfl | rfl | rfl | rfl | rfl
  all_goals
    go_enter Try.func25, Try.ntmps25
    go_wp2_with (go_at_call 43; refine (MX.out _).mono ?_; rintro e w1 ⟨rfl, rfl⟩)
    (try simp only [Exit.inBlock, Exit.then])
    refine bodyPost_ret (v := .agg res) ?_ rfl ⟨rfl, ?_⟩
    · rw [HRES.out]
      clear HRES
      simp [go_sem, results, Try.f25]
      try rfl
    · exact two_blocks _ _ _
end Go.Proofs.Ytmigkmdhenkpmaa
