/- IsOpen and IsClosed of the reference. -/
import Derived.Test.YtmigkmdhenkpmaaDepW
namespace Go.Proofs.Ytmigkmdhenkpmaa
open Go.RowKit

theorem RIsOpen_any (d : Dep) (now : Int) (w : World) : Calls Try.prog 31 #[.agg d.cells, .int .i64 now] w fun e w' => e = .returned (.bool (opF d now)) ∧ Below w.heap.size w w' := by
  obtain ⟨res, hres⟩ : ∃ r, r = opF d now := ⟨_, rfl⟩
  rw [← hres]
  have HRES := Lib.hid hres
  clear hres
  obtain ⟨⟨c2, n2, s2, d2⟩, p, op, cl, le, st, sa⟩ := d
  simp only [Dep.cells]
  go_enter Try.func31, Try.ntmps31
  go_wp2
  all_goals go_ret
  all_goals refine ⟨ret_bool ?_, (one_box _ _ _ _ rfl).2.1⟩
  all_goals rw [HRES.out]
  all_goals clear HRES
  all_goals simp_all [opF]
  all_goals (intros; omega)

theorem RIsClosed_any (d : Dep) (now : Int) (w : World) : Calls Try.prog 32 #[.agg d.cells, .int .i64 now] w fun e w' => e = .returned (.bool (clF d now)) ∧ Below w.heap.size w w' := by
  obtain ⟨res, hres⟩ : ∃ r, r = clF d now := ⟨_, rfl⟩
  rw [← hres]
  have HRES := Lib.hid hres
  clear hres
  obtain ⟨⟨c2, n2, s2, d2⟩, p, op, cl, le, st, sa⟩ := d
  simp only [Dep.cells]
  go_enter Try.func32, Try.ntmps32
  go_wp2
  all_goals go_ret
  all_goals refine ⟨ret_bool ?_, (one_box _ _ _ _ rfl).2.1⟩
  all_goals rw [HRES.out]
  all_goals clear HRES
  all_goals simp_all [clF]
end Go.Proofs.Ytmigkmdhenkpmaa
