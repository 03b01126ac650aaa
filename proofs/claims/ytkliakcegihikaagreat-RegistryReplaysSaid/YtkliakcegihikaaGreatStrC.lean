/- strings.Compare as a contract of the abstract walker; the two walks are what the kit's contract.sh lays (function numbers by name). -/
import Derived.Test.YtkliakcegihikaaGreatExC
import Derived.Test.YtkliakcegihikaaGreatChecked
import Derived.Lib.Strings
import Derived.Lib.Slices
import Derived.Lib.Walk
import Derived.Lib.Bytealg
namespace Go.Proofs.YtkliakcegihikaaGreat.Ex
open Go.RowKit Go.Proofs.YtkliakcegihikaaGreat.Ax
set_option linter.unusedVariables false
set_option linter.unusedSimpArgs false

set_option maxHeartbeats 1000000 in
set_option maxRecDepth 100000 in
theorem cmpString_calls (a b : ByteArray) (w : World) :
  Calls Tryz.prog 100 #[.string a, .string b] w fun e w' => e = .returned (.int .i64 (Lib.compareBytes a.data.toList b.data.toList)) ∧ w' = w := by
 go_enter Tryz.func100, Tryz.ntmps100
 go_wp2
 rw [run_callFunc_extern Tryz.func114 (by kernel_rfl) (by kernel_rfl) (by kernel_rfl) (e := Extern.BytealgCompare.compare) (by kernel_rfl), Lib.run_compareString]
 simp only [Result.andThen]
 rw [Oper.upon_value]
 go_wp2
 go_ret
 exact ⟨rfl, rfl⟩
set_option maxHeartbeats 1000000 in
theorem strings_Compare_calls (a b : ByteArray) (w : World) :
  Calls Tryz.prog 68 #[.string a, .string b] w fun e w' => e = .returned (.int .i64 (Lib.compareBytes a.data.toList b.data.toList)) ∧ w' = w := by
 go_enter Tryz.func68, Tryz.ntmps68
 go_wp2_with (go_at_call 100; refine (cmpString_calls _ _ _).mono ?_; rintro e w' ⟨rfl, rfl⟩)
 go_ret
 exact ⟨rfl, rfl⟩
/-- strings.Compare -/
theorem strings_Compare_ac0 (a b : ByteArray) : AC Tryz.prog 68 [.str a, .str b] [] (.int .i64 (Lib.compareBytes a.data.toList b.data.toList)) [] := ac_strs (strings_Compare_calls a b)
end Go.Proofs.YtkliakcegihikaaGreat.Ex
