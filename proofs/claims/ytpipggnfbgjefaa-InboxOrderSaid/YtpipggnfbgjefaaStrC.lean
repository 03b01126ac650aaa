/- strings.Compare as a contract of the abstract walker; the two walks are what the kit's contract.sh lays (function numbers by name). -/
import Derived.Test.YtpipggnfbgjefaaExC
import Derived.Test.YtpipggnfbgjefaaChecked
import Derived.Lib.Strings
import Derived.Lib.Slices
import Derived.Lib.Walk
import Derived.Lib.Bytealg
namespace Go.Proofs.Ytpipggnfbgjefaa.Ex
open Go.RowKit Go.Proofs.Ytpipggnfbgjefaa.Ax
set_option linter.unusedVariables false
set_option linter.unusedSimpArgs false

set_option maxHeartbeats 1000000 in
set_option maxRecDepth 100000 in
theorem cmpString_calls (a b : ByteArray) (w : World) :
    Calls Try.prog 82 #[.string a, .string b] w fun e w' => e = .returned (.int .i64 (Lib.compareBytes a.data.toList b.data.toList)) ∧ w' = w := by
  go_enter Try.func82, Try.ntmps82
  go_wp2
  rw [run_callFunc_extern Try.func97 (by kernel_rfl) (by kernel_rfl) (by kernel_rfl) (e := Extern.BytealgCompare.compare) (by kernel_rfl), Lib.run_compareString]
  simp only [Result.andThen]
  rw [Oper.upon_value]
  go_wp2
  go_ret
  exact ⟨rfl, rfl⟩
set_option maxHeartbeats 1000000 in
theorem strings_Compare_calls (a b : ByteArray) (w : World) :
    Calls Try.prog 58 #[.string a, .string b] w fun e w' => e = .returned (.int .i64 (Lib.compareBytes a.data.toList b.data.toList)) ∧ w' = w := by
  go_enter Try.func58, Try.ntmps58
  go_wp2_with (go_at_call 82; refine (cmpString_calls _ _ _).mono ?_; rintro e w' ⟨rfl, rfl⟩)
  go_ret
  exact ⟨rfl, rfl⟩
/-- strings.Compare -/
theorem strings_Compare_ac0 (a b : ByteArray) : AC Try.prog 58 [.str a, .str b] [] (.int .i64 (Lib.compareBytes a.data.toList b.data.toList)) [] := ac_strs (strings_Compare_calls a b)
end Go.Proofs.Ytpipggnfbgjefaa.Ex
