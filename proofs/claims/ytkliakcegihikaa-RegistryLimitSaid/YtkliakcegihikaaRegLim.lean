/- RegistryLimit: the printed function gives true; it depends on four cases only, which the kernel works out. -/
import Derived.Test.YtkliakcegihikaaKp
namespace Go.Proofs.Ytkliakcegihikaa.Ex
open Go.RowKit Go.Proofs.Ytkliakcegihikaa.Ax
set_option linter.unusedVariables false
set_option linter.unusedSimpArgs false
set_option maxRecDepth 1000000
theorem limit_mod (n : Int) : law06_RegistryLimit n = law06_RegistryLimit (n % 4) := by
  unfold law06_RegistryLimit
  rw [mod_eq n 4 (by decide) (by decide), mod_eq (n % 4) 4 (by decide) (by decide), Int.emod_emod_of_dvd _ (Int.dvd_refl 4)]
theorem lim0 : law06_RegistryLimit 0 = some true := by kernel_rfl
theorem lim1 : law06_RegistryLimit 1 = some true := by kernel_rfl
theorem lim2 : law06_RegistryLimit 2 = some true := by kernel_rfl
theorem lim3 : law06_RegistryLimit 3 = some true := by kernel_rfl
theorem limit_ok (n : Int) : law06_RegistryLimit n = some true := by
  rw [limit_mod]
  have h1 := Int.emod_nonneg n (show (4 : Int) ≠ 0 by decide)
  have h2 := Int.emod_lt_of_pos n (show (0 : Int) < 4 by decide)
  generalize n % 4 = m at *
  have : m = 0 ∨ m = 1 ∨ m = 2 ∨ m = 3 := by omega
  rcases this with rfl | rfl | rfl | rfl
  · exact lim0
  · exact lim1
  · exact lim2
  · exact lim3
end Go.Proofs.Ytkliakcegihikaa.Ex
