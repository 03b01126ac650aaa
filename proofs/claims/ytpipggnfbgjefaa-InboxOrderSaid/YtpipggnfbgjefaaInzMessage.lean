/- slices.Insert at []api.Message: an element told cell by cell; into the nil slice. -/
import Derived.Test.YtpipggnfbgjefaaInsMessage
import Derived.Test.YtpipggnfbgjefaaFoc
namespace Go.Proofs.Ytpipggnfbgjefaa.InsMessage
open Go.RowKit Go.Proofs.Ytpipggnfbgjefaa.Ax
set_option linter.unusedVariables false
set_option linter.unusedSimpArgs false

theorem insert_foc {α : Type} (enc : α → List AV) {l r : List α} {i : Int} {e : α} (h : Ex.insL l i [e] = some r) : ∃ (p q : List α) (m : Nat), i = m ∧ r = p ++ e :: q ∧ p.length = m ∧
    ∀ c : List AV, AC Try.prog 37 [.osl 0, .int .i64 i, .osl 1] [.row 30 (l.map enc), .row 30 [c]] (.osl 2) [.dead, .dead, .row 30 (Ex.focR enc p c q)] := by
  obtain ⟨k, rfl, h1, h2, h3, rfl⟩ := Ex.insL_some h
  refine ⟨l.take k, l.drop k, k, rfl, by simp, by rw [List.length_take]; omega, fun c => ?_⟩
  have := ins_ac0 (l.map enc) [c] k (by simpa using h1) (by simp) (by simpa using h3)
  simpa only [Ex.focR, List.map_take, List.map_drop, List.append_assoc] using this

set_option maxRecDepth 100000 in
set_option maxHeartbeats 40000000 in
theorem insnil_ac {α : Type} (enc : α → List AV) (ok : ∀ x, AV.niL (enc x) = true ∧ (enc x).all AV.one = true) (y : List α) (i : Int) (r : List α) (hF : Ex.insL ([] : List α) i y = some r) :
    AC Try.prog 37 [.nils, .int .i64 i, .osl 0] [.row 30 (y.map enc)] (.osl 1) [.dead, .row 30 (r.map enc)] := by
  obtain ⟨k, rfl, h1, h2, h3, rfl⟩ := Ex.insL_some hF
  obtain rfl : k = 0 := by simpa using h1
  have hy : ([] : List α).take 0 ++ y ++ ([] : List α).drop 0 = y := by simp
  rw [hy]
  simp only [List.length_nil] at h3
  refine ac_of tab_ok follows_ok Try.func37 rfl Try.ntmps37 rfl ?_
  conv => whnf
  refine ⟨0, rfl, Nat.le_refl _, Nat.le_refl _, ?_⟩
  conv => whnf
  refine ⟨_, by rw [List.length_map], ?_⟩
  conv => whnf
  refine ⟨fun h => absurd (eq_of_beq h) (by omega), fun _ => ?_⟩
  conv => whnf
  refine ⟨fun _ => ?_, fun h => by cases h⟩
  conv => whnf
  refine ap_q (enc := enc) (l := []) (y := y) (z := y) ?_ rfl rfl (by decide) ?_
  · unfold apL
    rw [if_pos (by simp; omega)]
    rfl
  conv => whnf
  exact ret_gz [0, 1] [] [] rfl (.oslg 1 1 rfl) ⟨trivial, blkR ok rfl rfl, trivial⟩
end Go.Proofs.Ytpipggnfbgjefaa.InsMessage
