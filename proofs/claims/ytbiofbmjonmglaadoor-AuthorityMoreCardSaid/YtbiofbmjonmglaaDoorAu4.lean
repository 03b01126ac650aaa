/- Authority: the laws as the frames ask for them. -/
import Derived.Test.YtbiofbmjonmglaaDoorAuA
import Derived.Test.YtbiofbmjonmglaaDoorDec
import Derived.Lib.LaidTab
namespace Go.Proofs.YtbiofbmjonmglaaDoor.Ex
open Go.RowKit Go.Proofs.YtbiofbmjonmglaaDoor.Ax
set_option linter.unusedVariables false
theorem decides_okQ (x : Facts) (m : List Manifest) (d : List Departure) (l : List Int) (f : Flight) (now : Int) (_ : Q_Facts x) (_ : ∀ y ∈ m, Q_Manifest y) (_ : ∀ y ∈ d, Q_Departure y) (_ : Q_Flight f) : law26_AuthorityDecides x m d l f now = some true := decides_ok x m d l f now
theorem never_okQ (x : Facts) (l : List Int) (f : Flight) (now : Int) (fin : Bool) (_ : Q_Facts x) (_ : Q_Flight f) : law26_AuthorityNever x l f now fin = some true := never_ok x l f now fin
theorem rulings_okQ (raw : List Ruling) (l : List Int) (p : Plate) (_ : ∀ y ∈ raw, Q_Ruling y) (_ : Q_Plate p) : law26_AuthorityRulings raw l p = some true := rulings_ok raw l p
theorem glo26 {w : World} (h : ∀ j : Nat, j < 4 → w.cell? ⟨0, j, none⟩ = some (.int .i64 (([0, 3, 4, 5] : List Int).getD j 0))) : GloR w (fun b => b < w.heap.size) := by
  intro g
  match g with
  | 0 =>
    have h0 := h 0 (by omega)
    have hs : 0 < w.heap.size := by
      rcases Nat.eq_zero_or_pos w.heap.size with e | e
      · have : w.heap[0]? = none := by rw [Array.getElem?_eq_none_iff]; omega
        simp [World.cell?, this] at h0
      · exact e
    show RV w _ noB (.iptr [.int .i64 0, .int .i64 3, .int .i64 4, .int .i64 5]) _
    refine .iptr _ 0 0 (fun j => .int .i64 (([0, 3, 4, 5] : List Int).getD j 0)) hs (fun j u hu => ?_) (fun j u hu => ?_) (fun j u hu => ?_)
    · have hj := (List.getElem?_eq_some_iff.1 hu).1
      rw [Nat.zero_add]
      exact h j (by simpa using hj)
    · match j, hu with
      | 0, hu => cases hu; rfl
      | 1, hu => cases hu; rfl
      | 2, hu => cases hu; rfl
      | 3, hu => cases hu; rfl
    · match j, hu with
      | 0, hu => cases hu; exact .int _ _
      | 1, hu => cases hu; exact .int _ _
      | 2, hu => cases hu; exact .int _ _
      | 3, hu => cases hu; exact .int _ _
  | g + 1 => exact .any _
end Go.Proofs.YtbiofbmjonmglaaDoor.Ex
