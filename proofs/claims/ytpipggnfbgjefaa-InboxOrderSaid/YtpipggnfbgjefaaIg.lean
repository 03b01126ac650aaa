/- Messages that are drawn (keep.Src.Message) are valid. -/
import Derived.Test.YtpipggnfbgjefaaMv
import Derived.Test.YtpipggnfbgjefaaKp
namespace Go.Proofs.Ytpipggnfbgjefaa.Ex.Ig
open Go.RowKit Go.Proofs.Ytpipggnfbgjefaa.Ax
set_option linter.unusedVariables false
set_option linter.unusedSimpArgs false

/-! a message is the same as itself -/
theorem legs_refl (x : List Leg) : ref04_legs x x = some true := by
  have key : ∀ (l pre : List Leg), x = pre ++ l → ref04_legs_L1 x l pre.length = some (.brk ()) := by
    intro l
    induction l with
    | nil => intro pre _; rfl
    | cons e l ih =>
      intro pre h
      rw [ref04_legs_L1, ixL_at' pre.length rfl (show x[pre.length]? = some e by rw [h]; simp)]
      simp only [Option.bind_some, beq_self_eq_true, Bool.and_true, Bool.not_true, bne_self_eq_false, cond_false]
      have := ih (pre ++ [e]) (by rw [h]; simp)
      rw [List.length_append] at this
      exact this
  unfold ref04_legs
  simp only [bne_self_eq_false, cond_false]
  exact fin_brkE (key x [] rfl)
theorem ints_refl (x : List Int) : keep_Ints x x = some true := by
  have key : ∀ (l pre : List Int), x = pre ++ l → keep_Ints_L1 x l pre.length = some (.brk ()) := by
    intro l
    induction l with
    | nil => intro pre _; rfl
    | cons e l ih =>
      intro pre h
      rw [keep_Ints_L1, ixL_at' pre.length rfl (show x[pre.length]? = some e by rw [h]; simp)]
      simp only [Option.bind_some, bne_self_eq_false, cond_false]
      have := ih (pre ++ [e]) (by rw [h]; simp)
      rw [List.length_append] at this
      exact this
  unfold keep_Ints
  simp only [bne_self_eq_false, cond_false]
  exact fin_brkE (key x [] rfl)
theorem same_refl (m : Message) : ref04_Same m m = some true := by
  unfold ref04_Same
  simp only [beq_self_eq_true, Bool.and_true, cond_true, legs_refl, ints_refl, Option.bind_some]

def zLeg : Leg := ⟨⟨⟨#[]⟩, 0, ⟨#[]⟩, 0⟩, ⟨#[]⟩, ⟨#[]⟩⟩
def isBag (m : Message) : Prop := m.Kind = 1 ∨ m.Kind = 2
/-- a valid message -/
structure Val (m : Message) : Prop where
  kind : 1 ≤ m.Kind ∧ m.Kind ≤ 5
  num : 1 ≤ m.Number ∧ m.Number ≤ 9999
  port : ref02_ValidPort m.Port = some true
  out : m.Kind ≠ 3 → ref02_ValidLeg m.Out = some true
  inl : m.Kind = 2 → ref02_ValidLeg m.In = some true
  node : m.Kind = 3 → ref04_Name m.Node = some true
  onw : ∀ g ∈ m.Onward, ref02_ValidLeg g = some true
  onl : m.Onward.length ≤ 3
  sur : isBag m → 1 ≤ (m.Surname.size : Int) ∧ (m.Surname.size : Int) ≤ 20 ∧ Mv.allL m.Surname
  giv : isBag m → (m.Given.size : Int) ≤ 20 ∧ Mv.allL m.Given
  fst : m.Kind ≠ 5 → ref01_Valid m.First = some true ∧ 1 ≤ m.Count ∧ m.Count ≤ 99
  bag : isBag m → (0 ≤ m.Do ∧ m.Do ≤ 2) ∧ (1 ≤ m.Status ∧ m.Status ≤ 4) ∧ (1 ≤ m.Sequence ∧ m.Sequence ≤ 999) ∧ (0 ≤ m.Weight ∧ m.Weight ≤ 999) ∧ (0 ≤ m.Exception ∧ m.Exception ≤ 3)
  lst : ∀ x ∈ m.List, 1 ≤ x ∧ x ≤ 999
  lln : m.List.length ≤ 40
  inc : m.List.Pairwise (· < ·)
  zIn : m.Kind ≠ 2 → m.In = zLeg
  zNode : m.Kind ≠ 3 → m.Node = ⟨#[]⟩
  zOut : m.Kind = 3 → m.Out = zLeg
  zFst : m.Kind = 5 → m.First = ⟨0, 0, 0⟩ ∧ m.Count = 0
  zLst : m.Kind ≠ 5 → m.List = []
  zBag : ¬ isBag m → m.Do = 0 ∧ m.Onward = [] ∧ m.Load = false ∧ m.Status = 0 ∧ m.Sequence = 0 ∧ m.Weight = 0 ∧ m.Surname = ⟨#[]⟩ ∧ m.Given = ⟨#[]⟩ ∧ m.Exception = 0
end Go.Proofs.Ytpipggnfbgjefaa.Ex.Ig
