/- Messages: the program's tests and the reference's agree (the theory of chapter 06, in a namespace of its own). -/
import Derived.Test.YtpipggnfbgjefaaOkP
import Derived.Test.YtpipggnfbgjefaaExF
namespace Go.Proofs.Ytpipggnfbgjefaa.Ex.Mv
open Go.RowKit Go.Proofs.Ytpipggnfbgjefaa.Ax
set_option linter.unusedVariables false
set_option linter.unusedSimpArgs false

def validP (p : Plate) : Prop := 0 ≤ p.Lead ∧ p.Lead ≤ 9 ∧ 1 ≤ p.Airline ∧ p.Airline ≤ 999 ∧ 0 ≤ p.Serial ∧ p.Serial ≤ 999999
instance (p : Plate) : Decidable (validP p) := by unfold validP; infer_instance
/-- the strings of a message have lengths that are numbers -/
structure MsgOk (m : Message) : Prop where
  s : (m.Surname.size : Int) ≤ 9223372036854775807
  g : (m.Given.size : Int) ≤ 9223372036854775807
theorem legs_L_t (y : List Leg) : ∀ (l : List Leg) (k : Nat), k + l.length ≤ y.length → okP (ref04_legs_L1 y l k) (ctlQ (fun _ => True) (fun _ => True))
  | [], k, h => okP_some trivial
  | x :: l, k, h => by
    rw [List.length_cons] at h
    rw [ref04_legs_L1]
    exact okP_bind (okP_ixL (Q := fun _ => True) (by omega) (by omega) (fun _ _ _ => trivial)) (fun _ _ => okP_cond (fun _ => okP_some trivial) (fun _ => legs_L_t y l (k + 1) (by omega)))
theorem legs_t (x y : List Leg) : okP (ref04_legs x y) (fun _ => True) := by
  unfold ref04_legs
  refine okP_cond (fun _ => okP_some trivial) (fun h => ?_)
  have h : (x.length : Int) = y.length := by simpa using h
  exact okP_fin (legs_L_t y x 0 (by omega)) (fun _ _ => okP_some trivial)

theorem ints_L_t (y : List Int) : ∀ (l : List Int) (k : Nat), k + l.length ≤ y.length → okP (keep_Ints_L1 y l k) (ctlQ (fun _ => True) (fun _ => True))
  | [], k, h => okP_some trivial
  | x :: l, k, h => by
    rw [List.length_cons] at h
    rw [keep_Ints_L1]
    exact okP_bind (okP_ixL (Q := fun _ => True) (by omega) (by omega) (fun _ _ _ => trivial)) (fun _ _ => okP_cond (fun _ => okP_some trivial) (fun _ => ints_L_t y l (k + 1) (by omega)))
theorem ints_t (x y : List Int) : okP (keep_Ints x y) (fun _ => True) := by
  unfold keep_Ints
  refine okP_cond (fun _ => okP_some trivial) (fun h => ?_)
  have h : (x.length : Int) = y.length := by simpa using h
  exact okP_fin (ints_L_t y x 0 (by omega)) (fun _ _ => okP_some trivial)
theorem same_t (m n : Message) : okP (ref04_Same m n) (fun _ => True) := by
  unfold ref04_Same
  repeat' first
    | exact okP_some trivial
    | refine okP_bind (legs_t _ _) (fun _ _ => ?_)
    | refine okP_bind (ints_t _ _) (fun _ _ => ?_)
    | refine okP_cond (fun _ => ?_) (fun _ => ?_)
/-- the bytes of a string, as numbers -/
def byL (s : ByteArray) : List Int := s.data.toList.map (fun b => (b.toNat : Int))
def isL (b : Int) : Prop := 65 ≤ b ∧ b ≤ 90
def isD (b : Int) : Prop := 48 ≤ b ∧ b ≤ 57
instance (b : Int) : Decidable (isL b) := by unfold isL; infer_instance
instance (b : Int) : Decidable (isD b) := by unfold isD; infer_instance
/-- all bytes are letters -/
def allL (s : ByteArray) : Prop := ∀ b ∈ byL s, isL b
instance (s : ByteArray) : Decidable (allL s) := by unfold allL; infer_instance
theorem legsL_eq (y : List Leg) : ∀ (l : List Leg) (k : Nat), slices_Equal_Leg_L1 y l k = ref04_legs_L1 y l k
  | [], k => rfl
  | x :: l, k => by
    rw [slices_Equal_Leg_L1, ref04_legs_L1]
    simp only [legsL_eq y l (k + 1)]
theorem legs_eq (x y : List Leg) : slices_Equal_Leg x y = ref04_legs x y := by
  unfold slices_Equal_Leg ref04_legs
  rw [legsL_eq]
theorem intsL_eq (y : List Int) : ∀ (l : List Int) (k : Nat), slices_Equal_int_L1 y l k = keep_Ints_L1 y l k
  | [], k => rfl
  | x :: l, k => by
    rw [slices_Equal_int_L1, keep_Ints_L1]
    simp only [intsL_eq y l (k + 1)]
theorem ints_eq (x y : List Int) : slices_Equal_int x y = keep_Ints x y := by
  unfold slices_Equal_int keep_Ints
  rw [intsL_eq]
theorem msame_eq (x y : Message) : message_Same x y = ref04_Same x y := by
  unfold message_Same ref04_Same
  simp only [legs_eq, ints_eq]
def badI (x : Int) : Prop := ¬ (1 ≤ x ∧ x ≤ 999)
instance (x : Int) : Decidable (badI x) := by unfold badI; infer_instance
end Go.Proofs.Ytpipggnfbgjefaa.Ex.Mv
