/- Messages: the program's tests and the reference's agree (the theory of chapter 06, in a namespace of its own). -/
import Derived.Test.YtkliakcegihikaaGreatOkP
import Derived.Test.YtkliakcegihikaaGreatExF
namespace Go.Proofs.YtkliakcegihikaaGreat.Ex.Mv
open Go.RowKit Go.Proofs.YtkliakcegihikaaGreat.Ax
set_option linter.unusedVariables false
set_option linter.unusedSimpArgs false

def validP (p : Plate) : Prop := 0 ≤ p.Lead ∧ p.Lead ≤ 9 ∧ 1 ≤ p.Airline ∧ p.Airline ≤ 999 ∧ 0 ≤ p.Serial ∧ p.Serial ≤ 999999
instance (p : Plate) : Decidable (validP p) := by unfold validP; infer_instance
theorem refvalid_eq (p : Plate) : ref01_Valid p = some (decide (validP p)) := by
 unfold ref01_Valid
 simp only [cond_ite, decide_eq_true_eq]
 (repeat' split) <;> (refine congrArg some ?_; rw [Bool.eq_iff_iff]; simp only [decide_eq_true_eq, Bool.false_eq_true]; unfold validP; constructor <;> intro h <;> first | exact h.elim | omega)
theorem plvalid_eq (p : Plate) : plate_Valid p = some (decide (validP p)) := by
 unfold plate_Valid
 simp only [cond_ite, decide_eq_true_eq]
 (repeat' split) <;> (refine congrArg some ?_; rw [Bool.eq_iff_iff]; simp only [decide_eq_true_eq, Bool.false_eq_true]; unfold validP; constructor <;> intro h <;> first | exact h.elim | omega)

theorem okP_ixS {s : ByteArray} {i : Int} (h1 : 0 ≤ i) (h2 : i < s.size) : okP (ixS s i) (fun _ => True) := by
 unfold ixS
 rw [if_pos h1]
 have : i.toNat < s.size := by omega
 rw [getElem?_pos s i.toNat this]
 exact ⟨_, rfl, trivial⟩

theorem letter_t (x : Int) : okP (ref02_Letter x) (fun _ => True) := by
 unfold ref02_Letter; exact okP_cond (fun _ => okP_some trivial) (fun _ => okP_some trivial)
theorem digit_t (x : Int) : okP (ref02_Digit x) (fun _ => True) := by
 unfold ref02_Digit; exact okP_cond (fun _ => okP_some trivial) (fun _ => okP_some trivial)
theorem port_t (s : ByteArray) : okP (ref02_ValidPort s) (fun _ => True) := by
 unfold ref02_ValidPort
 refine okP_cond (fun h => ?_) (fun _ => okP_some trivial)
 have h : (s.size : Int) = 3 := by simpa using h
 repeat' first
  | exact okP_some trivial
  | refine okP_bind (okP_ixS (by omega) (by omega)) (fun _ _ => ?_)
  | refine okP_bind (letter_t _) (fun _ _ => ?_)
  | refine okP_cond (fun _ => ?_) (fun _ => ?_)
theorem carrier_t (s : ByteArray) : okP (ref02_Carrier s) (fun _ => True) := by
 unfold ref02_Carrier
 refine okP_cond (fun _ => okP_some trivial) (fun h => ?_)
 have h : (s.size : Int) = 2 := by simpa using h
 repeat' first
  | exact okP_some trivial
  | refine okP_bind (okP_ixS (by omega) (by omega)) (fun _ _ => ?_)
  | refine okP_bind (letter_t _) (fun _ _ => ?_)
  | refine okP_bind (digit_t _) (fun _ _ => ?_)
  | refine okP_cond (fun _ => ?_) (fun _ => ?_)
theorem suffix_t (s : ByteArray) : okP (ref02_Suffix s) (fun _ => True) := by
 unfold ref02_Suffix
 refine okP_cond (fun _ => okP_some trivial) (fun _ => okP_cond (fun h => ?_) (fun _ => okP_some trivial))
 have h : (s.size : Int) = 1 := by simpa using h
 exact okP_bind (okP_ixS (by omega) (by omega)) (fun _ _ => okP_bind (letter_t _) (fun _ _ => okP_some trivial))
theorem flight_t (f : Flight) : okP (ref02_Valid f) (fun _ => True) := by
 unfold ref02_Valid
 repeat' first
  | exact okP_some trivial
  | refine okP_bind (carrier_t _) (fun _ _ => ?_)
  | refine okP_bind (suffix_t _) (fun _ _ => ?_)
  | refine okP_cond (fun _ => ?_) (fun _ => ?_)
theorem class_t (s : ByteArray) : okP (ref02_ValidClass s) (fun _ => True) := by
 unfold ref02_ValidClass
 repeat' first
  | exact okP_some trivial
  | refine okP_cond (fun _ => ?_) (fun _ => ?_)
theorem leg_t (x : Leg) : okP (ref02_ValidLeg x) (fun _ => True) := by
 unfold ref02_ValidLeg
 repeat' first
  | exact okP_some trivial
  | refine okP_bind (flight_t _) (fun _ _ => ?_)
  | refine okP_bind (port_t _) (fun _ _ => ?_)
  | refine okP_bind (class_t _) (fun _ _ => ?_)
  | refine okP_cond (fun _ => ?_) (fun _ => ?_)
theorem in_t (a b c : Int) : okP (ref04_in a b c) (fun _ => True) := by
 unfold ref04_in; exact okP_cond (fun _ => okP_some trivial) (fun _ => okP_some trivial)
theorem bag_eq (k : Int) : ref04_Bag k = some (decide (k = 1 ∨ k = 2)) := by
 unfold ref04_Bag
 rw [cond_ite]
 by_cases h1 : k = 1
 ·
  simp [h1]
 ·
  by_cases h2 : k = 2
  ·
   simp [h2]
  ·
   simp [h1, h2]
theorem bag_t (k : Int) : okP (ref04_Bag k) (fun _ => True) := okP_of (bag_eq k) trivial

theorem letters_L_t (s : ByteArray) (hs : (s.size : Int) ≤ 9223372036854775807) : ∀ (n : Nat) (i : Int), 0 ≤ i → i ≤ s.size → (s.size : Int) - i < n → okP (ref04_letters_L1 s n i) (ctlQ (fun _ => True) (fun _ => True))
 | 0, i, h0, h1, h2 => by omega
 | n + 1, i, h0, h1, h2 => by
  rw [ref04_letters_L1]
  refine okP_cond (fun h => ?_) (fun _ => okP_some trivial)
  have h := of_decide_eq_true h
  refine okP_bind (okP_ixS h0 h) (fun _ _ => okP_bind (letter_t _) (fun _ _ => okP_cond (fun _ => okP_some trivial) (fun _ => ?_)))
  rw [w64_id (by omega) (by omega)]
  exact letters_L_t s hs n (i + 1) (by omega) (by omega) (by omega)
theorem letters_t (s : ByteArray) (hs : (s.size : Int) ≤ 9223372036854775807) (k : Int) : okP (ref04_letters s k) (fun _ => True) := by
 unfold ref04_letters
 refine okP_fin (letters_L_t s hs _ 0 (by omega) (by omega) (by omega)) (fun _ _ => okP_cond (fun _ => okP_some trivial) (fun _ => okP_some trivial))
theorem name_L_t (s : ByteArray) (hs : (s.size : Int) ≤ 9223372036854775807) : ∀ (n : Nat) (i : Int), 0 ≤ i → i ≤ s.size → (s.size : Int) - i < n → okP (ref04_Name_L1 s n i) (ctlQ (fun _ => True) (fun _ => True))
 | 0, i, h0, h1, h2 => by omega
 | n + 1, i, h0, h1, h2 => by
  rw [ref04_Name_L1]
  refine okP_cond (fun h => ?_) (fun _ => okP_some trivial)
  have h := of_decide_eq_true h
  have hn := name_L_t s hs n (i + 1) (by omega) (by omega) (by omega)
  rw [w64_id (z := i + 1) (by omega) (by omega)]
  refine okP_bind (okP_ixS h0 h) (fun _ _ => okP_bind (letter_t _) (fun _ _ => okP_cond (fun _ => ?_) (fun _ => hn)))
  exact okP_bind (okP_ixS h0 h) (fun _ _ => okP_bind (digit_t _) (fun _ _ => okP_cond (fun _ => okP_some trivial) (fun _ => hn)))
theorem name_t (s : ByteArray) : okP (ref04_Name s) (fun _ => True) := by
 unfold ref04_Name
 refine okP_cond (fun _ => okP_some trivial) (fun h1 => okP_cond (fun _ => okP_some trivial) (fun h2 => ?_))
 have h1 := of_decide_eq_false h1
 have h2 := of_decide_eq_false h2
 refine okP_bind (okP_ixS (by omega) (by omega)) (fun _ _ => okP_bind (letter_t _) (fun _ _ => okP_cond (fun _ => okP_some trivial) (fun _ => ?_)))
 exact okP_fin (name_L_t s (by omega) _ 0 (by omega) (by omega) (by omega)) (fun _ _ => okP_some trivial)

theorem spelled_L_t : ∀ (l : List Leg) (k : Nat), okP (ref04_spelled_L1 l k) (ctlQ (fun _ => True) (fun _ => True))
 | [], k => okP_some trivial
 | x :: l, k => by
  rw [ref04_spelled_L1]
  exact okP_bind (leg_t _) (fun _ _ => okP_cond (fun _ => okP_some trivial) (fun _ => spelled_L_t l (k + 1)))
/-- the strings of a message have lengths that are numbers -/
structure MsgOk (m : Message) : Prop where
 s : (m.Surname.size : Int) ≤ 9223372036854775807
 g : (m.Given.size : Int) ≤ 9223372036854775807
theorem spelled_t (m : Message) (hm : MsgOk m) : okP (ref04_spelled m) (fun _ => True) := by
 unfold ref04_spelled
 repeat' first
  | exact okP_some trivial
  | refine okP_bind (port_t _) (fun _ _ => ?_)
  | refine okP_bind (leg_t _) (fun _ _ => ?_)
  | refine okP_bind (name_t _) (fun _ _ => ?_)
  | refine okP_bind (bag_t _) (fun _ _ => ?_)
  | refine okP_bind (letters_t _ hm.s _) (fun _ _ => ?_)
  | refine okP_bind (letters_t _ hm.g _) (fun _ _ => ?_)
  | refine okP_fin (spelled_L_t _ _) (fun _ _ => ?_)
  | refine okP_cond (fun _ => ?_) (fun _ => ?_)
theorem counted_L_t : ∀ (l : List Int) (k : Nat), okP (ref04_counted_L1 l k) (ctlQ (fun _ => True) (fun _ => True))
 | [], k => okP_some trivial
 | x :: l, k => by
  rw [ref04_counted_L1]
  exact okP_bind (in_t _ _ _) (fun _ _ => okP_cond (fun _ => okP_some trivial) (fun _ => counted_L_t l (k + 1)))
theorem rvalid_t (p : Plate) : okP (ref01_Valid p) (fun _ => True) := okP_of (refvalid_eq p) trivial
theorem counted_t (m : Message) : okP (ref04_counted m) (fun _ => True) := by
 unfold ref04_counted
 repeat' first
  | exact okP_some trivial
  | refine okP_bind (in_t _ _ _) (fun _ _ => ?_)
  | refine okP_bind (rvalid_t _) (fun _ _ => ?_)
  | refine okP_bind (bag_t _) (fun _ _ => ?_)
  | refine okP_fin (counted_L_t _ _) (fun _ _ => ?_)
  | refine okP_cond (fun _ => ?_) (fun _ => ?_)
theorem own_t (m : Message) : okP (ref04_own m) (fun _ => True) := by
 unfold ref04_own
 repeat' first
  | exact okP_some trivial
  | refine okP_bind (bag_t _) (fun _ _ => ?_)
  | refine okP_cond (fun _ => ?_) (fun _ => ?_)
theorem legs_L_t (y : List Leg) : ∀ (l : List Leg) (k : Nat), k + l.length ≤ y.length → okP (ref04_legs_L1 y l k) (ctlQ (fun _ => True) (fun _ => True))
 | [], k, h => okP_some trivial
 | x :: l, k, h => by
  rw [List.length_cons] at h
  rw [ref04_legs_L1]
  exact okP_bind (okP_ixL (Q := fun _ => True) (by omega) (by omega) (fun _ _ _ => trivial)) (fun _ _ => okP_cond (fun _ => okP_some trivial) (fun _ => legs_L_t y l (k + 1) (by omega)))
theorem legs_t (x y : List Leg) : okP (ref04_legs x y) (fun _ => True) := by
 unfold ref04_legs
 refine okP_cond (fun _ => okP_some trivial) (fun h => ?_)
 have h : (x.length : Int) = y.length := by simpa using h
 exact okP_fin (legs_L_t y x 0 (by omega)) (fun _ _ => okP_some trivial)

theorem ints_L_t (y : List Int) : ∀ (l : List Int) (k : Nat), k + l.length ≤ y.length → okP (keep_Ints_L1 y l k) (ctlQ (fun _ => True) (fun _ => True))
 | [], k, h => okP_some trivial
 | x :: l, k, h => by
  rw [List.length_cons] at h
  rw [keep_Ints_L1]
  exact okP_bind (okP_ixL (Q := fun _ => True) (by omega) (by omega) (fun _ _ _ => trivial)) (fun _ _ => okP_cond (fun _ => okP_some trivial) (fun _ => ints_L_t y l (k + 1) (by omega)))
theorem ints_t (x y : List Int) : okP (keep_Ints x y) (fun _ => True) := by
 unfold keep_Ints
 refine okP_cond (fun _ => okP_some trivial) (fun h => ?_)
 have h : (x.length : Int) = y.length := by simpa using h
 exact okP_fin (ints_L_t y x 0 (by omega)) (fun _ _ => okP_some trivial)
theorem same_t (m n : Message) : okP (ref04_Same m n) (fun _ => True) := by
 unfold ref04_Same
 repeat' first
  | exact okP_some trivial
  | refine okP_bind (legs_t _ _) (fun _ _ => ?_)
  | refine okP_bind (ints_t _ _) (fun _ _ => ?_)
  | refine okP_cond (fun _ => ?_) (fun _ => ?_)
theorem mval_L_t (m : Message) (hl : m.List.length ≤ 1000000) : ∀ (n : Nat) (i : Int), 1 ≤ i → i ≤ m.List.length + 1 → (m.List.length : Int) + 1 - i < n → okP (ref04_Validate_L1 m n i) (ctlQ (fun _ => True) (fun _ => True))
 | 0, i, h0, h1, h2 => by omega
 | n + 1, i, h0, h1, h2 => by
  rw [ref04_Validate_L1]
  refine okP_cond (fun h => ?_) (fun _ => okP_some trivial)
  have h := of_decide_eq_true h
  rw [w64_id (z := i - 1) (by omega) (by omega), w64_id (z := i + 1) (by omega) (by omega)]
  refine okP_bind (okP_ixL (Q := fun _ => True) (by omega) (by omega) (fun _ _ _ => trivial)) (fun _ _ => okP_bind (okP_ixL (Q := fun _ => True) (by omega) (by omega) (fun _ _ _ => trivial)) (fun _ _ => ?_))
  exact okP_cond (fun _ => okP_some trivial) (fun _ => mval_L_t m hl n (i + 1) (by omega) (by omega) (by omega))
theorem mval_t (m : Message) (hm : MsgOk m) : okP (ref04_Validate m) (fun _ => True) := by
 unfold ref04_Validate
 refine okP_bind (in_t _ _ _) (fun _ _ => okP_cond (fun _ => okP_some trivial) (fun _ => okP_bind (own_t m) (fun _ _ => okP_bind (same_t _ _) (fun _ _ => okP_cond (fun _ => okP_some trivial) (fun _ => ?_)))))
 refine okP_cond (fun _ => okP_some trivial) (fun _ => okP_cond (fun _ => okP_some trivial) (fun h => ?_))
 have h := of_decide_eq_false h
 refine okP_bind (spelled_t m hm) (fun _ _ => okP_cond (fun _ => okP_some trivial) (fun _ => okP_bind (counted_t m) (fun _ _ => okP_cond (fun _ => okP_some trivial) (fun _ => ?_))))
 exact okP_fin (mval_L_t m (by omega) _ 1 (by omega) (by omega) (by omega)) (fun _ _ => okP_some trivial)

/-- the bytes of a string, as numbers -/
def byL (s : ByteArray) : List Int := s.data.toList.map (fun b => (b.toNat : Int))
theorem byL_len (s : ByteArray) : (byL s).length = s.size := by unfold byL; rw [List.length_map, Array.length_toList]; rfl
theorem ixS_by (s : ByteArray) (k : Nat) {x : Int} (h : (byL s)[k]? = some x) {i : Int} (hi : i = k) : ixS s i = some x := by
 subst hi
 unfold ixS
 rw [if_pos (Int.natCast_nonneg k), Int.toNat_natCast]
 unfold byL at h
 rw [List.getElem?_map, Array.getElem?_toList] at h
 rw [show s[k]? = s.data[k]? from rfl]
 exact h
theorem by_at (s : ByteArray) {k : Nat} (h : k < s.size) : ∃ x, (byL s)[k]? = some x ∧ x ∈ byL s := ⟨(byL s)[k]'(by rw [byL_len]; exact h), List.getElem?_eq_getElem _, List.getElem_mem _⟩

def isL (b : Int) : Prop := 65 ≤ b ∧ b ≤ 90
def isD (b : Int) : Prop := 48 ≤ b ∧ b ≤ 57
instance (b : Int) : Decidable (isL b) := by unfold isL; infer_instance
instance (b : Int) : Decidable (isD b) := by unfold isD; infer_instance
theorem pl_eq (b : Int) : fields_Letter b = some (decide (isL b)) := by
 unfold fields_Letter isL
 by_cases h : 65 ≤ b <;> by_cases h2 : b ≤ 90 <;> simp [h, h2]
theorem rl_eq (b : Int) : ref02_Letter b = some (decide (isL b)) := by
 unfold ref02_Letter isL
 by_cases h : 65 ≤ b <;> by_cases h2 : b ≤ 90 <;> simp [h, h2]
theorem pd_eq (b : Int) : fields_Digit b = some (decide (isD b)) := by
 unfold fields_Digit isD
 by_cases h : 48 ≤ b <;> by_cases h2 : b ≤ 57 <;> simp [h, h2]
theorem rd_eq (b : Int) : ref02_Digit b = some (decide (isD b)) := by
 unfold ref02_Digit isD
 by_cases h : 48 ≤ b <;> by_cases h2 : b ≤ 57 <;> simp [h, h2]

theorem all_step {p : Int → Prop} [DecidablePred p] {l : List Int} {k : Nat} {x : Int} (h : l[k]? = some x) : (∀ b ∈ l.drop k, p b) ↔ p x ∧ ∀ b ∈ l.drop (k + 1), p b := by
 rw [drop_cons h]
 simp

theorem pAll_L (s : ByteArray) (hs : (s.size : Int) ≤ 9223372036854775807) : ∀ (n k : Nat), k ≤ s.size → s.size < n + k → fields_All_L1 s n (k : Int) = some (if ∀ b ∈ (byL s).drop k, isL b then Ctl.brk () else Ctl.ret false)
 | 0, k, h1, h2 => by omega
 | n + 1, k, h1, h2 => by
  rw [fields_All_L1]
  by_cases hk : k < s.size
  ·
   obtain ⟨x, hx, _⟩ := by_at s hk
   rw [show decide ((k : Int) < (s.size : Int)) = true from decide_eq_true (by omega), cond_true, ixS_by s k hx rfl, Option.bind_some, pl_eq, Option.bind_some, w64_id (z := (k : Int) + 1) (by omega) (by omega)]
   have ih := pAll_L s hs n (k + 1) (by omega) (by omega)
   rw [show ((k + 1 : Nat) : Int) = (k : Int) + 1 by omega] at ih
   rw [ih]
   simp only [all_step (p := isL) hx]
   by_cases h : isL x <;> simp [h]
  ·
   rw [show decide ((k : Int) < (s.size : Int)) = false from decide_eq_false (by omega), cond_false, List.drop_of_length_le (by rw [byL_len]; omega)]
   simp
theorem rAll_L (s : ByteArray) (hs : (s.size : Int) ≤ 9223372036854775807) : ∀ (n k : Nat), k ≤ s.size → s.size < n + k → ref04_letters_L1 s n (k : Int) = some (if ∀ b ∈ (byL s).drop k, isL b then Ctl.brk () else Ctl.ret false)
 | 0, k, h1, h2 => by omega
 | n + 1, k, h1, h2 => by
  rw [ref04_letters_L1]
  by_cases hk : k < s.size
  ·
   obtain ⟨x, hx, _⟩ := by_at s hk
   rw [show decide ((k : Int) < (s.size : Int)) = true from decide_eq_true (by omega), cond_true, ixS_by s k hx rfl, Option.bind_some, rl_eq, Option.bind_some, w64_id (z := (k : Int) + 1) (by omega) (by omega)]
   have ih := rAll_L s hs n (k + 1) (by omega) (by omega)
   rw [show ((k + 1 : Nat) : Int) = (k : Int) + 1 by omega] at ih
   rw [ih]
   simp only [all_step (p := isL) hx]
   by_cases h : isL x <;> simp [h]
  ·
   rw [show decide ((k : Int) < (s.size : Int)) = false from decide_eq_false (by omega), cond_false, List.drop_of_length_le (by rw [byL_len]; omega)]
   simp
/-- all bytes are letters -/
def allL (s : ByteArray) : Prop := ∀ b ∈ byL s, isL b
instance (s : ByteArray) : Decidable (allL s) := by unfold allL; infer_instance
theorem pLetters (s : ByteArray) (lo hi : Int) (hh : hi ≤ 4611686018427387904) : fields_Letters s lo hi = some (decide (lo ≤ s.size ∧ s.size ≤ hi ∧ allL s)) := by
 unfold fields_Letters fields_All
 by_cases h1 : lo ≤ (s.size : Int)
 ·
  by_cases h2 : (s.size : Int) ≤ hi
  ·
   have h := pAll_L s (by omega) 9223372036854775807 0 (by omega) (by omega)
   rw [show ((0 : Nat) : Int) = 0 from rfl, List.drop_zero] at h
   rw [decide_eq_true h1, cond_true, decide_eq_true h2, cond_true, h]
   by_cases h3 : allL s
   ·
    rw [if_pos (show ∀ b ∈ byL s, isL b from h3), fin_brkE rfl, Option.bind_some, decide_eq_true ⟨h1, h2, h3⟩]
   ·
    rw [if_neg (show ¬ ∀ b ∈ byL s, isL b from h3), fin_retE rfl, Option.bind_some, decide_eq_false (fun e => h3 e.2.2)]
  ·
   rw [decide_eq_true h1, cond_true, decide_eq_false h2, cond_false, decide_eq_false (fun e => h2 e.2.1)]
 ·
  rw [decide_eq_false h1, cond_false, decide_eq_false (fun e => h1 e.1)]
theorem rLetters (s : ByteArray) (hs : (s.size : Int) ≤ 9223372036854775807) (lo : Int) : ref04_letters s lo = some (decide (lo ≤ s.size ∧ s.size ≤ (20 : Int) ∧ allL s)) := by
 unfold ref04_letters
 have h := rAll_L s hs 9223372036854775808 0 (by omega) (by omega)
 rw [show ((0 : Nat) : Int) = 0 from rfl, List.drop_zero] at h
 rw [h]
 by_cases h3 : allL s
 ·
  rw [if_pos (show ∀ b ∈ byL s, isL b from h3), fin_brkE rfl]
  by_cases h1 : lo ≤ (s.size : Int)
  ·
   rw [decide_eq_true h1, cond_true]
   congr 1
   by_cases h2 : (s.size : Int) ≤ 20
   ·
    rw [decide_eq_true h2, decide_eq_true ⟨h1, h2, h3⟩]
   ·
    rw [decide_eq_false h2, decide_eq_false (fun e => h2 e.2.1)]
  ·
   rw [decide_eq_false h1, cond_false, decide_eq_false (fun e => h1 e.1)]
 ·
  rw [if_neg (show ¬ ∀ b ∈ byL s, isL b from h3), fin_retE rfl, decide_eq_false (fun e => h3 e.2.2)]

theorem by3 (s : ByteArray) (h : s.size = 3) : ∃ a b c, byL s = [a, b, c] := by
 have := byL_len s
 rw [h] at this
 match byL s, this with
 | [a, b, c], _ => exact ⟨a, b, c, rfl⟩
theorem by2 (s : ByteArray) (h : s.size = 2) : ∃ a b, byL s = [a, b] := by
 have := byL_len s
 rw [h] at this
 match byL s, this with
 | [a, b], _ => exact ⟨a, b, rfl⟩
theorem by1 (s : ByteArray) (h : s.size = 1) : ∃ a, byL s = [a] := by
 have := byL_len s
 rw [h] at this
 match byL s, this with
 | [a], _ => exact ⟨a, rfl⟩

theorem port_eq (s : ByteArray) : flight_ValidPort s = ref02_ValidPort s := by
 unfold flight_ValidPort ref02_ValidPort
 rw [pLetters s 3 3 (by omega), Option.bind_some]
 by_cases h : s.size = 3
 ·
  obtain ⟨a, b, c, e⟩ := by3 s h
  rw [show ((s.size : Int) == 3) = true by simp [h], cond_true, ixS_by s 0 (by rw [e]; rfl) (i := 0) rfl, Option.bind_some, rl_eq, Option.bind_some, ixS_by s 1 (by rw [e]; rfl) (i := 1) rfl, Option.bind_some, rl_eq, Option.bind_some, ixS_by s 2 (by rw [e]; rfl) (i := 2) rfl, Option.bind_some, rl_eq, Option.bind_some]
  have hA : allL s ↔ isL a ∧ isL b ∧ isL c := by unfold allL; rw [e]; simp
  simp only [hA]
  by_cases ha : isL a <;> by_cases hb : isL b <;> by_cases hc : isL c <;> simp [ha, hb, hc, h]
 ·
  rw [show ((s.size : Int) == 3) = false by simp; omega, cond_false, decide_eq_false (fun e => by omega)]
theorem suffix_eq (s : ByteArray) : fields_Letters s 0 1 = ref02_Suffix s := by
 unfold ref02_Suffix
 rw [pLetters s 0 1 (by omega)]
 by_cases h0 : s.toList == (⟨#[]⟩ : ByteArray).toList
 ·
  have : s = ⟨#[]⟩ := toList_inj (eq_of_beq h0)
  rw [h0, cond_true, this]
  rfl
 ·
  have hb : (s.toList == (⟨#[]⟩ : ByteArray).toList) = false := by simpa using h0
  have hne : s.size ≠ 0 := fun e => by
   apply h0
   have : s = ⟨#[]⟩ := by
    cases s with
    | mk d =>
     have : d.size = 0 := e
     rw [Array.eq_empty_of_size_eq_zero this]
   rw [this]
   exact beq_self_eq_true _
  rw [hb, cond_false]
  by_cases h : s.size = 1
  ·
   obtain ⟨a, e⟩ := by1 s h
   rw [show ((s.size : Int) == 1) = true by simp [h], cond_true, ixS_by s 0 (by rw [e]; rfl) (i := 0) rfl, Option.bind_some, rl_eq, Option.bind_some]
   have hA : allL s ↔ isL a := by unfold allL; rw [e]; simp
   simp only [hA]
   by_cases ha : isL a <;> simp [ha, h]
  ·
   rw [show ((s.size : Int) == 1) = false by simp; omega, cond_false, decide_eq_false (fun e => by omega)]
theorem carrier_eq (s : ByteArray) : flight_carrier s = ref02_Carrier s := by
 unfold flight_carrier ref02_Carrier
 by_cases h : s.size = 2
 ·
  obtain ⟨a, b, e⟩ := by2 s h
  have e0 := ixS_by s 0 (x := a) (by rw [e]; rfl) (i := 0) rfl
  have e1 := ixS_by s 1 (x := b) (by rw [e]; rfl) (i := 1) rfl
  have hL : ∀ n : Nat, flight_carrier_L1 s (n + 1 + 1 + 1) 0 0 = some (if (isL a ∨ isD a) ∧ (isL b ∨ isD b) then Ctl.brk ((if isL a then 1 else 0) + (if isL b then 1 else 0)) else Ctl.ret false) := by
   intro n
   have w1 : w64 (1 : Int) = 1 := rfl
   have w2 : w64 (2 : Int) = 2 := rfl
   have d0 : decide ((0 : Int) < ((2 : Nat) : Int)) = true := rfl
   have d1 : decide ((1 : Int) < ((2 : Nat) : Int)) = true := rfl
   have d2 : decide ((2 : Int) < ((2 : Nat) : Int)) = false := rfl
   by_cases la : isL a <;> by_cases da : isD a <;> by_cases lb : isL b <;> by_cases db : isD b <;>
    simp [flight_carrier_L1, h, e0, e1, pl_eq, pd_eq, w1, w2, d0, d1, d2, la, lb, da, db]
  rw [show ((s.size : Int) != 2) = false by simp [h], cond_false, cond_false]
  have hL' := hL 9223372036854775804
  rw [show (9223372036854775804 + 1 + 1 + 1 : Nat) = 9223372036854775807 from rfl] at hL'
  rw [hL', e0, Option.bind_some, rl_eq, Option.bind_some, e1, Option.bind_some, rl_eq, Option.bind_some, Option.bind_some, rd_eq, Option.bind_some, Option.bind_some, rd_eq, Option.bind_some]
  by_cases la : isL a <;> by_cases lb : isL b <;> by_cases da : isD a <;> by_cases db : isD b <;> simp [la, lb, da, db, Ctl.fin, rd_eq]
 ·
  rw [show ((s.size : Int) != 2) = true by simp; omega, cond_true, cond_true]
theorem flightv_eq (f : Flight) : flight_Valid f = ref02_Valid f := by
 unfold flight_Valid ref02_Valid
 simp only [carrier_eq, suffix_eq f.Suffix]
theorem leg_eq (g : Leg) : flight_ValidLeg g = ref02_ValidLeg g := by
 unfold flight_ValidLeg ref02_ValidLeg ref02_ValidClass
 simp only [flightv_eq g.Flight, port_eq g.Port, cond_ite]
 obtain ⟨b1, e1, _⟩ := flight_t g.Flight
 obtain ⟨b2, e2, _⟩ := port_t g.Port
 rw [e1, e2, Option.bind_some, Option.bind_some, Option.bind_some, Option.bind_some]
 (repeat' split) <;> rfl

theorem legsL_eq (y : List Leg) : ∀ (l : List Leg) (k : Nat), slices_Equal_Leg_L1 y l k = ref04_legs_L1 y l k
 | [], k => rfl
 | x :: l, k => by
  rw [slices_Equal_Leg_L1, ref04_legs_L1]
  simp only [legsL_eq y l (k + 1)]
theorem legs_eq (x y : List Leg) : slices_Equal_Leg x y = ref04_legs x y := by
 unfold slices_Equal_Leg ref04_legs
 rw [legsL_eq]
theorem intsL_eq (y : List Int) : ∀ (l : List Int) (k : Nat), slices_Equal_int_L1 y l k = keep_Ints_L1 y l k
 | [], k => rfl
 | x :: l, k => by
  rw [slices_Equal_int_L1, keep_Ints_L1]
  simp only [intsL_eq y l (k + 1)]
theorem ints_eq (x y : List Int) : slices_Equal_int x y = keep_Ints x y := by
 unfold slices_Equal_int keep_Ints
 rw [intsL_eq]
theorem msame_eq (x y : Message) : message_Same x y = ref04_Same x y := by
 unfold message_Same ref04_Same
 simp only [legs_eq, ints_eq]
theorem in_eq (a b c : Int) : ref04_in a b c = some (decide (b ≤ a ∧ a ≤ c)) := by
 unfold ref04_in
 by_cases h : b ≤ a <;> by_cases h2 : a ≤ c <;> simp [h, h2]
theorem min_eq (a b c : Int) : message_in a b c = some (decide (b ≤ a ∧ a ≤ c)) := by
 unfold message_in
 by_cases h : b ≤ a <;> by_cases h2 : a ≤ c <;> simp [h, h2]
theorem desc_eq (k : Int) : message_describes k = some (decide (k = 1 ∨ k = 2)) := bag_eq k
theorem own_eq (m : Message) (h1 : 1 ≤ m.Kind) (h2 : m.Kind ≤ 5) : message_own m = ref04_own m := by
 have hk : m.Kind = 1 ∨ m.Kind = 2 ∨ m.Kind = 3 ∨ m.Kind = 4 ∨ m.Kind = 5 := by omega
 unfold message_own ref04_own
 rw [bag_eq, Option.bind_some]
 rcases hk with h | h | h | h | h <;> rw [h] <;> rfl

theorem name_step (s : ByteArray) : ∀ (n : Nat) (i : Int), fields_All_v2_L1 s n i = ref04_Name_L1 s n i
 | 0, i => rfl
 | n + 1, i => by
  rw [fields_All_v2_L1, ref04_Name_L1]
  simp only [name_step s n]
  unfold fields_Name_f1
  cases hc : decide (i < (s.size : Int))
  ·
   rfl
  ·
   rw [cond_true, cond_true]
   cases hx : ixS s i with
   | none => rfl
   | some x =>
    rw [Option.bind_some, Option.bind_some, pl_eq, rl_eq, Option.bind_some, Option.bind_some, Option.bind_some, pd_eq, rd_eq, Option.bind_some, Option.bind_some]
    by_cases hl : isL x <;> by_cases hd : isD x <;> simp [hl, hd]
theorem bindS {α : Type} (o : Option α) : (o.bind fun r => some r) = o := by cases o <;> rfl
theorem mname_eq (s : ByteArray) : fields_Name s 12 = ref04_Name s := by
 unfold fields_Name ref04_Name fields_All_v2
 have h0 : (s.toList == (⟨#[]⟩ : ByteArray).toList) = decide ((s.size : Int) < 1) := by
  by_cases h : (s.size : Int) < 1
  ·
   have : s = ⟨#[]⟩ := by
    cases s with
    | mk d =>
     have e : d.size = 0 := by
      have : ((⟨d⟩ : ByteArray).size : Int) < 1 := h
      have : (d.size : Int) < 1 := this
      omega
     rw [Array.eq_empty_of_size_eq_zero e]
   rw [this, beq_self_eq_true]; rfl
  ·
   rw [decide_eq_false h]
   apply Bool.eq_false_iff.mpr
   intro e
   have := toList_inj (eq_of_beq e)
   rw [this] at h
   exact h (by decide)
 rw [h0]
 by_cases h1 : (s.size : Int) < 1
 ·
  rw [decide_eq_true h1]; rfl
 ·
  rw [decide_eq_false h1, Bool.not_false, cond_true, cond_false]
  by_cases h2 : (s.size : Int) ≤ 12
  ·
   rw [decide_eq_true h2, cond_true, decide_eq_false (by omega : ¬ (12 : Int) < s.size), cond_false]
   obtain ⟨x, hx, _⟩ := okP_ixS (s := s) (i := 0) (by omega) (by omega)
   rw [hx, Option.bind_some, Option.bind_some, pl_eq, rl_eq, Option.bind_some, Option.bind_some]
   by_cases hl : isL x
   ·
    rw [decide_eq_true hl, Bool.not_true, cond_true, cond_false, name_step s, bindS]
   ·
    rw [decide_eq_false hl]; rfl
  ·
   rw [decide_eq_false h2, cond_false, decide_eq_true (by omega : (12 : Int) < s.size), cond_true]

theorem shapedL_eq : ∀ (l : List Leg) (k : Nat), message_shaped_L1 l k = ref04_spelled_L1 l k
 | [], k => rfl
 | x :: l, k => by
  rw [message_shaped_L1, ref04_spelled_L1, leg_eq]
  simp only [shapedL_eq l (k + 1)]
theorem spelledL_v : ∀ (l : List Leg) (k : Nat), ref04_spelled_L1 l k = some (.brk ()) ∨ ref04_spelled_L1 l k = some (.ret false)
 | [], k => .inl rfl
 | x :: l, k => by
  rw [ref04_spelled_L1]
  obtain ⟨b, hb, _⟩ := leg_t x
  rw [hb, Option.bind_some]
  cases b
  ·
   exact .inr rfl
  ·
   exact spelledL_v l (k + 1)
theorem mletters_eq (s : ByteArray) (lo : Int) (hs : (s.size : Int) ≤ 9223372036854775807) : fields_Letters s lo 20 = ref04_letters s lo := by
 rw [pLetters s lo 20 (by omega), rLetters s hs]
theorem fin_false {σ : Type} {o : Option (Ctl Bool σ)} {k : σ → Option Bool} (h : o = some (.ret false)) : Ctl.fin o k = some false := fin_retE h
theorem shaped_eq (m : Message) (hm : MsgOk m) : message_shaped m = ref04_spelled m := by
 unfold message_shaped ref04_spelled
 simp only [shapedL_eq, leg_eq, port_eq, mname_eq, mletters_eq _ _ hm.s, mletters_eq _ _ hm.g, desc_eq, bag_eq, Option.bind_some]
 obtain ⟨b1, e1, _⟩ := port_t m.Port
 obtain ⟨b2, e2, _⟩ := leg_t m.In
 obtain ⟨b3, e3, _⟩ := leg_t m.Out
 obtain ⟨b4, e4, _⟩ := name_t m.Node
 obtain ⟨b5, e5, _⟩ := letters_t m.Surname hm.s 1
 obtain ⟨b6, e6, _⟩ := letters_t m.Given hm.g 0
 simp only [e1, e2, e3, e4, e5, e6, Option.bind_some]
 have d2 : (m.Kind == 2) = decide (m.Kind = 2) := rfl
 have d3 : (m.Kind == 3) = decide (m.Kind = 3) := rfl
 have n3 : (m.Kind != 3) = !decide (m.Kind = 3) := rfl
 rw [d2, d3, n3]
 rcases spelledL_v m.Onward 0 with h | h
 ·
  simp only [fin_brkE h]
  by_cases k2 : m.Kind = 2
  ·
   simp only [k2]
   cases b1 <;> cases b2 <;> cases b3 <;> cases b5 <;> cases b6 <;> rfl
  ·
   by_cases k3 : m.Kind = 3
   ·
    simp only [k3]
    cases b1 <;> cases b4 <;> rfl
   ·
    simp only [k2, k3, decide_false, Bool.not_false, cond_true, cond_false, or_false]
    cases decide (m.Kind = 1) <;> cases b1 <;> cases b3 <;> cases b5 <;> cases b6 <;> rfl
 ·
  simp only [fin_false h]
  cases decide (m.Kind = 2) <;> cases decide (m.Kind = 3) <;> cases b1 <;> cases b2 <;> cases b3 <;> cases b4 <;> rfl

def badI (x : Int) : Prop := ¬ (1 ≤ x ∧ x ≤ 999)
instance (x : Int) : Decidable (badI x) := by unfold badI; infer_instance
theorem countedL_v : ∀ (l : List Int) (k : Nat), ref04_counted_L1 l k = some (if ∀ x ∈ l, 1 ≤ x ∧ x ≤ 999 then .brk () else .ret false)
 | [], k => by simp [ref04_counted_L1]
 | x :: l, k => by
  rw [ref04_counted_L1, in_eq, Option.bind_some, countedL_v l (k + 1)]
  by_cases h : 1 ≤ x ∧ x ≤ 999
  ·
   simp [h]
  ·
   have hn : ¬ ∀ y ∈ x :: l, 1 ≤ y ∧ y ≤ 999 := fun e => h (e x (List.mem_cons_self ..))
   rw [decide_eq_false h, if_neg hn]; rfl
theorem idxF_v : ∀ (l : List Int) (k : Nat), (slices_IndexFunc_int_L1 l k = some (.brk ()) ∧ ∀ x ∈ l, 1 ≤ x ∧ x ≤ 999) ∨ (∃ j : Nat, slices_IndexFunc_int_L1 l k = some (.ret (j : Int)) ∧ ¬ ∀ x ∈ l, 1 ≤ x ∧ x ≤ 999)
 | [], k => .inl ⟨rfl, by simp⟩
 | x :: l, k => by
  rw [slices_IndexFunc_int_L1]
  unfold message_ranged_f1
  rw [min_eq, Option.bind_some, Option.bind_some]
  by_cases h : 1 ≤ x ∧ x ≤ 999
  ·
   rw [decide_eq_true h, Bool.not_true, cond_false]
   rcases idxF_v l (k + 1) with ⟨h1, h2⟩ | ⟨j, h1, h2⟩
   ·
    exact .inl ⟨h1, by simpa using ⟨h, h2⟩⟩
   ·
    exact .inr ⟨j, h1, fun e => h2 (fun y hy => e y (by simp [hy]))⟩
  ·
   rw [decide_eq_false h]
   exact .inr ⟨k, rfl, fun e => h (e x (by simp))⟩
theorem contF_eq (l : List Int) : slices_ContainsFunc_int l = some (!decide (∀ x ∈ l, 1 ≤ x ∧ x ≤ 999)) := by
 unfold slices_ContainsFunc_int slices_IndexFunc_int
 rcases idxF_v l 0 with ⟨h1, h2⟩ | ⟨j, h1, h2⟩
 ·
  rw [fin_brkE h1, Option.bind_some, decide_eq_true h2]; rfl
 ·
  rw [fin_retE h1, Option.bind_some, decide_eq_false h2, decide_eq_true (Int.natCast_nonneg j)]; rfl
theorem cond_tt {b : Bool} {x : Option Bool} (h : cond b x (some false) = some true) : b = true ∧ x = some true := by
 cases b
 ·
  cases h
 ·
  exact ⟨rfl, h⟩
/-- what Same with own gives -/
theorem same_own {m n : Message} (h : ref04_own m = some n) (hs : ref04_Same m n = some true) (h1 : 1 ≤ m.Kind) (h2 : m.Kind ≤ 5) (hk : ¬ (m.Kind = 1 ∨ m.Kind = 2)) : m.Do = 0 ∧ m.Weight = 0 ∧ m.Exception = 0 := by
 have hn : n.Do = 0 ∧ n.Weight = 0 ∧ n.Exception = 0 := by
  unfold ref04_own at h
  rw [bag_eq, Option.bind_some, decide_eq_false hk, cond_false] at h
  have hk : m.Kind = 3 ∨ m.Kind = 4 ∨ m.Kind = 5 := by omega
  rcases hk with e | e | e <;> rw [e] at h <;> (have h := Option.some.inj h; rw [← h]; exact ⟨rfl, rfl, rfl⟩)
 have hs' : m.Do = n.Do ∧ m.Weight = n.Weight ∧ m.Exception = n.Exception := by
  unfold ref04_Same at hs
  obtain ⟨_, hs⟩ := cond_tt hs
  obtain ⟨d, hs⟩ := cond_tt hs
  obtain ⟨_, hs⟩ := cond_tt hs
  obtain ⟨_, hs⟩ := cond_tt hs
  obtain ⟨_, hs⟩ := cond_tt hs
  obtain ⟨_, hs⟩ := cond_tt hs
  obtain ⟨b, hb, _⟩ := legs_t m.Onward n.Onward
  rw [hb, Option.bind_some] at hs
  obtain ⟨_, hs⟩ := cond_tt hs
  obtain ⟨_, hs⟩ := cond_tt hs
  obtain ⟨_, hs⟩ := cond_tt hs
  obtain ⟨_, hs⟩ := cond_tt hs
  obtain ⟨_, hs⟩ := cond_tt hs
  obtain ⟨_, hs⟩ := cond_tt hs
  obtain ⟨w, hs⟩ := cond_tt hs
  obtain ⟨_, hs⟩ := cond_tt hs
  obtain ⟨_, hs⟩ := cond_tt hs
  obtain ⟨e, hs⟩ := cond_tt hs
  exact ⟨eq_of_beq d, eq_of_beq w, eq_of_beq e⟩
 rw [hn.1, hn.2.1, hn.2.2] at hs'
 exact hs'
theorem ranged_eq (m : Message) (hz : ¬ (m.Kind = 1 ∨ m.Kind = 2) → m.Do = 0 ∧ m.Weight = 0 ∧ m.Exception = 0) : message_ranged m = ref04_counted m := by
 unfold message_ranged ref04_counted
 simp only [min_eq, in_eq, plvalid_eq, refvalid_eq, desc_eq, bag_eq, contF_eq, Option.bind_some, countedL_v]
 have n5 : (m.Kind != 5) = !decide (m.Kind = 5) := rfl
 rw [n5]
 have hb : ∀ (b : Bool), (Ctl.fin (some (if b = true then (Ctl.brk () : Ctl Bool Unit) else Ctl.ret false)) fun _ => some true) = some b := by intro b; cases b <;> rfl
 have hL := hb (decide (∀ x ∈ m.List, 1 ≤ x ∧ x ≤ 999))
 simp only [decide_eq_true_eq] at hL
 rw [hL]
 by_cases hk : m.Kind = 1 ∨ m.Kind = 2
 ·
  have k5 : ¬ m.Kind = 5 := by omega
  rw [decide_eq_true hk, decide_eq_false k5, Bool.not_false, cond_true, cond_true]
  cases decide (1 ≤ m.Number ∧ m.Number ≤ 9999) <;> cases decide (0 ≤ m.Do ∧ m.Do ≤ 2) <;> cases decide (0 ≤ m.Weight ∧ m.Weight ≤ 999) <;> cases decide (0 ≤ m.Exception ∧ m.Exception ≤ 3) <;> cases decide (validP m.First) <;> cases decide (1 ≤ m.Count ∧ m.Count ≤ 99) <;> cases decide (1 ≤ m.Status ∧ m.Status ≤ 4) <;> cases decide (1 ≤ m.Sequence ∧ m.Sequence ≤ 999) <;> cases decide (∀ x ∈ m.List, 1 ≤ x ∧ x ≤ 999) <;> rfl
 ·
  obtain ⟨z1, z2, z3⟩ := hz hk
  rw [decide_eq_false hk, z1, z2, z3]
  cases decide (m.Kind = 5) <;> cases decide (1 ≤ m.Number ∧ m.Number ≤ 9999) <;> cases decide (validP m.First) <;> cases decide (1 ≤ m.Count ∧ m.Count ≤ 99) <;> cases decide (∀ x ∈ m.List, 1 ≤ x ∧ x ≤ 999) <;> rfl
theorem bind_comm2 {α β γ : Type} (a : Option α) (b : Option β) (f : α → β → Option γ) : (a.bind fun x => b.bind fun y => f x y) = b.bind fun y => a.bind fun x => f x y := by
 cases a <;> cases b <;> rfl
theorem mvalL_eq (m : Message) : ∀ (n : Nat) (i : Int), message_Validate_L1 m n i = ref04_Validate_L1 m n i
 | 0, i => rfl
 | n + 1, i => by
  rw [message_Validate_L1, ref04_Validate_L1, bind_comm2]
  simp only [mvalL_eq m n]
/-- Validate of the program is Validate of the reference -/
theorem mval_eq (m : Message) (hm : MsgOk m) : message_Validate m = ref04_Validate m := by
 unfold message_Validate ref04_Validate
 simp only [min_eq, in_eq, Option.bind_some]
 by_cases hk : 1 ≤ m.Kind ∧ m.Kind ≤ 5
 ·
  rw [decide_eq_true hk, Bool.not_true, cond_false, cond_false, own_eq m hk.1 hk.2]
  obtain ⟨n, hn, _⟩ := own_t m
  rw [hn, Option.bind_some, Option.bind_some, msame_eq]
  obtain ⟨b, hb, _⟩ := same_t m n
  rw [hb, Option.bind_some, Option.bind_some]
  cases b
  ·
   rw [Bool.not_false, cond_true, cond_true]
  ·
   rw [Bool.not_true, cond_false, cond_false, shaped_eq m hm, ranged_eq m (same_own hn hb hk.1 hk.2), mvalL_eq m]
 ·
  rw [decide_eq_false hk, Bool.not_false, cond_true, cond_true]

end Go.Proofs.YtkliakcegihikaaGreat.Ex.Mv
