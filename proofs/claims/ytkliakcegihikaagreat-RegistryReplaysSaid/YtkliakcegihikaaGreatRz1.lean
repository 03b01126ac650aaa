/- Plates: their order, their validity, as the printed functions give them. -/
/- Registries: validity, index, with, without, as the printed functions give them. -/
/- The reference's look at a message always gives an answer. -/
/- The reference: Validate of messages and Plates give answers; Apply keeps registries valid. -/
import Derived.Test.YtkliakcegihikaaGreatKp
namespace Go.Proofs.YtkliakcegihikaaGreat.Ex
open Go.RowKit Go.Proofs.YtkliakcegihikaaGreat.Ax
set_option linter.unusedVariables false
set_option linter.unusedSimpArgs false

def sgn (x y : Int) : Int := if x < y then -1 else if y < x then 1 else 0
def pcmp (a b : Plate) : Int := if sgn a.Lead b.Lead ≠ 0 then sgn a.Lead b.Lead else if sgn a.Airline b.Airline ≠ 0 then sgn a.Airline b.Airline else sgn a.Serial b.Serial
/-- a comes before b -/
def plt (a b : Plate) : Prop := a.Lead < b.Lead ∨ (a.Lead = b.Lead ∧ (a.Airline < b.Airline ∨ (a.Airline = b.Airline ∧ a.Serial < b.Serial)))

theorem sign_eq (x y : Int) : ref01_sign x y = some (sgn x y) := by
 unfold ref01_sign sgn
 simp only [cond_ite, decide_eq_true_eq]
 (repeat' split) <;> rfl
theorem cmpi_eq (x y : Int) : cmp_Compare_int x y = some (sgn x y) := by
 unfold cmp_Compare_int cmp_isNaN_int sgn
 simp only [bne_self_eq_false, Option.bind_some, cond_ite, decide_eq_true_eq, Bool.false_eq_true, if_false]
 (repeat' split) <;> rfl
theorem refcmp_eq (a b : Plate) : ref01_Compare a b = some (pcmp a b) := by
 unfold ref01_Compare pcmp
 simp only [sign_eq, Option.bind_some, cond_ite, bne_iff_ne, ne_eq]
 (repeat' split) <;> rfl
theorem or3_eq (a b c : Int) : cmp_Or_int [a, b, c] = some (if a ≠ 0 then a else if b ≠ 0 then b else c) := by
 unfold cmp_Or_int
 simp only [cmp_Or_int_L1, cond_ite, bne_iff_ne, ne_eq]
 by_cases h1 : a = 0
 ·
  by_cases h2 : b = 0
  ·
   by_cases h3 : c = 0
   ·
    simp [h1, h2, h3, Ctl.fin]
   ·
    simp [h1, h2, h3, Ctl.fin]
  ·
   simp [h1, h2, Ctl.fin]
 ·
  simp [h1, Ctl.fin]
theorem plcmp_eq (a b : Plate) : plate_Compare a b = some (pcmp a b) := by
 unfold plate_Compare pcmp
 simp only [cmpi_eq, Option.bind_some, or3_eq]

theorem pcmp_neg {a b : Plate} : pcmp a b < 0 ↔ plt a b := by
 unfold pcmp plt sgn
 (repeat' split) <;> omega
theorem plate_ext {a b : Plate} : a = b ↔ a.Lead = b.Lead ∧ a.Airline = b.Airline ∧ a.Serial = b.Serial := by
 cases a
 cases b
 simp
theorem pcmp_nneg {a b : Plate} : 0 ≤ pcmp a b ↔ ¬ plt a b := by rw [← pcmp_neg]; omega
theorem plt_irr {a : Plate} : ¬ plt a a := by unfold plt; omega
theorem plt_trans {a b c : Plate} (h : plt a b) (k : plt b c) : plt a c := by unfold plt at *; omega
theorem plt_tri (a b : Plate) : plt a b ∨ a = b ∨ plt b a := by rw [plate_ext]; unfold plt; omega
instance (a b : Plate) : Decidable (plt a b) := by unfold plt; infer_instance

def validP (p : Plate) : Prop := 0 ≤ p.Lead ∧ p.Lead ≤ 9 ∧ 1 ≤ p.Airline ∧ p.Airline ≤ 999 ∧ 0 ≤ p.Serial ∧ p.Serial ≤ 999999
instance (p : Plate) : Decidable (validP p) := by unfold validP; infer_instance
theorem refvalid_eq (p : Plate) : ref01_Valid p = some (decide (validP p)) := by
 unfold ref01_Valid
 simp only [cond_ite, decide_eq_true_eq]
 (repeat' split) <;> (refine congrArg some ?_; rw [Bool.eq_iff_iff]; simp only [decide_eq_true_eq, Bool.false_eq_true]; unfold validP; constructor <;> intro h <;> first | exact h.elim | omega)
theorem plvalid_eq (p : Plate) : plate_Valid p = some (decide (validP p)) := by
 unfold plate_Valid
 simp only [cond_ite, decide_eq_true_eq]
 (repeat' split) <;> (refine congrArg some ?_; rw [Bool.eq_iff_iff]; simp only [decide_eq_true_eq, Bool.false_eq_true]; unfold validP; constructor <;> intro h <;> first | exact h.elim | omega)

/-- the printed test of two plates -/
theorem plate_beq (a b : Plate) : ((a.Lead == b.Lead) && ((a.Airline == b.Airline) && ((a.Serial == b.Serial) && true))) = decide (a = b) := by
 rw [Bool.eq_iff_iff]
 simp only [Bool.and_eq_true, beq_iff_eq, decide_eq_true_eq, plate_ext, and_true]
theorem flight_beq (a b : Flight) : ((a.Carrier.toList == b.Carrier.toList) && ((a.Number == b.Number) && ((a.Suffix.toList == b.Suffix.toList) && ((a.Day == b.Day) && true)))) = decide (a = b) := by
 rw [Bool.eq_iff_iff]
 simp only [Bool.and_eq_true, beq_iff_eq, decide_eq_true_eq, and_true]
 constructor
 ·
  rintro ⟨h1, h2, h3, h4⟩
  cases a
  cases b
  simp only [Flight.mk.injEq]
  exact ⟨toList_inj h1, h2, toList_inj h3, h4⟩
 ·
  rintro rfl
  exact ⟨rfl, rfl, rfl, rfl⟩

def sortedB (l : List Bag) : Prop := l.Pairwise (fun a b => plt a.Plate b.Plate)
instance (l : List Bag) : Decidable (sortedB l) := by unfold sortedB; infer_instance
structure RegOk (l : List Bag) : Prop where
 len : l.length ≤ 200
 val : ∀ b ∈ l, validP b.Plate
 srt : sortedB l

theorem sorted_two {x y : Bag} {t : List Bag} : sortedB (x :: y :: t) ↔ plt x.Plate y.Plate ∧ sortedB (y :: t) := by
 unfold sortedB
 constructor
 ·
  intro h
  exact ⟨(List.pairwise_cons.1 h).1 y (List.mem_cons_self ..), (List.pairwise_cons.1 h).2⟩
 ·
  rintro ⟨h1, h2⟩
  refine List.pairwise_cons.2 ⟨fun z hz => ?_, h2⟩
  rcases List.mem_cons.1 hz with rfl | hz
  ·
   exact h1
  ·
   exact plt_trans h1 ((List.pairwise_cons.1 h2).1 z hz)

theorem refV1 : ∀ (l : List Bag) (k : Nat), ref06_Validate_L1 l k = some (if ∀ b ∈ l, validP b.Plate then Ctl.brk () else Ctl.ret 1)
 | [], k => by simp [ref06_Validate_L1]
 | b :: l, k => by
  rw [ref06_Validate_L1, refvalid_eq, Option.bind_some, refV1 l (k + 1)]
  by_cases h : validP b.Plate
  ·
   simp [h]
  ·
   simp [h]
theorem regV1 : ∀ (l : List Bag) (k : Nat), registry_Validate_L1 l k = ref06_Validate_L1 l k
 | [], k => rfl
 | b :: l, k => by rw [registry_Validate_L1, ref06_Validate_L1, refvalid_eq, plvalid_eq, regV1 l (k + 1)]

theorem refV2 (r : Registry) (hl : r.L.length ≤ 200) : ∀ (n i : Nat), 1 ≤ i → i ≤ r.L.length + 1 → r.L.length + 2 ≤ n + i → ref06_Validate_L2 r n (i : Int) = some (if sortedB (r.L.drop (i - 1)) then Ctl.brk () else Ctl.ret 9)
 | 0, i, h1, h2, h3 => by omega
 | n + 1, i, h1, h2, h3 => by
  rw [ref06_Validate_L2]
  by_cases hi : i < r.L.length
  ·
   rw [show decide ((i : Int) < (r.L.length : Int)) = true from decide_eq_true (by omega), cond_true]
   obtain ⟨x, hx⟩ : ∃ x, r.L[i - 1]? = some x := ⟨_, List.getElem?_eq_getElem (by omega)⟩
   obtain ⟨y, hy⟩ : ∃ y, r.L[i]? = some y := ⟨_, List.getElem?_eq_getElem hi⟩
   rw [w64_id (z := (i : Int) - 1) (by omega) (by omega), w64_id (z := (i : Int) + 1) (by omega) (by omega), ixL_at' (i - 1) (by omega) hx, Option.bind_some, ixL_at' i (by omega) hy, Option.bind_some, refcmp_eq, Option.bind_some]
   have hd : r.L.drop (i - 1) = x :: y :: r.L.drop (i + 1) := by
    rw [drop_cons hx, show i - 1 + 1 = i by omega, drop_cons hy]
   have ih := refV2 r hl n (i + 1) (by omega) (by omega) (by omega)
   rw [show ((i + 1 : Nat) : Int) = (i : Int) + 1 by omega, show i + 1 - 1 = i by omega, drop_cons hy] at ih
   rw [hd, ih]
   by_cases hp : plt x.Plate y.Plate
   ·
    rw [show decide (0 ≤ pcmp x.Plate y.Plate) = false from decide_eq_false (by rw [pcmp_nneg]; exact fun h => h hp), cond_false]
    simp only [sorted_two, hp, true_and]
   ·
    rw [show decide (0 ≤ pcmp x.Plate y.Plate) = true from decide_eq_true (pcmp_nneg.2 hp), cond_true]
    simp only [sorted_two, hp, false_and, if_false]
  ·
   rw [show decide ((i : Int) < (r.L.length : Int)) = false from decide_eq_false (by omega), cond_false]
   have : sortedB (r.L.drop (i - 1)) := by
    have hlen : (r.L.drop (i - 1)).length ≤ 1 := by rw [List.length_drop]; omega
    generalize r.L.drop (i - 1) = d at hlen ⊢
    unfold sortedB
    cases d with
    | nil => exact List.Pairwise.nil
    | cons x d =>
     cases d with
     | nil => exact List.pairwise_singleton ..
     | cons y d => simp only [List.length_cons] at hlen; omega
   rw [if_pos this]
theorem regV2 (r : Registry) : ∀ (n : Nat) (i : Int), registry_Validate_L2 r n i = ref06_Validate_L2 r n i
 | 0, i => rfl
 | n + 1, i => by
  rw [registry_Validate_L2, ref06_Validate_L2]
  simp only [plcmp_eq, refcmp_eq, regV2 r n]

/-- what Validate says -/
def vReg (l : List Bag) : Int := if 200 < l.length then 2 else if ∀ b ∈ l, validP b.Plate then (if sortedB l then 0 else 9) else 1
theorem refValidate_eq (r : Registry) : ref06_Validate r = some (vReg r.L) := by
 unfold ref06_Validate vReg
 by_cases h : 200 < r.L.length
 ·
  rw [show decide ((200 : Int) < (r.L.length : Int)) = true from decide_eq_true (by omega), cond_true, if_pos h]
 ·
  rw [show decide ((200 : Int) < (r.L.length : Int)) = false from decide_eq_false (by omega), cond_false, if_neg h, refV1]
  by_cases h1 : ∀ b ∈ r.L, validP b.Plate
  ·
   have h2 := refV2 r (by omega) 9223372036854775807 1 (by omega) (by omega) (by omega)
   rw [show (1 : Nat) - 1 = 0 from rfl, List.drop_zero, show ((1 : Nat) : Int) = 1 from rfl] at h2
   rw [if_pos h1, if_pos h1, fin_brkE rfl, h2]
   by_cases h2 : sortedB r.L
   ·
    rw [if_pos h2, if_pos h2, fin_brkE rfl]
   ·
    rw [if_neg h2, if_neg h2, fin_retE rfl]
  ·
   rw [if_neg h1, if_neg h1, fin_retE rfl]
theorem regValidate_eq (r : Registry) : registry_Validate r = some (vReg r.L) := by
 rw [← refValidate_eq]
 unfold registry_Validate ref06_Validate
 rw [regV1, funext (regV2 r _)]
theorem vReg_zero {l : List Bag} : vReg l = 0 ↔ RegOk l := by
 unfold vReg
 constructor
 ·
  intro h
  split at h
  ·
   cases h
  ·
   split at h
   ·
    split at h
    ·
     exact ⟨by omega, by assumption, by assumption⟩
    ·
     cases h
   ·
    cases h
 ·
  rintro ⟨h1, h2, h3⟩
  rw [if_neg (by omega), if_pos h2, if_pos h3]

/-- the place of a plate, or -1 -/
def idxP (p : Plate) : List Bag → Nat → Int
 | [], _ => -1
 | b :: l, k => if b.Plate = p then (k : Int) else idxP p l (k + 1)
theorem index_L (p : Plate) : ∀ (l : List Bag) (k : Nat), ref06_index_L1 p l k = some (if ∃ b ∈ l, b.Plate = p then Ctl.ret (idxP p l k) else Ctl.brk ())
 | [], k => by simp [ref06_index_L1]
 | b :: l, k => by
  rw [ref06_index_L1, plate_beq, index_L p l (k + 1), idxP]
  by_cases h : b.Plate = p
  ·
   simp [h]
  ·
   simp [h]
theorem index_eq (r : Registry) (p : Plate) : ref06_index r p = some (idxP p r.L 0) := by
 unfold ref06_index
 rw [index_L]
 by_cases h : ∃ b ∈ r.L, b.Plate = p
 ·
  rw [if_pos h, fin_retE rfl]
 ·
  rw [if_neg h, fin_brkE rfl]
  have : ∀ (l : List Bag) (k : Nat), (¬ ∃ b ∈ l, b.Plate = p) → idxP p l k = -1 := by
   intro l
   induction l with
   | nil => intro k _; rfl
   | cons b l ih =>
    intro k hn
    rw [idxP, if_neg (fun e => hn ⟨b, List.mem_cons_self .., e⟩)]
    exact ih _ (fun ⟨c, hc, e⟩ => hn ⟨c, List.mem_cons_of_mem _ hc, e⟩)
  rw [this _ _ h]
theorem idxP_spec (p : Plate) : ∀ (l : List Bag) (k : Nat), (idxP p l k = -1 ∧ ∀ b ∈ l, b.Plate ≠ p) ∨ ∃ (j : Nat) (b : Bag), idxP p l k = ((k + j : Nat) : Int) ∧ l[j]? = some b ∧ b.Plate = p
 | [], k => .inl ⟨rfl, fun b hb => by cases hb⟩
 | b :: l, k => by
  rw [idxP]
  by_cases h : b.Plate = p
  ·
   exact .inr ⟨0, b, by rw [if_pos h]; rfl, rfl, h⟩
  ·
   rw [if_neg h]
   rcases idxP_spec p l (k + 1) with ⟨h1, h2⟩ | ⟨j, c, h1, h2, h3⟩
   ·
    refine .inl ⟨h1, fun c hc => ?_⟩
    rcases List.mem_cons.1 hc with rfl | hc
    ·
     exact h
    ·
     exact h2 c hc
   ·
    exact .inr ⟨j + 1, c, by rw [h1]; congr 1; omega, by simpa using h2, h3⟩

/-- a bag put into its place -/
def insB (b : Bag) : List Bag → List Bag
 | [] => [b]
 | x :: l => if plt x.Plate b.Plate then x :: insB b l else if x.Plate = b.Plate then b :: l else b :: x :: l

theorem with_L (b : Bag) : ∀ (l : List Bag) (k : Nat) (acc : List Bag), acc.length + l.length ≤ 16777216 → ref06_with_L1 b l k acc = some (Ctl.brk (acc ++ l.takeWhile (fun x => decide (plt x.Plate b.Plate)), (((k + (l.takeWhile (fun x => decide (plt x.Plate b.Plate))).length : Nat)) : Int)))
 | [], k, acc, h => by simp [ref06_with_L1]
 | x :: l, k, acc, h => by
  rw [List.length_cons] at h
  rw [ref06_with_L1, refcmp_eq, Option.bind_some]
  by_cases hp : plt x.Plate b.Plate
  ·
   rw [show decide (pcmp x.Plate b.Plate < 0) = true from decide_eq_true (pcmp_neg.2 hp), cond_true, apL_eq (by simp; omega), Option.bind_some, with_L b l (k + 1) _ (by simp; omega), List.takeWhile_cons_of_pos (by simpa using hp)]
   simp only [List.append_assoc, List.singleton_append, List.length_cons]
   congr 3
   omega
  ·
   rw [show decide (pcmp x.Plate b.Plate < 0) = false from decide_eq_false (fun e => hp (pcmp_neg.1 e)), cond_false, List.takeWhile_cons_of_neg (by simpa using hp)]
   simp

theorem insB_split (b : Bag) : ∀ (l : List Bag), insB b l = l.takeWhile (fun x => decide (plt x.Plate b.Plate)) ++ b :: (match l.dropWhile (fun x => decide (plt x.Plate b.Plate)) with
  | [] => []
  | x :: t => if x.Plate = b.Plate then t else x :: t)
 | [] => rfl
 | x :: l => by
  by_cases hp : plt x.Plate b.Plate
  ·
   rw [insB, if_pos hp, insB_split b l, List.takeWhile_cons_of_pos (by simpa using hp), List.dropWhile_cons_of_pos (by simpa using hp), List.cons_append]
  ·
   rw [insB, if_neg hp, List.takeWhile_cons_of_neg (by simpa using hp), List.dropWhile_cons_of_neg (by simpa using hp)]
   by_cases he : x.Plate = b.Plate
   ·
    simp [he]
   ·
    simp [he]

theorem with_eq (r : Registry) (b : Bag) (hl : r.L.length ≤ 1000000) : ref06_with r b = some ⟨insB b r.L⟩ := by
 unfold ref06_with
 rw [with_L b r.L 0 [] (by simp; omega), fin_brkE rfl]
 simp only [List.nil_append, Nat.zero_add]
 have htd := List.takeWhile_append_dropWhile (p := fun x : Bag => decide (plt x.Plate b.Plate)) (l := r.L)
 rw [insB_split]
 generalize r.L.takeWhile (fun x => decide (plt x.Plate b.Plate)) = tw at *
 generalize r.L.dropWhile (fun x => decide (plt x.Plate b.Plate)) = dw at *
 have hlen : tw.length + dw.length = r.L.length := by rw [← htd, List.length_append]
 have hd : r.L.drop tw.length = dw := by rw [← htd, List.drop_left]
 rw [apL_eq (by simp; omega), Option.bind_some]
 have hs0 : slL r.L (tw.length : Int) (r.L.length : Int) = some dw := by
  rw [slL_eq (by omega) (by omega) (by omega)]
  simp only [Int.toNat_natCast, hd]
  rw [List.take_of_length_le (by omega)]
 match dw, hlen, hd, hs0 with
 | [], hlen, hd, hs0 =>
  rw [show decide ((tw.length : Int) < (r.L.length : Int)) = false from decide_eq_false (by simp at hlen; omega), cond_false, hs0, Option.bind_some, apL_eq (by simp; simp at hlen; omega), Option.bind_some]
  simp
 | x :: t, hlen, hd, hs0 =>
  rw [List.length_cons] at hlen
  have hx : r.L[tw.length]? = some x := by rw [← List.head?_drop, hd]; rfl
  rw [show decide ((tw.length : Int) < (r.L.length : Int)) = true from decide_eq_true (by omega), cond_true, ixL_at' tw.length rfl hx, Option.bind_some, plate_beq]
  by_cases he : x.Plate = b.Plate
  ·
   rw [decide_eq_true he, cond_true, w64_id (z := (tw.length : Int) + 1) (by omega) (by omega), slL_eq (by omega) (by omega) (by omega), Option.bind_some]
   have hd1 : r.L.drop (tw.length + 1) = t := by rw [← List.drop_drop, hd]; rfl
   simp only [show ((tw.length : Int) + 1).toNat = tw.length + 1 by omega, Int.toNat_natCast, hd1]
   rw [List.take_of_length_le (by omega), apL_eq (by simp; omega), Option.bind_some]
   simp [he]
  ·
   rw [decide_eq_false he, cond_false, hs0, Option.bind_some, apL_eq (by simp; omega), Option.bind_some]
   simp [he]

theorem okP_ixS {s : ByteArray} {i : Int} (h1 : 0 ≤ i) (h2 : i < s.size) : okP (ixS s i) (fun _ => True) := by
 unfold ixS
 rw [if_pos h1]
 have : i.toNat < s.size := by omega
 rw [getElem?_pos s i.toNat this]
 exact ⟨_, rfl, trivial⟩

theorem letter_t (x : Int) : okP (ref02_Letter x) (fun _ => True) := by
 unfold ref02_Letter; exact okP_cond (fun _ => okP_some trivial) (fun _ => okP_some trivial)
theorem digit_t (x : Int) : okP (ref02_Digit x) (fun _ => True) := by
 unfold ref02_Digit; exact okP_cond (fun _ => okP_some trivial) (fun _ => okP_some trivial)
theorem port_t (s : ByteArray) : okP (ref02_ValidPort s) (fun _ => True) := by
 unfold ref02_ValidPort
 refine okP_cond (fun h => ?_) (fun _ => okP_some trivial)
 have h : (s.size : Int) = 3 := by simpa using h
 repeat' first
  | exact okP_some trivial
  | refine okP_bind (okP_ixS (by omega) (by omega)) (fun _ _ => ?_)
  | refine okP_bind (letter_t _) (fun _ _ => ?_)
  | refine okP_cond (fun _ => ?_) (fun _ => ?_)
theorem carrier_t (s : ByteArray) : okP (ref02_Carrier s) (fun _ => True) := by
 unfold ref02_Carrier
 refine okP_cond (fun _ => okP_some trivial) (fun h => ?_)
 have h : (s.size : Int) = 2 := by simpa using h
 repeat' first
  | exact okP_some trivial
  | refine okP_bind (okP_ixS (by omega) (by omega)) (fun _ _ => ?_)
  | refine okP_bind (letter_t _) (fun _ _ => ?_)
  | refine okP_bind (digit_t _) (fun _ _ => ?_)
  | refine okP_cond (fun _ => ?_) (fun _ => ?_)
theorem suffix_t (s : ByteArray) : okP (ref02_Suffix s) (fun _ => True) := by
 unfold ref02_Suffix
 refine okP_cond (fun _ => okP_some trivial) (fun _ => okP_cond (fun h => ?_) (fun _ => okP_some trivial))
 have h : (s.size : Int) = 1 := by simpa using h
 exact okP_bind (okP_ixS (by omega) (by omega)) (fun _ _ => okP_bind (letter_t _) (fun _ _ => okP_some trivial))
theorem flight_t (f : Flight) : okP (ref02_Valid f) (fun _ => True) := by
 unfold ref02_Valid
 repeat' first
  | exact okP_some trivial
  | refine okP_bind (carrier_t _) (fun _ _ => ?_)
  | refine okP_bind (suffix_t _) (fun _ _ => ?_)
  | refine okP_cond (fun _ => ?_) (fun _ => ?_)
theorem class_t (s : ByteArray) : okP (ref02_ValidClass s) (fun _ => True) := by
 unfold ref02_ValidClass
 repeat' first
  | exact okP_some trivial
  | refine okP_cond (fun _ => ?_) (fun _ => ?_)
theorem leg_t (x : Leg) : okP (ref02_ValidLeg x) (fun _ => True) := by
 unfold ref02_ValidLeg
 repeat' first
  | exact okP_some trivial
  | refine okP_bind (flight_t _) (fun _ _ => ?_)
  | refine okP_bind (port_t _) (fun _ _ => ?_)
  | refine okP_bind (class_t _) (fun _ _ => ?_)
  | refine okP_cond (fun _ => ?_) (fun _ => ?_)
theorem in_t (a b c : Int) : okP (ref04_in a b c) (fun _ => True) := by
 unfold ref04_in; exact okP_cond (fun _ => okP_some trivial) (fun _ => okP_some trivial)
theorem bag_eq (k : Int) : ref04_Bag k = some (decide (k = 1 ∨ k = 2)) := by
 unfold ref04_Bag
 rw [cond_ite]
 by_cases h1 : k = 1
 ·
  simp [h1]
 ·
  by_cases h2 : k = 2
  ·
   simp [h2]
  ·
   simp [h1, h2]
theorem bag_t (k : Int) : okP (ref04_Bag k) (fun _ => True) := okP_of (bag_eq k) trivial

theorem letters_L_t (s : ByteArray) (hs : (s.size : Int) ≤ 9223372036854775807) : ∀ (n : Nat) (i : Int), 0 ≤ i → i ≤ s.size → (s.size : Int) - i < n → okP (ref04_letters_L1 s n i) (ctlQ (fun _ => True) (fun _ => True))
 | 0, i, h0, h1, h2 => by omega
 | n + 1, i, h0, h1, h2 => by
  rw [ref04_letters_L1]
  refine okP_cond (fun h => ?_) (fun _ => okP_some trivial)
  have h := of_decide_eq_true h
  refine okP_bind (okP_ixS h0 h) (fun _ _ => okP_bind (letter_t _) (fun _ _ => okP_cond (fun _ => okP_some trivial) (fun _ => ?_)))
  rw [w64_id (by omega) (by omega)]
  exact letters_L_t s hs n (i + 1) (by omega) (by omega) (by omega)
theorem letters_t (s : ByteArray) (hs : (s.size : Int) ≤ 9223372036854775807) (k : Int) : okP (ref04_letters s k) (fun _ => True) := by
 unfold ref04_letters
 refine okP_fin (letters_L_t s hs _ 0 (by omega) (by omega) (by omega)) (fun _ _ => okP_cond (fun _ => okP_some trivial) (fun _ => okP_some trivial))
theorem name_L_t (s : ByteArray) (hs : (s.size : Int) ≤ 9223372036854775807) : ∀ (n : Nat) (i : Int), 0 ≤ i → i ≤ s.size → (s.size : Int) - i < n → okP (ref04_Name_L1 s n i) (ctlQ (fun _ => True) (fun _ => True))
 | 0, i, h0, h1, h2 => by omega
 | n + 1, i, h0, h1, h2 => by
  rw [ref04_Name_L1]
  refine okP_cond (fun h => ?_) (fun _ => okP_some trivial)
  have h := of_decide_eq_true h
  have hn := name_L_t s hs n (i + 1) (by omega) (by omega) (by omega)
  rw [w64_id (z := i + 1) (by omega) (by omega)]
  refine okP_bind (okP_ixS h0 h) (fun _ _ => okP_bind (letter_t _) (fun _ _ => okP_cond (fun _ => ?_) (fun _ => hn)))
  exact okP_bind (okP_ixS h0 h) (fun _ _ => okP_bind (digit_t _) (fun _ _ => okP_cond (fun _ => okP_some trivial) (fun _ => hn)))
theorem name_t (s : ByteArray) : okP (ref04_Name s) (fun _ => True) := by
 unfold ref04_Name
 refine okP_cond (fun _ => okP_some trivial) (fun h1 => okP_cond (fun _ => okP_some trivial) (fun h2 => ?_))
 have h1 := of_decide_eq_false h1
 have h2 := of_decide_eq_false h2
 refine okP_bind (okP_ixS (by omega) (by omega)) (fun _ _ => okP_bind (letter_t _) (fun _ _ => okP_cond (fun _ => okP_some trivial) (fun _ => ?_)))
 exact okP_fin (name_L_t s (by omega) _ 0 (by omega) (by omega) (by omega)) (fun _ _ => okP_some trivial)

theorem spelled_L_t : ∀ (l : List Leg) (k : Nat), okP (ref04_spelled_L1 l k) (ctlQ (fun _ => True) (fun _ => True))
 | [], k => okP_some trivial
 | x :: l, k => by
  rw [ref04_spelled_L1]
  exact okP_bind (leg_t _) (fun _ _ => okP_cond (fun _ => okP_some trivial) (fun _ => spelled_L_t l (k + 1)))
/-- the strings of a message have lengths that are numbers -/
structure MsgOk (m : Message) : Prop where
 s : (m.Surname.size : Int) ≤ 9223372036854775807
 g : (m.Given.size : Int) ≤ 9223372036854775807
theorem spelled_t (m : Message) (hm : MsgOk m) : okP (ref04_spelled m) (fun _ => True) := by
 unfold ref04_spelled
 repeat' first
  | exact okP_some trivial
  | refine okP_bind (port_t _) (fun _ _ => ?_)
  | refine okP_bind (leg_t _) (fun _ _ => ?_)
  | refine okP_bind (name_t _) (fun _ _ => ?_)
  | refine okP_bind (bag_t _) (fun _ _ => ?_)
  | refine okP_bind (letters_t _ hm.s _) (fun _ _ => ?_)
  | refine okP_bind (letters_t _ hm.g _) (fun _ _ => ?_)
  | refine okP_fin (spelled_L_t _ _) (fun _ _ => ?_)
  | refine okP_cond (fun _ => ?_) (fun _ => ?_)
theorem counted_L_t : ∀ (l : List Int) (k : Nat), okP (ref04_counted_L1 l k) (ctlQ (fun _ => True) (fun _ => True))
 | [], k => okP_some trivial
 | x :: l, k => by
  rw [ref04_counted_L1]
  exact okP_bind (in_t _ _ _) (fun _ _ => okP_cond (fun _ => okP_some trivial) (fun _ => counted_L_t l (k + 1)))
theorem rvalid_t (p : Plate) : okP (ref01_Valid p) (fun _ => True) := okP_of (refvalid_eq p) trivial
theorem counted_t (m : Message) : okP (ref04_counted m) (fun _ => True) := by
 unfold ref04_counted
 repeat' first
  | exact okP_some trivial
  | refine okP_bind (in_t _ _ _) (fun _ _ => ?_)
  | refine okP_bind (rvalid_t _) (fun _ _ => ?_)
  | refine okP_bind (bag_t _) (fun _ _ => ?_)
  | refine okP_fin (counted_L_t _ _) (fun _ _ => ?_)
  | refine okP_cond (fun _ => ?_) (fun _ => ?_)
theorem own_t (m : Message) : okP (ref04_own m) (fun _ => True) := by
 unfold ref04_own
 repeat' first
  | exact okP_some trivial
  | refine okP_bind (bag_t _) (fun _ _ => ?_)
  | refine okP_cond (fun _ => ?_) (fun _ => ?_)
theorem legs_L_t (y : List Leg) : ∀ (l : List Leg) (k : Nat), k + l.length ≤ y.length → okP (ref04_legs_L1 y l k) (ctlQ (fun _ => True) (fun _ => True))
 | [], k, h => okP_some trivial
 | x :: l, k, h => by
  rw [List.length_cons] at h
  rw [ref04_legs_L1]
  exact okP_bind (okP_ixL (Q := fun _ => True) (by omega) (by omega) (fun _ _ _ => trivial)) (fun _ _ => okP_cond (fun _ => okP_some trivial) (fun _ => legs_L_t y l (k + 1) (by omega)))
theorem legs_t (x y : List Leg) : okP (ref04_legs x y) (fun _ => True) := by
 unfold ref04_legs
 refine okP_cond (fun _ => okP_some trivial) (fun h => ?_)
 have h : (x.length : Int) = y.length := by simpa using h
 exact okP_fin (legs_L_t y x 0 (by omega)) (fun _ _ => okP_some trivial)

theorem ints_L_t (y : List Int) : ∀ (l : List Int) (k : Nat), k + l.length ≤ y.length → okP (keep_Ints_L1 y l k) (ctlQ (fun _ => True) (fun _ => True))
 | [], k, h => okP_some trivial
 | x :: l, k, h => by
  rw [List.length_cons] at h
  rw [keep_Ints_L1]
  exact okP_bind (okP_ixL (Q := fun _ => True) (by omega) (by omega) (fun _ _ _ => trivial)) (fun _ _ => okP_cond (fun _ => okP_some trivial) (fun _ => ints_L_t y l (k + 1) (by omega)))
theorem ints_t (x y : List Int) : okP (keep_Ints x y) (fun _ => True) := by
 unfold keep_Ints
 refine okP_cond (fun _ => okP_some trivial) (fun h => ?_)
 have h : (x.length : Int) = y.length := by simpa using h
 exact okP_fin (ints_L_t y x 0 (by omega)) (fun _ _ => okP_some trivial)
theorem same_t (m n : Message) : okP (ref04_Same m n) (fun _ => True) := by
 unfold ref04_Same
 repeat' first
  | exact okP_some trivial
  | refine okP_bind (legs_t _ _) (fun _ _ => ?_)
  | refine okP_bind (ints_t _ _) (fun _ _ => ?_)
  | refine okP_cond (fun _ => ?_) (fun _ => ?_)
theorem mval_L_t (m : Message) (hl : m.List.length ≤ 1000000) : ∀ (n : Nat) (i : Int), 1 ≤ i → i ≤ m.List.length + 1 → (m.List.length : Int) + 1 - i < n → okP (ref04_Validate_L1 m n i) (ctlQ (fun _ => True) (fun _ => True))
 | 0, i, h0, h1, h2 => by omega
 | n + 1, i, h0, h1, h2 => by
  rw [ref04_Validate_L1]
  refine okP_cond (fun h => ?_) (fun _ => okP_some trivial)
  have h := of_decide_eq_true h
  rw [w64_id (z := i - 1) (by omega) (by omega), w64_id (z := i + 1) (by omega) (by omega)]
  refine okP_bind (okP_ixL (Q := fun _ => True) (by omega) (by omega) (fun _ _ _ => trivial)) (fun _ _ => okP_bind (okP_ixL (Q := fun _ => True) (by omega) (by omega) (fun _ _ _ => trivial)) (fun _ _ => ?_))
  exact okP_cond (fun _ => okP_some trivial) (fun _ => mval_L_t m hl n (i + 1) (by omega) (by omega) (by omega))
theorem mval_t (m : Message) (hm : MsgOk m) : okP (ref04_Validate m) (fun _ => True) := by
 unfold ref04_Validate
 refine okP_bind (in_t _ _ _) (fun _ _ => okP_cond (fun _ => okP_some trivial) (fun _ => okP_bind (own_t m) (fun _ _ => okP_bind (same_t _ _) (fun _ _ => okP_cond (fun _ => okP_some trivial) (fun _ => ?_)))))
 refine okP_cond (fun _ => okP_some trivial) (fun _ => okP_cond (fun _ => okP_some trivial) (fun h => ?_))
 have h := of_decide_eq_false h
 refine okP_bind (spelled_t m hm) (fun _ _ => okP_cond (fun _ => okP_some trivial) (fun _ => okP_bind (counted_t m) (fun _ _ => okP_cond (fun _ => okP_some trivial) (fun _ => ?_))))
 exact okP_fin (mval_L_t m (by omega) _ 1 (by omega) (by omega) (by omega)) (fun _ _ => okP_some trivial)

/-- the plates of a run: at most 99, all valid -/
def PlOk (l : List Plate) : Prop := l.length ≤ 99 ∧ ∀ p ∈ l, validP p
theorem run_L_t (p : Plate) (c : Int) (hp : validP p) (hc : c ≤ 99) : ∀ (n : Nat) (acc : List Plate) (i : Int), 0 ≤ i → i ≤ c → acc.length = i → (∀ q ∈ acc, validP q) → c - i < n → okP (ref01_Run_L1 p c n acc i) (ctlQ (fun r => PlOk r.1) PlOk)
 | 0, acc, i, h0, h1, h2, h3, h4 => by omega
 | n + 1, acc, i, h0, h1, h2, h3, h4 => by
  rw [ref01_Run_L1]
  refine okP_cond (fun h => ?_) (fun _ => okP_some ⟨by omega, h3⟩)
  have h := of_decide_eq_true h
  obtain ⟨p1, p2, p3, p4, p5, p6⟩ := hp
  rw [w64_id (z := p.Serial + i) (by omega) (by omega), w64_id (z := i + 1) (by omega) (by omega)]
  rw [apL_eq (by simp; omega), Option.bind_some]
  refine run_L_t p c ⟨p1, p2, p3, p4, p5, p6⟩ hc n _ (i + 1) (by omega) (by omega) (by simp; omega) (fun q hq => ?_) (by omega)
  rcases List.mem_append.1 hq with hq | hq
  ·
   exact h3 q hq
  ·
   simp only [List.mem_singleton] at hq
   subst hq
   have e1 := Int.tmod_lt_of_pos (p.Serial + i) (show (0 : Int) < 1000000 by decide)
   have e2 := Int.tmod_nonneg 1000000 (show 0 ≤ p.Serial + i by omega)
   exact ⟨p1, p2, p3, p4, e2, by show (p.Serial + i).tmod 1000000 ≤ 999999; omega⟩
theorem plates_t (m : Message) : okP (ref04_Plates m) PlOk := by
 unfold ref04_Plates ref01_Run
 have e : PlOk [] := ⟨by simp, fun p hp => by cases hp⟩
 refine okP_bind (R := fun r => PlOk r.1) ?_ (fun r hr => okP_some hr)
 rw [refvalid_eq, Option.bind_some]
 refine okP_cond (fun _ => okP_some e) (fun hv => okP_cond (fun _ => okP_some e) (fun h1 => okP_cond (fun _ => okP_some e) (fun h2 => ?_)))
 have hv : validP m.First := by simpa using hv
 have h1 := of_decide_eq_false h1
 have h2 := of_decide_eq_false h2
 exact okP_fin (S := PlOk) (run_L_t m.First m.Count hv (by omega) 9223372036854775807 [] 0 (by omega) (by omega) rfl (fun q hq => by cases hq) (by omega)) (fun z hz => okP_some hz)
end Go.Proofs.YtkliakcegihikaaGreat.Ex
