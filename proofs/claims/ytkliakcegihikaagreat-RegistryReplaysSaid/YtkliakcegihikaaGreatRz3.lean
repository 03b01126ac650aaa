/- Texts of messages: the program's and the reference's tests agree. -/
/- Messages: the program's Validate gives what the reference's gives. -/
/- The registry's own Apply and Find give what the reference's give. -/
/- Apply of the program is Apply of the reference. -/
import Derived.Test.YtkliakcegihikaaGreatRz2
namespace Go.Proofs.YtkliakcegihikaaGreat.Ex
open Go.RowKit Go.Proofs.YtkliakcegihikaaGreat.Ax
set_option linter.unusedVariables false
set_option linter.unusedSimpArgs false

/-- the bytes of a string, as numbers -/
def byL (s : ByteArray) : List Int := s.data.toList.map (fun b => (b.toNat : Int))
theorem byL_len (s : ByteArray) : (byL s).length = s.size := by unfold byL; rw [List.length_map, Array.length_toList]; rfl
theorem ixS_by (s : ByteArray) (k : Nat) {x : Int} (h : (byL s)[k]? = some x) {i : Int} (hi : i = k) : ixS s i = some x := by
 subst hi
 unfold ixS
 rw [if_pos (Int.natCast_nonneg k), Int.toNat_natCast]
 unfold byL at h
 rw [List.getElem?_map, Array.getElem?_toList] at h
 rw [show s[k]? = s.data[k]? from rfl]
 exact h
theorem by_at (s : ByteArray) {k : Nat} (h : k < s.size) : ∃ x, (byL s)[k]? = some x ∧ x ∈ byL s := ⟨(byL s)[k]'(by rw [byL_len]; exact h), List.getElem?_eq_getElem _, List.getElem_mem _⟩

def isL (b : Int) : Prop := 65 ≤ b ∧ b ≤ 90
def isD (b : Int) : Prop := 48 ≤ b ∧ b ≤ 57
instance (b : Int) : Decidable (isL b) := by unfold isL; infer_instance
instance (b : Int) : Decidable (isD b) := by unfold isD; infer_instance
theorem pl_eq (b : Int) : fields_Letter b = some (decide (isL b)) := by
 unfold fields_Letter isL
 by_cases h : 65 ≤ b <;> by_cases h2 : b ≤ 90 <;> simp [h, h2]
theorem rl_eq (b : Int) : ref02_Letter b = some (decide (isL b)) := by
 unfold ref02_Letter isL
 by_cases h : 65 ≤ b <;> by_cases h2 : b ≤ 90 <;> simp [h, h2]
theorem pd_eq (b : Int) : fields_Digit b = some (decide (isD b)) := by
 unfold fields_Digit isD
 by_cases h : 48 ≤ b <;> by_cases h2 : b ≤ 57 <;> simp [h, h2]
theorem rd_eq (b : Int) : ref02_Digit b = some (decide (isD b)) := by
 unfold ref02_Digit isD
 by_cases h : 48 ≤ b <;> by_cases h2 : b ≤ 57 <;> simp [h, h2]

theorem all_step {p : Int → Prop} [DecidablePred p] {l : List Int} {k : Nat} {x : Int} (h : l[k]? = some x) : (∀ b ∈ l.drop k, p b) ↔ p x ∧ ∀ b ∈ l.drop (k + 1), p b := by
 rw [drop_cons h]
 simp

theorem pAll_L (s : ByteArray) (hs : (s.size : Int) ≤ 9223372036854775807) : ∀ (n k : Nat), k ≤ s.size → s.size < n + k → fields_All_L1 s n (k : Int) = some (if ∀ b ∈ (byL s).drop k, isL b then Ctl.brk () else Ctl.ret false)
 | 0, k, h1, h2 => by omega
 | n + 1, k, h1, h2 => by
  rw [fields_All_L1]
  by_cases hk : k < s.size
  ·
   obtain ⟨x, hx, _⟩ := by_at s hk
   rw [show decide ((k : Int) < (s.size : Int)) = true from decide_eq_true (by omega), cond_true, ixS_by s k hx rfl, Option.bind_some, pl_eq, Option.bind_some, w64_id (z := (k : Int) + 1) (by omega) (by omega)]
   have ih := pAll_L s hs n (k + 1) (by omega) (by omega)
   rw [show ((k + 1 : Nat) : Int) = (k : Int) + 1 by omega] at ih
   rw [ih]
   simp only [all_step (p := isL) hx]
   by_cases h : isL x <;> simp [h]
  ·
   rw [show decide ((k : Int) < (s.size : Int)) = false from decide_eq_false (by omega), cond_false, List.drop_of_length_le (by rw [byL_len]; omega)]
   simp
theorem rAll_L (s : ByteArray) (hs : (s.size : Int) ≤ 9223372036854775807) : ∀ (n k : Nat), k ≤ s.size → s.size < n + k → ref04_letters_L1 s n (k : Int) = some (if ∀ b ∈ (byL s).drop k, isL b then Ctl.brk () else Ctl.ret false)
 | 0, k, h1, h2 => by omega
 | n + 1, k, h1, h2 => by
  rw [ref04_letters_L1]
  by_cases hk : k < s.size
  ·
   obtain ⟨x, hx, _⟩ := by_at s hk
   rw [show decide ((k : Int) < (s.size : Int)) = true from decide_eq_true (by omega), cond_true, ixS_by s k hx rfl, Option.bind_some, rl_eq, Option.bind_some, w64_id (z := (k : Int) + 1) (by omega) (by omega)]
   have ih := rAll_L s hs n (k + 1) (by omega) (by omega)
   rw [show ((k + 1 : Nat) : Int) = (k : Int) + 1 by omega] at ih
   rw [ih]
   simp only [all_step (p := isL) hx]
   by_cases h : isL x <;> simp [h]
  ·
   rw [show decide ((k : Int) < (s.size : Int)) = false from decide_eq_false (by omega), cond_false, List.drop_of_length_le (by rw [byL_len]; omega)]
   simp
/-- all bytes are letters -/
def allL (s : ByteArray) : Prop := ∀ b ∈ byL s, isL b
instance (s : ByteArray) : Decidable (allL s) := by unfold allL; infer_instance
theorem pLetters (s : ByteArray) (lo hi : Int) (hh : hi ≤ 4611686018427387904) : fields_Letters s lo hi = some (decide (lo ≤ s.size ∧ s.size ≤ hi ∧ allL s)) := by
 unfold fields_Letters fields_All
 by_cases h1 : lo ≤ (s.size : Int)
 ·
  by_cases h2 : (s.size : Int) ≤ hi
  ·
   have h := pAll_L s (by omega) 9223372036854775807 0 (by omega) (by omega)
   rw [show ((0 : Nat) : Int) = 0 from rfl, List.drop_zero] at h
   rw [decide_eq_true h1, cond_true, decide_eq_true h2, cond_true, h]
   by_cases h3 : allL s
   ·
    rw [if_pos (show ∀ b ∈ byL s, isL b from h3), fin_brkE rfl, Option.bind_some, decide_eq_true ⟨h1, h2, h3⟩]
   ·
    rw [if_neg (show ¬ ∀ b ∈ byL s, isL b from h3), fin_retE rfl, Option.bind_some, decide_eq_false (fun e => h3 e.2.2)]
  ·
   rw [decide_eq_true h1, cond_true, decide_eq_false h2, cond_false, decide_eq_false (fun e => h2 e.2.1)]
 ·
  rw [decide_eq_false h1, cond_false, decide_eq_false (fun e => h1 e.1)]
theorem rLetters (s : ByteArray) (hs : (s.size : Int) ≤ 9223372036854775807) (lo : Int) : ref04_letters s lo = some (decide (lo ≤ s.size ∧ s.size ≤ (20 : Int) ∧ allL s)) := by
 unfold ref04_letters
 have h := rAll_L s hs 9223372036854775808 0 (by omega) (by omega)
 rw [show ((0 : Nat) : Int) = 0 from rfl, List.drop_zero] at h
 rw [h]
 by_cases h3 : allL s
 ·
  rw [if_pos (show ∀ b ∈ byL s, isL b from h3), fin_brkE rfl]
  by_cases h1 : lo ≤ (s.size : Int)
  ·
   rw [decide_eq_true h1, cond_true]
   congr 1
   by_cases h2 : (s.size : Int) ≤ 20
   ·
    rw [decide_eq_true h2, decide_eq_true ⟨h1, h2, h3⟩]
   ·
    rw [decide_eq_false h2, decide_eq_false (fun e => h2 e.2.1)]
  ·
   rw [decide_eq_false h1, cond_false, decide_eq_false (fun e => h1 e.1)]
 ·
  rw [if_neg (show ¬ ∀ b ∈ byL s, isL b from h3), fin_retE rfl, decide_eq_false (fun e => h3 e.2.2)]

theorem by3 (s : ByteArray) (h : s.size = 3) : ∃ a b c, byL s = [a, b, c] := by
 have := byL_len s
 rw [h] at this
 match byL s, this with
 | [a, b, c], _ => exact ⟨a, b, c, rfl⟩
theorem by2 (s : ByteArray) (h : s.size = 2) : ∃ a b, byL s = [a, b] := by
 have := byL_len s
 rw [h] at this
 match byL s, this with
 | [a, b], _ => exact ⟨a, b, rfl⟩
theorem by1 (s : ByteArray) (h : s.size = 1) : ∃ a, byL s = [a] := by
 have := byL_len s
 rw [h] at this
 match byL s, this with
 | [a], _ => exact ⟨a, rfl⟩

theorem port_eq (s : ByteArray) : flight_ValidPort s = ref02_ValidPort s := by
 unfold flight_ValidPort ref02_ValidPort
 rw [pLetters s 3 3 (by omega), Option.bind_some]
 by_cases h : s.size = 3
 ·
  obtain ⟨a, b, c, e⟩ := by3 s h
  rw [show ((s.size : Int) == 3) = true by simp [h], cond_true, ixS_by s 0 (by rw [e]; rfl) (i := 0) rfl, Option.bind_some, rl_eq, Option.bind_some, ixS_by s 1 (by rw [e]; rfl) (i := 1) rfl, Option.bind_some, rl_eq, Option.bind_some, ixS_by s 2 (by rw [e]; rfl) (i := 2) rfl, Option.bind_some, rl_eq, Option.bind_some]
  have hA : allL s ↔ isL a ∧ isL b ∧ isL c := by unfold allL; rw [e]; simp
  simp only [hA]
  by_cases ha : isL a <;> by_cases hb : isL b <;> by_cases hc : isL c <;> simp [ha, hb, hc, h]
 ·
  rw [show ((s.size : Int) == 3) = false by simp; omega, cond_false, decide_eq_false (fun e => by omega)]
theorem suffix_eq (s : ByteArray) : fields_Letters s 0 1 = ref02_Suffix s := by
 unfold ref02_Suffix
 rw [pLetters s 0 1 (by omega)]
 by_cases h0 : s.toList == (⟨#[]⟩ : ByteArray).toList
 ·
  have : s = ⟨#[]⟩ := toList_inj (eq_of_beq h0)
  rw [h0, cond_true, this]
  rfl
 ·
  have hb : (s.toList == (⟨#[]⟩ : ByteArray).toList) = false := by simpa using h0
  have hne : s.size ≠ 0 := fun e => by
   apply h0
   have : s = ⟨#[]⟩ := by
    cases s with
    | mk d =>
     have : d.size = 0 := e
     rw [Array.eq_empty_of_size_eq_zero this]
   rw [this]
   exact beq_self_eq_true _
  rw [hb, cond_false]
  by_cases h : s.size = 1
  ·
   obtain ⟨a, e⟩ := by1 s h
   rw [show ((s.size : Int) == 1) = true by simp [h], cond_true, ixS_by s 0 (by rw [e]; rfl) (i := 0) rfl, Option.bind_some, rl_eq, Option.bind_some]
   have hA : allL s ↔ isL a := by unfold allL; rw [e]; simp
   simp only [hA]
   by_cases ha : isL a <;> simp [ha, h]
  ·
   rw [show ((s.size : Int) == 1) = false by simp; omega, cond_false, decide_eq_false (fun e => by omega)]
theorem carrier_eq (s : ByteArray) : flight_carrier s = ref02_Carrier s := by
 unfold flight_carrier ref02_Carrier
 by_cases h : s.size = 2
 ·
  obtain ⟨a, b, e⟩ := by2 s h
  have e0 := ixS_by s 0 (x := a) (by rw [e]; rfl) (i := 0) rfl
  have e1 := ixS_by s 1 (x := b) (by rw [e]; rfl) (i := 1) rfl
  have hL : ∀ n : Nat, flight_carrier_L1 s (n + 1 + 1 + 1) 0 0 = some (if (isL a ∨ isD a) ∧ (isL b ∨ isD b) then Ctl.brk ((if isL a then 1 else 0) + (if isL b then 1 else 0)) else Ctl.ret false) := by
   intro n
   have w1 : w64 (1 : Int) = 1 := rfl
   have w2 : w64 (2 : Int) = 2 := rfl
   have d0 : decide ((0 : Int) < ((2 : Nat) : Int)) = true := rfl
   have d1 : decide ((1 : Int) < ((2 : Nat) : Int)) = true := rfl
   have d2 : decide ((2 : Int) < ((2 : Nat) : Int)) = false := rfl
   by_cases la : isL a <;> by_cases da : isD a <;> by_cases lb : isL b <;> by_cases db : isD b <;>
    simp [flight_carrier_L1, h, e0, e1, pl_eq, pd_eq, w1, w2, d0, d1, d2, la, lb, da, db]
  rw [show ((s.size : Int) != 2) = false by simp [h], cond_false, cond_false]
  have hL' := hL 9223372036854775804
  rw [show (9223372036854775804 + 1 + 1 + 1 : Nat) = 9223372036854775807 from rfl] at hL'
  rw [hL', e0, Option.bind_some, rl_eq, Option.bind_some, e1, Option.bind_some, rl_eq, Option.bind_some, Option.bind_some, rd_eq, Option.bind_some, Option.bind_some, rd_eq, Option.bind_some]
  by_cases la : isL a <;> by_cases lb : isL b <;> by_cases da : isD a <;> by_cases db : isD b <;> simp [la, lb, da, db, Ctl.fin, rd_eq]
 ·
  rw [show ((s.size : Int) != 2) = true by simp; omega, cond_true, cond_true]
theorem flightv_eq (f : Flight) : flight_Valid f = ref02_Valid f := by
 unfold flight_Valid ref02_Valid
 simp only [carrier_eq, suffix_eq f.Suffix]
theorem leg_eq (g : Leg) : flight_ValidLeg g = ref02_ValidLeg g := by
 unfold flight_ValidLeg ref02_ValidLeg ref02_ValidClass
 simp only [flightv_eq g.Flight, port_eq g.Port, cond_ite]
 obtain ⟨b1, e1, _⟩ := flight_t g.Flight
 obtain ⟨b2, e2, _⟩ := port_t g.Port
 rw [e1, e2, Option.bind_some, Option.bind_some, Option.bind_some, Option.bind_some]
 (repeat' split) <;> rfl

theorem legsL_eq (y : List Leg) : ∀ (l : List Leg) (k : Nat), slices_Equal_Leg_L1 y l k = ref04_legs_L1 y l k
 | [], k => rfl
 | x :: l, k => by
  rw [slices_Equal_Leg_L1, ref04_legs_L1]
  simp only [legsL_eq y l (k + 1)]
theorem legs_eq (x y : List Leg) : slices_Equal_Leg x y = ref04_legs x y := by
 unfold slices_Equal_Leg ref04_legs
 rw [legsL_eq]
theorem intsL_eq (y : List Int) : ∀ (l : List Int) (k : Nat), slices_Equal_int_L1 y l k = keep_Ints_L1 y l k
 | [], k => rfl
 | x :: l, k => by
  rw [slices_Equal_int_L1, keep_Ints_L1]
  simp only [intsL_eq y l (k + 1)]
theorem ints_eq (x y : List Int) : slices_Equal_int x y = keep_Ints x y := by
 unfold slices_Equal_int keep_Ints
 rw [intsL_eq]
theorem msame_eq (x y : Message) : message_Same x y = ref04_Same x y := by
 unfold message_Same ref04_Same
 simp only [legs_eq, ints_eq]
theorem in_eq (a b c : Int) : ref04_in a b c = some (decide (b ≤ a ∧ a ≤ c)) := by
 unfold ref04_in
 by_cases h : b ≤ a <;> by_cases h2 : a ≤ c <;> simp [h, h2]
theorem min_eq (a b c : Int) : message_in a b c = some (decide (b ≤ a ∧ a ≤ c)) := by
 unfold message_in
 by_cases h : b ≤ a <;> by_cases h2 : a ≤ c <;> simp [h, h2]
theorem desc_eq (k : Int) : message_describes k = some (decide (k = 1 ∨ k = 2)) := bag_eq k
theorem own_eq (m : Message) (h1 : 1 ≤ m.Kind) (h2 : m.Kind ≤ 5) : message_own m = ref04_own m := by
 have hk : m.Kind = 1 ∨ m.Kind = 2 ∨ m.Kind = 3 ∨ m.Kind = 4 ∨ m.Kind = 5 := by omega
 unfold message_own ref04_own
 rw [bag_eq, Option.bind_some]
 rcases hk with h | h | h | h | h <;> rw [h] <;> rfl

theorem name_step (s : ByteArray) : ∀ (n : Nat) (i : Int), fields_All_v2_L1 s n i = ref04_Name_L1 s n i
 | 0, i => rfl
 | n + 1, i => by
  rw [fields_All_v2_L1, ref04_Name_L1]
  simp only [name_step s n]
  unfold fields_Name_f1
  cases hc : decide (i < (s.size : Int))
  ·
   rfl
  ·
   rw [cond_true, cond_true]
   cases hx : ixS s i with
   | none => rfl
   | some x =>
    rw [Option.bind_some, Option.bind_some, pl_eq, rl_eq, Option.bind_some, Option.bind_some, Option.bind_some, pd_eq, rd_eq, Option.bind_some, Option.bind_some]
    by_cases hl : isL x <;> by_cases hd : isD x <;> simp [hl, hd]
theorem bindS {α : Type} (o : Option α) : (o.bind fun r => some r) = o := by cases o <;> rfl
theorem mname_eq (s : ByteArray) : fields_Name s 12 = ref04_Name s := by
 unfold fields_Name ref04_Name fields_All_v2
 have h0 : (s.toList == (⟨#[]⟩ : ByteArray).toList) = decide ((s.size : Int) < 1) := by
  by_cases h : (s.size : Int) < 1
  ·
   have : s = ⟨#[]⟩ := by
    cases s with
    | mk d =>
     have e : d.size = 0 := by
      have : ((⟨d⟩ : ByteArray).size : Int) < 1 := h
      have : (d.size : Int) < 1 := this
      omega
     rw [Array.eq_empty_of_size_eq_zero e]
   rw [this, beq_self_eq_true]; rfl
  ·
   rw [decide_eq_false h]
   apply Bool.eq_false_iff.mpr
   intro e
   have := toList_inj (eq_of_beq e)
   rw [this] at h
   exact h (by decide)
 rw [h0]
 by_cases h1 : (s.size : Int) < 1
 ·
  rw [decide_eq_true h1]; rfl
 ·
  rw [decide_eq_false h1, Bool.not_false, cond_true, cond_false]
  by_cases h2 : (s.size : Int) ≤ 12
  ·
   rw [decide_eq_true h2, cond_true, decide_eq_false (by omega : ¬ (12 : Int) < s.size), cond_false]
   obtain ⟨x, hx, _⟩ := okP_ixS (s := s) (i := 0) (by omega) (by omega)
   rw [hx, Option.bind_some, Option.bind_some, pl_eq, rl_eq, Option.bind_some, Option.bind_some]
   by_cases hl : isL x
   ·
    rw [decide_eq_true hl, Bool.not_true, cond_true, cond_false, name_step s, bindS]
   ·
    rw [decide_eq_false hl]; rfl
  ·
   rw [decide_eq_false h2, cond_false, decide_eq_true (by omega : (12 : Int) < s.size), cond_true]

theorem shapedL_eq : ∀ (l : List Leg) (k : Nat), message_shaped_L1 l k = ref04_spelled_L1 l k
 | [], k => rfl
 | x :: l, k => by
  rw [message_shaped_L1, ref04_spelled_L1, leg_eq]
  simp only [shapedL_eq l (k + 1)]
theorem spelledL_v : ∀ (l : List Leg) (k : Nat), ref04_spelled_L1 l k = some (.brk ()) ∨ ref04_spelled_L1 l k = some (.ret false)
 | [], k => .inl rfl
 | x :: l, k => by
  rw [ref04_spelled_L1]
  obtain ⟨b, hb, _⟩ := leg_t x
  rw [hb, Option.bind_some]
  cases b
  ·
   exact .inr rfl
  ·
   exact spelledL_v l (k + 1)
theorem mletters_eq (s : ByteArray) (lo : Int) (hs : (s.size : Int) ≤ 9223372036854775807) : fields_Letters s lo 20 = ref04_letters s lo := by
 rw [pLetters s lo 20 (by omega), rLetters s hs]
theorem fin_false {σ : Type} {o : Option (Ctl Bool σ)} {k : σ → Option Bool} (h : o = some (.ret false)) : Ctl.fin o k = some false := fin_retE h
theorem shaped_eq (m : Message) (hm : MsgOk m) : message_shaped m = ref04_spelled m := by
 unfold message_shaped ref04_spelled
 simp only [shapedL_eq, leg_eq, port_eq, mname_eq, mletters_eq _ _ hm.s, mletters_eq _ _ hm.g, desc_eq, bag_eq, Option.bind_some]
 obtain ⟨b1, e1, _⟩ := port_t m.Port
 obtain ⟨b2, e2, _⟩ := leg_t m.In
 obtain ⟨b3, e3, _⟩ := leg_t m.Out
 obtain ⟨b4, e4, _⟩ := name_t m.Node
 obtain ⟨b5, e5, _⟩ := letters_t m.Surname hm.s 1
 obtain ⟨b6, e6, _⟩ := letters_t m.Given hm.g 0
 simp only [e1, e2, e3, e4, e5, e6, Option.bind_some]
 have d2 : (m.Kind == 2) = decide (m.Kind = 2) := rfl
 have d3 : (m.Kind == 3) = decide (m.Kind = 3) := rfl
 have n3 : (m.Kind != 3) = !decide (m.Kind = 3) := rfl
 rw [d2, d3, n3]
 rcases spelledL_v m.Onward 0 with h | h
 ·
  simp only [fin_brkE h]
  by_cases k2 : m.Kind = 2
  ·
   simp only [k2]
   cases b1 <;> cases b2 <;> cases b3 <;> cases b5 <;> cases b6 <;> rfl
  ·
   by_cases k3 : m.Kind = 3
   ·
    simp only [k3]
    cases b1 <;> cases b4 <;> rfl
   ·
    simp only [k2, k3, decide_false, Bool.not_false, cond_true, cond_false, or_false]
    cases decide (m.Kind = 1) <;> cases b1 <;> cases b3 <;> cases b5 <;> cases b6 <;> rfl
 ·
  simp only [fin_false h]
  cases decide (m.Kind = 2) <;> cases decide (m.Kind = 3) <;> cases b1 <;> cases b2 <;> cases b3 <;> cases b4 <;> rfl

def badI (x : Int) : Prop := ¬ (1 ≤ x ∧ x ≤ 999)
instance (x : Int) : Decidable (badI x) := by unfold badI; infer_instance
theorem countedL_v : ∀ (l : List Int) (k : Nat), ref04_counted_L1 l k = some (if ∀ x ∈ l, 1 ≤ x ∧ x ≤ 999 then .brk () else .ret false)
 | [], k => by simp [ref04_counted_L1]
 | x :: l, k => by
  rw [ref04_counted_L1, in_eq, Option.bind_some, countedL_v l (k + 1)]
  by_cases h : 1 ≤ x ∧ x ≤ 999
  ·
   simp [h]
  ·
   have hn : ¬ ∀ y ∈ x :: l, 1 ≤ y ∧ y ≤ 999 := fun e => h (e x (List.mem_cons_self ..))
   rw [decide_eq_false h, if_neg hn]; rfl
theorem idxF_v : ∀ (l : List Int) (k : Nat), (slices_IndexFunc_int_L1 l k = some (.brk ()) ∧ ∀ x ∈ l, 1 ≤ x ∧ x ≤ 999) ∨ (∃ j : Nat, slices_IndexFunc_int_L1 l k = some (.ret (j : Int)) ∧ ¬ ∀ x ∈ l, 1 ≤ x ∧ x ≤ 999)
 | [], k => .inl ⟨rfl, by simp⟩
 | x :: l, k => by
  rw [slices_IndexFunc_int_L1]
  unfold message_ranged_f1
  rw [min_eq, Option.bind_some, Option.bind_some]
  by_cases h : 1 ≤ x ∧ x ≤ 999
  ·
   rw [decide_eq_true h, Bool.not_true, cond_false]
   rcases idxF_v l (k + 1) with ⟨h1, h2⟩ | ⟨j, h1, h2⟩
   ·
    exact .inl ⟨h1, by simpa using ⟨h, h2⟩⟩
   ·
    exact .inr ⟨j, h1, fun e => h2 (fun y hy => e y (by simp [hy]))⟩
  ·
   rw [decide_eq_false h]
   exact .inr ⟨k, rfl, fun e => h (e x (by simp))⟩
theorem contF_eq (l : List Int) : slices_ContainsFunc_int l = some (!decide (∀ x ∈ l, 1 ≤ x ∧ x ≤ 999)) := by
 unfold slices_ContainsFunc_int slices_IndexFunc_int
 rcases idxF_v l 0 with ⟨h1, h2⟩ | ⟨j, h1, h2⟩
 ·
  rw [fin_brkE h1, Option.bind_some, decide_eq_true h2]; rfl
 ·
  rw [fin_retE h1, Option.bind_some, decide_eq_false h2, decide_eq_true (Int.natCast_nonneg j)]; rfl
theorem cond_tt {b : Bool} {x : Option Bool} (h : cond b x (some false) = some true) : b = true ∧ x = some true := by
 cases b
 ·
  cases h
 ·
  exact ⟨rfl, h⟩
/-- what Same with own gives -/
theorem same_own {m n : Message} (h : ref04_own m = some n) (hs : ref04_Same m n = some true) (h1 : 1 ≤ m.Kind) (h2 : m.Kind ≤ 5) (hk : ¬ (m.Kind = 1 ∨ m.Kind = 2)) : m.Do = 0 ∧ m.Weight = 0 ∧ m.Exception = 0 := by
 have hn : n.Do = 0 ∧ n.Weight = 0 ∧ n.Exception = 0 := by
  unfold ref04_own at h
  rw [bag_eq, Option.bind_some, decide_eq_false hk, cond_false] at h
  have hk : m.Kind = 3 ∨ m.Kind = 4 ∨ m.Kind = 5 := by omega
  rcases hk with e | e | e <;> rw [e] at h <;> (have h := Option.some.inj h; rw [← h]; exact ⟨rfl, rfl, rfl⟩)
 have hs' : m.Do = n.Do ∧ m.Weight = n.Weight ∧ m.Exception = n.Exception := by
  unfold ref04_Same at hs
  obtain ⟨_, hs⟩ := cond_tt hs
  obtain ⟨d, hs⟩ := cond_tt hs
  obtain ⟨_, hs⟩ := cond_tt hs
  obtain ⟨_, hs⟩ := cond_tt hs
  obtain ⟨_, hs⟩ := cond_tt hs
  obtain ⟨_, hs⟩ := cond_tt hs
  obtain ⟨b, hb, _⟩ := legs_t m.Onward n.Onward
  rw [hb, Option.bind_some] at hs
  obtain ⟨_, hs⟩ := cond_tt hs
  obtain ⟨_, hs⟩ := cond_tt hs
  obtain ⟨_, hs⟩ := cond_tt hs
  obtain ⟨_, hs⟩ := cond_tt hs
  obtain ⟨_, hs⟩ := cond_tt hs
  obtain ⟨_, hs⟩ := cond_tt hs
  obtain ⟨w, hs⟩ := cond_tt hs
  obtain ⟨_, hs⟩ := cond_tt hs
  obtain ⟨_, hs⟩ := cond_tt hs
  obtain ⟨e, hs⟩ := cond_tt hs
  exact ⟨eq_of_beq d, eq_of_beq w, eq_of_beq e⟩
 rw [hn.1, hn.2.1, hn.2.2] at hs'
 exact hs'
theorem ranged_eq (m : Message) (hz : ¬ (m.Kind = 1 ∨ m.Kind = 2) → m.Do = 0 ∧ m.Weight = 0 ∧ m.Exception = 0) : message_ranged m = ref04_counted m := by
 unfold message_ranged ref04_counted
 simp only [min_eq, in_eq, plvalid_eq, refvalid_eq, desc_eq, bag_eq, contF_eq, Option.bind_some, countedL_v]
 have n5 : (m.Kind != 5) = !decide (m.Kind = 5) := rfl
 rw [n5]
 have hb : ∀ (b : Bool), (Ctl.fin (some (if b = true then (Ctl.brk () : Ctl Bool Unit) else Ctl.ret false)) fun _ => some true) = some b := by intro b; cases b <;> rfl
 have hL := hb (decide (∀ x ∈ m.List, 1 ≤ x ∧ x ≤ 999))
 simp only [decide_eq_true_eq] at hL
 rw [hL]
 by_cases hk : m.Kind = 1 ∨ m.Kind = 2
 ·
  have k5 : ¬ m.Kind = 5 := by omega
  rw [decide_eq_true hk, decide_eq_false k5, Bool.not_false, cond_true, cond_true]
  cases decide (1 ≤ m.Number ∧ m.Number ≤ 9999) <;> cases decide (0 ≤ m.Do ∧ m.Do ≤ 2) <;> cases decide (0 ≤ m.Weight ∧ m.Weight ≤ 999) <;> cases decide (0 ≤ m.Exception ∧ m.Exception ≤ 3) <;> cases decide (validP m.First) <;> cases decide (1 ≤ m.Count ∧ m.Count ≤ 99) <;> cases decide (1 ≤ m.Status ∧ m.Status ≤ 4) <;> cases decide (1 ≤ m.Sequence ∧ m.Sequence ≤ 999) <;> cases decide (∀ x ∈ m.List, 1 ≤ x ∧ x ≤ 999) <;> rfl
 ·
  obtain ⟨z1, z2, z3⟩ := hz hk
  rw [decide_eq_false hk, z1, z2, z3]
  cases decide (m.Kind = 5) <;> cases decide (1 ≤ m.Number ∧ m.Number ≤ 9999) <;> cases decide (validP m.First) <;> cases decide (1 ≤ m.Count ∧ m.Count ≤ 99) <;> cases decide (∀ x ∈ m.List, 1 ≤ x ∧ x ≤ 999) <;> rfl
theorem bind_comm2 {α β γ : Type} (a : Option α) (b : Option β) (f : α → β → Option γ) : (a.bind fun x => b.bind fun y => f x y) = b.bind fun y => a.bind fun x => f x y := by
 cases a <;> cases b <;> rfl
theorem mvalL_eq (m : Message) : ∀ (n : Nat) (i : Int), message_Validate_L1 m n i = ref04_Validate_L1 m n i
 | 0, i => rfl
 | n + 1, i => by
  rw [message_Validate_L1, ref04_Validate_L1, bind_comm2]
  simp only [mvalL_eq m n]
/-- Validate of the program is Validate of the reference -/
theorem mval_eq (m : Message) (hm : MsgOk m) : message_Validate m = ref04_Validate m := by
 unfold message_Validate ref04_Validate
 simp only [min_eq, in_eq, Option.bind_some]
 by_cases hk : 1 ≤ m.Kind ∧ m.Kind ≤ 5
 ·
  rw [decide_eq_true hk, Bool.not_true, cond_false, cond_false, own_eq m hk.1 hk.2]
  obtain ⟨n, hn, _⟩ := own_t m
  rw [hn, Option.bind_some, Option.bind_some, msame_eq]
  obtain ⟨b, hb, _⟩ := same_t m n
  rw [hb, Option.bind_some, Option.bind_some]
  cases b
  ·
   rw [Bool.not_false, cond_true, cond_true]
  ·
   rw [Bool.not_true, cond_false, cond_false, shaped_eq m hm, ranged_eq m (same_own hn hb hk.1 hk.2), mvalL_eq m]
 ·
  rw [decide_eq_false hk, Bool.not_false, cond_true, cond_true]

theorem mid_eq {a : Int} (h0 : 0 ≤ a) (h1 : a ≤ 1000000) : IntKind.i64.wrap (shrF .u64 (IntKind.u64.wrap (w64 a)) (1 : Int)) = a / 2 := by
 have e : IntKind.u64.wrap a = a := by
  unfold IntKind.wrap
  simp only [IntKind.bits, IntKind.signed]
  first
   | omega
   | (simp; omega)
 rw [w64_id (z := a) (by omega) (by omega), e]
 have : shrF .u64 a 1 = a / 2 := by
  unfold shrF
  rw [show min (Int.toNat 1) IntKind.u64.bits = 1 from rfl, Int.fdiv_eq_ediv_of_nonneg _ (by decide)]
  rfl
 rw [this]
 exact wrap64 (by omega) (by omega)

/-- the place of a plate -/
def pos (l : List Bag) (p : Plate) : Nat := (l.takeWhile (fun x => decide (plt x.Plate p))).length
theorem pos_le (l : List Bag) (p : Plate) : pos l p ≤ l.length := by unfold pos; exact (List.takeWhile_sublist _).length_le
theorem pos_cons (x : Bag) (l : List Bag) (p : Plate) : pos (x :: l) p = if plt x.Plate p then pos l p + 1 else 0 := by
 unfold pos
 by_cases h : plt x.Plate p
 ·
  rw [List.takeWhile_cons_of_pos (by simpa using h), if_pos h, List.length_cons]
 ·
  rw [List.takeWhile_cons_of_neg (by simpa using h), if_neg h]; rfl
theorem pos_lt (p : Plate) (l : List Bag) : ∀ (i : Nat) (b : Bag), sortedB l → l[i]? = some b → (plt b.Plate p ↔ i < pos l p) := by
 induction l with
 | nil => intro i b hs h; simp at h
 | cons x l ih =>
  intro i b hs h
  obtain ⟨h1, h2⟩ := sorted_cons.1 hs
  rw [pos_cons]
  cases i with
  | zero =>
   have e : x = b := by simpa using h
   rw [← e]
   by_cases hp : plt x.Plate p <;> simp [hp]
  | succ i =>
   have h : l[i]? = some b := by simpa using h
   have ih := ih i b h2 h
   by_cases hp : plt x.Plate p
   ·
    rw [if_pos hp, ih]; omega
   ·
    rw [if_neg hp]
    exact ⟨fun e => absurd (plt_trans (h1 b (List.mem_of_getElem? h)) e) hp, fun e => by omega⟩
theorem search_L (p : Plate) (l : List Bag) (hs : sortedB l) (hl : l.length ≤ 1000) : ∀ (n : Nat) (i j : Nat), i ≤ pos l p → pos l p ≤ j → j ≤ l.length → j - i < n → sort_Search_L1 l p n (i : Int) (j : Int) = some (Ctl.brk (pos l p : Int))
 | 0, i, j, h1, h2, h3, h4 => by omega
 | n + 1, i, j, h1, h2, h3, h4 => by
  rw [sort_Search_L1]
  by_cases hij : i < j
  ·
   rw [decide_eq_true (by omega : (i : Int) < (j : Int)), cond_true, mid_eq (by omega) (by omega)]
   have hm : ((i : Int) + (j : Int)) / 2 = ((i + j) / 2 : Nat) := by omega
   rw [hm]
   have hlt : (i + j) / 2 < l.length := by omega
   have hx := List.getElem?_eq_getElem hlt
   unfold registry_at_f1
   rw [ixL_at' ((i + j) / 2) rfl hx, Option.bind_some, plcmp_eq, Option.bind_some, Option.bind_some]
   have hc := pos_lt p l _ _ hs hx
   by_cases hp : plt (l[(i + j) / 2]'hlt).Plate p
   ·
    have := hc.1 hp
    rw [decide_eq_false (fun e => pcmp_nneg.1 e hp), Bool.not_false, cond_true, w64_id (by omega) (by omega)]
    have e : (((i + j) / 2 : Nat) : Int) + 1 = (((i + j) / 2 + 1 : Nat) : Int) := by omega
    rw [e]
    exact search_L p l hs hl n _ j (by omega) h2 h3 (by omega)
   ·
    have : ¬ (i + j) / 2 < pos l p := fun e => hp (hc.2 e)
    rw [decide_eq_true (pcmp_nneg.2 hp), Bool.not_true, cond_false]
    exact search_L p l hs hl n i _ h1 (by omega) (by omega) (by omega)
  ·
   rw [decide_eq_false (by omega : ¬ (i : Int) < (j : Int)), cond_false, show (i : Int) = (pos l p : Int) by omega]
theorem pos_known {l : List Bag} {p : Plate} (hs : sortedB l) : (∃ b, l[pos l p]? = some b ∧ b.Plate = p) ↔ known l p := by
 constructor
 ·
  rintro ⟨b, h1, h2⟩
  exact ⟨b, List.mem_of_getElem? h1, h2⟩
 ·
  rintro ⟨b, h1, rfl⟩
  obtain ⟨i, hi⟩ := List.mem_iff_getElem?.1 h1
  have c1 : ¬ i < pos l b.Plate := fun e => plt_irr ((pos_lt b.Plate l _ _ hs hi).2 e)
  have hil : i < l.length := by
   have := List.getElem?_eq_some_iff.1 hi
   exact this.1
  have hpl : pos l b.Plate < l.length := by omega
  have hx := List.getElem?_eq_getElem hpl
  have c2 : ¬ plt (l[pos l b.Plate]'hpl).Plate b.Plate := fun e => by have := (pos_lt b.Plate l _ _ hs hx).1 e; omega
  by_cases he : i = pos l b.Plate
  ·
   exact ⟨b, by rw [← he]; exact hi, rfl⟩
  ·
   have : plt (l[pos l b.Plate]'hpl).Plate (l[i]'hil).Plate := List.pairwise_iff_getElem.1 hs _ _ hpl hil (by omega)
   have hb : l[i]'hil = b := by rw [List.getElem?_eq_getElem hil] at hi; exact Option.some.inj hi
   rw [hb] at this
   exact absurd this c2
theorem known_uniq {a b : Bag} (e : a.Plate = b.Plate) (l : List Bag) : sortedB l → a ∈ l → b ∈ l → a = b := by
 induction l with
 | nil => intro hs ha hb; cases ha
 | cons x l ih =>
  intro hs ha hb
  obtain ⟨h1, h2⟩ := sorted_cons.1 hs
  rcases List.mem_cons.1 ha with ha | ha
  ·
   rcases List.mem_cons.1 hb with hb | hb
   ·
    rw [ha, hb]
   ·
    have := h1 b hb; rw [← ha, e] at this; exact absurd this plt_irr
  ·
   rcases List.mem_cons.1 hb with hb | hb
   ·
    have := h1 a ha; rw [← hb, e] at this; exact absurd this plt_irr
   ·
    exact ih h2 ha hb
/-- the search of the program -/
theorem at_eq (l : List Bag) (p : Plate) (h : RegOk l) : registry_at l p = some ((pos l p : Int), decide (known l p)) := by
 unfold registry_at sort_Search
 have hl := h.len
 have hL := search_L p l h.srt (by omega) 9223372036854775807 0 l.length (by omega) (pos_le l p) (by omega) (by omega)
 rw [show ((0 : Nat) : Int) = 0 from rfl] at hL
 rw [fin_brkE hL, Option.bind_some]
 by_cases hp : pos l p < l.length
 ·
  simp only
  rw [decide_eq_true (by omega : (pos l p : Int) < (l.length : Int)), cond_true]
  have hx := List.getElem?_eq_getElem hp
  rw [ixL_at' (pos l p) rfl hx, Option.bind_some, plate_beq]
  rw [decide_eq_decide.2 (?_ : _ ↔ known l p)]
  rw [← pos_known h.srt]
  constructor
  ·
   exact fun e => ⟨_, hx, e⟩
  ·
   rintro ⟨b, h1, h2⟩
   rw [hx] at h1
   rw [Option.some.inj h1]
   exact h2
 ·
  simp only
  rw [decide_eq_false (by omega : ¬ (pos l p : Int) < (l.length : Int)), cond_false]
  congr 2
  symm
  apply decide_eq_false
  rw [← pos_known h.srt]
  rintro ⟨b, h1, h2⟩
  rw [List.getElem?_eq_none (by omega)] at h1
  cases h1
theorem at_find {l : List Bag} {p : Plate} (h : RegOk l) (hk : known l p) : l[pos l p]? = some (findB p l) := by
 obtain ⟨b, h1, h2⟩ := (pos_known h.srt).2 hk
 obtain ⟨h3, h4⟩ := findB_in hk
 rw [h1, known_uniq (h2.trans h4.symm) l h.srt (List.mem_of_getElem? h1) h3]

def onwOk (l : List Bag) : Prop := ∀ b ∈ l, b.Onward.length ≤ 1000000
theorem copied_eq (b : Bag) (h : b.Onward.length ≤ 1000000) : registry_copied b = some b := by
 unfold registry_copied slices_Clone_Leg
 rw [apL_eq (by simp; omega), Option.bind_some]
 rfl
theorem clone_L : ∀ (l : List Bag) (k : Nat) (acc : List Bag), onwOk l → acc.length + l.length ≤ 1000000 → registry_clone_L1 l k acc = some (Ctl.brk (acc ++ l))
 | [], k, acc, h, hl => by rw [registry_clone_L1, List.append_nil]
 | b :: l, k, acc, h, hl => by
  rw [List.length_cons] at hl
  rw [registry_clone_L1, copied_eq b (h b (List.mem_cons_self ..)), Option.bind_some, apL_eq (by simp; omega), Option.bind_some, clone_L l (k + 1) _ (fun x hx => h x (List.mem_cons_of_mem _ hx)) (by simp; omega)]
  simp
theorem clone_eq (l : List Bag) (h : onwOk l) (hl : l.length ≤ 1000000) : registry_clone l = some l := by
 unfold registry_clone
 rw [clone_L l 0 [] h (by simp; omega), fin_brkE rfl, List.nil_append]
theorem runL_eq (p : Plate) (c : Int) : ∀ (n : Nat) (acc : List Plate) (i : Int), plate_Run_L1 p c n acc i = ref01_Run_L1 p c n acc i
 | 0, acc, i => rfl
 | n + 1, acc, i => by
  rw [plate_Run_L1, ref01_Run_L1]
  simp only [runL_eq p c n]
theorem plates_eq (m : Message) : message_Plates m = ref04_Plates m := by
 unfold message_Plates ref04_Plates plate_Run ref01_Run
 simp only [plvalid_eq, refvalid_eq, runL_eq]

def freshM (m : Message) : Prop := (m.Kind = 1 ∨ m.Kind = 2) ∧ m.Do = 0
instance (m : Message) : Decidable (freshM m) := by unfold freshM; infer_instance
theorem fresh_eq (m : Message) : registry_fresh m = some (decide (freshM m)) := by
 unfold registry_fresh freshM
 have d1 : (m.Kind == 1) = decide (m.Kind = 1) := rfl
 have d2 : (m.Kind == 2) = decide (m.Kind = 2) := rfl
 have d0 : (m.Do == 0) = decide (m.Do = 0) := rfl
 rw [d1, d2, d0]
 by_cases h1 : m.Kind = 1 <;> by_cases h2 : m.Kind = 2 <;> by_cases h0 : m.Do = 0 <;> simp [h1, h2, h0]
def badF (l : List Bag) (m : Message) (p : Plate) : Prop := m.Kind = 4 ∧ (findB p l).Out.Flight ≠ m.Out.Flight
instance (l : List Bag) (m : Message) (p : Plate) : Decidable (badF l m p) := by unfold badF; infer_instance
theorem ref_L (l : List Bag) (m : Message) (h : RegOk l) : ∀ (ps : List Plate) (k : Nat) (a : Int), registry_refused_L1 l m ps k a = some (if freshM m then (if ∃ p ∈ ps, known l p then .ret 5 else .brk a) else if ∃ p ∈ ps, ¬ known l p then .ret 6 else .brk (if ∃ p ∈ ps, badF l m p then 7 else a))
 | [], k, a => by simp [registry_refused_L1]
 | p :: ps, k, a => by
  rw [registry_refused_L1, at_eq l p h, Option.bind_some]
  simp only [fresh_eq, Option.bind_some]
  by_cases hf : freshM m
  ·
   by_cases hk : known l p
   ·
    simp [hf, hk]
   ·
    rw [decide_eq_false hk, cond_false, decide_eq_true hf, Bool.not_true, cond_false, ref_L l m h ps]
    simp [hf, hk]
  ·
   by_cases hk : known l p
   ·
    rw [decide_eq_true hk, cond_true, decide_eq_false hf, cond_false, if_neg hf]
    have e1 : (∃ q ∈ p :: ps, ¬ known l q) ↔ ∃ q ∈ ps, ¬ known l q := by simp [hk]
    by_cases h4 : m.Kind = 4
    ·
     rw [show (m.Kind == 4) = true by simp [h4], cond_true, ixL_at' _ rfl (at_find h hk), Option.bind_some, flight_beq]
     by_cases hb : (findB p l).Out.Flight = m.Out.Flight
     ·
      rw [decide_eq_true hb, Bool.not_true, cond_false, ref_L l m h ps, if_neg hf]
      have e2 : (∃ q ∈ p :: ps, badF l m q) ↔ ∃ q ∈ ps, badF l m q := by simp [badF, hb]
      simp only [e1, e2]
     ·
      rw [decide_eq_false hb, Bool.not_false, cond_true, ref_L l m h ps, if_neg hf]
      have e2 : (∃ q ∈ p :: ps, badF l m q) ↔ True := by simp [badF, hb, h4]
      simp only [e1, e2, if_true]
      congr 1
      split
      ·
       rfl
      ·
       split <;> rfl
    ·
     rw [show (m.Kind == 4) = false by simp [h4], cond_false, ref_L l m h ps, if_neg hf]
     have e2 : (∃ q ∈ p :: ps, badF l m q) ↔ ∃ q ∈ ps, badF l m q := by simp [badF, h4]
     simp only [e1, e2]
   ·
    rw [decide_eq_false hk, cond_false, decide_eq_false hf, Bool.not_false, cond_true, if_neg hf, if_pos ⟨p, List.mem_cons_self .., hk⟩]
theorem pos1_v (l : List Bag) (m : Message) : ∀ (ps : List Plate) (k : Nat), ref06_possible_L1 ⟨l⟩ m ps k = some (if m.Do = 0 then (if ∃ p ∈ ps, known l p then .ret 5 else .brk ()) else if ∃ p ∈ ps, ¬ known l p then .ret 6 else .brk ())
 | [], k => by simp [ref06_possible_L1]
 | p :: ps, k => by
  rw [ref06_possible_L1, index_eq, Option.bind_some, pos1_v l m ps (k + 1)]
  have d0 : (m.Do == 0) = decide (m.Do = 0) := rfl
  have di : decide (0 ≤ idxP p (⟨l⟩ : Registry).L 0) = decide (known l p) := decide_eq_decide.2 idx_known
  rw [d0, di]
  by_cases h0 : m.Do = 0 <;> by_cases hk : known l p <;> simp [h0, hk]
theorem pos4_v (l : List Bag) : ∀ (ps : List Plate) (k : Nat), ref06_possible_L4 ⟨l⟩ ps k = some (if ∃ p ∈ ps, ¬ known l p then .ret 6 else .brk ())
 | [], k => by simp [ref06_possible_L4]
 | p :: ps, k => by
  rw [ref06_possible_L4, index_eq, Option.bind_some, pos4_v l ps (k + 1)]
  have di : decide (0 ≤ idxP p (⟨l⟩ : Registry).L 0) = decide (known l p) := decide_eq_decide.2 idx_known
  rw [di]
  by_cases hk : known l p <;> simp [hk]
theorem pos2_v (l : List Bag) (m : Message) (hr : RegOk l) : ∀ (ps : List Plate) (k : Nat), (m.Kind = 4 → ∀ p ∈ ps, known l p) → ref06_possible_L2 ⟨l⟩ m ps k = some (if ∃ p ∈ ps, badF l m p then .ret 7 else .brk ())
 | [], k, _ => by simp [ref06_possible_L2]
 | p :: ps, k, h => by
  rw [ref06_possible_L2]
  by_cases h4 : m.Kind = 4
  ·
   rw [show (m.Kind == 4) = true by simp [h4], cond_true, index_eq, Option.bind_some]
   have hk := h h4 p (List.mem_cons_self ..)
   rcases find_idx p l 0 with ⟨h1, h2⟩ | ⟨j, b, h1, h2, h3⟩
   ·
    have : ¬ 0 ≤ idxP p l 0 := by omega
    exact absurd (idx_known.2 hk) this
   ·
    have hb : findB p l = b := by unfold findB; rw [h3]; rfl
    rw [ixL_at' j (by show idxP p l 0 = _; rw [h1]; omega) h2, Option.bind_some, flight_beq, pos2_v l m hr ps (k + 1) (fun e q hq => h e q (List.mem_cons_of_mem _ hq)), ← hb]
    by_cases he : (findB p l).Out.Flight = m.Out.Flight
    ·
     have e2 : (∃ q ∈ p :: ps, badF l m q) ↔ ∃ q ∈ ps, badF l m q := by simp [badF, he]
     rw [decide_eq_true he, Bool.not_true, cond_false]
     simp only [e2]
    ·
     rw [decide_eq_false he, Bool.not_false, cond_true, if_pos ⟨p, List.mem_cons_self .., h4, he⟩]
  ·
   rw [show (m.Kind == 4) = false by simp [h4], cond_false, if_neg (fun ⟨q, _, e, _⟩ => h4 e)]
/-- what speaks against a message -/
def refB (l : List Bag) (m : Message) (ps : List Plate) : Int :=
 if freshM m then (if ∃ p ∈ ps, known l p then 5 else if 200 < l.length + ps.length then 2 else 0) else if ∃ p ∈ ps, ¬ known l p then 6 else if ∃ p ∈ ps, badF l m p then 7 else 0
theorem refused_eq (l : List Bag) (m : Message) (ps : List Plate) (h : RegOk l) (hp : ps.length ≤ 99) : registry_refused l m ps = some (refB l m ps) := by
 have hl := h.len
 unfold registry_refused refB
 rw [ref_L l m h ps]
 simp only [fresh_eq, Option.bind_some]
 rw [w64_id (z := (l.length : Int) + (ps.length : Int)) (by omega) (by omega)]
 by_cases hf : freshM m
 ·
  rw [if_pos hf, if_pos hf, decide_eq_true hf]
  split
  ·
   exact fin_retE rfl
  ·
   rw [fin_brkE rfl, cond_true]
   by_cases h2 : 200 < l.length + ps.length
   ·
    rw [decide_eq_true (by omega : (200 : Int) < (l.length : Int) + (ps.length : Int)), cond_true, if_pos h2]
   ·
    rw [decide_eq_false (by omega : ¬ (200 : Int) < (l.length : Int) + (ps.length : Int)), cond_false, if_neg h2]
 ·
  rw [if_neg hf, if_neg hf, decide_eq_false hf]
  split
  ·
   exact fin_retE rfl
  ·
   rw [fin_brkE rfl, cond_false]
theorem possible_eq (l : List Bag) (m : Message) (ps : List Plate) (h : RegOk l) (hp : ps.length ≤ 99) : ref06_possible ⟨l⟩ m ps = some (refB l m ps) := by
 have hl := h.len
 unfold ref06_possible refB
 rw [bag_eq, Option.bind_some]
 simp only
 rw [w64_id (z := (l.length : Int) + (ps.length : Int)) (by omega) (by omega)]
 have d0 : (m.Do == 0) = decide (m.Do = 0) := rfl
 rw [d0]
 by_cases hb : m.Kind = 1 ∨ m.Kind = 2
 ·
  have h4 : ¬ m.Kind = 4 := by omega
  have nb : ¬ ∃ p ∈ ps, badF l m p := fun ⟨_, _, e, _⟩ => h4 e
  rw [decide_eq_true hb, cond_true, pos1_v l m ps 0, pos2_v l m h ps 0 (fun e => absurd e h4), if_neg nb, if_neg nb]
  by_cases h0 : m.Do = 0
  ·
   rw [if_pos h0, decide_eq_true h0, if_pos (show freshM m from ⟨hb, h0⟩)]
   split
   ·
    exact fin_retE rfl
   ·
    rw [fin_brkE rfl, cond_true]
    by_cases h2 : 200 < l.length + ps.length
    ·
     rw [decide_eq_true (by omega : (200 : Int) < (l.length : Int) + (ps.length : Int)), cond_true, if_pos h2]
    ·
     rw [decide_eq_false (by omega : ¬ (200 : Int) < (l.length : Int) + (ps.length : Int)), cond_false, if_neg h2, fin_brkE rfl]
  ·
   rw [if_neg h0, decide_eq_false h0, if_neg (show ¬ freshM m from fun e => h0 e.2)]
   split
   ·
    exact fin_retE rfl
   ·
    rw [fin_brkE rfl, cond_false, fin_brkE rfl]
 ·
  rw [decide_eq_false hb, cond_false, pos4_v l ps 0, if_neg (show ¬ freshM m from fun e => hb e.1)]
  split
  ·
   exact fin_retE rfl
  ·
   rename_i hk
   have hk : ∀ p ∈ ps, known l p := fun p hp => Classical.byContradiction fun e => hk ⟨p, hp, e⟩
   rw [fin_brkE rfl, pos2_v l m h ps 0 (fun _ => hk)]
   split
   ·
    exact fin_retE rfl
   ·
    exact fin_brkE rfl

/-- the plates of a run -/
def runP (p : Plate) (n : Nat) : List Plate := (List.range n).map (fun j : Nat => ⟨p.Lead, p.Airline, (p.Serial + (j : Int)) % 1000000⟩)
theorem runP_succ (p : Plate) (n : Nat) : runP p (n + 1) = runP p n ++ [⟨p.Lead, p.Airline, (p.Serial + (n : Int)) % 1000000⟩] := by
 unfold runP
 rw [List.range_succ, List.map_append]
 rfl
theorem runP_len (p : Plate) (n : Nat) : (runP p n).length = n := by unfold runP; simp
theorem runP_nodup (p : Plate) (n : Nat) (hn : n ≤ 99) : (runP p n).Nodup := by
 unfold runP
 rw [List.nodup_iff_pairwise_ne, List.pairwise_map]
 refine List.Pairwise.imp_of_mem ?_ List.nodup_range
 intro a b ha hb hab e
 rw [List.mem_range] at ha hb
 have := (plate_ext.1 e).2.2
 simp only at this
 omega
theorem runL_v (p : Plate) (c : Nat) (hp : validP p) (hc : c ≤ 99) : ∀ (n k : Nat), k ≤ c → c < n + k → ref01_Run_L1 p (c : Int) n (runP p k) (k : Int) = some (Ctl.brk (runP p c))
 | 0, k, h1, h2 => by omega
 | n + 1, k, h1, h2 => by
  rw [ref01_Run_L1]
  by_cases hk : k < c
  ·
   obtain ⟨v1, v2, v3, v4, v5, v6⟩ := hp
   rw [decide_eq_true (by omega : (k : Int) < (c : Int)), cond_true, apL_eq (by rw [runP_len]; simp; omega), Option.bind_some, w64_id (z := (k : Int) + 1) (by omega) (by omega), w64_id (z := p.Serial + (k : Int)) (by omega) (by omega), Int.tmod_eq_emod_of_nonneg (by omega), ← runP_succ]
   exact runL_v p c ⟨v1, v2, v3, v4, v5, v6⟩ hc n (k + 1) (by omega) (by omega)
  ·
   rw [decide_eq_false (by omega : ¬ (k : Int) < (c : Int)), cond_false, show k = c by omega]
theorem rplates_v (m : Message) (hp : validP m.First) (h1 : 1 ≤ m.Count) (h2 : m.Count ≤ 99) : ref04_Plates m = some (runP m.First m.Count.toNat) := by
 unfold ref04_Plates ref01_Run
 have hL := runL_v m.First m.Count.toNat hp (by omega) 9223372036854775807 0 (by omega) (by omega)
 rw [show ((m.Count.toNat : Nat) : Int) = m.Count by omega, show runP m.First 0 = [] from rfl, show ((0 : Nat) : Int) = 0 from rfl] at hL
 rw [refvalid_eq, Option.bind_some, decide_eq_true hp, Bool.not_true, cond_false, decide_eq_false (by omega : ¬ m.Count < 1), cond_false, decide_eq_false (by omega : ¬ 99 < m.Count), cond_false, fin_brkE hL, Option.bind_some]
theorem rplates_nodup {m : Message} {ps : List Plate} (h : ref04_Plates m = some ps) : ps.Nodup := by
 by_cases hp : validP m.First ∧ 1 ≤ m.Count ∧ m.Count ≤ 99
 ·
  rw [rplates_v m hp.1 hp.2.1 hp.2.2] at h
  rw [← Option.some.inj h]
  exact runP_nodup _ _ (by omega)
 ·
  have : ref04_Plates m = some [] := by
   unfold ref04_Plates ref01_Run
   rw [refvalid_eq, Option.bind_some]
   by_cases h1 : validP m.First
   ·
    rw [decide_eq_true h1, Bool.not_true, cond_false]
    by_cases h2 : m.Count < 1
    ·
     rw [decide_eq_true h2]; rfl
    ·
     have h3 : ¬ (1 ≤ m.Count ∧ m.Count ≤ 99) := fun e => hp ⟨h1, e⟩
     rw [decide_eq_false h2, cond_false, decide_eq_true (by omega : 99 < m.Count)]; rfl
   ·
    rw [decide_eq_false h1]; rfl
  rw [this] at h
  rw [← Option.some.inj h]
  exact List.nodup_nil

/-- what a message that Validate lets pass is -/
theorem val_zero {m : Message} (hm : MsgOk m) (h : ref04_Validate m = some 0) : 1 ≤ m.Kind ∧ m.Kind ≤ 5 ∧ m.Onward.length ≤ 3 ∧ m.List.length ≤ 40 ∧ (¬ (m.Kind = 1 ∨ m.Kind = 2) → m.Do = 0) := by
 unfold ref04_Validate at h
 rw [in_eq, Option.bind_some] at h
 by_cases hk : 1 ≤ m.Kind ∧ m.Kind ≤ 5
 ·
  rw [decide_eq_true hk, Bool.not_true, cond_false] at h
  obtain ⟨n, hn, _⟩ := own_t m
  obtain ⟨b, hb, _⟩ := same_t m n
  rw [hn, Option.bind_some, hb, Option.bind_some] at h
  cases b
  ·
   cases h
  ·
   rw [Bool.not_true, cond_false] at h
   by_cases h3 : (3 : Int) < m.Onward.length
   ·
    rw [decide_eq_true h3, cond_true] at h; cases h
   ·
    rw [decide_eq_false h3, cond_false] at h
    by_cases h4 : (40 : Int) < m.List.length
    ·
     rw [decide_eq_true h4, cond_true] at h; cases h
    ·
     exact ⟨hk.1, hk.2, by omega, by omega, fun e => (same_own hn hb hk.1 hk.2 e).1⟩
 ·
  rw [decide_eq_false hk, Bool.not_false, cond_true] at h
  cases h

theorem tw_take (l : List Bag) (p : Plate) : l.take (pos l p) = l.takeWhile (fun x => decide (plt x.Plate p)) := by
 have h := List.takeWhile_append_dropWhile (p := fun x : Bag => decide (plt x.Plate p)) (l := l)
 unfold pos
 conv => lhs; rw [← h]
 rw [List.take_left']
 rw [h]
theorem dw_drop (l : List Bag) (p : Plate) : l.drop (pos l p) = l.dropWhile (fun x => decide (plt x.Plate p)) := by
 have h := List.takeWhile_append_dropWhile (p := fun x : Bag => decide (plt x.Plate p)) (l := l)
 unfold pos
 conv => lhs; rw [← h]
 rw [List.drop_left']
 rw [h]
theorem insB_new {b : Bag} {l : List Bag} (h : ¬ known l b.Plate) : insB b l = l.take (pos l b.Plate) ++ b :: l.drop (pos l b.Plate) := by
 rw [insB_split, tw_take, dw_drop]
 congr 2
 split
 ·
  rename_i e; rw [e]
 ·
  rename_i x t e
  rw [e]
  by_cases hx : x.Plate = b.Plate
  ·
   have : x ∈ l := by
    have : x ∈ l.dropWhile (fun x => decide (plt x.Plate b.Plate)) := by rw [e]; exact List.mem_cons_self ..
    exact (List.dropWhile_sublist _).subset this
   exact absurd ⟨x, this, hx⟩ h
  ·
   rw [if_neg hx]
theorem drop_find {l : List Bag} {p : Plate} (h : RegOk l) (hk : known l p) : l.drop (pos l p) = findB p l :: l.drop (pos l p + 1) := drop_cons (at_find h hk)
theorem insB_old {b : Bag} {l : List Bag} (h : RegOk l) (hk : known l b.Plate) : insB b l = l.set (pos l b.Plate) b := by
 have hd := drop_find h hk
 have hlt : pos l b.Plate < l.length := (List.getElem?_eq_some_iff.1 (at_find h hk)).1
 rw [insB_split, ← tw_take, ← dw_drop, hd]
 simp only
 rw [if_pos (findB_in hk).2, List.set_eq_take_append_cons_drop, if_pos hlt]
theorem filter_old {p : Plate} {l : List Bag} (h : RegOk l) (hk : known l p) : l.filter (fun b => !decide (b.Plate = p)) = l.take (pos l p) ++ l.drop (pos l p + 1) := by
 have hd := drop_find h hk
 have hs : l = l.take (pos l p) ++ findB p l :: l.drop (pos l p + 1) := by rw [← hd, List.take_append_drop]
 have hp := (findB_in hk).2
 have hsort := h.srt
 unfold sortedB at hsort
 rw [hs, List.pairwise_append] at hsort
 obtain ⟨_, h2, h3⟩ := hsort
 obtain ⟨h4, _⟩ := List.pairwise_cons.1 h2
 conv => lhs; rw [hs]
 rw [List.filter_append, List.filter_cons_of_neg (by simp [hp])]
 congr 1
 ·
  rw [List.filter_eq_self]
  intro a ha
  have := h3 a ha (findB p l) (List.mem_cons_self ..)
  rw [hp] at this
  simp only [Bool.not_eq_true', decide_eq_false_iff_not]
  exact fun e => plt_irr (e ▸ this)
 ·
  rw [List.filter_eq_self]
  intro a ha
  have := h4 a ha
  rw [hp] at this
  simp only [Bool.not_eq_true', decide_eq_false_iff_not]
  exact fun e => plt_irr (e ▸ this)

theorem described_eq (m : Message) (p : Plate) (h : m.Onward.length ≤ 1000000) : registry_described m p = some (dataB { zBag with Plate := p } m) := by
 unfold registry_described
 rw [copied_eq _ h, Option.bind_some]
 rfl
theorem change_eq (e : Bag) (m : Message) (h : m.Onward.length ≤ 1000000) : registry_change e m = some (if m.Kind = 3 then { e with Node := m.Node } else if m.Kind = 4 then { e with Load := false, Unloaded := true } else dataB e m) := by
 unfold registry_change
 by_cases h3 : m.Kind = 3
 ·
  rw [show (m.Kind == 3) = true by simp [h3], cond_true, if_pos h3]
 ·
  rw [show (m.Kind == 3) = false by simp [h3], cond_false, if_neg h3]
  by_cases h4 : m.Kind = 4
  ·
   rw [show (m.Kind == 4) = true by simp [h4], cond_true, if_pos h4]
  ·
   rw [show (m.Kind == 4) = false by simp [h4], cond_false, if_neg h4, described_eq m _ h, Option.bind_some]
   rfl
theorem findB_none {p : Plate} {l : List Bag} (h : ¬ known l p) : findB p l = zBag := by
 unfold findB
 rw [List.find?_eq_none.2 (fun x hx => by simpa using fun e => h ⟨x, hx, e⟩)]
 rfl
/-- what the rest of a run needs -/
def restOk (m : Message) (l : List Bag) (q : List Plate) : Prop :=
 ((m.Kind = 1 ∨ m.Kind = 2) ∧ m.Do ≠ 2) ∨ (((m.Kind = 1 ∨ m.Kind = 2) ∧ m.Do = 2) ∧ q.Nodup ∧ ∀ p ∈ q, known l p) ∨ ((m.Kind = 3 ∨ m.Kind = 4) ∧ m.Do = 0 ∧ ∀ p ∈ q, known l p)
theorem pstep (m : Message) (ho : m.Onward.length ≤ 1000000) (l : List Bag) (p : Plate) (q : List Plate) (k : Nat) (h : RegOk l) (hw : onwOk l) (hr : restOk m l (p :: q)) : registry_Apply_L1 m (p :: q) k l = registry_Apply_L1 m q (k + 1) (stepB m l p) := by
 have hl := h.len
 have hpl := pos_le l p
 rw [registry_Apply_L1, at_eq l p h, Option.bind_some]
 simp only
 by_cases hk : known l p
 ·
  rw [decide_eq_true hk, Bool.not_true, cond_false]
  obtain ⟨hin, hpe⟩ := findB_in hk
  have hat := at_find h hk
  have hlt : pos l p < l.length := (List.getElem?_eq_some_iff.1 hat).1
  have d2 : (m.Do == 2) = decide (m.Do = 2) := rfl
  rw [d2]
  by_cases hd : m.Do = 2
  ·
   have hb : m.Kind = 1 ∨ m.Kind = 2 := by
    rcases hr with hr | hr | hr
    ·
     exact hr.1
    ·
     exact hr.1.1
    ·
     omega
   rw [decide_eq_true hd, cond_true, slL_eq (by omega) (by omega) (by omega), Option.bind_some, w64_id (z := (pos l p : Int) + 1) (by omega) (by omega), slL_eq (by omega) (by omega) (by omega), Option.bind_some]
   have e1 : ((0 : Int)).toNat = 0 := rfl
   have e2 : ((pos l p : Int) + 1).toNat = pos l p + 1 := by omega
   simp only [Int.toNat_natCast, e1, e2, List.drop_zero, Nat.sub_zero]
   rw [List.take_of_length_le (l := l.drop (pos l p + 1)) (by simp), apL_eq (by simp; omega), Option.bind_some, ← filter_old h hk]
   unfold stepB
   rw [if_pos hb, if_pos hd]
  ·
   rw [decide_eq_false hd, cond_false, ixL_at' _ rfl hat, Option.bind_some, change_eq _ _ ho, Option.bind_some, Option.bind_some, Int.toNat_natCast]
   unfold stepB
   have hF : ({ findB p l with Plate := p } : Bag) = findB p l := by
    conv => rhs; rw [show findB p l = { findB p l with Plate := (findB p l).Plate } from rfl, hpe]
   have hN : ∀ (e : Bag) (n : ByteArray), e.Plate = p → ({ e with Plate := p, Node := n } : Bag) = { e with Node := n } := fun e n he => by subst he; rfl
   have hU : ∀ (e : Bag), e.Plate = p → ({ e with Plate := p, Load := false, Unloaded := true } : Bag) = { e with Load := false, Unloaded := true } := fun e he => by subst he; rfl
   have set_ins : ∀ b : Bag, b.Plate = p → l.set (pos l p) b = insB b l := fun b hb => by
    have := insB_old (b := b) h (hb ▸ hk)
    rw [hb] at this
    exact this.symm
   congr 1
   rcases hr with hr | hr | hr
   ·
    have h3 : ¬ m.Kind = 3 := by omega
    have h4 : ¬ m.Kind = 4 := by omega
    rw [if_neg h3, if_neg h4, if_pos hr.1, if_neg hd, hF]
    exact set_ins _ hpe
   ·
    exact absurd hr.1.2 hd
   ·
    have hb : ¬ (m.Kind = 1 ∨ m.Kind = 2) := by omega
    rw [if_neg hb]
    by_cases h3 : m.Kind = 3
    ·
     rw [if_pos h3, if_pos h3, hN _ _ hpe]
     exact set_ins _ hpe
    ·
     rw [if_neg h3, if_neg h3, if_pos (by omega : m.Kind = 4), hU _ hpe]
     exact set_ins _ hpe
 ·
  have hb : (m.Kind = 1 ∨ m.Kind = 2) ∧ m.Do ≠ 2 := by
   rcases hr with hr | hr | hr
   ·
    exact hr
   ·
    exact absurd (hr.2.2 p (List.mem_cons_self ..)) hk
   ·
    exact absurd (hr.2.2 p (List.mem_cons_self ..)) hk
  rw [decide_eq_false hk, Bool.not_false, cond_true, slL_eq (by omega) (by omega) (by omega), Option.bind_some, described_eq m p ho, Option.bind_some, slL_eq (by omega) (by omega) (by omega), Option.bind_some]
  have e1 : ((0 : Int)).toNat = 0 := rfl
  simp only [Int.toNat_natCast, e1, List.drop_zero, Nat.sub_zero]
  rw [List.take_of_length_le (l := l.drop (pos l p)) (by simp), apL_eq (by simp; omega), Option.bind_some, apL_eq (by simp; omega), Option.bind_some]
  unfold stepB
  rw [if_pos hb.1, if_neg hb.2, findB_none hk]
  have := insB_new (b := dataB { zBag with Plate := p } m) (l := l) hk
  rw [this]
  rfl
theorem step_known {m : Message} {l : List Bag} {p q : Plate} (hn : ¬ ((m.Kind = 1 ∨ m.Kind = 2) ∧ m.Do = 2) ∨ p ≠ q) (h : known l q) : known (stepB m l p) q := by
 unfold stepB
 split
 ·
  rename_i hb
  split
  ·
   rename_i hd
   rcases hn with hn | hn
   ·
    exact absurd ⟨hb, hd⟩ hn
   ·
    obtain ⟨b, h1, h2⟩ := h
    exact ⟨b, List.mem_filter.2 ⟨h1, by simpa using fun e => hn (e.symm.trans h2)⟩, h2⟩
  ·
   exact insB_known h
 ·
  split <;> exact insB_known h
theorem rest_step {m : Message} {l : List Bag} {p : Plate} {q : List Plate} (hr : restOk m l (p :: q)) : restOk m (stepB m l p) q := by
 rcases hr with hr | hr | hr
 ·
  exact .inl hr
 ·
  obtain ⟨h1, h2, h3⟩ := hr
  rw [List.nodup_cons] at h2
  exact .inr (.inl ⟨h1, h2.2, fun r hr => step_known (.inr (fun e => h2.1 (e ▸ hr))) (h3 r (List.mem_cons_of_mem _ hr))⟩)
 ·
  obtain ⟨h1, h2, h3⟩ := hr
  exact .inr (.inr ⟨h1, h2, fun r hr => step_known (.inl (fun e => by omega)) (h3 r (List.mem_cons_of_mem _ hr))⟩)
theorem onw_step {m : Message} {l : List Bag} {p : Plate} (ho : m.Onward.length ≤ 1000000) (h : onwOk l) : onwOk (stepB m l p) := by
 have hf : (findB p l).Onward.length ≤ 1000000 := by
  by_cases hk : known l p
  ·
   exact h _ (findB_in hk).1
  ·
   rw [findB_none hk]; exact Nat.zero_le _
 unfold stepB
 have ins : ∀ b : Bag, b.Onward.length ≤ 1000000 → onwOk (insB b l) := fun b hb x hx => by
  rcases insB_mem hx with rfl | hx
  ·
   exact hb
  ·
   exact h x hx
 split
 ·
  split
  ·
   exact fun b hb => h b (List.mem_filter.1 hb).1
  ·
   exact ins _ ho
 ·
  split <;> exact ins _ hf
theorem papply_loop (m : Message) (ho : m.Onward.length ≤ 1000000) : ∀ (ps : List Plate) (k : Nat) (l : List Bag), RegOk l → goesOn m l ps → onwOk l → restOk m l ps → registry_Apply_L1 m ps k l = some (Ctl.brk (ps.foldl (stepB m) l)) ∧ onwOk (ps.foldl (stepB m) l)
 | [], k, l, h, _, hw, _ => ⟨rfl, hw⟩
 | p :: q, k, l, h, hg, hw, hr => by
  rw [pstep m ho l p q k h hw hr]
  obtain ⟨h1, h2⟩ := step_ok m l p q h hg
  exact papply_loop m ho q (k + 1) _ h1 h2 (onw_step ho hw) (rest_step hr)

theorem refB_pos {l : List Bag} {m : Message} {ps : List Plate} (h : refB l m ps = 0) : posOk l m ps := by
 unfold refB at h
 unfold posOk
 by_cases hf : freshM m
 ·
  rw [if_pos hf] at h
  rw [if_pos (show (m.Kind = 1 ∨ m.Kind = 2) ∧ m.Do = 0 from hf)]
  by_cases hk : ∃ p ∈ ps, known l p
  ·
   rw [if_pos hk] at h; cases h
  ·
   rw [if_neg hk] at h
   by_cases h2 : 200 < l.length + ps.length
   ·
    rw [if_pos h2] at h; cases h
   ·
    exact ⟨by omega, fun p hp e => hk ⟨p, hp, e⟩⟩
 ·
  rw [if_neg hf] at h
  rw [if_neg (show ¬ ((m.Kind = 1 ∨ m.Kind = 2) ∧ m.Do = 0) from hf)]
  by_cases hk : ∃ p ∈ ps, ¬ known l p
  ·
   rw [if_pos hk] at h; cases h
  ·
   exact fun p hp => Classical.byContradiction fun e => hk ⟨p, hp, e⟩
/-- Apply, program and reference alike -/
theorem apply_eq (l : List Bag) (m : Message) (hm : MsgOk m) (hw : onwOk l) : ∃ r : Registry × Int, registry_Apply ⟨l⟩ m = some r ∧ ref06_Apply ⟨l⟩ m = some r ∧ (r.2 ≠ 0 → r.1.L = []) ∧
  (r.2 = 0 → RegOk l ∧ ref04_Validate m = some 0 ∧ RegOk r.1.L ∧ onwOk r.1.L ∧ ((m.Kind = 5 ∧ r.1.L = l) ∨ (m.Kind ≠ 5 ∧ ∃ ps, ref04_Plates m = some ps ∧ PlOk ps ∧ refB l m ps = 0 ∧ r.1.L = ps.foldl (stepB m) l))) := by
 unfold registry_Apply ref06_Apply
 rw [regValidate_eq, refValidate_eq, Option.bind_some, Option.bind_some]
 simp only
 by_cases hv : ¬ vReg l = 0
 ·
  rw [show (vReg l != 0) = true by simpa using hv, cond_true, cond_true]
  exact ⟨_, rfl, rfl, fun _ => rfl, fun e => absurd e hv⟩
 have hv := Classical.not_not.1 hv
 have hr := vReg_zero.1 hv
 rw [hv, show ((0 : Int) != 0) = false from rfl, cond_false, cond_false, mval_eq m hm]
 obtain ⟨e, he, _⟩ := mval_t m hm
 rw [he, Option.bind_some, Option.bind_some]
 by_cases h0 : ¬ e = 0
 ·
  rw [show (e != 0) = true by simpa using h0, cond_true, cond_true]
  exact ⟨_, rfl, rfl, fun _ => rfl, fun e => absurd e h0⟩
 have h0 := Classical.not_not.1 h0
 subst h0
 obtain ⟨k1, k2, ho, _, hdo⟩ := val_zero hm he
 have hl := hr.len
 rw [show ((0 : Int) != 0) = false from rfl, cond_false, cond_false, clone_eq l hw (by omega), Option.bind_some, plates_eq]
 obtain ⟨ps, hps, hpo⟩ := plates_t m
 rw [hps, Option.bind_some, Option.bind_some]
 have d5 : (m.Kind == 5) = decide (m.Kind = 5) := rfl
 rw [d5]
 by_cases h5 : m.Kind = 5
 ·
  rw [decide_eq_true h5, cond_true, cond_true, possible_eq l m [] hr (by simp), Option.bind_some]
  have hB : refB l m [] = 0 := by
   unfold refB
   have hnf : ¬ freshM m := fun e => by
    have := e.1
    omega
   rw [if_neg hnf, if_neg (fun ⟨p, hp, _⟩ => by cases hp), if_neg (fun ⟨p, hp, _⟩ => by cases hp)]
  have hL : ref06_Apply_L1 9223372036854775807 = some (Ctl.brk ()) := rfl
  rw [hB, show ((0 : Int) != 0) = false from rfl, cond_false, fin_brkE hL]
  exact ⟨_, rfl, rfl, fun e => absurd rfl e, fun _ => ⟨hr, rfl, hr, hw, .inl ⟨h5, rfl⟩⟩⟩
 ·
  rw [decide_eq_false h5, cond_false, cond_false, possible_eq l m ps hr hpo.1, refused_eq l m ps hr hpo.1, Option.bind_some, Option.bind_some]
  by_cases hB : ¬ refB l m ps = 0
  ·
   rw [show (refB l m ps != 0) = true by simpa using hB, cond_true, cond_true]
   exact ⟨_, rfl, rfl, fun _ => rfl, fun e => absurd e hB⟩
  have hB := Classical.not_not.1 hB
  rw [hB, show ((0 : Int) != 0) = false from rfl, cond_false, cond_false]
  have hpos := refB_pos hB
  have hg := posOk_goesOn hpos hpo.2
  have hrest : restOk m l ps := by
   unfold posOk at hpos
   by_cases hb : m.Kind = 1 ∨ m.Kind = 2
   ·
    by_cases hd : m.Do = 2
    ·
     rw [if_neg (fun e => by omega)] at hpos
     exact .inr (.inl ⟨⟨hb, hd⟩, rplates_nodup hps, hpos⟩)
    ·
     exact .inl ⟨hb, hd⟩
   ·
    rw [if_neg (fun e => hb e.1)] at hpos
    exact .inr (.inr ⟨by omega, hdo hb, hpos⟩)
  obtain ⟨a1, a2⟩ := apply_loop m (by omega) ps 0 l hr hg
  obtain ⟨b1, b2⟩ := papply_loop m (by omega) ps 0 l hr hg hw hrest
  rw [fin_brkE a1, fin_brkE b1]
  exact ⟨_, rfl, rfl, fun e => absurd rfl e, fun _ => ⟨hr, rfl, a2, b2, .inr ⟨h5, ps, rfl, hpo, hB, rfl⟩⟩⟩
end Go.Proofs.YtkliakcegihikaaGreat.Ex
