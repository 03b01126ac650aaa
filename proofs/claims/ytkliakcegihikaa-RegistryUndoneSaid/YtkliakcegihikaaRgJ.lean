/- Messages: the program's Validate gives what the reference's gives. -/
import Derived.Test.YtkliakcegihikaaRgI
namespace Go.Proofs.Ytkliakcegihikaa.Ex
open Go.RowKit Go.Proofs.Ytkliakcegihikaa.Ax
set_option linter.unusedVariables false
set_option linter.unusedSimpArgs false

theorem legsL_eq (y : List Leg) : ∀ (l : List Leg) (k : Nat), slices_Equal_Leg_L1 y l k = ref04_legs_L1 y l k
  | [], k => rfl
  | x :: l, k => by
    rw [slices_Equal_Leg_L1, ref04_legs_L1]
    simp only [legsL_eq y l (k + 1)]
theorem legs_eq (x y : List Leg) : slices_Equal_Leg x y = ref04_legs x y := by
  unfold slices_Equal_Leg ref04_legs
  rw [legsL_eq]
theorem intsL_eq (y : List Int) : ∀ (l : List Int) (k : Nat), slices_Equal_int_L1 y l k = keep_Ints_L1 y l k
  | [], k => rfl
  | x :: l, k => by
    rw [slices_Equal_int_L1, keep_Ints_L1]
    simp only [intsL_eq y l (k + 1)]
theorem ints_eq (x y : List Int) : slices_Equal_int x y = keep_Ints x y := by
  unfold slices_Equal_int keep_Ints
  rw [intsL_eq]
theorem msame_eq (x y : Message) : message_Same x y = ref04_Same x y := by
  unfold message_Same ref04_Same
  simp only [legs_eq, ints_eq]
theorem in_eq (a b c : Int) : ref04_in a b c = some (decide (b ≤ a ∧ a ≤ c)) := by
  unfold ref04_in
  by_cases h : b ≤ a <;> by_cases h2 : a ≤ c <;> simp [h, h2]
theorem min_eq (a b c : Int) : message_in a b c = some (decide (b ≤ a ∧ a ≤ c)) := by
  unfold message_in
  by_cases h : b ≤ a <;> by_cases h2 : a ≤ c <;> simp [h, h2]
theorem desc_eq (k : Int) : message_describes k = some (decide (k = 1 ∨ k = 2)) := bag_eq k
theorem own_eq (m : Message) (h1 : 1 ≤ m.Kind) (h2 : m.Kind ≤ 5) : message_own m = ref04_own m := by
  have hk : m.Kind = 1 ∨ m.Kind = 2 ∨ m.Kind = 3 ∨ m.Kind = 4 ∨ m.Kind = 5 := by omega
  unfold message_own ref04_own
  rw [bag_eq, Option.bind_some]
  rcases hk with h | h | h | h | h <;> rw [h] <;> rfl

theorem name_step (s : ByteArray) : ∀ (n : Nat) (i : Int), fields_All_v2_L1 s n i = ref04_Name_L1 s n i
  | 0, i => rfl
  | n + 1, i => by
    rw [fields_All_v2_L1, ref04_Name_L1]
    simp only [name_step s n]
    unfold fields_Name_f1
    cases hc : decide (i < (s.size : Int))
    · rfl
    · rw [cond_true, cond_true]
      cases hx : ixS s i with
      | none => rfl
      | some x =>
        rw [Option.bind_some, Option.bind_some, pl_eq, rl_eq, Option.bind_some, Option.bind_some, Option.bind_some, pd_eq, rd_eq, Option.bind_some, Option.bind_some]
        by_cases hl : isL x <;> by_cases hd : isD x <;> simp [hl, hd]
theorem bindS {α : Type} (o : Option α) : (o.bind fun r => some r) = o := by cases o <;> rfl
theorem mname_eq (s : ByteArray) : fields_Name s 12 = ref04_Name s := by
  unfold fields_Name ref04_Name fields_All_v2
  have h0 : (s.toList == (⟨#[]⟩ : ByteArray).toList) = decide ((s.size : Int) < 1) := by
    by_cases h : (s.size : Int) < 1
    · have : s = ⟨#[]⟩ := by
        cases s with
        | mk d =>
          have e : d.size = 0 := by
            have : ((⟨d⟩ : ByteArray).size : Int) < 1 := h
            have : (d.size : Int) < 1 := this
            omega
          rw [Array.eq_empty_of_size_eq_zero e]
      rw [this, beq_self_eq_true]; rfl
    · rw [decide_eq_false h]
      apply Bool.eq_false_iff.mpr
      intro e
      have := toList_inj (eq_of_beq e)
      rw [this] at h
      exact h (by decide)
  rw [h0]
  by_cases h1 : (s.size : Int) < 1
  · rw [decide_eq_true h1]; rfl
  · rw [decide_eq_false h1, Bool.not_false, cond_true, cond_false]
    by_cases h2 : (s.size : Int) ≤ 12
    · rw [decide_eq_true h2, cond_true, decide_eq_false (by omega : ¬ (12 : Int) < s.size), cond_false]
      obtain ⟨x, hx, _⟩ := okP_ixS (s := s) (i := 0) (by omega) (by omega)
      rw [hx, Option.bind_some, Option.bind_some, pl_eq, rl_eq, Option.bind_some, Option.bind_some]
      by_cases hl : isL x
      · rw [decide_eq_true hl, Bool.not_true, cond_true, cond_false, name_step s, bindS]
      · rw [decide_eq_false hl]; rfl
    · rw [decide_eq_false h2, cond_false, decide_eq_true (by omega : (12 : Int) < s.size), cond_true]

theorem shapedL_eq : ∀ (l : List Leg) (k : Nat), message_shaped_L1 l k = ref04_spelled_L1 l k
  | [], k => rfl
  | x :: l, k => by
    rw [message_shaped_L1, ref04_spelled_L1, leg_eq]
    simp only [shapedL_eq l (k + 1)]
theorem spelledL_v : ∀ (l : List Leg) (k : Nat), ref04_spelled_L1 l k = some (.brk ()) ∨ ref04_spelled_L1 l k = some (.ret false)
  | [], k => .inl rfl
  | x :: l, k => by
    rw [ref04_spelled_L1]
    obtain ⟨b, hb, _⟩ := leg_t x
    rw [hb, Option.bind_some]
    cases b
    · exact .inr rfl
    · exact spelledL_v l (k + 1)
theorem mletters_eq (s : ByteArray) (lo : Int) (hs : (s.size : Int) ≤ 4611686018427387904) : fields_Letters s lo 20 = ref04_letters s lo := by
  rw [pLetters s lo 20 (by omega), rLetters s hs]
theorem fin_false {σ : Type} {o : Option (Ctl Bool σ)} {k : σ → Option Bool} (h : o = some (.ret false)) : Ctl.fin o k = some false := fin_retE h
theorem shaped_eq (m : Message) (hm : MsgOk m) : message_shaped m = ref04_spelled m := by
  unfold message_shaped ref04_spelled
  simp only [shapedL_eq, leg_eq, port_eq, mname_eq, mletters_eq _ _ hm.s, mletters_eq _ _ hm.g, desc_eq, bag_eq, Option.bind_some]
  obtain ⟨b1, e1, _⟩ := port_t m.Port
  obtain ⟨b2, e2, _⟩ := leg_t m.In
  obtain ⟨b3, e3, _⟩ := leg_t m.Out
  obtain ⟨b4, e4, _⟩ := name_t m.Node
  obtain ⟨b5, e5, _⟩ := letters_t m.Surname hm.s 1
  obtain ⟨b6, e6, _⟩ := letters_t m.Given hm.g 0
  simp only [e1, e2, e3, e4, e5, e6, Option.bind_some]
  have d2 : (m.Kind == 2) = decide (m.Kind = 2) := rfl
  have d3 : (m.Kind == 3) = decide (m.Kind = 3) := rfl
  have n3 : (m.Kind != 3) = !decide (m.Kind = 3) := rfl
  rw [d2, d3, n3]
  rcases spelledL_v m.Onward 0 with h | h
  · simp only [fin_brkE h]
    by_cases k2 : m.Kind = 2
    · simp only [k2]
      cases b1 <;> cases b2 <;> cases b3 <;> cases b5 <;> cases b6 <;> rfl
    · by_cases k3 : m.Kind = 3
      · simp only [k3]
        cases b1 <;> cases b4 <;> rfl
      · simp only [k2, k3, decide_false, Bool.not_false, cond_true, cond_false, or_false]
        cases decide (m.Kind = 1) <;> cases b1 <;> cases b3 <;> cases b5 <;> cases b6 <;> rfl
  · simp only [fin_false h]
    cases decide (m.Kind = 2) <;> cases decide (m.Kind = 3) <;> cases b1 <;> cases b2 <;> cases b3 <;> cases b4 <;> rfl

def badI (x : Int) : Prop := ¬ (1 ≤ x ∧ x ≤ 999)
instance (x : Int) : Decidable (badI x) := by unfold badI; infer_instance
theorem countedL_v : ∀ (l : List Int) (k : Nat), ref04_counted_L1 l k = some (if ∀ x ∈ l, 1 ≤ x ∧ x ≤ 999 then .brk () else .ret false)
  | [], k => by simp [ref04_counted_L1]
  | x :: l, k => by
    rw [ref04_counted_L1, in_eq, Option.bind_some, countedL_v l (k + 1)]
    by_cases h : 1 ≤ x ∧ x ≤ 999
    · simp [h]
    · have hn : ¬ ∀ y ∈ x :: l, 1 ≤ y ∧ y ≤ 999 := fun e => h (e x (List.mem_cons_self ..))
      rw [decide_eq_false h, if_neg hn]; rfl
theorem idxF_v : ∀ (l : List Int) (k : Nat), (slices_IndexFunc_int_L1 l k = some (.brk ()) ∧ ∀ x ∈ l, 1 ≤ x ∧ x ≤ 999) ∨ (∃ j : Nat, slices_IndexFunc_int_L1 l k = some (.ret (j : Int)) ∧ ¬ ∀ x ∈ l, 1 ≤ x ∧ x ≤ 999)
  | [], k => .inl ⟨rfl, by simp⟩
  | x :: l, k => by
    rw [slices_IndexFunc_int_L1]
    unfold message_ranged_f1
    rw [min_eq, Option.bind_some, Option.bind_some]
    by_cases h : 1 ≤ x ∧ x ≤ 999
    · rw [decide_eq_true h, Bool.not_true, cond_false]
      rcases idxF_v l (k + 1) with ⟨h1, h2⟩ | ⟨j, h1, h2⟩
      · exact .inl ⟨h1, by simpa using ⟨h, h2⟩⟩
      · exact .inr ⟨j, h1, fun e => h2 (fun y hy => e y (by simp [hy]))⟩
    · rw [decide_eq_false h]
      exact .inr ⟨k, rfl, fun e => h (e x (by simp))⟩
theorem contF_eq (l : List Int) : slices_ContainsFunc_int l = some (!decide (∀ x ∈ l, 1 ≤ x ∧ x ≤ 999)) := by
  unfold slices_ContainsFunc_int slices_IndexFunc_int
  rcases idxF_v l 0 with ⟨h1, h2⟩ | ⟨j, h1, h2⟩
  · rw [fin_brkE h1, Option.bind_some, decide_eq_true h2]; rfl
  · rw [fin_retE h1, Option.bind_some, decide_eq_false h2, decide_eq_true (Int.natCast_nonneg j)]; rfl
theorem cond_tt {b : Bool} {x : Option Bool} (h : cond b x (some false) = some true) : b = true ∧ x = some true := by
  cases b
  · cases h
  · exact ⟨rfl, h⟩
/-- what Same with own gives -/
theorem same_own {m n : Message} (h : ref04_own m = some n) (hs : ref04_Same m n = some true) (h1 : 1 ≤ m.Kind) (h2 : m.Kind ≤ 5) (hk : ¬ (m.Kind = 1 ∨ m.Kind = 2)) : m.Do = 0 ∧ m.Weight = 0 ∧ m.Exception = 0 := by
  have hn : n.Do = 0 ∧ n.Weight = 0 ∧ n.Exception = 0 := by
    unfold ref04_own at h
    rw [bag_eq, Option.bind_some, decide_eq_false hk, cond_false] at h
    have hk : m.Kind = 3 ∨ m.Kind = 4 ∨ m.Kind = 5 := by omega
    rcases hk with e | e | e <;> rw [e] at h <;> (have h := Option.some.inj h; rw [← h]; exact ⟨rfl, rfl, rfl⟩)
  have hs' : m.Do = n.Do ∧ m.Weight = n.Weight ∧ m.Exception = n.Exception := by
    unfold ref04_Same at hs
    obtain ⟨_, hs⟩ := cond_tt hs
    obtain ⟨d, hs⟩ := cond_tt hs
    obtain ⟨_, hs⟩ := cond_tt hs
    obtain ⟨_, hs⟩ := cond_tt hs
    obtain ⟨_, hs⟩ := cond_tt hs
    obtain ⟨_, hs⟩ := cond_tt hs
    obtain ⟨b, hb, _⟩ := legs_t m.Onward n.Onward
    rw [hb, Option.bind_some] at hs
    obtain ⟨_, hs⟩ := cond_tt hs
    obtain ⟨_, hs⟩ := cond_tt hs
    obtain ⟨_, hs⟩ := cond_tt hs
    obtain ⟨_, hs⟩ := cond_tt hs
    obtain ⟨_, hs⟩ := cond_tt hs
    obtain ⟨_, hs⟩ := cond_tt hs
    obtain ⟨w, hs⟩ := cond_tt hs
    obtain ⟨_, hs⟩ := cond_tt hs
    obtain ⟨_, hs⟩ := cond_tt hs
    obtain ⟨e, hs⟩ := cond_tt hs
    exact ⟨eq_of_beq d, eq_of_beq w, eq_of_beq e⟩
  rw [hn.1, hn.2.1, hn.2.2] at hs'
  exact hs'
theorem ranged_eq (m : Message) (hz : ¬ (m.Kind = 1 ∨ m.Kind = 2) → m.Do = 0 ∧ m.Weight = 0 ∧ m.Exception = 0) : message_ranged m = ref04_counted m := by
  unfold message_ranged ref04_counted
  simp only [min_eq, in_eq, plvalid_eq, refvalid_eq, desc_eq, bag_eq, contF_eq, Option.bind_some, countedL_v]
  have n5 : (m.Kind != 5) = !decide (m.Kind = 5) := rfl
  rw [n5]
  have hb : ∀ (b : Bool), (Ctl.fin (some (if b = true then (Ctl.brk () : Ctl Bool Unit) else Ctl.ret false)) fun _ => some true) = some b := by intro b; cases b <;> rfl
  have hL := hb (decide (∀ x ∈ m.List, 1 ≤ x ∧ x ≤ 999))
  simp only [decide_eq_true_eq] at hL
  rw [hL]
  by_cases hk : m.Kind = 1 ∨ m.Kind = 2
  · have k5 : ¬ m.Kind = 5 := by omega
    rw [decide_eq_true hk, decide_eq_false k5, Bool.not_false, cond_true, cond_true]
    cases decide (1 ≤ m.Number ∧ m.Number ≤ 9999) <;> cases decide (0 ≤ m.Do ∧ m.Do ≤ 2) <;> cases decide (0 ≤ m.Weight ∧ m.Weight ≤ 999) <;> cases decide (0 ≤ m.Exception ∧ m.Exception ≤ 3) <;> cases decide (validP m.First) <;> cases decide (1 ≤ m.Count ∧ m.Count ≤ 99) <;> cases decide (1 ≤ m.Status ∧ m.Status ≤ 4) <;> cases decide (1 ≤ m.Sequence ∧ m.Sequence ≤ 999) <;> cases decide (∀ x ∈ m.List, 1 ≤ x ∧ x ≤ 999) <;> rfl
  · obtain ⟨z1, z2, z3⟩ := hz hk
    rw [decide_eq_false hk, z1, z2, z3]
    cases decide (m.Kind = 5) <;> cases decide (1 ≤ m.Number ∧ m.Number ≤ 9999) <;> cases decide (validP m.First) <;> cases decide (1 ≤ m.Count ∧ m.Count ≤ 99) <;> cases decide (∀ x ∈ m.List, 1 ≤ x ∧ x ≤ 999) <;> rfl
theorem bind_comm2 {α β γ : Type} (a : Option α) (b : Option β) (f : α → β → Option γ) : (a.bind fun x => b.bind fun y => f x y) = b.bind fun y => a.bind fun x => f x y := by
  cases a <;> cases b <;> rfl
theorem mvalL_eq (m : Message) : ∀ (n : Nat) (i : Int), message_Validate_L1 m n i = ref04_Validate_L1 m n i
  | 0, i => rfl
  | n + 1, i => by
    rw [message_Validate_L1, ref04_Validate_L1, bind_comm2]
    simp only [mvalL_eq m n]
/-- Validate of the program is Validate of the reference -/
theorem mval_eq (m : Message) (hm : MsgOk m) : message_Validate m = ref04_Validate m := by
  unfold message_Validate ref04_Validate
  simp only [min_eq, in_eq, Option.bind_some]
  by_cases hk : 1 ≤ m.Kind ∧ m.Kind ≤ 5
  · rw [decide_eq_true hk, Bool.not_true, cond_false, cond_false, own_eq m hk.1 hk.2]
    obtain ⟨n, hn, _⟩ := own_t m
    rw [hn, Option.bind_some, Option.bind_some, msame_eq]
    obtain ⟨b, hb, _⟩ := same_t m n
    rw [hb, Option.bind_some, Option.bind_some]
    cases b
    · rw [Bool.not_false, cond_true, cond_true]
    · rw [Bool.not_true, cond_false, cond_false, shaped_eq m hm, ranged_eq m (same_own hn hb hk.1 hk.2), mvalL_eq m]
  · rw [decide_eq_false hk, Bool.not_false, cond_true, cond_true]
end Go.Proofs.Ytkliakcegihikaa.Ex
