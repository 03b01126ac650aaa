/- Messages that are drawn are valid. -/
import Derived.Test.YtkliakcegihikaaRgM
namespace Go.Proofs.Ytkliakcegihikaa.Ex
open Go.RowKit Go.Proofs.Ytkliakcegihikaa.Ax
set_option linter.unusedVariables false
set_option linter.unusedSimpArgs false

theorem carrierV {x : ByteArray} (h : x ∈ ([(⟨#[83, 75]⟩ : ByteArray), (⟨#[65, 89]⟩ : ByteArray), (⟨#[52, 85]⟩ : ByteArray)] : List ByteArray)) : ref02_Carrier x = some true := by
  simp only [List.mem_cons, List.not_mem_nil, or_false] at h
  rcases h with h | h | h <;> rw [h] <;> kernel_rfl
theorem suffixV {x : ByteArray} (h : x ∈ ([(⟨#[]⟩ : ByteArray), (⟨#[]⟩ : ByteArray), (⟨#[65]⟩ : ByteArray)] : List ByteArray)) : ref02_Suffix x = some true := by
  simp only [List.mem_cons, List.not_mem_nil, or_false] at h
  rcases h with h | h | h <;> rw [h] <;> kernel_rfl
theorem portV {x : ByteArray} (h : x ∈ ([(⟨#[67, 80, 72]⟩ : ByteArray), (⟨#[65, 82, 78]⟩ : ByteArray), (⟨#[79, 83, 76]⟩ : ByteArray)] : List ByteArray)) : ref02_ValidPort x = some true := by
  simp only [List.mem_cons, List.not_mem_nil, or_false] at h
  rcases h with h | h | h <;> rw [h] <;> kernel_rfl
theorem port2V {x : ByteArray} (h : x ∈ ([(⟨#[65, 82, 78]⟩ : ByteArray), (⟨#[67, 80, 72]⟩ : ByteArray)] : List ByteArray)) : ref02_ValidPort x = some true := by
  simp only [List.mem_cons, List.not_mem_nil, or_false] at h
  rcases h with h | h <;> rw [h] <;> kernel_rfl
theorem classV {x : ByteArray} (h : x ∈ ([(⟨#[89]⟩ : ByteArray), (⟨#[67]⟩ : ByteArray), (⟨#[70]⟩ : ByteArray)] : List ByteArray)) : ref02_ValidClass x = some true := by
  simp only [List.mem_cons, List.not_mem_nil, or_false] at h
  rcases h with h | h | h <;> rw [h] <;> kernel_rfl
theorem flightV (s : Src) (hs : SrcOk s) : okP (keep_Src_AnyFlight s) (fun r => SrcOk r.2 ∧ ref02_Valid r.1 = some true) := by
  unfold keep_Src_AnyFlight
  refine okP_bind (Text_ok s _ hs (by decide) (by decide)) (fun r hr => okP_bind (Pick_ok _ _ hr.2 (by decide) (by decide)) (fun r2 hr2 => ?_))
  refine okP_bind (Text_ok _ _ hr2.2 (by decide) (by decide)) (fun r3 hr3 => okP_bind (Pick_ok _ _ hr3.2 (by decide) (by decide)) (fun r4 hr4 => okP_some ⟨hr4.2, ?_⟩))
  unfold ref02_Valid
  have h2 := hr2.1
  have h4 := hr4.1
  simp only [List.mem_cons, List.not_mem_nil, or_false] at h2 h4
  simp only [carrierV hr.1, suffixV hr3.1, Option.bind_some, cond_true]
  rw [decide_eq_true (by omega : 1 ≤ r2.1), cond_true, decide_eq_true (by omega : r2.1 ≤ 9999), cond_true, decide_eq_true (by omega : 0 ≤ r4.1), cond_true, decide_eq_true (by omega : r4.1 ≤ 99)]
theorem legV (s : Src) (hs : SrcOk s) : okP (keep_Src_Leg s) (fun r => SrcOk r.2 ∧ ref02_ValidLeg r.1 = some true) := by
  unfold keep_Src_Leg
  refine okP_bind (flightV s hs) (fun r hr => okP_bind (Text_ok _ _ hr.1 (by decide) (by decide)) (fun r2 hr2 => ?_))
  refine okP_bind (Text_ok _ _ hr2.2 (by decide) (by decide)) (fun r3 hr3 => okP_some ⟨hr3.2, ?_⟩)
  unfold ref02_ValidLeg
  simp only [hr.2, portV hr2.1, classV hr3.1, Option.bind_some, cond_true]
theorem plateV (s : Src) (hs : SrcOk s) : okP (keep_Src_AnyPlate s) (fun r => SrcOk r.2 ∧ validP r.1) := by
  unfold keep_Src_AnyPlate
  refine okP_bind (N_ok s 2 hs (by decide) (by decide)) (fun r hr => okP_bind (N_ok _ 2 hr.2.2 (by decide) (by decide)) (fun r2 hr2 => ?_))
  refine okP_bind (Pick_ok _ _ hr2.2.2 (by decide) (by decide)) (fun r3 hr3 => okP_some ⟨hr3.2, ?_⟩)
  have h3 := hr3.1
  simp only [List.mem_cons, List.not_mem_nil, or_false] at h3
  have := hr.1
  have := hr.2.1
  have := hr2.1
  have := hr2.2.1
  unfold validP
  simp only
  rw [w64_id (z := 117 + r2.1) (by omega) (by omega)]
  omega

theorem byL_bytesF (l : List Int) (h : ∀ x ∈ l, isL x) : ∀ b ∈ byL (bytesF l), isL b := by
  have e : ∀ (l : List Int) (s : ByteArray), (l.foldl (fun r n => r.push (UInt8.ofNat n.toNat)) s).data.toList = s.data.toList ++ l.map (fun n => UInt8.ofNat n.toNat) := by
    intro l
    induction l with
    | nil => intro s; simp
    | cons x l ih =>
      intro s
      rw [List.foldl_cons, ih]
      have : (s.push (UInt8.ofNat x.toNat)).data = s.data.push (UInt8.ofNat x.toNat) := rfl
      rw [this, Array.toList_push, List.append_assoc]
      rfl
  intro b hb
  unfold byL at hb
  obtain ⟨u, hu, rfl⟩ := List.mem_map.1 hb
  have hu : u ∈ l.map (fun n => UInt8.ofNat n.toNat) := by
    have := e l ⟨#[]⟩
    unfold bytesF at hu
    rw [show (⟨#[]⟩ : ByteArray).data.toList = [] from rfl, List.nil_append] at this
    rw [← this]
    exact hu
  obtain ⟨x, hx, rfl⟩ := List.mem_map.1 hu
  have hL := h x hx
  unfold isL at hL ⊢
  rw [UInt8.toNat_ofNat']
  omega
theorem lettersV_L : ∀ (n : Nat) (s : Src) (l : List Int) (i : Int), SrcOk s → l.length ≤ 1000 → 0 ≤ i → i ≤ l.length → (l.length : Int) - i < n → (∀ (k : Nat) (x : Int), (k : Int) < i → l[k]? = some x → isL x) → okP (keep_Src_Letters_L1 n s.L s.At l i) (ctlQ (fun _ => False) (fun z => SrcOk ⟨z.1, z.2.1⟩ ∧ z.2.2.length = l.length ∧ ∀ x ∈ z.2.2, isL x))
  | 0, s, l, i, hs, hl, h0, h1, h2, hk => by omega
  | n + 1, s, l, i, hs, hl, h0, h1, h2, hk => by
    rw [keep_Src_Letters_L1]
    refine okP_cond (fun h => ?_) (fun h => okP_some ⟨hs, rfl, fun x hx => ?_⟩)
    · have h := of_decide_eq_true h
      refine okP_bind (N_ok s 26 hs (by decide) (by decide)) (fun r ⟨r1, r2, r3⟩ => ?_)
      refine okP_bind (okP_ixL (Q := fun _ => True) h0 h (fun _ _ _ => trivial)) (fun _ _ => ?_)
      have hv : IntKind.u8.wrap (w64 (65 + r.1)) = 65 + r.1 := by
        rw [w64_id (by omega) (by omega), IntKind.wrap_u8]
        omega
      rw [w64_id (z := i + 1) (by omega) (by omega), hv]
      have ih := lettersV_L n r.2 (l.set i.toNat (65 + r.1)) (i + 1) r3 (by simpa using hl) (by omega) (by simp; omega) (by simp; omega) (fun k x hk1 hx => by
        rw [List.getElem?_set] at hx
        by_cases e : i.toNat = k
        · rw [if_pos e] at hx
          split at hx
          · have := Option.some.inj hx
            unfold isL
            omega
          · cases hx
        · rw [if_neg e] at hx
          exact hk k x (by omega) hx)
      rw [List.length_set] at ih
      exact ih
    · have h := of_decide_eq_false h
      have hx : x ∈ l := hx
      obtain ⟨k, hk2⟩ := List.mem_iff_getElem?.1 hx
      have := (List.getElem?_eq_some_iff.1 hk2).1
      exact hk k x (by omega) hk2
theorem lettersV (s : Src) (lo hi : Int) (hs : SrcOk s) (h0 : 0 ≤ lo) (h1 : lo ≤ hi) (h2 : hi ≤ 1000) : okP (keep_Src_Letters s lo hi) (fun r => SrcOk r.2 ∧ lo ≤ (r.1.size : Int) ∧ (r.1.size : Int) ≤ hi ∧ allL r.1) := by
  unfold keep_Src_Letters
  refine okP_bind (Range_ok s lo hi hs h1 (by omega) (by omega)) (fun r ⟨r1, r2, r3⟩ => ?_)
  rw [mkL_eq (by omega) (by omega), Option.bind_some]
  refine okP_finB (lettersV_L 9223372036854775807 r.2 (List.replicate r.1.toNat 0) 0 r3 (by simp; omega) (by omega) (by rw [List.length_replicate]; omega) (by rw [List.length_replicate]; omega) (fun k x hk => by omega)) (fun z ⟨z1, z2, z3⟩ => okP_some ⟨z1, ?_, ?_, byL_bytesF _ z3⟩)
  · rw [bytesF_size, z2, List.length_replicate]
    omega
  · rw [bytesF_size, z2, List.length_replicate]
    omega
theorem legsV_L : ∀ (n : Nat) (s : Src) (l : List Leg) (j : Int), SrcOk s → (l.length : Int) + j ≤ 3 → 0 ≤ j → j < n → (∀ x ∈ l, ref02_ValidLeg x = some true) → okP (keep_Src_Message_L2 n s.L s.At l j) (ctlQ (fun _ => False) (fun z => SrcOk ⟨z.2.2.1, z.2.2.2.1⟩ ∧ z.2.2.2.2.length ≤ 3 ∧ ∀ x ∈ z.2.2.2.2, ref02_ValidLeg x = some true))
  | 0, s, l, j, hs, h0, h1, h2, hv => by omega
  | n + 1, s, l, j, hs, h0, h1, h2, hv => by
    rw [keep_Src_Message_L2]
    refine okP_cond (fun h => ?_) (fun _ => okP_some ⟨hs, by show l.length ≤ 3; omega, hv⟩)
    have h := of_decide_eq_true h
    refine okP_bind (legV s hs) (fun r hr => ?_)
    rw [apL_eq (by simp; omega), Option.bind_some, w64_id (z := j - 1) (by omega) (by omega)]
    refine legsV_L n r.2 _ (j - 1) hr.1 (by simp; omega) (by omega) (by omega) (fun x hx => ?_)
    rcases List.mem_append.1 hx with hx | hx
    · exact hv x hx
    · rw [List.mem_singleton.1 hx]; exact hr.2

/-- a message about bags that was drawn -/
structure MsgV (m : Message) : Prop where
  kind : m.Kind = 1 ∨ m.Kind = 2
  port : ref02_ValidPort m.Port = some true
  num : 1 ≤ m.Number ∧ m.Number ≤ 9999
  in1 : m.Kind = 1 → m.In = zLeg
  in2 : m.Kind = 2 → ref02_ValidLeg m.In = some true
  out : ref02_ValidLeg m.Out = some true
  onw : m.Onward.length ≤ 3 ∧ ∀ x ∈ m.Onward, ref02_ValidLeg x = some true
  first : validP m.First
  stat : 1 ≤ m.Status ∧ m.Status ≤ 4
  seq : 1 ≤ m.Sequence ∧ m.Sequence ≤ 4
  wei : 0 ≤ m.Weight ∧ m.Weight ≤ 999
  sur : 1 ≤ (m.Surname.size : Int) ∧ (m.Surname.size : Int) ≤ 20 ∧ allL m.Surname
  giv : (m.Given.size : Int) ≤ 20 ∧ allL m.Given
  exc : 0 ≤ m.Exception ∧ m.Exception ≤ 3
  node : m.Node = ⟨#[]⟩
  lst : m.List = []
set_option maxHeartbeats 2000000 in
theorem messageV (s : Src) (k : Int) (hs : SrcOk s) (hk : k = 1 ∨ k = 2) : okP (keep_Src_Message s k) (fun r => SrcOk r.2 ∧ MsgV r.1) := by
  unfold keep_Src_Message
  rw [show (k == 0) = false by simp; omega, cond_false]
  refine okP_bind (Text_ok _ _ hs (by decide) (by decide)) (fun po hpo => okP_bind (Range_ok _ 1 12 hpo.2 (by decide) (by decide) (by decide)) (fun nu hnu => ?_))
  rw [show (k == 3) = false by simp; omega, cond_false, show (k == 4) = false by simp; omega, cond_false, show (k == 5) = false by simp; omega, cond_false]
  refine okP_bind (Pick_ok _ _ hnu.2.2 (by decide) (by decide)) (fun r1 h1 => okP_bind (legV _ h1.2) (fun r2 h2 => okP_bind (plateV _ h2.1) (fun r6 h6 => okP_bind (Range_ok _ 1 3 h6.1 (by decide) (by decide) (by decide)) (fun r7 h7 => ?_))))
  have hw : ∀ x : Int, x ∈ ([20, 0, 999] : List Int) → 0 ≤ x ∧ x ≤ 999 := fun x hx => by
    simp only [List.mem_cons, List.not_mem_nil, or_false] at hx
    omega
  refine okP_cond (fun hk2 => ?_) (fun hk2 => ?_)
  · have hk2 : k = 2 := by simpa using hk2
    refine okP_bind (legV _ h7.2.2) (fun r8 h8 => okP_bind (N_ok _ 4 h8.1 (by decide) (by decide)) (fun r9 h9 => ?_))
    refine okP_finB (legsV_L 9223372036854775807 r9.2 [] r9.1 h9.2.2 (by simp; omega) h9.1 (by omega) (fun x hx => by cases hx)) (fun q hq => ?_)
    refine okP_bind (N_ok _ 3 hq.1 (by decide) (by decide)) (fun s1 t1 => okP_bind (Range_ok _ 1 4 t1.2.2 (by decide) (by decide) (by decide)) (fun s2 t2 => okP_bind (Range_ok _ 1 4 t2.2.2 (by decide) (by decide) (by decide)) (fun s3 t3 => okP_bind (Pick_ok _ _ t3.2.2 (by decide) (by decide)) (fun s4 t4 => ?_))))
    refine okP_bind (lettersV _ 1 6 t4.2 (by decide) (by decide) (by decide)) (fun s5 t5 => okP_bind (lettersV _ 0 5 t5.1 (by decide) (by decide) (by decide)) (fun s6 t6 => okP_bind (Range_ok _ 0 3 t6.1 (by decide) (by decide) (by decide)) (fun s7 t7 => okP_some ⟨t7.2.2, ?_⟩)))
    exact ⟨hk, port2V hpo.1, ⟨hnu.1, by show nu.1 ≤ 9999; have := hnu.2.1; omega⟩, fun e => by have e : k = 1 := e; omega, fun _ => h8.2, h2.2, hq.2, h6.2, ⟨t2.1, t2.2.1⟩, ⟨t3.1, t3.2.1⟩, hw _ t4.1, ⟨t5.2.1, by show (s5.1.size : Int) ≤ 20; have := t5.2.2.1; omega, t5.2.2.2⟩, ⟨by show (s6.1.size : Int) ≤ 20; have := t6.2.2.1; omega, t6.2.2.2⟩, ⟨t7.1, t7.2.1⟩, rfl, rfl⟩
  · have hk2 : ¬ k = 2 := by simpa using hk2
    refine okP_bind (N_ok _ 4 h7.2.2 (by decide) (by decide)) (fun r9 h9 => ?_)
    refine okP_finB (legsV_L 9223372036854775807 r9.2 [] r9.1 h9.2.2 (by simp; omega) h9.1 (by omega) (fun x hx => by cases hx)) (fun q hq => ?_)
    refine okP_bind (N_ok _ 3 hq.1 (by decide) (by decide)) (fun s1 t1 => okP_bind (Range_ok _ 1 4 t1.2.2 (by decide) (by decide) (by decide)) (fun s2 t2 => okP_bind (Range_ok _ 1 4 t2.2.2 (by decide) (by decide) (by decide)) (fun s3 t3 => okP_bind (Pick_ok _ _ t3.2.2 (by decide) (by decide)) (fun s4 t4 => ?_))))
    refine okP_bind (lettersV _ 1 6 t4.2 (by decide) (by decide) (by decide)) (fun s5 t5 => okP_bind (lettersV _ 0 5 t5.1 (by decide) (by decide) (by decide)) (fun s6 t6 => okP_bind (Range_ok _ 0 3 t6.1 (by decide) (by decide) (by decide)) (fun s7 t7 => okP_some ⟨t7.2.2, ?_⟩)))
    exact ⟨hk, port2V hpo.1, ⟨hnu.1, by show nu.1 ≤ 9999; have := hnu.2.1; omega⟩, fun _ => rfl, fun e => absurd e hk2, h2.2, hq.2, h6.2, ⟨t2.1, t2.2.1⟩, ⟨t3.1, t3.2.1⟩, hw _ t4.1, ⟨t5.2.1, by show (s5.1.size : Int) ≤ 20; have := t5.2.2.1; omega, t5.2.2.2⟩, ⟨by show (s6.1.size : Int) ≤ 20; have := t6.2.2.1; omega, t6.2.2.2⟩, ⟨t7.1, t7.2.1⟩, rfl, rfl⟩

theorem legsSelf_L (y : List Leg) : ∀ (l : List Leg) (k : Nat), y.drop k = l → ref04_legs_L1 y l k = some (Ctl.brk ())
  | [], k, h => rfl
  | x :: l, k, h => by
    have hx : y[k]? = some x := by rw [← List.head?_drop, h]; rfl
    rw [ref04_legs_L1, ixL_at' k rfl hx, Option.bind_some]
    simp only [beq_self_eq_true, Bool.and_true, Bool.and_self, Bool.not_true, cond_false]
    exact legsSelf_L y l (k + 1) (by rw [← List.drop_drop, h]; rfl)
theorem legsSelf (y : List Leg) : ref04_legs y y = some true := by
  unfold ref04_legs
  rw [bne_self_eq_false, cond_false, fin_brkE (legsSelf_L y y 0 rfl)]
theorem intsSelf_L (y : List Int) : ∀ (l : List Int) (k : Nat), y.drop k = l → keep_Ints_L1 y l k = some (Ctl.brk ())
  | [], k, h => rfl
  | x :: l, k, h => by
    have hx : y[k]? = some x := by rw [← List.head?_drop, h]; rfl
    rw [keep_Ints_L1, ixL_at' k rfl hx, Option.bind_some, bne_self_eq_false, cond_false]
    exact intsSelf_L y l (k + 1) (by rw [← List.drop_drop, h]; rfl)
theorem intsSelf (y : List Int) : keep_Ints y y = some true := by
  unfold keep_Ints
  rw [bne_self_eq_false, cond_false, fin_brkE (intsSelf_L y y 0 rfl)]
theorem sameSelf (m : Message) : ref04_Same m m = some true := by
  unfold ref04_Same
  simp only [beq_self_eq_true, Bool.and_true, Bool.and_self, cond_true, legsSelf, intsSelf, Option.bind_some]
theorem ownV {m : Message} (h : MsgV m) : ref04_own m = some m := by
  unfold ref04_own
  rw [bag_eq, Option.bind_some, decide_eq_true h.kind, cond_true]
  have hn := h.node
  have hl := h.lst
  rcases h.kind with e | e
  · have hi := h.in1 e
    rw [show (m.Kind == 1) = true by simp [e], cond_true]
    cases m
    simp only at hn hl hi
    rw [hn, hl, hi]
    rfl
  · rw [show (m.Kind == 1) = false by simp [e], cond_false]
    cases m
    simp only at hn hl
    rw [hn, hl]
theorem spelledV : ∀ (l : List Leg) (k : Nat), (∀ x ∈ l, ref02_ValidLeg x = some true) → ref04_spelled_L1 l k = some (Ctl.brk ())
  | [], k, h => rfl
  | x :: l, k, h => by
    rw [ref04_spelled_L1, h x (List.mem_cons_self ..), Option.bind_some]
    exact spelledV l (k + 1) (fun y hy => h y (List.mem_cons_of_mem _ hy))
theorem msgV_zero {m : Message} (h : MsgV m) (hd : 0 ≤ m.Do ∧ m.Do ≤ 2) (hc : 1 ≤ m.Count ∧ m.Count ≤ 99) : ref04_Validate m = some 0 := by
  have hk := h.kind
  unfold ref04_Validate
  rw [in_eq, Option.bind_some, decide_eq_true (by omega : 1 ≤ m.Kind ∧ m.Kind ≤ 5), Bool.not_true, cond_false, ownV h, Option.bind_some, sameSelf, Option.bind_some, Bool.not_true, cond_false]
  have ho := h.onw
  have hl := h.lst
  have h3 : ¬ (3 : Int) < (m.Onward.length : Int) := by omega
  rw [decide_eq_false h3, cond_false, hl, show decide ((40 : Int) < (([] : List Int).length : Int)) = false from rfl, cond_false]
  have hsp : ref04_spelled m = some true := by
    unfold ref04_spelled
    have hs1 : ref04_letters m.Surname 1 = some true := by
      rw [rLetters _ (by have := h.sur; omega)]
      rw [decide_eq_true ⟨h.sur.1, h.sur.2.1, h.sur.2.2⟩]
    have hs2 : ref04_letters m.Given 0 = some true := by
      rw [rLetters _ (by have := h.giv; omega)]
      rw [decide_eq_true ⟨Int.natCast_nonneg _, h.giv.1, h.giv.2⟩]
    have hk3 : (m.Kind != 3) = true := by simp; omega
    have hk3' : (m.Kind == 3) = false := by simp; omega
    rw [h.port, Option.bind_some, Bool.not_true, cond_false, hk3, cond_true, h.out, Option.bind_some, Bool.not_true, cond_false, hk3', fin_brkE (spelledV _ 0 ho.2)]
    simp only [fin_brkE (spelledV _ 0 ho.2), bag_eq, Option.bind_some, decide_eq_true hk, Bool.not_true, cond_false, cond_true, hs1, hs2]
    rcases hk with e | e
    · rw [show (m.Kind == 2) = false by simp [e], cond_false]
    · rw [show (m.Kind == 2) = true by simp [e], cond_true, h.in2 e, Option.bind_some, Bool.not_true, cond_false]
  have hct : ref04_counted m = some true := by
    unfold ref04_counted
    have hk5 : (m.Kind != 5) = true := by simp; omega
    have hlL : ref04_counted_L1 m.List 0 = some (Ctl.brk ()) := by rw [hl]; rfl
    have q := h.seq
    simp only [in_eq, bag_eq, refvalid_eq, Option.bind_some, decide_eq_true h.num, decide_eq_true h.first, decide_eq_true hc, decide_eq_true hk, decide_eq_true hd, decide_eq_true h.stat, decide_eq_true (⟨q.1, by omega⟩ : 1 ≤ m.Sequence ∧ m.Sequence ≤ 999), decide_eq_true h.wei, decide_eq_true h.exc, hk5, Bool.not_true, cond_false, cond_true, fin_brkE hlL]
  rw [hsp, Option.bind_some, Bool.not_true, cond_false, hct, Option.bind_some, Bool.not_true, cond_false]
  have hL : ref04_Validate_L1 m 9223372036854775807 1 = some (Ctl.brk ()) := by
    rw [show (9223372036854775807 : Nat) = 9223372036854775806 + 1 from rfl, ref04_Validate_L1, hl]
    rfl
  rw [fin_brkE hL]
end Go.Proofs.Ytkliakcegihikaa.Ex
