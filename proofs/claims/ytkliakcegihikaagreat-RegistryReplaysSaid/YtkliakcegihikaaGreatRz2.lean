/- Registries as sorted lists: what Apply of the reference makes of them. -/
/- Messages that are drawn, registries that are built from them. -/
/- Apply of the reference; registries that are built; RegistryOwners. -/
import Derived.Test.YtkliakcegihikaaGreatRz1
namespace Go.Proofs.YtkliakcegihikaaGreat.Ex
open Go.RowKit Go.Proofs.YtkliakcegihikaaGreat.Ax
set_option linter.unusedVariables false
set_option linter.unusedSimpArgs false

def known (l : List Bag) (p : Plate) : Prop := ∃ b ∈ l, b.Plate = p
instance (l : List Bag) (p : Plate) : Decidable (known l p) := by unfold known; infer_instance

theorem insB_mem {b x : Bag} : ∀ {l : List Bag}, x ∈ insB b l → x = b ∨ x ∈ l
 | [], h => by simp [insB] at h; exact .inl h
 | y :: l, h => by
  rw [insB] at h
  split at h
  ·
   rcases List.mem_cons.1 h with rfl | h
   ·
    exact .inr (List.mem_cons_self ..)
   ·
    exact (insB_mem h).imp id (List.mem_cons_of_mem _)
  ·
   split at h
   ·
    rcases List.mem_cons.1 h with rfl | h
    ·
     exact .inl rfl
    ·
     exact .inr (List.mem_cons_of_mem _ h)
   ·
    rcases List.mem_cons.1 h with rfl | h
    ·
     exact .inl rfl
    ·
     exact .inr h
theorem insB_self (b : Bag) : ∀ (l : List Bag), b ∈ insB b l
 | [] => by simp [insB]
 | y :: l => by
  rw [insB]
  split
  ·
   exact List.mem_cons_of_mem _ (insB_self b l)
  ·
   split <;> exact List.mem_cons_self ..
theorem insB_keeps {b x : Bag} (hx : x.Plate ≠ b.Plate) : ∀ {l : List Bag}, x ∈ l → x ∈ insB b l
 | y :: l, h => by
  rw [insB]
  split
  ·
   rcases List.mem_cons.1 h with rfl | h
   ·
    exact List.mem_cons_self ..
   ·
    exact List.mem_cons_of_mem _ (insB_keeps hx h)
  ·
   split
   ·
    rename_i e
    rcases List.mem_cons.1 h with rfl | h
    ·
     exact absurd e hx
    ·
     exact List.mem_cons_of_mem _ h
   ·
    exact List.mem_cons_of_mem _ h
theorem insB_known {b : Bag} {q : Plate} {l : List Bag} (h : known l q) : known (insB b l) q := by
 obtain ⟨x, hx, rfl⟩ := h
 by_cases e : x.Plate = b.Plate
 ·
  exact ⟨b, insB_self b l, e.symm⟩
 ·
  exact ⟨x, insB_keeps e hx, rfl⟩
theorem sorted_cons {x : Bag} {l : List Bag} : sortedB (x :: l) ↔ (∀ y ∈ l, plt x.Plate y.Plate) ∧ sortedB l := List.pairwise_cons
theorem insB_sorted {b : Bag} : ∀ {l : List Bag}, sortedB l → sortedB (insB b l)
 | [], _ => List.pairwise_singleton ..
 | y :: l, h => by
  obtain ⟨h1, h2⟩ := sorted_cons.1 h
  rw [insB]
  split
  ·
   rename_i hp
   refine sorted_cons.2 ⟨fun z hz => ?_, insB_sorted h2⟩
   rcases insB_mem hz with rfl | hz
   ·
    exact hp
   ·
    exact h1 z hz
  ·
   split
   ·
    rename_i hp he
    exact sorted_cons.2 ⟨fun z hz => by rw [← he]; exact h1 z hz, h2⟩
   ·
    rename_i hp he
    have hyb : plt b.Plate y.Plate := by
     rcases plt_tri b.Plate y.Plate with h | h | h
     ·
      exact h
     ·
      exact absurd h.symm he
     ·
      exact absurd h hp
    refine sorted_cons.2 ⟨fun z hz => ?_, h⟩
    rcases List.mem_cons.1 hz with rfl | hz
    ·
     exact hyb
    ·
     exact plt_trans hyb (h1 z hz)
theorem insB_len {b : Bag} : ∀ {l : List Bag}, sortedB l → ((insB b l).length = l.length + 1 ∧ ¬ known l b.Plate) ∨ ((insB b l).length = l.length ∧ known l b.Plate)
 | [], _ => .inl ⟨rfl, fun ⟨x, hx, _⟩ => by cases hx⟩
 | y :: l, h => by
  obtain ⟨h1, h2⟩ := sorted_cons.1 h
  rw [insB]
  split
  ·
   rename_i hp
   have hne : y.Plate ≠ b.Plate := fun e => plt_irr (e ▸ hp)
   rcases insB_len (b := b) h2 with ⟨e1, e2⟩ | ⟨e1, e2⟩
   ·
    refine .inl ⟨by rw [List.length_cons, List.length_cons, e1], fun ⟨x, hx, hxe⟩ => ?_⟩
    rcases List.mem_cons.1 hx with rfl | hx
    ·
     exact hne hxe
    ·
     exact e2 ⟨x, hx, hxe⟩
   ·
    obtain ⟨x, hx, hxe⟩ := e2
    exact .inr ⟨by rw [List.length_cons, List.length_cons, e1], x, List.mem_cons_of_mem _ hx, hxe⟩
  ·
   split
   ·
    rename_i hp he
    exact .inr ⟨rfl, y, List.mem_cons_self .., he⟩
   ·
    rename_i hp he
    refine .inl ⟨rfl, fun ⟨x, hx, hxe⟩ => ?_⟩
    rcases List.mem_cons.1 hx with rfl | hx
    ·
     exact he hxe
    ·
     have := h1 x hx
     rw [hxe] at this
     exact hp this
theorem regOk_ins {b : Bag} {l : List Bag} (h : RegOk l) (hv : validP b.Plate) (hl : known l b.Plate ∨ l.length < 200) : RegOk (insB b l) := by
 refine ⟨?_, fun x hx => ?_, insB_sorted h.srt⟩
 ·
  have := h.len
  rcases insB_len (b := b) h.srt with ⟨e1, e2⟩ | ⟨e1, _⟩
  ·
   rcases hl with hl | hl
   ·
    exact absurd hl e2
   ·
    omega
  ·
   omega
 ·
  rcases insB_mem hx with rfl | hx
  ·
   exact hv
  ·
   exact h.val x hx
theorem regOk_filter {f : Bag → Bool} {l : List Bag} (h : RegOk l) : RegOk (l.filter f) :=
 ⟨Nat.le_trans (List.length_filter_le _ _) h.len, fun b hb => h.val b (List.mem_filter.1 hb).1, h.srt.filter _⟩

def zLeg : Leg := ⟨⟨⟨#[]⟩, 0, ⟨#[]⟩, 0⟩, ⟨#[]⟩, ⟨#[]⟩⟩
def zBag : Bag := ⟨⟨0, 0, 0⟩, zLeg, zLeg, [], 0, 0, 0, false, ⟨#[]⟩, ⟨#[]⟩, 0, ⟨#[]⟩, false⟩
/-- the bag of a plate, or no bag -/
def findB (p : Plate) (l : List Bag) : Bag := (l.find? (fun b => decide (b.Plate = p))).getD zBag

theorem find_idx (p : Plate) : ∀ (l : List Bag) (k : Nat), (idxP p l k = -1 ∧ l.find? (fun b => decide (b.Plate = p)) = none) ∨ ∃ (j : Nat) (b : Bag), idxP p l k = ((k + j : Nat) : Int) ∧ l[j]? = some b ∧ l.find? (fun b => decide (b.Plate = p)) = some b
 | [], k => .inl ⟨rfl, rfl⟩
 | b :: l, k => by
  rw [idxP]
  by_cases h : b.Plate = p
  ·
   exact .inr ⟨0, b, by rw [if_pos h]; rfl, rfl, by rw [List.find?_cons_of_pos (by simpa using h)]⟩
  ·
   rw [if_neg h, List.find?_cons_of_neg (by simpa using h)]
   rcases find_idx p l (k + 1) with ⟨h1, h2⟩ | ⟨j, c, h1, h2, h3⟩
   ·
    exact .inl ⟨h1, h2⟩
   ·
    exact .inr ⟨j + 1, c, by rw [h1]; congr 1; omega, by simpa using h2, h3⟩
theorem refFind_eq (l : List Bag) (p : Plate) (h : RegOk l) : ref06_Find ⟨l⟩ p = some (findB p l, decide (known l p)) := by
 unfold ref06_Find
 rw [index_eq, Option.bind_some, refValidate_eq, Option.bind_some]
 simp only
 rw [vReg_zero.2 h, show ((0 : Int) != 0) = false from rfl, cond_false]
 rcases find_idx p l 0 with ⟨h1, h2⟩ | ⟨j, b, h1, h2, h3⟩
 ·
  have hk : ¬ known l p := fun ⟨x, hx, e⟩ => by have := List.find?_eq_none.1 h2 x hx; simp [e] at this
  rw [h1, show decide ((-1 : Int) < 0) = true from rfl, cond_true, findB, h2, decide_eq_false hk]
  rfl
 ·
  have hk : known l p := ⟨b, List.mem_of_find?_eq_some h3, by simpa using List.find?_some h3⟩
  rw [h1, show decide (((0 + j : Nat) : Int) < 0) = false from decide_eq_false (by omega), cond_false, ixL_at' j (by omega) h2, Option.bind_some, findB, h3, decide_eq_true hk]
  rfl
theorem findB_in {p : Plate} {l : List Bag} (h : known l p) : findB p l ∈ l ∧ (findB p l).Plate = p := by
 obtain ⟨x, hx, e⟩ := h
 cases hf : l.find? (fun b => decide (b.Plate = p)) with
 | none => have := List.find?_eq_none.1 hf x hx; simp [e] at this
 | some b =>
  rw [findB, hf]
  exact ⟨List.mem_of_find?_eq_some hf, by simpa using List.find?_some hf⟩

theorem without_L (p : Plate) : ∀ (l : List Bag) (k : Nat) (acc : List Bag), acc.length + l.length ≤ 16777216 → ref06_without_L1 p l k acc = some (Ctl.brk (acc ++ l.filter (fun b => !decide (b.Plate = p))))
 | [], k, acc, h => by simp [ref06_without_L1]
 | b :: l, k, acc, h => by
  rw [List.length_cons] at h
  rw [ref06_without_L1, plate_beq]
  by_cases e : b.Plate = p
  ·
   rw [decide_eq_true e, Bool.not_true, cond_false, without_L p l (k + 1) acc (by omega), List.filter_cons_of_neg (by simp [e])]
  ·
   rw [decide_eq_false e, Bool.not_false, cond_true, apL_eq (by simp; omega), Option.bind_some, without_L p l (k + 1) _ (by simp; omega), List.filter_cons_of_pos (by simp [e])]
   simp
theorem without_eq (l : List Bag) (p : Plate) (h : l.length ≤ 1000000) : ref06_without ⟨l⟩ p = some ⟨l.filter (fun b => !decide (b.Plate = p))⟩ := by
 unfold ref06_without
 rw [without_L p l 0 [] (by simp; omega), fin_brkE rfl]
 rfl

/-- a bag with the data of a message -/
def dataB (b : Bag) (m : Message) : Bag := ⟨b.Plate, m.In, m.Out, m.Onward, m.Sequence, m.Status, m.Weight, m.Load, m.Surname, m.Given, m.Exception, b.Node, b.Unloaded⟩
theorem data_eq (b : Bag) (m : Message) (h : m.Onward.length ≤ 1000000) : ref06_data b m = some (dataB b m) := by
 unfold ref06_data dataB
 rw [apL_eq (by simp; omega), Option.bind_some]
 rfl

/-- what a message makes of a registry at one plate -/
def stepB (m : Message) (l : List Bag) (p : Plate) : List Bag :=
 if m.Kind = 1 ∨ m.Kind = 2 then (if m.Do = 2 then l.filter (fun b => !decide (b.Plate = p)) else insB (dataB { findB p l with Plate := p } m) l)
 else if m.Kind = 3 then insB { findB p l with Plate := p, Node := m.Node } l else insB { findB p l with Plate := p, Load := false, Unloaded := true } l

/-- it can go on: new bags have room; others are there -/
def goesOn (m : Message) (l : List Bag) (ps : List Plate) : Prop :=
 (∀ p ∈ ps, validP p) ∧ (((m.Kind = 1 ∨ m.Kind = 2) ∧ m.Do = 2) ∨ l.length + ps.length ≤ 200 ∨ ∀ p ∈ ps, known l p)

theorem step_one (m : Message) (ho : m.Onward.length ≤ 1000000) (l : List Bag) (p : Plate) (q : List Plate) (k : Nat) (h : RegOk l) : ref06_Apply_L2 m (p :: q) k l = ref06_Apply_L2 m q (k + 1) (stepB m l p) := by
 have hl : l.length ≤ 1000000 := by have := h.len; omega
 rw [ref06_Apply_L2, refFind_eq l p h, Option.bind_some, bag_eq, Option.bind_some, stepB]
 by_cases hb : m.Kind = 1 ∨ m.Kind = 2
 ·
  rw [decide_eq_true hb, cond_true, if_pos hb]
  by_cases hd : m.Do = 2
  ·
   rw [show (m.Do == 2) = true by simp [hd], cond_true, without_eq l p hl, Option.bind_some, if_pos hd]
  ·
   rw [show (m.Do == 2) = false by simp [hd], cond_false, Option.bind_some, cond_true, data_eq _ _ ho, Option.bind_some, with_eq _ _ hl, Option.bind_some, if_neg hd]
 ·
  rw [decide_eq_false hb, cond_false, if_neg hb, Option.bind_some, cond_false]
  by_cases h3 : m.Kind = 3
  ·
   rw [show (m.Kind == 3) = true by simp [h3], cond_true, with_eq _ _ hl, Option.bind_some, if_pos h3]
  ·
   rw [show (m.Kind == 3) = false by simp [h3], cond_false, with_eq _ _ hl, Option.bind_some, if_neg h3]

theorem step_ok (m : Message) (l : List Bag) (p : Plate) (q : List Plate) (h : RegOk l) (hg : goesOn m l (p :: q)) : RegOk (stepB m l p) ∧ goesOn m (stepB m l p) q := by
 obtain ⟨g1, g2⟩ := hg
 have hv := g1 p (List.mem_cons_self ..)
 have g1' : ∀ r ∈ q, validP r := fun r hr => g1 r (List.mem_cons_of_mem _ hr)
 have ins : ∀ b : Bag, b.Plate = p → ¬ ((m.Kind = 1 ∨ m.Kind = 2) ∧ m.Do = 2) → RegOk (insB b l) ∧ goesOn m (insB b l) q := fun b hb hn => by
  have hk : known l b.Plate ∨ l.length < 200 := by
   rcases g2 with g2 | g2 | g2
   ·
    exact absurd g2 hn
   ·
    rw [List.length_cons] at g2; right; omega
   ·
    left; rw [hb]; exact g2 p (List.mem_cons_self ..)
  refine ⟨regOk_ins h (hb ▸ hv) hk, g1', ?_⟩
  rcases g2 with g2 | g2 | g2
  ·
   exact absurd g2 hn
  ·
   rw [List.length_cons] at g2
   refine .inr (.inl ?_)
   rcases insB_len (b := b) h.srt with ⟨e, _⟩ | ⟨e, _⟩ <;> omega
  ·
   exact .inr (.inr fun r hr => insB_known (g2 r (List.mem_cons_of_mem _ hr)))
 unfold stepB
 split
 ·
  rename_i hb
  split
  ·
   rename_i hd
   exact ⟨regOk_filter h, g1', .inl ⟨hb, hd⟩⟩
  ·
   rename_i hd
   exact ins _ rfl (fun e => hd e.2)
 ·
  rename_i hb
  split <;> exact ins _ rfl (fun e => hb e.1)

theorem apply_loop (m : Message) (ho : m.Onward.length ≤ 1000000) : ∀ (ps : List Plate) (k : Nat) (l : List Bag), RegOk l → goesOn m l ps → ref06_Apply_L2 m ps k l = some (Ctl.brk (ps.foldl (stepB m) l)) ∧ RegOk (ps.foldl (stepB m) l)
 | [], k, l, h, _ => ⟨rfl, h⟩
 | p :: q, k, l, h, hg => by
  rw [step_one m ho l p q k h]
  obtain ⟨h1, h2⟩ := step_ok m l p q h hg
  exact apply_loop m ho q (k + 1) _ h1 h2

theorem bytesF_size (l : List Int) : (bytesF l).size = l.length := by
 unfold bytesF
 have : ∀ (l : List Int) (s : ByteArray), (l.foldl (fun r n => r.push (UInt8.ofNat n.toNat)) s).size = s.size + l.length := by
  intro l
  induction l with
  | nil => intro s; rfl
  | cons x l ih => intro s; rw [List.foldl_cons, ih, ByteArray.size_push, List.length_cons]; omega
 rw [this]
 show 0 + l.length = l.length
 omega

theorem lettersL_t : ∀ (n : Nat) (s : Src) (l : List Int) (i : Int), SrcOk s → l.length ≤ 1000 → 0 ≤ i → i ≤ l.length → (l.length : Int) - i < n → okP (keep_Src_Letters_L1 n s.L s.At l i) (ctlQ (fun _ => False) (fun z => SrcOk ⟨z.1, z.2.1⟩ ∧ z.2.2.length = l.length))
 | 0, s, l, i, hs, hl, h0, h1, h2 => by omega
 | n + 1, s, l, i, hs, hl, h0, h1, h2 => by
  rw [keep_Src_Letters_L1]
  refine okP_cond (fun h => ?_) (fun _ => okP_some ⟨hs, rfl⟩)
  have h := of_decide_eq_true h
  refine okP_bind (N_ok s 26 hs (by decide) (by decide)) (fun r ⟨r1, r2, r3⟩ => ?_)
  refine okP_bind (okP_ixL (Q := fun _ => True) h0 h (fun _ _ _ => trivial)) (fun _ _ => ?_)
  rw [w64_id (z := i + 1) (by omega) (by omega)]
  have ih := lettersL_t n r.2 (l.set i.toNat (IntKind.u8.wrap (w64 (65 + r.1)))) (i + 1) r3 (by simpa using hl) (by omega) (by simp; omega) (by simp; omega)
  rw [List.length_set] at ih
  exact ih
theorem letters_gen (s : Src) (lo hi : Int) (hs : SrcOk s) (h0 : 0 ≤ lo) (h1 : lo ≤ hi) (h2 : hi ≤ 1000) : okP (keep_Src_Letters s lo hi) (fun r => SrcOk r.2 ∧ (r.1.size : Int) ≤ hi) := by
 unfold keep_Src_Letters
 refine okP_bind (Range_ok s lo hi hs h1 (by omega) (by omega)) (fun r ⟨r1, r2, r3⟩ => ?_)
 rw [mkL_eq (by omega) (by omega), Option.bind_some]
 refine okP_finB (lettersL_t 9223372036854775807 r.2 (List.replicate r.1.toNat 0) 0 r3 (by simp; omega) (by omega) (by rw [List.length_replicate]; omega) (by rw [List.length_replicate]; omega)) (fun z ⟨z1, z2⟩ => okP_some ⟨z1, ?_⟩)
 rw [bytesF_size, z2, List.length_replicate]
 omega
theorem anyPlate_t (s : Src) (hs : SrcOk s) : okP (keep_Src_AnyPlate s) (fun r => SrcOk r.2) := by
 unfold keep_Src_AnyPlate
 refine okP_bind (N_ok s 2 hs (by decide) (by decide)) (fun r hr => okP_bind (N_ok _ 2 hr.2.2 (by decide) (by decide)) (fun r2 hr2 => ?_))
 exact okP_bind (Pick_ok _ _ hr2.2.2 (by decide) (by decide)) (fun r3 hr3 => okP_some hr3.2)
theorem anyFlight_t (s : Src) (hs : SrcOk s) : okP (keep_Src_AnyFlight s) (fun r => SrcOk r.2) := by
 unfold keep_Src_AnyFlight
 refine okP_bind (Text_ok s _ hs (by decide) (by decide)) (fun r hr => okP_bind (Pick_ok _ _ hr.2 (by decide) (by decide)) (fun r2 hr2 => ?_))
 exact okP_bind (Text_ok _ _ hr2.2 (by decide) (by decide)) (fun r3 hr3 => okP_bind (Pick_ok _ _ hr3.2 (by decide) (by decide)) (fun r4 hr4 => okP_some hr4.2))
theorem legG_t (s : Src) (hs : SrcOk s) : okP (keep_Src_Leg s) (fun r => SrcOk r.2) := by
 unfold keep_Src_Leg
 refine okP_bind (anyFlight_t s hs) (fun r hr => okP_bind (Text_ok _ _ hr (by decide) (by decide)) (fun r2 hr2 => ?_))
 exact okP_bind (Text_ok _ _ hr2.2 (by decide) (by decide)) (fun r3 hr3 => okP_some hr3.2)

/-- a message that was drawn -/
structure MsgGen (m : Message) : Prop where
 ok : MsgOk m
 onw : m.Onward.length ≤ 12
 lst : m.List.length ≤ 12
 seq : (m.Kind = 1 ∨ m.Kind = 2) → 1 ≤ m.Sequence ∧ m.Sequence ≤ 4

theorem msgL1_t : ∀ (n : Nat) (s : Src) (l : List Int) (i j : Int), SrcOk s → (l.length : Int) + j ≤ 12 → 0 ≤ j → j < n → okP (keep_Src_Message_L1 n s.L s.At l i j) (ctlQ (fun _ => False) (fun z => SrcOk ⟨z.1, z.2.1⟩ ∧ z.2.2.length ≤ 12))
 | 0, s, l, i, j, hs, h0, h1, h2 => by omega
 | n + 1, s, l, i, j, hs, h0, h1, h2 => by
  rw [keep_Src_Message_L1]
  refine okP_cond (fun h => ?_) (fun _ => okP_some ⟨hs, by show l.length ≤ 12; omega⟩)
  have h := of_decide_eq_true h
  refine okP_bind (Range_ok s 1 3 hs (by decide) (by decide) (by decide)) (fun r ⟨r1, r2, r3⟩ => ?_)
  rw [apL_eq (by simp; omega), Option.bind_some, w64_id (z := j - 1) (by omega) (by omega)]
  exact msgL1_t n r.2 _ _ (j - 1) r3 (by simp; omega) (by omega) (by omega)
theorem msgL2_t : ∀ (n : Nat) (s : Src) (l : List Leg) (j : Int), SrcOk s → (l.length : Int) + j ≤ 12 → 0 ≤ j → j < n → okP (keep_Src_Message_L2 n s.L s.At l j) (ctlQ (fun _ => False) (fun z => SrcOk ⟨z.2.2.1, z.2.2.2.1⟩ ∧ z.2.2.2.2.length ≤ 12))
 | 0, s, l, j, hs, h0, h1, h2 => by omega
 | n + 1, s, l, j, hs, h0, h1, h2 => by
  rw [keep_Src_Message_L2]
  refine okP_cond (fun h => ?_) (fun _ => okP_some ⟨hs, by show l.length ≤ 12; omega⟩)
  have h := of_decide_eq_true h
  refine okP_bind (legG_t s hs) (fun r hr => ?_)
  rw [apL_eq (by simp; omega), Option.bind_some, w64_id (z := j - 1) (by omega) (by omega)]
  exact msgL2_t n r.2 _ (j - 1) hr (by simp; omega) (by omega) (by omega)

set_option maxHeartbeats 2000000 in
theorem message_t (s : Src) (hs : SrcOk s) : okP (keep_Src_Message s 0) (fun r => SrcOk r.2 ∧ MsgGen r.1) := by
 unfold keep_Src_Message
 rw [show ((0 : Int) == 0) = true from rfl, cond_true]
 refine okP_bind (Range_ok s 1 5 hs (by decide) (by decide) (by decide)) (fun k hk => okP_bind (Text_ok _ _ hk.2.2 (by decide) (by decide)) (fun po hpo => okP_bind (Range_ok _ 1 12 hpo.2 (by decide) (by decide) (by decide)) (fun nu hnu => ?_)))
 have z : ((⟨#[]⟩ : ByteArray).size : Int) ≤ 9223372036854775807 := by decide
 refine okP_cond (fun h3 => ?_) (fun h3 => okP_cond (fun h4 => ?_) (fun h4 => okP_cond (fun h5 => ?_) (fun h5 => ?_)))
 ·
  have h3 : k.1 = 3 := by simpa using h3
  refine okP_bind (anyPlate_t _ hnu.2.2) (fun r1 h1 => okP_bind (Range_ok _ 1 3 h1 (by decide) (by decide) (by decide)) (fun r2 h2 => okP_bind (letters_gen _ 1 4 h2.2.2 (by decide) (by decide) (by decide)) (fun r4 hr4 => okP_some ⟨hr4.1, ⟨z, z⟩, by simp, by simp, fun e => ?_⟩)))
  simp only [h3] at e
  omega
 ·
  have h4 : k.1 = 4 := by simpa using h4
  refine okP_bind (anyPlate_t _ hnu.2.2) (fun r1 h1 => okP_bind (Range_ok _ 1 3 h1 (by decide) (by decide) (by decide)) (fun r2 h2 => okP_bind (legG_t _ h2.2.2) (fun r4 hr4 => okP_some ⟨hr4, ⟨z, z⟩, by simp, by simp, fun e => ?_⟩)))
  simp only [h4] at e
  omega
 ·
  have h5 : k.1 = 5 := by simpa using h5
  refine okP_bind (legG_t _ hnu.2.2) (fun r1 h1 => okP_bind (N_ok _ 12 h1 (by decide) (by decide)) (fun r2 h2 => ?_))
  refine okP_finB (msgL1_t 9223372036854775807 r2.2 [] 0 r2.1 h2.2.2 (by simp; omega) h2.1 (by omega)) (fun q hq => okP_some ⟨hq.1, ⟨z, z⟩, by simp, hq.2, fun e => ?_⟩)
  simp only [h5] at e
  omega
 ·
  refine okP_bind (Pick_ok _ _ hnu.2.2 (by decide) (by decide)) (fun r1 h1 => okP_bind (legG_t _ h1.2) (fun r2 h2 => okP_bind (anyPlate_t _ h2) (fun r6 h6 => okP_bind (Range_ok _ 1 3 h6 (by decide) (by decide) (by decide)) (fun r7 h7 => ?_))))
  refine okP_cond (fun _ => ?_) (fun _ => ?_)
  ·
   refine okP_bind (legG_t _ h7.2.2) (fun r8 h8 => okP_bind (N_ok _ 4 h8 (by decide) (by decide)) (fun r9 h9 => ?_))
   refine okP_finB (msgL2_t 9223372036854775807 r9.2 [] r9.1 h9.2.2 (by simp; omega) h9.1 (by omega)) (fun q hq => ?_)
   refine okP_bind (N_ok _ 3 hq.1 (by decide) (by decide)) (fun s1 t1 => okP_bind (Range_ok _ 1 4 t1.2.2 (by decide) (by decide) (by decide)) (fun s2 t2 => okP_bind (Range_ok _ 1 4 t2.2.2 (by decide) (by decide) (by decide)) (fun s3 t3 => okP_bind (Pick_ok _ _ t3.2.2 (by decide) (by decide)) (fun s4 t4 => ?_))))
   refine okP_bind (letters_gen _ 1 6 t4.2 (by decide) (by decide) (by decide)) (fun s5 t5 => okP_bind (letters_gen _ 0 5 t5.1 (by decide) (by decide) (by decide)) (fun s6 t6 => okP_bind (Range_ok _ 0 3 t6.1 (by decide) (by decide) (by decide)) (fun s7 t7 => okP_some ⟨t7.2.2, ⟨by show (s5.1.size : Int) ≤ _; omega, by show (s6.1.size : Int) ≤ _; omega⟩, hq.2, by simp, fun _ => ⟨t3.1, t3.2.1⟩⟩)))
  ·
   refine okP_bind (N_ok _ 4 h7.2.2 (by decide) (by decide)) (fun r9 h9 => ?_)
   refine okP_finB (msgL2_t 9223372036854775807 r9.2 [] r9.1 h9.2.2 (by simp; omega) h9.1 (by omega)) (fun q hq => ?_)
   refine okP_bind (N_ok _ 3 hq.1 (by decide) (by decide)) (fun s1 t1 => okP_bind (Range_ok _ 1 4 t1.2.2 (by decide) (by decide) (by decide)) (fun s2 t2 => okP_bind (Range_ok _ 1 4 t2.2.2 (by decide) (by decide) (by decide)) (fun s3 t3 => okP_bind (Pick_ok _ _ t3.2.2 (by decide) (by decide)) (fun s4 t4 => ?_))))
   refine okP_bind (letters_gen _ 1 6 t4.2 (by decide) (by decide) (by decide)) (fun s5 t5 => okP_bind (letters_gen _ 0 5 t5.1 (by decide) (by decide) (by decide)) (fun s6 t6 => okP_bind (Range_ok _ 0 3 t6.1 (by decide) (by decide) (by decide)) (fun s7 t7 => okP_some ⟨t7.2.2, ⟨by show (s5.1.size : Int) ≤ _; omega, by show (s6.1.size : Int) ≤ _; omega⟩, hq.2, by simp, fun _ => ⟨t3.1, t3.2.1⟩⟩)))

/-- what must hold of a registry before a message -/
def posOk (l : List Bag) (m : Message) (ps : List Plate) : Prop :=
 if (m.Kind = 1 ∨ m.Kind = 2) ∧ m.Do = 0 then l.length + ps.length ≤ 200 ∧ ∀ p ∈ ps, ¬ known l p else ∀ p ∈ ps, known l p

theorem idx_known {l : List Bag} {p : Plate} : 0 ≤ idxP p l 0 ↔ known l p := by
 rcases idxP_spec p l 0 with ⟨h1, h2⟩ | ⟨j, b, h1, h2, h3⟩
 ·
  rw [h1]
  exact ⟨fun h => by omega, fun ⟨b, hb, e⟩ => absurd e (h2 b hb)⟩
 ·
  rw [h1]
  exact ⟨fun _ => ⟨b, List.mem_of_getElem? h2, h3⟩, fun _ => by omega⟩
theorem posOk_goesOn {l : List Bag} {m : Message} {ps : List Plate} (h : posOk l m ps) (hp : ∀ p ∈ ps, validP p) : goesOn m l ps := by
 refine ⟨hp, ?_⟩
 unfold posOk at h
 split at h
 ·
  exact .inr (.inl h.1)
 ·
  exact .inr (.inr h)

theorem awake06 : law06_awake = some true := by kernel_rfl

end Go.Proofs.YtkliakcegihikaaGreat.Ex
