/- The registry's own Apply and Find give what the reference's give. -/
import Derived.Test.YtkliakcegihikaaRgJ
namespace Go.Proofs.Ytkliakcegihikaa.Ex
open Go.RowKit Go.Proofs.Ytkliakcegihikaa.Ax
set_option linter.unusedVariables false
set_option linter.unusedSimpArgs false

theorem mid_eq {a : Int} (h0 : 0 ≤ a) (h1 : a ≤ 1000000) : IntKind.i64.wrap (shrF .u64 (IntKind.u64.wrap (w64 a)) (1 : Int)) = a / 2 := by
  have e : IntKind.u64.wrap a = a := by
    unfold IntKind.wrap
    simp only [IntKind.bits, IntKind.signed]
    first
      | omega
      | (simp; omega)
  rw [w64_id (z := a) (by omega) (by omega), e]
  have : shrF .u64 a 1 = a / 2 := by
    unfold shrF
    rw [show min (Int.toNat 1) IntKind.u64.bits = 1 from rfl, Int.fdiv_eq_ediv_of_nonneg _ (by decide)]
    rfl
  rw [this]
  exact wrap64 (by omega) (by omega)

/-- the place of a plate -/
def pos (l : List Bag) (p : Plate) : Nat := (l.takeWhile (fun x => decide (plt x.Plate p))).length
theorem pos_le (l : List Bag) (p : Plate) : pos l p ≤ l.length := by unfold pos; exact (List.takeWhile_sublist _).length_le
theorem pos_cons (x : Bag) (l : List Bag) (p : Plate) : pos (x :: l) p = if plt x.Plate p then pos l p + 1 else 0 := by
  unfold pos
  by_cases h : plt x.Plate p
  · rw [List.takeWhile_cons_of_pos (by simpa using h), if_pos h, List.length_cons]
  · rw [List.takeWhile_cons_of_neg (by simpa using h), if_neg h]; rfl
theorem pos_lt (p : Plate) (l : List Bag) : ∀ (i : Nat) (b : Bag), sortedB l → l[i]? = some b → (plt b.Plate p ↔ i < pos l p) := by
  induction l with
  | nil => intro i b hs h; simp at h
  | cons x l ih =>
    intro i b hs h
    obtain ⟨h1, h2⟩ := sorted_cons.1 hs
    rw [pos_cons]
    cases i with
    | zero =>
      have e : x = b := by simpa using h
      rw [← e]
      by_cases hp : plt x.Plate p <;> simp [hp]
    | succ i =>
      have h : l[i]? = some b := by simpa using h
      have ih := ih i b h2 h
      by_cases hp : plt x.Plate p
      · rw [if_pos hp, ih]; omega
      · rw [if_neg hp]
        exact ⟨fun e => absurd (plt_trans (h1 b (List.mem_of_getElem? h)) e) hp, fun e => by omega⟩
theorem search_L (p : Plate) (l : List Bag) (hs : sortedB l) (hl : l.length ≤ 1000) : ∀ (n : Nat) (i j : Nat), i ≤ pos l p → pos l p ≤ j → j ≤ l.length → j - i < n → sort_Search_L1 l p n (i : Int) (j : Int) = some (Ctl.brk (pos l p : Int))
  | 0, i, j, h1, h2, h3, h4 => by omega
  | n + 1, i, j, h1, h2, h3, h4 => by
    rw [sort_Search_L1]
    by_cases hij : i < j
    · rw [decide_eq_true (by omega : (i : Int) < (j : Int)), cond_true, mid_eq (by omega) (by omega)]
      have hm : ((i : Int) + (j : Int)) / 2 = ((i + j) / 2 : Nat) := by omega
      rw [hm]
      have hlt : (i + j) / 2 < l.length := by omega
      have hx := List.getElem?_eq_getElem hlt
      unfold registry_at_f1
      rw [ixL_at' ((i + j) / 2) rfl hx, Option.bind_some, plcmp_eq, Option.bind_some, Option.bind_some]
      have hc := pos_lt p l _ _ hs hx
      by_cases hp : plt (l[(i + j) / 2]'hlt).Plate p
      · have := hc.1 hp
        rw [decide_eq_false (fun e => pcmp_nneg.1 e hp), Bool.not_false, cond_true, w64_id (by omega) (by omega)]
        have e : (((i + j) / 2 : Nat) : Int) + 1 = (((i + j) / 2 + 1 : Nat) : Int) := by omega
        rw [e]
        exact search_L p l hs hl n _ j (by omega) h2 h3 (by omega)
      · have : ¬ (i + j) / 2 < pos l p := fun e => hp (hc.2 e)
        rw [decide_eq_true (pcmp_nneg.2 hp), Bool.not_true, cond_false]
        exact search_L p l hs hl n i _ h1 (by omega) (by omega) (by omega)
    · rw [decide_eq_false (by omega : ¬ (i : Int) < (j : Int)), cond_false, show (i : Int) = (pos l p : Int) by omega]
theorem pos_known {l : List Bag} {p : Plate} (hs : sortedB l) : (∃ b, l[pos l p]? = some b ∧ b.Plate = p) ↔ known l p := by
  constructor
  · rintro ⟨b, h1, h2⟩
    exact ⟨b, List.mem_of_getElem? h1, h2⟩
  · rintro ⟨b, h1, rfl⟩
    obtain ⟨i, hi⟩ := List.mem_iff_getElem?.1 h1
    have c1 : ¬ i < pos l b.Plate := fun e => plt_irr ((pos_lt b.Plate l _ _ hs hi).2 e)
    have hil : i < l.length := by
      have := List.getElem?_eq_some_iff.1 hi
      exact this.1
    have hpl : pos l b.Plate < l.length := by omega
    have hx := List.getElem?_eq_getElem hpl
    have c2 : ¬ plt (l[pos l b.Plate]'hpl).Plate b.Plate := fun e => by have := (pos_lt b.Plate l _ _ hs hx).1 e; omega
    by_cases he : i = pos l b.Plate
    · exact ⟨b, by rw [← he]; exact hi, rfl⟩
    · have : plt (l[pos l b.Plate]'hpl).Plate (l[i]'hil).Plate := List.pairwise_iff_getElem.1 hs _ _ hpl hil (by omega)
      have hb : l[i]'hil = b := by rw [List.getElem?_eq_getElem hil] at hi; exact Option.some.inj hi
      rw [hb] at this
      exact absurd this c2
theorem known_uniq {a b : Bag} (e : a.Plate = b.Plate) (l : List Bag) : sortedB l → a ∈ l → b ∈ l → a = b := by
  induction l with
  | nil => intro hs ha hb; cases ha
  | cons x l ih =>
    intro hs ha hb
    obtain ⟨h1, h2⟩ := sorted_cons.1 hs
    rcases List.mem_cons.1 ha with ha | ha
    · rcases List.mem_cons.1 hb with hb | hb
      · rw [ha, hb]
      · have := h1 b hb; rw [← ha, e] at this; exact absurd this plt_irr
    · rcases List.mem_cons.1 hb with hb | hb
      · have := h1 a ha; rw [← hb, e] at this; exact absurd this plt_irr
      · exact ih h2 ha hb
/-- the search of the program -/
theorem at_eq (l : List Bag) (p : Plate) (h : RegOk l) : registry_at l p = some ((pos l p : Int), decide (known l p)) := by
  unfold registry_at sort_Search
  have hl := h.len
  have hL := search_L p l h.srt (by omega) 9223372036854775807 0 l.length (by omega) (pos_le l p) (by omega) (by omega)
  rw [show ((0 : Nat) : Int) = 0 from rfl] at hL
  rw [fin_brkE hL, Option.bind_some]
  by_cases hp : pos l p < l.length
  · simp only
    rw [decide_eq_true (by omega : (pos l p : Int) < (l.length : Int)), cond_true]
    have hx := List.getElem?_eq_getElem hp
    rw [ixL_at' (pos l p) rfl hx, Option.bind_some, plate_beq]
    rw [decide_eq_decide.2 (?_ : _ ↔ known l p)]
    rw [← pos_known h.srt]
    constructor
    · exact fun e => ⟨_, hx, e⟩
    · rintro ⟨b, h1, h2⟩
      rw [hx] at h1
      rw [Option.some.inj h1]
      exact h2
  · simp only
    rw [decide_eq_false (by omega : ¬ (pos l p : Int) < (l.length : Int)), cond_false]
    congr 2
    symm
    apply decide_eq_false
    rw [← pos_known h.srt]
    rintro ⟨b, h1, h2⟩
    rw [List.getElem?_eq_none (by omega)] at h1
    cases h1
theorem at_find {l : List Bag} {p : Plate} (h : RegOk l) (hk : known l p) : l[pos l p]? = some (findB p l) := by
  obtain ⟨b, h1, h2⟩ := (pos_known h.srt).2 hk
  obtain ⟨h3, h4⟩ := findB_in hk
  rw [h1, known_uniq (h2.trans h4.symm) l h.srt (List.mem_of_getElem? h1) h3]

def onwOk (l : List Bag) : Prop := ∀ b ∈ l, b.Onward.length ≤ 1000000
theorem copied_eq (b : Bag) (h : b.Onward.length ≤ 1000000) : registry_copied b = some b := by
  unfold registry_copied slices_Clone_Leg
  rw [apL_eq (by simp; omega), Option.bind_some]
  rfl
theorem clone_L : ∀ (l : List Bag) (k : Nat) (acc : List Bag), onwOk l → acc.length + l.length ≤ 1000000 → registry_clone_L1 l k acc = some (Ctl.brk (acc ++ l))
  | [], k, acc, h, hl => by rw [registry_clone_L1, List.append_nil]
  | b :: l, k, acc, h, hl => by
    rw [List.length_cons] at hl
    rw [registry_clone_L1, copied_eq b (h b (List.mem_cons_self ..)), Option.bind_some, apL_eq (by simp; omega), Option.bind_some, clone_L l (k + 1) _ (fun x hx => h x (List.mem_cons_of_mem _ hx)) (by simp; omega)]
    simp
theorem clone_eq (l : List Bag) (h : onwOk l) (hl : l.length ≤ 1000000) : registry_clone l = some l := by
  unfold registry_clone
  rw [clone_L l 0 [] h (by simp; omega), fin_brkE rfl, List.nil_append]
/-- Find of the program is Find of the reference -/
theorem find_eq (l : List Bag) (p : Plate) (h : RegOk l) (ho : onwOk l) : registry_Find ⟨l⟩ p = some (findB p l, decide (known l p)) := by
  unfold registry_Find
  rw [regValidate_eq, Option.bind_some]
  simp only
  rw [vReg_zero.2 h, show ((0 : Int) != 0) = false from rfl, cond_false, at_eq l p h, Option.bind_some]
  by_cases hk : known l p
  · simp only
    rw [decide_eq_true hk, Bool.not_true, cond_false, ixL_at' _ rfl (at_find h hk), Option.bind_some, copied_eq _ (ho _ (findB_in hk).1), Option.bind_some]
  · simp only
    rw [decide_eq_false hk, Bool.not_false, cond_true]
    have : findB p l = zBag := by
      unfold findB
      rw [List.find?_eq_none.2 (fun x hx => by simpa using fun e => hk ⟨x, hx, e⟩)]
      rfl
    rw [this]
    rfl

theorem runL_eq (p : Plate) (c : Int) : ∀ (n : Nat) (acc : List Plate) (i : Int), plate_Run_L1 p c n acc i = ref01_Run_L1 p c n acc i
  | 0, acc, i => rfl
  | n + 1, acc, i => by
    rw [plate_Run_L1, ref01_Run_L1]
    simp only [runL_eq p c n]
theorem plates_eq (m : Message) : message_Plates m = ref04_Plates m := by
  unfold message_Plates ref04_Plates plate_Run ref01_Run
  simp only [plvalid_eq, refvalid_eq, runL_eq]

def freshM (m : Message) : Prop := (m.Kind = 1 ∨ m.Kind = 2) ∧ m.Do = 0
instance (m : Message) : Decidable (freshM m) := by unfold freshM; infer_instance
theorem fresh_eq (m : Message) : registry_fresh m = some (decide (freshM m)) := by
  unfold registry_fresh freshM
  have d1 : (m.Kind == 1) = decide (m.Kind = 1) := rfl
  have d2 : (m.Kind == 2) = decide (m.Kind = 2) := rfl
  have d0 : (m.Do == 0) = decide (m.Do = 0) := rfl
  rw [d1, d2, d0]
  by_cases h1 : m.Kind = 1 <;> by_cases h2 : m.Kind = 2 <;> by_cases h0 : m.Do = 0 <;> simp [h1, h2, h0]
def badF (l : List Bag) (m : Message) (p : Plate) : Prop := m.Kind = 4 ∧ (findB p l).Out.Flight ≠ m.Out.Flight
instance (l : List Bag) (m : Message) (p : Plate) : Decidable (badF l m p) := by unfold badF; infer_instance
theorem ref_L (l : List Bag) (m : Message) (h : RegOk l) : ∀ (ps : List Plate) (k : Nat) (a : Int), registry_refused_L1 l m ps k a = some (if freshM m then (if ∃ p ∈ ps, known l p then .ret 5 else .brk a) else if ∃ p ∈ ps, ¬ known l p then .ret 6 else .brk (if ∃ p ∈ ps, badF l m p then 7 else a))
  | [], k, a => by simp [registry_refused_L1]
  | p :: ps, k, a => by
    rw [registry_refused_L1, at_eq l p h, Option.bind_some]
    simp only [fresh_eq, Option.bind_some]
    by_cases hf : freshM m
    · by_cases hk : known l p
      · simp [hf, hk]
      · rw [decide_eq_false hk, cond_false, decide_eq_true hf, Bool.not_true, cond_false, ref_L l m h ps]
        simp [hf, hk]
    · by_cases hk : known l p
      · rw [decide_eq_true hk, cond_true, decide_eq_false hf, cond_false, if_neg hf]
        have e1 : (∃ q ∈ p :: ps, ¬ known l q) ↔ ∃ q ∈ ps, ¬ known l q := by simp [hk]
        by_cases h4 : m.Kind = 4
        · rw [show (m.Kind == 4) = true by simp [h4], cond_true, ixL_at' _ rfl (at_find h hk), Option.bind_some, flight_beq]
          by_cases hb : (findB p l).Out.Flight = m.Out.Flight
          · rw [decide_eq_true hb, Bool.not_true, cond_false, ref_L l m h ps, if_neg hf]
            have e2 : (∃ q ∈ p :: ps, badF l m q) ↔ ∃ q ∈ ps, badF l m q := by simp [badF, hb]
            simp only [e1, e2]
          · rw [decide_eq_false hb, Bool.not_false, cond_true, ref_L l m h ps, if_neg hf]
            have e2 : (∃ q ∈ p :: ps, badF l m q) ↔ True := by simp [badF, hb, h4]
            simp only [e1, e2, if_true]
            congr 1
            split
            · rfl
            · split <;> rfl
        · rw [show (m.Kind == 4) = false by simp [h4], cond_false, ref_L l m h ps, if_neg hf]
          have e2 : (∃ q ∈ p :: ps, badF l m q) ↔ ∃ q ∈ ps, badF l m q := by simp [badF, h4]
          simp only [e1, e2]
      · rw [decide_eq_false hk, cond_false, decide_eq_false hf, Bool.not_false, cond_true, if_neg hf, if_pos ⟨p, List.mem_cons_self .., hk⟩]
theorem pos1_v (l : List Bag) (m : Message) : ∀ (ps : List Plate) (k : Nat), ref06_possible_L1 ⟨l⟩ m ps k = some (if m.Do = 0 then (if ∃ p ∈ ps, known l p then .ret 5 else .brk ()) else if ∃ p ∈ ps, ¬ known l p then .ret 6 else .brk ())
  | [], k => by simp [ref06_possible_L1]
  | p :: ps, k => by
    rw [ref06_possible_L1, index_eq, Option.bind_some, pos1_v l m ps (k + 1)]
    have d0 : (m.Do == 0) = decide (m.Do = 0) := rfl
    have di : decide (0 ≤ idxP p (⟨l⟩ : Registry).L 0) = decide (known l p) := decide_eq_decide.2 idx_known
    rw [d0, di]
    by_cases h0 : m.Do = 0 <;> by_cases hk : known l p <;> simp [h0, hk]
theorem pos4_v (l : List Bag) : ∀ (ps : List Plate) (k : Nat), ref06_possible_L4 ⟨l⟩ ps k = some (if ∃ p ∈ ps, ¬ known l p then .ret 6 else .brk ())
  | [], k => by simp [ref06_possible_L4]
  | p :: ps, k => by
    rw [ref06_possible_L4, index_eq, Option.bind_some, pos4_v l ps (k + 1)]
    have di : decide (0 ≤ idxP p (⟨l⟩ : Registry).L 0) = decide (known l p) := decide_eq_decide.2 idx_known
    rw [di]
    by_cases hk : known l p <;> simp [hk]
theorem pos2_v (l : List Bag) (m : Message) (hr : RegOk l) : ∀ (ps : List Plate) (k : Nat), (m.Kind = 4 → ∀ p ∈ ps, known l p) → ref06_possible_L2 ⟨l⟩ m ps k = some (if ∃ p ∈ ps, badF l m p then .ret 7 else .brk ())
  | [], k, _ => by simp [ref06_possible_L2]
  | p :: ps, k, h => by
    rw [ref06_possible_L2]
    by_cases h4 : m.Kind = 4
    · rw [show (m.Kind == 4) = true by simp [h4], cond_true, index_eq, Option.bind_some]
      have hk := h h4 p (List.mem_cons_self ..)
      rcases find_idx p l 0 with ⟨h1, h2⟩ | ⟨j, b, h1, h2, h3⟩
      · have : ¬ 0 ≤ idxP p l 0 := by omega
        exact absurd (idx_known.2 hk) this
      · have hb : findB p l = b := by unfold findB; rw [h3]; rfl
        rw [ixL_at' j (by show idxP p l 0 = _; rw [h1]; omega) h2, Option.bind_some, flight_beq, pos2_v l m hr ps (k + 1) (fun e q hq => h e q (List.mem_cons_of_mem _ hq)), ← hb]
        by_cases he : (findB p l).Out.Flight = m.Out.Flight
        · have e2 : (∃ q ∈ p :: ps, badF l m q) ↔ ∃ q ∈ ps, badF l m q := by simp [badF, he]
          rw [decide_eq_true he, Bool.not_true, cond_false]
          simp only [e2]
        · rw [decide_eq_false he, Bool.not_false, cond_true, if_pos ⟨p, List.mem_cons_self .., h4, he⟩]
    · rw [show (m.Kind == 4) = false by simp [h4], cond_false, if_neg (fun ⟨q, _, e, _⟩ => h4 e)]
/-- what speaks against a message -/
def refB (l : List Bag) (m : Message) (ps : List Plate) : Int :=
  if freshM m then (if ∃ p ∈ ps, known l p then 5 else if 200 < l.length + ps.length then 2 else 0) else if ∃ p ∈ ps, ¬ known l p then 6 else if ∃ p ∈ ps, badF l m p then 7 else 0
theorem refused_eq (l : List Bag) (m : Message) (ps : List Plate) (h : RegOk l) (hp : ps.length ≤ 99) : registry_refused l m ps = some (refB l m ps) := by
  have hl := h.len
  unfold registry_refused refB
  rw [ref_L l m h ps]
  simp only [fresh_eq, Option.bind_some]
  rw [w64_id (z := (l.length : Int) + (ps.length : Int)) (by omega) (by omega)]
  by_cases hf : freshM m
  · rw [if_pos hf, if_pos hf, decide_eq_true hf]
    split
    · exact fin_retE rfl
    · rw [fin_brkE rfl, cond_true]
      by_cases h2 : 200 < l.length + ps.length
      · rw [decide_eq_true (by omega : (200 : Int) < (l.length : Int) + (ps.length : Int)), cond_true, if_pos h2]
      · rw [decide_eq_false (by omega : ¬ (200 : Int) < (l.length : Int) + (ps.length : Int)), cond_false, if_neg h2]
  · rw [if_neg hf, if_neg hf, decide_eq_false hf]
    split
    · exact fin_retE rfl
    · rw [fin_brkE rfl, cond_false]
theorem possible_eq (l : List Bag) (m : Message) (ps : List Plate) (h : RegOk l) (hp : ps.length ≤ 99) : ref06_possible ⟨l⟩ m ps = some (refB l m ps) := by
  have hl := h.len
  unfold ref06_possible refB
  rw [bag_eq, Option.bind_some]
  simp only
  rw [w64_id (z := (l.length : Int) + (ps.length : Int)) (by omega) (by omega)]
  have d0 : (m.Do == 0) = decide (m.Do = 0) := rfl
  rw [d0]
  by_cases hb : m.Kind = 1 ∨ m.Kind = 2
  · have h4 : ¬ m.Kind = 4 := by omega
    have nb : ¬ ∃ p ∈ ps, badF l m p := fun ⟨_, _, e, _⟩ => h4 e
    rw [decide_eq_true hb, cond_true, pos1_v l m ps 0, pos2_v l m h ps 0 (fun e => absurd e h4), if_neg nb, if_neg nb]
    by_cases h0 : m.Do = 0
    · rw [if_pos h0, decide_eq_true h0, if_pos (show freshM m from ⟨hb, h0⟩)]
      split
      · exact fin_retE rfl
      · rw [fin_brkE rfl, cond_true]
        by_cases h2 : 200 < l.length + ps.length
        · rw [decide_eq_true (by omega : (200 : Int) < (l.length : Int) + (ps.length : Int)), cond_true, if_pos h2]
        · rw [decide_eq_false (by omega : ¬ (200 : Int) < (l.length : Int) + (ps.length : Int)), cond_false, if_neg h2, fin_brkE rfl]
    · rw [if_neg h0, decide_eq_false h0, if_neg (show ¬ freshM m from fun e => h0 e.2)]
      split
      · exact fin_retE rfl
      · rw [fin_brkE rfl, cond_false, fin_brkE rfl]
  · rw [decide_eq_false hb, cond_false, pos4_v l ps 0, if_neg (show ¬ freshM m from fun e => hb e.1)]
    split
    · exact fin_retE rfl
    · rename_i hk
      have hk : ∀ p ∈ ps, known l p := fun p hp => Classical.byContradiction fun e => hk ⟨p, hp, e⟩
      rw [fin_brkE rfl, pos2_v l m h ps 0 (fun _ => hk)]
      split
      · exact fin_retE rfl
      · exact fin_brkE rfl
end Go.Proofs.Ytkliakcegihikaa.Ex
