/- Lanes: what the printed functions of the program and of the reference give: both the same. -/
import Derived.Test.YtkefkegknacpjaaLn0
namespace Go.Proofs.Ytkefkegknacpjaa.Ex
open Go.RowKit Go.Proofs.Ytkefkegknacpjaa.Ax
set_option linter.unusedVariables false
set_option linter.unusedSimpArgs false

/-- the place of a bag in a lane -/
def idxL (b : Int) : List Stored → Option Nat
  | [] => none
  | s :: l => if s.Bag = b then some 0 else (idxL b l).map (· + 1)
def findL (b : Int) : List (List Stored) → Option (Nat × Nat)
  | [] => none
  | l :: L => match idxL b l with
    | some i => some (0, i)
    | none => (findL b L).map fun p => (p.1 + 1, p.2)
def fR : Option (Nat × Nat) → Int × Int
  | none => (-1, -1)
  | some p => ((p.1 : Int), (p.2 : Int))

theorem indexF_L (b : Int) : ∀ (l : List Stored) (k : Nat), slices_IndexFunc_Stored_L1 b l k = some (match idxL b l with | some i => .ret ((k + i : Nat) : Int) | none => .brk ())
  | [], k => rfl
  | s :: l, k => by
    rw [slices_IndexFunc_Stored_L1]
    simp only [lanes_find_f1, Option.bind_some, idxL]
    by_cases h : s.Bag = b
    · rw [if_pos h, show (s.Bag == b) = true from by simpa using h]; rfl
    · rw [if_neg h, show (s.Bag == b) = false from by simpa using h, cond_false, indexF_L b l (k + 1)]
      cases idxL b l with
      | none => rfl
      | some i => simp only [Option.map_some]; rw [show k + 1 + i = k + (i + 1) by omega]
theorem indexF_eq (b : Int) (l : List Stored) : slices_IndexFunc_Stored l b = some (match idxL b l with | some i => (i : Int) | none => -1) := by
  unfold slices_IndexFunc_Stored
  rw [indexF_L]
  cases idxL b l with
  | none => rfl
  | some i => simp [Ctl.fin]
theorem find_L (b : Int) : ∀ (L : List (List Stored)) (k : Nat), lanes_find_L1 b L k = some (match findL b L with | some p => .ret (((k + p.1 : Nat) : Int), (p.2 : Int)) | none => .brk ())
  | [], k => rfl
  | l :: L, k => by
    rw [lanes_find_L1, indexF_eq]
    simp only [Option.bind_some, findL]
    cases h : idxL b l with
    | some i =>
      simp only
      rw [show decide ((0 : Int) ≤ (i : Int)) = true from by simp]; rfl
    | none =>
      simp only
      rw [show decide ((0 : Int) ≤ (-1 : Int)) = false from rfl, cond_false, find_L b L (k + 1)]
      cases findL b L with
      | none => rfl
      | some p => simp only [Option.map_some]; rw [show k + 1 + p.1 = k + (p.1 + 1) by omega]
theorem find_eq (x : Lanes) (b : Int) : lanes_find x b = some (fR (findL b x.L)) := by
  unfold lanes_find
  rw [find_L]
  cases findL b x.L with
  | none => rfl
  | some p => simp [Ctl.fin, fR]
theorem rfind_L2 (b : Int) (n : Nat) : ∀ (l : List Stored) (k : Nat), ref17_find_L2 b n l k = some (match idxL b l with | some i => .ret ((n : Int), ((k + i : Nat) : Int)) | none => .brk ())
  | [], k => rfl
  | s :: l, k => by
    rw [ref17_find_L2]
    simp only [idxL]
    by_cases h : s.Bag = b
    · rw [if_pos h, show (s.Bag == b) = true from by simpa using h]; rfl
    · rw [if_neg h, show (s.Bag == b) = false from by simpa using h, cond_false, rfind_L2 b n l (k + 1)]
      cases idxL b l with
      | none => rfl
      | some i => simp only [Option.map_some]; rw [show k + 1 + i = k + (i + 1) by omega]
theorem rfind_L (b : Int) : ∀ (L : List (List Stored)) (k : Nat), ref17_find_L1 b L k = some (match findL b L with | some p => .ret (((k + p.1 : Nat) : Int), (p.2 : Int)) | none => .brk ())
  | [], k => rfl
  | l :: L, k => by
    rw [ref17_find_L1, rfind_L2]
    simp only [findL]
    cases h : idxL b l with
    | some i => simp [Ctl.sub]
    | none =>
      simp only [Ctl.sub]
      rw [rfind_L b L (k + 1)]
      cases findL b L with
      | none => rfl
      | some p => simp only [Option.map_some]; rw [show k + 1 + p.1 = k + (p.1 + 1) by omega]
theorem rfind_eq (x : Lanes) (b : Int) : ref17_find x b = some (fR (findL b x.L)) := by
  unfold ref17_find
  rw [rfind_L]
  cases findL b x.L with
  | none => rfl
  | some p => simp [Ctl.fin, fR]

theorem idxL_some {b : Int} : ∀ {l : List Stored} {i : Nat}, idxL b l = some i → ∃ s, l[i]? = some s ∧ s.Bag = b
  | s :: l, i, h => by
    simp only [idxL] at h
    split at h
    · rename_i hs; cases h; exact ⟨s, rfl, hs⟩
    · cases hi : idxL b l with
      | none => rw [hi] at h; cases h
      | some j =>
        rw [hi] at h
        cases h
        obtain ⟨s', h1, h2⟩ := idxL_some hi
        exact ⟨s', by simpa using h1, h2⟩
theorem idxL_none {b : Int} : ∀ {l : List Stored}, idxL b l = none ↔ ∀ s ∈ l, s.Bag ≠ b
  | [] => by simp [idxL]
  | s :: l => by
    simp only [idxL, List.mem_cons, forall_eq_or_imp]
    by_cases h : s.Bag = b
    · simp [h]
    · rw [if_neg h]
      simp [h, ← idxL_none (l := l)]
theorem findL_some {b : Int} : ∀ {L : List (List Stored)} {p : Nat × Nat}, findL b L = some p → ∃ l, L[p.1]? = some l ∧ idxL b l = some p.2
  | l :: L, p, h => by
    simp only [findL] at h
    cases hi : idxL b l with
    | some i => rw [hi] at h; cases h; exact ⟨l, rfl, hi⟩
    | none =>
      rw [hi] at h
      simp only at h
      cases hf : findL b L with
      | none => rw [hf] at h; cases h
      | some q =>
        rw [hf] at h
        cases h
        obtain ⟨l', h1, h2⟩ := findL_some hf
        exact ⟨l', by simpa using h1, h2⟩
theorem findL_none {b : Int} : ∀ {L : List (List Stored)}, findL b L = none ↔ ∀ l ∈ L, ∀ s ∈ l, s.Bag ≠ b
  | [] => by simp [findL]
  | l :: L => by
    simp only [findL, List.mem_cons, forall_eq_or_imp]
    cases hi : idxL b l with
    | some i =>
      obtain ⟨s, h1, h2⟩ := idxL_some hi
      simp only [reduceCtorEq, false_iff, not_and]
      intro h
      exact absurd h2 (h s (List.mem_of_getElem? h1))
    | none =>
      simp only [Option.map_eq_none_iff]
      rw [findL_none (L := L)]
      exact ⟨fun h => ⟨idxL_none.1 hi, h⟩, fun h => h.2⟩

/-- few enough -/
structure LOk (x : Lanes) : Prop where
  n : x.L.length ≤ 20
  d : x.Depth ≤ 20
  l : ∀ l ∈ x.L, l.length ≤ 20
  e : ∀ l ∈ x.L, (l.length : Int) ≤ x.Depth

theorem clone_L : ∀ (L : List (List Stored)) (k : Nat) (a : List (List Stored)), (a.length + L.length ≤ 1000) → (∀ l ∈ L, l.length ≤ 20) → lanes_clone_L1 L k a = some (.brk (a ++ L))
  | [], k, a, _, _ => by simp [lanes_clone_L1]
  | l :: L, k, a, h, hl => by
    rw [lanes_clone_L1]
    unfold slices_Clone_Stored
    have h1 := hl l (by simp)
    simp only [List.length_cons] at h
    rw [apL_eq (by simp; omega)]
    simp only [List.nil_append, Option.bind_some]
    rw [apL_eq (by simp; omega)]
    simp only [Option.bind_some]
    rw [clone_L L (k + 1) (a ++ [l]) (by simp; omega) (fun l' h' => hl l' (by simp [h']))]
    simp
theorem clone_eq {x : Lanes} (h : LOk x) : lanes_clone x = some x := by
  unfold lanes_clone
  rw [clone_L x.L 0 [] (by have := h.n; simp; omega) h.l]
  rfl
theorem with_L (n : Nat) (lane : List Stored) : ∀ (L : List (List Stored)) (k : Nat) (a : List (List Stored)), (a.length + L.length ≤ 1000) → (∀ l ∈ L, l.length ≤ 20) → ref17_with_L1 n lane L k a = some (.brk (a ++ (if k ≤ n then L.set (n - k) lane else L)))
  | [], k, a, _, _ => by simp [ref17_with_L1]
  | l :: L, k, a, h, hl => by
    rw [ref17_with_L1]
    have h1 := hl l (by simp)
    simp only [List.length_cons] at h
    by_cases hk : k = n
    · subst hk
      rw [show ((k : Int) == (k : Int)) = true from by simp, cond_true, apL_eq (by simp; omega)]
      simp only [Option.bind_some]
      rw [with_L k lane L (k + 1) (a ++ [lane]) (by simp; omega) (fun l' h' => hl l' (by simp [h'])), if_neg (by omega), if_pos (Nat.le_refl _)]
      simp
    · rw [show ((k : Int) == (n : Int)) = false from by simp; omega, cond_false, apL_eq (by simp; omega)]
      simp only [List.nil_append, Option.bind_some]
      rw [apL_eq (by simp; omega)]
      simp only [Option.bind_some]
      rw [with_L n lane L (k + 1) (a ++ [l]) (by simp; omega) (fun l' h' => hl l' (by simp [h']))]
      by_cases hlt : k ≤ n
      · rw [if_pos hlt, if_pos (by omega)]
        obtain ⟨m, hm⟩ : ∃ m, n - k = m + 1 := ⟨n - k - 1, by omega⟩
        rw [hm, show n - (k + 1) = m by omega]
        simp
      · rw [if_neg hlt, if_neg (by omega)]
        simp
theorem with_eq {x : Lanes} (h : LOk x) (n : Nat) (lane : List Stored) : ref17_with x n lane = some ⟨x.Depth, x.L.set n lane⟩ := by
  unfold ref17_with
  rw [with_L n lane x.L 0 [] (by have := h.n; simp; omega) h.l]
  simp [Ctl.fin]
theorem concat_eq (a b : List Stored) (ha : a.length ≤ 20) (hb : b.length ≤ 20) : slices_Concat_Stored [a, b] = some (a ++ b) := by
  unfold slices_Concat_Stored
  rw [slices_Concat_Stored_L1, w64_id (by omega) (by omega), decide_eq_false (by omega), cond_false, slices_Concat_Stored_L1, w64_id (by omega) (by omega), decide_eq_false (by omega), cond_false, slices_Concat_Stored_L1]
  simp only [Ctl.fin, slices_Grow_Stored, growL]
  rw [if_pos (by omega)]
  simp only [Option.bind_some]
  rw [slices_Concat_Stored_L2, apL_eq (by simp; omega)]
  simp only [List.nil_append, Option.bind_some]
  rw [slices_Concat_Stored_L2, apL_eq (by omega)]
  simp only [Option.bind_some]
  rw [slices_Concat_Stored_L2]

theorem hd_get {α : Type} {l rest : List α} {x : α} {k : Nat} (h : l.drop k = x :: rest) : l[k]? = some x ∧ l.drop (k + 1) = rest := by
  refine ⟨?_, ?_⟩
  · rw [← List.head?_drop, h]; rfl
  · rw [← List.tail_drop, h]; rfl
theorem same_L2 (x : Lanes) (n : Nat) (l : List Stored) (hn : x.L[n]? = some l) : ∀ (rest : List Stored) (k : Nat), l.drop k = rest → ref17_Same_L2 x n rest k = some (.brk ())
  | [], k, _ => rfl
  | s :: rest, k, h => by
    obtain ⟨h1, h2⟩ := hd_get h
    rw [ref17_Same_L2, ixL_at' n rfl hn]
    simp only [Option.bind_some]
    rw [ixL_at' k rfl h1]
    simp only [Option.bind_some, beq_self_eq_true, Bool.and_self, Bool.not_true, cond_false]
    exact same_L2 x n l hn rest (k + 1) h2
theorem same_L (x : Lanes) : ∀ (rest : List (List Stored)) (k : Nat), x.L.drop k = rest → ref17_Same_L1 x rest k = some (.brk ())
  | [], k, _ => rfl
  | l :: rest, k, h => by
    obtain ⟨h1, h2⟩ := hd_get h
    rw [ref17_Same_L1, ixL_at' k rfl h1]
    simp only [Option.bind_some, bne_self_eq_false, cond_false]
    rw [same_L2 x k l h1 l 0 rfl]
    simp only [Ctl.sub]
    exact same_L x rest (k + 1) h2
theorem same_eq (x : Lanes) : ref17_Same x x = some true := by
  unfold ref17_Same
  simp only [bne_self_eq_false, cond_false]
  rw [same_L x x.L 0 rfl]
  rfl
theorem ints_L (l : List Int) : ∀ (rest : List Int) (k : Nat), l.drop k = rest → keep_Ints_L1 l rest k = some (.brk ())
  | [], k, _ => rfl
  | s :: rest, k, h => by
    obtain ⟨h1, h2⟩ := hd_get h
    rw [keep_Ints_L1, ixL_at' k rfl h1]
    simp only [Option.bind_some, bne_self_eq_false, cond_false]
    exact ints_L l rest (k + 1) h2
theorem ints_eq (l : List Int) : keep_Ints l l = some true := by
  unfold keep_Ints
  simp only [bne_self_eq_false, cond_false]
  rw [ints_L l l 0 rfl]
  rfl

/-! the lane that a bag gets -/
theorem lane_get {L : List (List Stored)} {k : Nat} {l : List Stored} (h : L[k]? = some l) : laneF L (k : Int) = l := by
  unfold laneF
  rw [show (k : Int).toNat = k by omega, h]
  rfl
theorem lane_at {L : List (List Stored)} {i : Int} (h0 : 0 ≤ i) (h1 : i < L.length) : L[i.toNat]? = some (laneF L i) := by
  have : i.toNat < L.length := by omega
  unfold laneF
  rw [List.getElem?_eq_getElem this]
  rfl
theorem last_at {l : List Stored} (h : l.length ≠ 0) (hl : l.length ≤ 20) : ∃ s, ixL l (w64 ((l.length : Int) - 1)) = some s ∧ s.Due = lastD l := by
  have hlt : l.length - 1 < l.length := by omega
  refine ⟨l[l.length - 1], ?_, ?_⟩
  · rw [w64_id (by omega) (by omega)]
    exact ixL_at' (l.length - 1) (by omega) (List.getElem?_eq_getElem hlt)
  · unfold lastD
    rw [List.getElem?_eq_getElem hlt]
theorem f1_eq {x : Lanes} (hx : LOk x) {i : Int} (h0 : 0 ≤ i) (h1 : i < x.L.length) (h : (laneF x.L i).length ≠ 0) : lanes_choose_f1 i x = some (lastD (laneF x.L i)) := by
  have ha := lane_at h0 h1
  unfold lanes_choose_f1
  rw [ixL_at' i.toNat (by omega) ha]
  simp only [Option.bind_some]
  obtain ⟨s, e1, e2⟩ := last_at h (hx.l _ (List.mem_of_getElem? ha))
  rw [e1]
  simp only [Option.bind_some, e2]

theorem drop_end {α : Type} {l : List α} {k : Nat} (hk : k ≤ l.length) (h : l.drop k = []) : k = l.length := by
  have := List.drop_eq_nil_iff.1 h
  omega
theorem choose_L {x : Lanes} (hx : LOk x) (due : Int) : ∀ (rest : List (List Stored)) (k : Nat) (c : Int × Int × Int), k ≤ x.L.length → x.L.drop k = rest → c = chS x.Depth due x.L k → lanes_choose_L1 x due rest k c.2.1 c.1 c.2.2 = some (.brk (chS x.Depth due x.L x.L.length))
  | [], k, c, hk, h, hc => by
    obtain rfl := drop_end hk h
    rw [lanes_choose_L1, ← hc]
  | l :: rest, k, c, hk, h, hc => by
    obtain ⟨h1, h2⟩ := hd_get h
    have hkl := (List.getElem?_eq_some_iff.1 h1).1
    have hin := chS_inv x.Depth due x.L k
    rw [← hc] at hin
    have hl := lane_get h1
    have hn : chS x.Depth due x.L (k + 1) = chStep x.Depth due x.L k c := by rw [chS, ← hc]
    have ih := fun d hd => choose_L hx due rest (k + 1) d hkl h2 hd
    rw [hn] at ih
    unfold chStep at ih
    rw [hl] at ih
    obtain ⟨f, e, m⟩ := c
    obtain ⟨g1, g2, g3, g4, g5, g6⟩ := hin
    simp only at g1 g2 g3 g4 g5 g6 ih ⊢
    rw [lanes_choose_L1]
    by_cases a1 : x.Depth ≤ (l.length : Int)
    · rw [decide_eq_true a1, cond_true]
      rw [if_pos a1] at ih
      exact ih _ rfl
    rw [decide_eq_false a1, cond_false]
    rw [if_neg a1] at ih
    by_cases a2 : l.length = 0
    · rw [show ((l.length : Int) == (0 : Int)) = true from by simp [a2], cond_true]
      rw [if_pos a2] at ih
      by_cases a3 : e < 0
      · rw [decide_eq_true a3, cond_true]
        rw [if_pos a3] at ih
        exact ih _ rfl
      · rw [decide_eq_false a3, cond_false]
        rw [if_neg a3] at ih
        exact ih _ rfl
    rw [show ((l.length : Int) == (0 : Int)) = false from beq_false_of_ne (by omega), cond_false]
    rw [if_neg a2] at ih
    have hk1 : lanes_choose_f1 (k : Int) x = some (lastD l) := by
      have := f1_eq hx (i := (k : Int)) (by omega) (by omega) (by rw [hl]; exact a2)
      rwa [hl] at this
    have hf : 0 ≤ f → lanes_choose_f1 f x = some (lastD (laneF x.L f)) := fun h => f1_eq hx h (by have := g1.2; omega) (g4 h).1
    have hm : 0 ≤ m → lanes_choose_f1 m x = some (lastD (laneF x.L m)) := fun h => f1_eq hx h (by have := g3.2; omega) (g6 h).1
    rw [hk1]
    simp only [Option.bind_some]
    -- what is done with the least lane
    have least : ∀ f' : Int, (∀ d, d = (f', e, if m < 0 ∨ lastD l < lastD (laneF x.L m) then (k : Int) else m) → lanes_choose_L1 x due rest (k + 1) d.2.1 d.1 d.2.2 = some (.brk (chS x.Depth due x.L x.L.length))) →
        cond (decide (m < 0)) (lanes_choose_L1 x due rest (k + 1) e f' (k : Int)) ((some (lastD l)).bind fun r8 => (lanes_choose_f1 m x).bind fun r9 => cond (decide (r8 < r9)) (lanes_choose_L1 x due rest (k + 1) e f' (k : Int)) (lanes_choose_L1 x due rest (k + 1) e f' m)) = some (.brk (chS x.Depth due x.L x.L.length)) := fun f' ih => by
      by_cases b1 : m < 0
      · rw [decide_eq_true b1, cond_true]
        rw [if_pos (.inl b1)] at ih
        exact ih _ rfl
      · rw [decide_eq_false b1, cond_false, hm (by omega)]
        simp only [Option.bind_some]
        by_cases b2 : lastD l < lastD (laneF x.L m)
        · rw [decide_eq_true b2, cond_true]
          rw [if_pos (.inr b2)] at ih
          exact ih _ rfl
        · rw [decide_eq_false b2, cond_false]
          rw [if_neg (by omega)] at ih
          exact ih _ rfl
    by_cases a3 : lastD l ≤ due
    · rw [decide_eq_true a3, cond_true]
      by_cases a4 : f < 0
      · rw [decide_eq_true a4, cond_true]
        rw [if_pos ⟨a3, .inl a4⟩] at ih
        exact least _ ih
      · rw [decide_eq_false a4, cond_false, hf (by omega)]
        simp only [Option.bind_some]
        by_cases a5 : lastD (laneF x.L f) < lastD l
        · rw [decide_eq_true a5, cond_true]
          rw [if_pos ⟨a3, .inr a5⟩] at ih
          exact least _ ih
        · rw [decide_eq_false a5, cond_false]
          rw [if_neg (by rintro ⟨_, h | h⟩ <;> omega)] at ih
          exact least _ ih
    · rw [decide_eq_false a3, cond_false]
      rw [if_neg (fun h => a3 h.1)] at ih
      exact least _ ih
theorem choose_eq {x : Lanes} (hx : LOk x) (due : Int) : lanes_choose x due = some (bestL x.Depth due x.L x.L.length) := by
  unfold lanes_choose
  have := choose_L hx due x.L 0 (-1, -1, -1) (Nat.zero_le _) rfl rfl
  simp only at this
  rw [this, best_pick]
  simp only [Ctl.fin, pick, cond_ite, decide_eq_true_eq]
  (repeat' split) <;> rfl

theorem rank_eq {l : List Stored} (hl : l.length ≤ 20) (due : Int) : ref17_rank l due = some (rankF l due) := by
  unfold ref17_rank rankF
  by_cases h : l.length = 0
  · rw [show ((l.length : Int) == (0 : Int)) = true from by simp [h], if_pos h]; rfl
  · rw [show ((l.length : Int) == (0 : Int)) = false from beq_false_of_ne (by omega), cond_false, if_neg h]
    obtain ⟨s, e1, e2⟩ := last_at h hl
    rw [e1]
    simp only [Option.bind_some, e2]
    by_cases h2 : lastD l ≤ due
    · rw [decide_eq_true h2, if_pos h2]; rfl
    · rw [decide_eq_false h2, if_neg h2]; rfl
theorem better_eq {a b : List Stored} (ha : a.length ≤ 20) (hb : b.length ≤ 20) (due : Int) : ref17_better a b due = some (betF a b due) := by
  unfold ref17_better betF
  rw [rank_eq ha, rank_eq hb]
  simp only [Option.bind_some]
  by_cases h1 : rankF a due = rankF b due
  · rw [show (rankF a due != rankF b due) = false from by simp [h1], cond_false]
    by_cases h2 : rankF a due = 1
    · rw [show (rankF a due == 1) = true from by simp [h2], cond_true, if_pos (.inr h2)]
    · rw [show (rankF a due == 1) = false from by simpa using h2, cond_false, if_neg (by rintro (h | h); exact h h1; exact h2 h)]
      have na : a.length ≠ 0 := fun h => h2 (rank_empty h)
      have nb : b.length ≠ 0 := fun h => h2 (h1.trans (rank_empty h))
      obtain ⟨s, e1, e2⟩ := last_at na ha
      obtain ⟨t, e3, e4⟩ := last_at nb hb
      rw [e1, e3]
      simp only [Option.bind_some, e2, e4]
      by_cases h3 : rankF a due = 0
      · rw [show (rankF a due == 0) = true from by simp [h3], cond_true, if_pos h3]
      · rw [show (rankF a due == 0) = false from by simpa using h3, cond_false, if_neg h3]
  · rw [show (rankF a due != rankF b due) = true from by simpa using h1, cond_true, if_pos (.inl h1)]
theorem bestL_in (d due : Int) (L : List (List Stored)) (k : Nat) : -1 ≤ bestL d due L k ∧ bestL d due L k < k := by
  have h := chS_inv d due L k
  rw [best_pick]
  obtain ⟨h1, h2, h3, _, _, _⟩ := h
  unfold pick
  (repeat' split) <;> omega
theorem rput_L {x : Lanes} (hx : LOk x) (s : Stored) : ∀ (rest : List (List Stored)) (k : Nat), k ≤ x.L.length → x.L.drop k = rest → ref17_Put_L1 x s rest k (bestL x.Depth s.Due x.L k) = some (.brk (bestL x.Depth s.Due x.L x.L.length))
  | [], k, hk, h => by
    obtain rfl := drop_end hk h
    rw [ref17_Put_L1]
  | l :: rest, k, hk, h => by
    obtain ⟨h1, h2⟩ := hd_get h
    have hkl := (List.getElem?_eq_some_iff.1 h1).1
    have hl := lane_get h1
    have ih := rput_L hx s rest (k + 1) hkl h2
    rw [bestL, hl] at ih
    have hb := bestL_in x.Depth s.Due x.L k
    rw [ref17_Put_L1]
    by_cases a1 : (l.length : Int) < x.Depth
    · rw [decide_eq_true a1, cond_true]
      by_cases a2 : bestL x.Depth s.Due x.L k < 0
      · rw [decide_eq_true a2, cond_true]
        rwa [if_pos ⟨a1, .inl a2⟩] at ih
      · rw [decide_eq_false a2, cond_false]
        have ha := lane_at (L := x.L) (i := bestL x.Depth s.Due x.L k) (by omega) (by omega)
        rw [ixL_at' _ (by omega) ha]
        simp only [Option.bind_some]
        rw [better_eq (hx.l _ (List.mem_of_getElem? h1)) (hx.l _ (List.mem_of_getElem? ha))]
        simp only [Option.bind_some]
        by_cases a3 : betF l (laneF x.L (bestL x.Depth s.Due x.L k)) s.Due = true
        · rw [a3, cond_true]
          rwa [if_pos ⟨a1, .inr a3⟩] at ih
        · rw [show betF l (laneF x.L (bestL x.Depth s.Due x.L k)) s.Due = false from by simpa using a3, cond_false]
          rwa [if_neg (by rintro ⟨_, h | h⟩; exact a2 h; exact a3 h)] at ih
    · rw [decide_eq_false a1, cond_false]
      rwa [if_neg (fun h => a1 h.1)] at ih

/-- what Put gives -/
def putR (x : Lanes) (s : Stored) : Lanes × Int × Int :=
  if s.Bag < 1 ∨ 40 < s.Bag ∨ s.Due < 0 ∨ 1048576 < s.Due then (⟨0, []⟩, 0, 1)
  else if (findL s.Bag x.L).isSome = true then (⟨0, []⟩, 0, 5)
  else if bestL x.Depth s.Due x.L x.L.length < 0 then (⟨0, []⟩, 0, 8)
  else (⟨x.Depth, x.L.set (bestL x.Depth s.Due x.L x.L.length).toNat (laneF x.L (bestL x.Depth s.Due x.L x.L.length) ++ [s])⟩, bestL x.Depth s.Due x.L x.L.length, 0)

theorem fR_ge (o : Option (Nat × Nat)) : decide ((0 : Int) ≤ (fR o).1) = o.isSome := by
  cases o with
  | none => rfl
  | some p => simp [fR]
theorem fR_lt (o : Option (Nat × Nat)) : decide ((fR o).1 < (0 : Int)) = !o.isSome := by
  cases o with
  | none => rfl
  | some p => exact decide_eq_false (show ¬ ((p.1 : Int) < 0) by omega)
theorem put_eq {x : Lanes} (hx : LOk x) (s : Stored) : lanes_Put x s = some (putR x s) := by
  unfold lanes_Put putR
  by_cases c1 : s.Bag < 1
  · rw [decide_eq_true c1, if_pos (.inl c1)]; rfl
  by_cases c2 : 40 < s.Bag
  · rw [decide_eq_false c1, decide_eq_true c2, if_pos (.inr (.inl c2))]; rfl
  by_cases c3 : s.Due < 0
  · rw [decide_eq_false c1, decide_eq_false c2, decide_eq_true c3, if_pos (.inr (.inr (.inl c3)))]; rfl
  by_cases c4 : 1048576 < s.Due
  · rw [decide_eq_false c1, decide_eq_false c2, decide_eq_false c3, decide_eq_true c4, if_pos (.inr (.inr (.inr c4)))]; rfl
  rw [decide_eq_false c1, decide_eq_false c2, decide_eq_false c3, decide_eq_false c4, if_neg (by omega)]
  simp only [cond_false]
  rw [find_eq]
  simp only [Option.bind_some]
  rw [fR_ge]
  cases hs : (findL s.Bag x.L).isSome with
  | true => rfl
  | false =>
    rw [if_neg (by simp)]
    simp only [cond_false]
    rw [choose_eq hx]
    simp only [Option.bind_some]
    have hb := bestL_in x.Depth s.Due x.L x.L.length
    by_cases c5 : bestL x.Depth s.Due x.L x.L.length < 0
    · rw [decide_eq_true c5, if_pos c5]; rfl
    · rw [decide_eq_false c5, if_neg c5, cond_false]
      unfold focE
      rw [clone_eq hx]
      simp only [Option.bind_some]
      have ha := lane_at (L := x.L) (i := bestL x.Depth s.Due x.L x.L.length) (by omega) (by omega)
      rw [ixL_at' _ (by omega) ha]
      simp only [Option.bind_some]
      have := hx.l _ (List.mem_of_getElem? ha)
      rw [apL_eq (by simp; omega)]
      rfl
theorem rput_eq {x : Lanes} (hx : LOk x) (s : Stored) : ref17_Put x s = some (putR x s) := by
  unfold ref17_Put putR
  by_cases c1 : s.Bag < 1
  · rw [decide_eq_true c1, if_pos (.inl c1)]; rfl
  by_cases c2 : 40 < s.Bag
  · rw [decide_eq_false c1, decide_eq_true c2, if_pos (.inr (.inl c2))]; rfl
  by_cases c3 : s.Due < 0
  · rw [decide_eq_false c1, decide_eq_false c2, decide_eq_true c3, if_pos (.inr (.inr (.inl c3)))]; rfl
  by_cases c4 : 1048576 < s.Due
  · rw [decide_eq_false c1, decide_eq_false c2, decide_eq_false c3, decide_eq_true c4, if_pos (.inr (.inr (.inr c4)))]; rfl
  rw [decide_eq_false c1, decide_eq_false c2, decide_eq_false c3, decide_eq_false c4, if_neg (by omega)]
  simp only [cond_false]
  rw [rfind_eq]
  simp only [Option.bind_some]
  rw [fR_ge]
  cases hs : (findL s.Bag x.L).isSome with
  | true => rfl
  | false =>
    rw [if_neg (by simp)]
    simp only [cond_false]
    have h0 := rput_L hx s x.L 0 (Nat.zero_le _) rfl
    rw [bestL] at h0
    rw [h0]
    simp only [Ctl.fin]
    have hb := bestL_in x.Depth s.Due x.L x.L.length
    by_cases c5 : bestL x.Depth s.Due x.L x.L.length < 0
    · rw [decide_eq_true c5, if_pos c5]; rfl
    · rw [decide_eq_false c5, if_neg c5, cond_false]
      have ha := lane_at (L := x.L) (i := bestL x.Depth s.Due x.L x.L.length) (by omega) (by omega)
      rw [ixL_at' _ (by omega) ha]
      simp only [Option.bind_some]
      have := hx.l _ (List.mem_of_getElem? ha)
      rw [apL_eq (by simp; omega)]
      simp only [List.nil_append, Option.bind_some]
      rw [apL_eq (by simp; omega)]
      simp only [Option.bind_some]
      have hw := with_eq hx (bestL x.Depth s.Due x.L x.L.length).toNat (laneF x.L (bestL x.Depth s.Due x.L x.L.length) ++ [s])
      rw [show (((bestL x.Depth s.Due x.L x.L.length).toNat : Nat) : Int) = bestL x.Depth s.Due x.L x.L.length by omega] at hw
      rw [hw]
      rfl

/-- what Take gives -/
def takeR (x : Lanes) (b : Int) : Lanes × List Int × Int := match findL b x.L with
  | none => (⟨0, []⟩, [], 6)
  | some p => (⟨x.Depth, x.L.set p.1 ((laneF x.L p.1).drop (p.2 + 1) ++ (laneF x.L p.1).take p.2)⟩, ((laneF x.L p.1).take p.2).map Stored.Bag, 0)

theorem take_L : ∀ (l : List Stored) (k : Nat) (a : List Int), a.length + l.length ≤ 1000 → lanes_Take_L1 l k a = some (.brk (a ++ l.map Stored.Bag))
  | [], k, a, _ => by simp [lanes_Take_L1]
  | s :: l, k, a, h => by
    simp only [List.length_cons] at h
    rw [lanes_Take_L1, apL_eq (by simp; omega)]
    simp only [Option.bind_some]
    rw [take_L l (k + 1) (a ++ [s.Bag]) (by simp; omega)]
    simp
theorem take_eq {x : Lanes} (hx : LOk x) (b : Int) : lanes_Take x b = some (takeR x b) := by
  unfold lanes_Take takeR
  rw [find_eq]
  simp only [Option.bind_some]
  rw [fR_lt]
  cases hf : findL b x.L with
  | none => rfl
  | some p =>
    obtain ⟨l, h1, h2⟩ := findL_some hf
    obtain ⟨s, h3, h4⟩ := idxL_some h2
    have hpl := (List.getElem?_eq_some_iff.1 h3).1
    have hll := hx.l _ (List.mem_of_getElem? h1)
    have hl := lane_get h1
    simp only [Option.isSome_some, Bool.not_true, cond_false, fR, hl]
    rw [clone_eq hx]
    simp only [Option.bind_some]
    rw [ixL_at' p.1 rfl h1]
    simp only [Option.bind_some]
    rw [slL_eq (by omega) (by omega) (by omega), w64_id (by omega) (by omega)]
    simp only [Option.bind_some]
    rw [take_L _ _ _ (by simp; omega)]
    simp only [Ctl.fin, List.nil_append]
    rw [slL_eq (by omega) (by omega) (by omega)]
    simp only [Option.bind_some]
    rw [concat_eq _ _ (by simp; omega) (by simp; omega)]
    simp only [Option.bind_some]
    rw [show ((p.2 : Int) + 1).toNat = p.2 + 1 by omega, show ((l.length : Int)).toNat = l.length by omega, show (0 : Int).toNat = 0 from rfl, show ((p.2 : Int)).toNat = p.2 by omega, show ((p.1 : Int)).toNat = p.1 by omega]
    rw [List.take_of_length_le (l := List.drop (p.2 + 1) l) (by simp)]
    simp
theorem rtake_L {x : Lanes} {l : List Stored} {r : Int × Int} {n : Nat} (hr : r.1 = n) (h1 : x.L[n]? = some l) (hl : l.length ≤ 20) (m : Nat) (hm : r.2 = m) (hml : m ≤ l.length) : ∀ (fuel : Nat) (i : Nat) (a : List Int) (y : List Stored), i ≤ m → m - i < fuel → a.length ≤ 100 + i → y.length ≤ 100 + i →
    ref17_Take_L1 x r fuel a y (i : Int) = some (.brk (a ++ ((l.drop i).take (m - i)).map Stored.Bag, y ++ (l.drop i).take (m - i)))
  | 0, i, a, y, _, h, _, _ => by omega
  | fuel + 1, i, a, y, hi, hf, ha, hy => by
    rw [ref17_Take_L1, hm]
    by_cases c : i < m
    · have hx : l[i]? = some l[i] := List.getElem?_eq_getElem (by omega)
      rw [decide_eq_true (by omega), cond_true, ixL_at' n hr h1]
      simp only [Option.bind_some]
      rw [ixL_at' i rfl hx]
      simp only [Option.bind_some]
      rw [apL_eq (by simp; omega)]
      simp only [Option.bind_some]
      rw [apL_eq (by simp; omega)]
      simp only [Option.bind_some]
      rw [w64_id (by omega) (by omega), show (i : Int) + 1 = ((i + 1 : Nat) : Int) by omega, rtake_L hr h1 hl m hm hml fuel (i + 1) _ _ (by omega) (by omega) (by simp; omega) (by simp; omega)]
      have e : (l.drop i).take (m - i) = l[i] :: (l.drop (i + 1)).take (m - (i + 1)) := by
        rw [drop_cons hx, show m - i = (m - (i + 1)) + 1 by omega, List.take_succ_cons]
      rw [e]
      simp
    · rw [decide_eq_false (by omega), cond_false, show m - i = 0 by omega]
      simp
theorem rtake_eq {x : Lanes} (hx : LOk x) (b : Int) : ref17_Take x b = some (takeR x b) := by
  unfold ref17_Take takeR
  rw [rfind_eq]
  simp only [Option.bind_some]
  rw [fR_lt]
  cases hf : findL b x.L with
  | none => rfl
  | some p =>
    obtain ⟨l, h1, h2⟩ := findL_some hf
    obtain ⟨s, h3, h4⟩ := idxL_some h2
    have hpl := (List.getElem?_eq_some_iff.1 h3).1
    have hll := hx.l _ (List.mem_of_getElem? h1)
    have hl := lane_get h1
    simp only [Option.isSome_some, Bool.not_true, cond_false, fR, hl]
    rw [ixL_at' p.1 rfl h1]
    simp only [Option.bind_some]
    rw [w64_id (by omega) (by omega), slL_eq (by omega) (by omega) (by omega)]
    simp only [Option.bind_some]
    rw [apL_eq (by simp; omega)]
    simp only [List.nil_append, Option.bind_some]
    have h0 := rtake_L (x := x) (r := ((p.1 : Int), (p.2 : Int))) rfl h1 hll p.2 rfl (by omega) 9223372036854775807 0 [] (((l.drop ((p.2 : Int) + 1).toNat)).take ((l.length : Int).toNat - ((p.2 : Int) + 1).toNat)) (by omega) (by omega) (by simp) (by simp; omega)
    rw [show ((0 : Nat) : Int) = 0 from rfl] at h0
    rw [h0]
    simp only [Ctl.fin, List.nil_append, List.drop_zero, Nat.sub_zero]
    rw [with_eq hx]
    simp only [Option.bind_some]
    rw [show ((p.2 : Int) + 1).toNat = p.2 + 1 by omega, show ((l.length : Int)).toNat = l.length by omega, List.take_of_length_le (l := List.drop (p.2 + 1) l) (by simp)]
end Go.Proofs.Ytkefkegknacpjaa.Ex
