/- Chapter 15: Start, Expire and Verdict of program and reference give the same; screenings stay in order. Plain. -/
import Derived.Test.YtidhgcgbdjjdlaaSc1
namespace Go.Proofs.Ytidhgcgbdjjdlaa.Ex.Sc
open Go.RowKit Go.Proofs.Ytidhgcgbdjjdlaa.Ax
set_option linter.unusedVariables false
set_option linter.unusedSimpArgs false

/-- what stands behind an error -/
abbrev Z : Screening := ⟨⟨0, 0, 0, 0⟩, 0, []⟩
theorem insL_eq {α : Type} {l y : List α} {k : Nat} (h1 : k ≤ l.length) (h2 : 0 < y.length) (h3 : l.length + y.length ≤ 16777216) : insL l (k : Int) y = some (l.take k ++ y ++ l.drop k) := by
  unfold insL
  rw [if_pos ⟨by omega, by omega, h2, h3⟩]
  rfl
theorem clone_eq (x : Screening) (h : x.L.length ≤ 1000) : screen_clone x = some x := by
  unfold screen_clone slices_Clone_Check
  rw [apL_eq (by simp; omega)]
  rfl
theorem timed_eq (t : Int) : screen_timed t = some (decide (0 ≤ t ∧ t ≤ 1048576)) := by
  unfold screen_timed
  by_cases h : 0 ≤ t <;> simp [h]

/-! Find -/
theorem find_p {x : Screening} (h : SOk x) (b : Int) (hn : ¬ hasC x.L b) : screen_Find x b = some (⟨0, 0, 0, 0, 0⟩, false) := by
  unfold screen_Find screen_at
  have hl := h.len
  rw [search_C b x.L h.srt (by omega), decide_eq_false hn]
  rfl
theorem find_p1 {x : Screening} (h : SOk x) {c : Check} (hc : c ∈ x.L) : screen_Find x c.Bag = some (c, true) := by
  unfold screen_Find screen_at
  have hl := h.len
  have hh : hasC x.L c.Bag := ⟨c, hc, rfl⟩
  rw [search_C _ x.L h.srt (by omega), decide_eq_true hh]
  simp only [Option.bind_some, Bool.not_true, cond_false]
  obtain ⟨d, h1, h2⟩ := (foundC h.srt c.Bag).1 hh
  rw [ixL_at' _ rfl h1]
  simp only [Option.bind_some]
  have : d = c := by
    obtain ⟨k, hk⟩ := List.getElem?_of_mem hc
    have hkl := (List.getElem?_eq_some_iff.1 hk).1
    have hpl := (List.getElem?_eq_some_iff.1 h1).1
    have a1 := (List.getElem?_eq_some_iff.1 hk).2
    have a2 := (List.getElem?_eq_some_iff.1 h1).2
    rcases Nat.lt_trichotomy k (posC x.L c.Bag) with e | e | e
    · have := List.pairwise_iff_getElem.1 h.srt k _ hkl hpl e
      rw [a1, a2] at this; omega
    · subst e; rw [h1] at hk; exact Option.some.inj hk
    · have := List.pairwise_iff_getElem.1 h.srt _ k hpl hkl e
      rw [a1, a2] at this; omega
  rw [this]
theorem find_rL {b : Int} : ∀ (l : List Check) (k : Nat), ref15_Find_L1 b l k = some (match l.find? (fun c => c.Bag == b) with | some c => .ret (c, true) | none => .brk ())
  | [], k => rfl
  | c :: l, k => by
    rw [ref15_Find_L1, List.find?_cons]
    cases e : c.Bag == b
    · rw [cond_false]; exact find_rL l (k + 1)
    · rfl
theorem find_r (x : Screening) (b : Int) (hn : ¬ hasC x.L b) : ref15_Find x b = some (⟨0, 0, 0, 0, 0⟩, false) := by
  unfold ref15_Find
  rw [find_rL]
  have : x.L.find? (fun c => c.Bag == b) = none := by
    rw [List.find?_eq_none]
    intro c hc he
    exact hn ⟨c, hc, by simpa using he⟩
  rw [this]
  rfl
theorem find_r1 {x : Screening} (h : SOk x) {c : Check} (hc : c ∈ x.L) : ref15_Find x c.Bag = some (c, true) := by
  unfold ref15_Find
  rw [find_rL]
  have key : ∀ l : List Check, c ∈ l → l.Pairwise (fun a b => a.Bag < b.Bag) → l.find? (fun d => d.Bag == c.Bag) = some c := by
    intro l
    induction l with
    | nil => intro hc; cases hc
    | cons d l ih =>
      intro hc hp
      rw [List.pairwise_cons] at hp
      rcases List.mem_cons.1 hc with rfl | hc
      · simp
      · have := hp.1 c hc
        rw [List.find?_cons, show (d.Bag == c.Bag) = false from beq_false_of_ne (by omega)]
        exact ih hc hp.2
  rw [key _ hc h.srt]
  rfl
theorem find_both {x : Screening} (h : SOk x) (b : Int) : ∃ r, screen_Find x b = some r ∧ ref15_Find x b = some r ∧ (r.2 = true → r.1 ∈ x.L ∧ r.1.Bag = b) ∧ (r.2 = false → ¬ hasC x.L b ∧ r.1 = ⟨0, 0, 0, 0, 0⟩) := by
  by_cases hn : hasC x.L b
  · obtain ⟨c, hc, rfl⟩ := hn
    exact ⟨_, find_p1 h hc, find_r1 h hc, fun _ => ⟨hc, rfl⟩, fun h => by cases h⟩
  · exact ⟨_, find_p h b hn, find_r x b hn, fun h => (by cases h), fun _ => ⟨hn, rfl⟩⟩

/-! Start -/
def newC (x : Screening) (b t : Int) : Check := ⟨b, 1, t, x.Next, 1⟩
def startS (x : Screening) (b t : Int) : Screening := ⟨x.Limits, x.Next + 1, x.L.take (posC x.L b) ++ newC x b t :: x.L.drop (posC x.L b)⟩
def startM (x : Screening) (b t : Int) : Screening × Int :=
  if b < 1 ∨ 40 < b ∨ t < 0 ∨ 1048576 < t then (Z, 1) else if hasC x.L b then (Z, 5) else if 1048576 < x.Next then (Z, 2) else (startS x b t, 0)
theorem start_p {x : Screening} (h : SOk x) (b t : Int) : screen_Start x b t = some (startM x b t) := by
  have hl := h.len
  have hn := h.nx
  unfold screen_Start startM
  by_cases c1 : b < 1
  · rw [decide_eq_true c1, if_pos (.inl c1)]; rfl
  rw [decide_eq_false c1, cond_false]
  by_cases c2 : 40 < b
  · rw [decide_eq_true c2, if_pos (.inr (.inl c2))]; rfl
  rw [decide_eq_false c2, cond_false, timed_eq, Option.bind_some]
  by_cases c3 : 0 ≤ t ∧ t ≤ 1048576
  rotate_left
  · rw [decide_eq_false c3, if_pos (by omega)]; rfl
  rw [decide_eq_true c3, if_neg (by omega)]
  unfold screen_at
  rw [search_C b x.L h.srt (by omega)]
  simp only [Option.bind_some, Bool.not_true, cond_false]
  by_cases c4 : hasC x.L b
  · rw [decide_eq_true c4, if_pos c4]; rfl
  rw [decide_eq_false c4, if_neg c4, cond_false]
  by_cases c5 : 1048576 < x.Next
  · rw [decide_eq_true c5, if_pos c5]; rfl
  rw [decide_eq_false c5, if_neg c5, cond_false, clone_eq x (by omega)]
  simp only [Option.bind_some]
  unfold slices_Insert_Check
  rw [insL_eq (show posC x.L b ≤ x.L.length from tw_le _) (by simp) (by simp; omega)]
  simp only [Option.bind_some]
  rw [w64_id (by omega) (by omega)]
  simp [startS, newC]
theorem start_rL (b : Int) : ∀ (l : List Check) (k : Nat), ref15_Start_L1 b l k = some (.brk ((k + posC l b : Nat) : Int))
  | [], k => rfl
  | c :: l, k => by
    rw [ref15_Start_L1]
    unfold posC ltC
    by_cases h : c.Bag < b
    · rw [decide_eq_true h, cond_true, start_rL b l (k + 1), List.takeWhile_cons_of_pos (by simpa using h)]
      unfold posC ltC
      rw [List.length_cons]
      congr 2
      omega
    · rw [decide_eq_false h, cond_false, List.takeWhile_cons_of_neg (by simpa using h)]
      rfl
theorem start_r {x : Screening} (h : SOk x) (b t : Int) : ref15_Start x b t = some (startM x b t) := by
  have hl := h.len
  have hn := h.nx
  unfold ref15_Start startM
  by_cases c1 : b < 1
  · rw [decide_eq_true c1, if_pos (.inl c1)]; rfl
  rw [decide_eq_false c1, cond_false]
  by_cases c2 : 40 < b
  · rw [decide_eq_true c2, if_pos (.inr (.inl c2))]; rfl
  rw [decide_eq_false c2, cond_false]
  by_cases c3 : t < 0
  · rw [decide_eq_true c3, if_pos (by first | exact .inl c3 | exact .inr (.inr (.inl c3)))]; rfl
  rw [decide_eq_false c3, cond_false]
  by_cases c3' : 1048576 < t
  · rw [decide_eq_true c3', if_pos (by first | exact .inr c3' | exact .inr (.inr (.inr c3')))]; rfl
  rw [decide_eq_false c3', cond_false, if_neg (by omega)]
  obtain ⟨r, _, r2, r3, r4⟩ := find_both h b
  rw [r2, Option.bind_some]
  by_cases c4 : hasC x.L b
  · have : r.2 = true := by
      cases e : r.2
      · exact ((r4 e).1 c4).elim
      · rfl
    rw [this, if_pos c4]; rfl
  have : r.2 = false := by
    cases e : r.2
    · rfl
    · exact (c4 ⟨r.1, (r3 e).1, (r3 e).2⟩).elim
  rw [this, if_neg c4, cond_false]
  by_cases c5 : 1048576 < x.Next
  · rw [decide_eq_true c5, if_pos c5]; rfl
  rw [decide_eq_false c5, if_neg c5, cond_false, start_rL, fin_brkE rfl]
  have hp : posC x.L b ≤ x.L.length := tw_le _
  rw [slL_eq (by omega) (by omega) (by omega), Option.bind_some, apL_eq (by simp; omega), Option.bind_some, apL_eq (by simp; omega), Option.bind_some, slL_eq (by omega) (by omega) (by omega), Option.bind_some, apL_eq (by simp; omega), Option.bind_some, w64_id (by omega) (by omega)]
  simp [startS, newC, List.take_of_length_le]
theorem mem_start {x : Screening} {b t : Int} {c : Check} : c ∈ (startS x b t).L ↔ c = newC x b t ∨ c ∈ x.L := by
  unfold startS
  simp only [List.mem_append, List.mem_cons]
  have : c ∈ x.L ↔ c ∈ x.L.take (posC x.L b) ∨ c ∈ x.L.drop (posC x.L b) := by
    rw [← List.mem_append, List.take_append_drop]
  rw [this]
  constructor
  · rintro (h | h | h)
    · exact .inr (.inl h)
    · exact .inl h
    · exact .inr (.inr h)
  · rintro (h | h | h)
    · exact .inr (.inl h)
    · exact .inl h
    · exact .inr (.inr h)
theorem pw_ins {α : Type} {R : α → α → Prop} {l : List α} {k : Nat} {y : α} (h : l.Pairwise R) (h1 : ∀ x ∈ l.take k, R x y) (h2 : ∀ x ∈ l.drop k, R y x) : (l.take k ++ y :: l.drop k).Pairwise R := by
  have h0 := h
  rw [← List.take_append_drop k l, List.pairwise_append] at h0
  rw [List.pairwise_append, List.pairwise_cons]
  refine ⟨h0.1, ⟨h2, h0.2.1⟩, fun a ha b hb => ?_⟩
  rcases List.mem_cons.1 hb with rfl | hb
  · exact h1 a ha
  · exact h0.2.2 a ha b hb
theorem tw_all {α : Type} {p : α → Bool} : ∀ (l : List α) (x : α), x ∈ l.takeWhile p → p x = true
  | [], x, h => by cases h
  | y :: l, x, h => by
    by_cases c : p y = true
    · rw [List.takeWhile_cons_of_pos c] at h
      rcases List.mem_cons.1 h with rfl | h
      · exact c
      · exact tw_all l x h
    · rw [List.takeWhile_cons_of_neg c] at h; cases h
theorem start_ok {x : Screening} (h : SOk x) {b t : Int} (h0 : (startM x b t).2 = 0) : SOk (startM x b t).1 ∧ (startM x b t).1 = startS x b t ∧ ¬ hasC x.L b ∧ 0 ≤ t ∧ 1 ≤ b ∧ b ≤ 40 := by
  unfold startM at h0 ⊢
  by_cases c1 : b < 1 ∨ 40 < b ∨ t < 0 ∨ 1048576 < t
  · rw [if_pos c1] at h0; cases h0
  rw [if_neg c1] at h0 ⊢
  by_cases c2 : hasC x.L b
  · rw [if_pos c2] at h0; cases h0
  rw [if_neg c2] at h0 ⊢
  by_cases c3 : 1048576 < x.Next
  · rw [if_pos c3] at h0; cases h0
  rw [if_neg c3]
  have hn := h.nx
  refine ⟨⟨h.lims, fun c hc => ?_, ?_, fun c hc => ?_, ?_, ?_⟩, rfl, c2, by omega, by omega, by omega⟩
  · rcases mem_start.1 hc with rfl | hc
    · exact ⟨by show (1 : Int) ≤ 1 ∧ (1 : Int) ≤ 4; omega, by show 0 ≤ t ∧ t ≤ 1048576; omega, by show 1 ≤ b ∧ b ≤ 40; omega⟩
    · exact h.chk c hc
  · refine pw_ins h.srt (fun c hc => ?_) (fun c hc => ?_)
    · have := tw_all (p := ltC b) x.L c (by rw [← take_tw]; exact hc)
      exact of_decide_eq_true this
    · obtain ⟨k, hk⟩ := List.getElem?_of_mem hc
      rw [List.getElem?_drop] at hk
      have key := tw_idx (monoC h.srt b) hk
      have hne : c.Bag ≠ b := fun e => c2 ⟨c, List.mem_of_getElem? hk, e⟩
      have : ¬ c.Bag < b := fun e => by
        have := key.1 (decide_eq_true e)
        unfold posC at this
        omega
      show b < c.Bag
      omega
  · show 1 ≤ c.Image ∧ c.Image < x.Next + 1
    rcases mem_start.1 hc with rfl | hc
    · show 1 ≤ x.Next ∧ x.Next < x.Next + 1; omega
    · have := h.img c hc; omega
  · have hlt : ∀ c ∈ x.L, c.Image < x.Next := fun c hc => (h.img c hc).2
    refine pw_ins h.dif (fun c hc => ?_) (fun c hc => ?_)
    · have := hlt c (List.mem_of_mem_take hc); show c.Image ≠ x.Next; omega
    · have := hlt c (List.mem_of_mem_drop hc); show x.Next ≠ c.Image; omega
  · show 1 ≤ x.Next + 1 ∧ x.Next + 1 ≤ 1048577; omega

/-! deadlines, failing -/
theorem deadline_p {x : Screening} (hl : LOk x.Limits) {c : Check} (h : COk c) : screen_deadline x c = some (c.Since + lim x.Limits c.Level) := by
  have h1 := h.lv
  have h2 := h.si
  have hr := lim_rng hl c.Level
  unfold screen_deadline
  have e1 : (if c.Level < (1 : Int) then (1 : Int) else c.Level) = c.Level := if_neg (by omega)
  have e2 : (if (4 : Int) < c.Level then (4 : Int) else c.Level) = c.Level := if_neg (by omega)
  rw [e1, e2, w64_id (z := c.Level - 1) (by omega) (by omega)]
  obtain ⟨l0, l1, l2, l3⟩ := hl
  unfold lim
  by_cases c1 : c.Level = 1
  · rw [if_pos c1, c1, show ((1 : Int) - 1 == 0) = true from rfl, cond_true, w64_id (by omega) (by omega)]
  rw [if_neg c1, show (c.Level - 1 == 0) = false from beq_false_of_ne (by omega), cond_false]
  by_cases c2 : c.Level = 2
  · rw [if_pos c2, c2, show ((2 : Int) - 1 == 1) = true from rfl, cond_true, w64_id (by omega) (by omega)]
  rw [if_neg c2, show (c.Level - 1 == 1) = false from beq_false_of_ne (by omega), cond_false]
  by_cases c3 : c.Level = 3
  · rw [if_pos c3, c3, show ((3 : Int) - 1 == 2) = true from rfl, cond_true, w64_id (by omega) (by omega)]
  rw [if_neg c3, show (c.Level - 1 == 2) = false from beq_false_of_ne (by omega), cond_false, show (c.Level - 1 == 3) = true from beq_iff_eq.2 (by omega), cond_true, w64_id (by omega) (by omega)]
theorem deadline_r {x : Screening} (hl : LOk x.Limits) {c : Check} (h : COk c) : ref15_deadline x c = some (c.Since + lim x.Limits c.Level) := by
  have h1 := h.lv
  rw [← deadline_p hl h]
  unfold ref15_deadline screen_deadline
  have e1 : (if c.Level < (1 : Int) then (1 : Int) else c.Level) = c.Level := if_neg (by omega)
  have e2 : (if (4 : Int) < c.Level then (4 : Int) else c.Level) = c.Level := if_neg (by omega)
  rw [e1, e2]

def failC (c : Check) (n t : Int) : Check × Int := if c.Level = 4 then (⟨c.Bag, c.Level, c.Since, c.Image, 3⟩, n) else (⟨c.Bag, c.Level + 1, t, n, c.State⟩, n + 1)
theorem fail_r {c : Check} (h : COk c) {n t : Int} (h1 : 0 ≤ n) (h2 : n ≤ 4000000) : ref15_fail c n t = some (failC c n t) := by
  have hv := h.lv
  unfold ref15_fail failC
  by_cases c1 : c.Level = 4
  · rw [if_pos c1, show (c.Level == 4) = true from beq_iff_eq.2 c1]; rfl
  · rw [if_neg c1, show (c.Level == 4) = false from beq_false_of_ne c1, cond_false, w64_id (by omega) (by omega), w64_id (by omega) (by omega)]
theorem fail_p {l : A4_Int} {c : Check} (h : COk c) {n t : Int} (h1 : 0 ≤ n) (h2 : n ≤ 4000000) (p q : List Check) : screen_keeper_fail ⟨⟨l, n, p ++ c :: q⟩⟩ (p.length : Int) t = some ⟨⟨l, (failC c n t).2, p ++ (failC c n t).1 :: q⟩⟩ := by
  have hv := h.lv
  unfold screen_keeper_fail failC
  rw [ixL_at' p.length rfl (show (p ++ c :: q)[p.length]? = some c by simp), Option.bind_some]
  by_cases c1 : c.Level = 4
  · rw [if_pos c1, decide_eq_true (by omega), cond_true]
    simp
  · rw [if_neg c1, decide_eq_false (by omega), cond_false, w64_id (z := c.Level + 1) (by omega) (by omega), w64_id (z := n + 1) (by omega) (by omega)]
    simp

/-! Expire -/
def due (l : A4_Int) (t : Int) (c : Check) : Prop := c.State = 1 ∧ c.Since + lim l c.Level < t
instance (l : A4_Int) (t : Int) (c : Check) : Decidable (due l t c) := inferInstanceAs (Decidable (_ ∧ _))
def expM (l : A4_Int) (t : Int) : List Check → Int → List Check × Int
  | [], n => ([], n)
  | c :: r, n => if due l t c then ((failC c n t).1 :: (expM l t r (failC c n t).2).1, (expM l t r (failC c n t).2).2) else (c :: (expM l t r n).1, (expM l t r n).2)
theorem fail_n (c : Check) (n t : Int) : n ≤ (failC c n t).2 ∧ (failC c n t).2 ≤ n + 1 := by
  unfold failC; split
  · exact ⟨Int.le_refl _, by show n ≤ n + 1; omega⟩
  · exact ⟨by show n ≤ n + 1; omega, Int.le_refl _⟩
theorem expM_n (l : A4_Int) (t : Int) : ∀ (r : List Check) (n : Int), n ≤ (expM l t r n).2 ∧ (expM l t r n).2 ≤ n + r.length
  | [], n => ⟨Int.le_refl _, by show n ≤ n + ((0 : Nat) : Int); omega⟩
  | c :: r, n => by
    have hf := fail_n c n t
    rw [expM, List.length_cons]
    split
    · have := expM_n l t r (failC c n t).2
      exact ⟨by omega, by omega⟩
    · have := expM_n l t r n
      exact ⟨by omega, by omega⟩
theorem expM_len (l : A4_Int) (t : Int) : ∀ (r : List Check) (n : Int), (expM l t r n).1.length = r.length
  | [], n => rfl
  | c :: r, n => by
    rw [expM]
    split
    · simp [expM_len l t r]
    · simp [expM_len l t r]
theorem exp_pL (x : Screening) (hl : LOk x.Limits) (t : Int) (m : A4_Int) : ∀ (r d : List Check) (n : Int), (∀ c ∈ r, COk c) → 0 ≤ n → n + r.length ≤ 4000000 →
    screen_Expire_L1 x t r d.length m.e0 m.e1 m.e2 m.e3 n (d ++ r) = some (.brk (m.e0, m.e1, m.e2, m.e3, (expM x.Limits t r n).2, d ++ (expM x.Limits t r n).1))
  | [], d, n, _, _, _ => rfl
  | c :: r, d, n, h, h0, h1 => by
    have hc := h c (by simp)
    have hr : ∀ c ∈ r, COk c := fun c hc => h c (by simp [hc])
    rw [List.length_cons] at h1
    rw [screen_Expire_L1, ixL_at' d.length rfl (show (d ++ c :: r)[d.length]? = some c by simp), Option.bind_some, expM]
    have go : ∀ (y : Check) (n' : Int), n ≤ n' → n' ≤ n + 1 → screen_Expire_L1 x t r (d.length + 1) m.e0 m.e1 m.e2 m.e3 n' (d ++ y :: r) = some (.brk (m.e0, m.e1, m.e2, m.e3, (expM x.Limits t r n').2, d ++ y :: (expM x.Limits t r n').1)) := by
      intro y n' g1 g2
      have := exp_pL x hl t m r (d ++ [y]) n' hr (by omega) (by omega)
      rw [List.length_append] at this
      simpa using this
    by_cases c1 : c.State = 1
    · rw [show (c.State == 1) = true from beq_iff_eq.2 c1, cond_true, deadline_p hl hc, Option.bind_some]
      by_cases c2 : c.Since + lim x.Limits c.Level < t
      · rw [decide_eq_true c2, cond_true, if_pos (show due _ _ _ from ⟨c1, c2⟩)]
        rw [fail_p (l := ⟨m.e0, m.e1, m.e2, m.e3⟩) hc h0 (by omega) d r, Option.bind_some]
        have hf := fail_n c n t
        exact go _ _ hf.1 hf.2
      · rw [decide_eq_false c2, cond_false, if_neg (fun h : due _ _ _ => c2 h.2)]
        exact go c n (Int.le_refl _) (by omega)
    · rw [show (c.State == 1) = false from beq_false_of_ne c1, cond_false, if_neg (fun h : due _ _ _ => c1 h.1)]
      exact go c n (Int.le_refl _) (by omega)
theorem exp_v2L (x : Screening) (t : Int) : ∀ (r : List Check) (k : Nat) (a b c d n : Int) (l : List Check), screen_Expire_v2_L1 x t r k a b c d n l = screen_Expire_L1 x t r k a b c d n l
  | [], k, a, b, c, d, n, l => rfl
  | e :: r, k, a, b, c, d, n, l => by
    rw [screen_Expire_v2_L1, screen_Expire_L1]
    simp only [exp_v2L x t r]
theorem exp_v2 (x : Screening) (t : Int) : screen_Expire_v2 x t = screen_Expire x t := by
  unfold screen_Expire_v2 screen_Expire
  simp only [exp_v2L]
theorem exp_rL (x : Screening) (hl : LOk x.Limits) (t : Int) : ∀ (r d : List Check) (k : Nat) (n : Int), (∀ c ∈ r, COk c) → 0 ≤ n → n + r.length ≤ 4000000 → d.length + r.length ≤ 1000 →
    ref15_Expire_L1 x t r k n d = some (.brk ((expM x.Limits t r n).2, d ++ (expM x.Limits t r n).1))
  | [], d, k, n, _, _, _, _ => by rw [ref15_Expire_L1, expM, List.append_nil]
  | c :: r, d, k, n, h, h0, h1, h2 => by
    have hc := h c (by simp)
    have hr : ∀ c ∈ r, COk c := fun c hc => h c (by simp [hc])
    rw [List.length_cons] at h1 h2
    rw [ref15_Expire_L1, expM]
    have go : ∀ (y : Check) (n' : Int), n ≤ n' → n' ≤ n + 1 → (apL d [y]).bind (fun l => ref15_Expire_L1 x t r (k + 1) n' l) = some (.brk ((expM x.Limits t r n').2, d ++ y :: (expM x.Limits t r n').1)) := by
      intro y n' g1 g2
      rw [apL_eq (by simp; omega), Option.bind_some, exp_rL x hl t r (d ++ [y]) (k + 1) n' hr (by omega) (by omega) (by simp; omega)]
      simp
    by_cases c1 : c.State = 1
    · rw [show (c.State == 1) = true from beq_iff_eq.2 c1, cond_true, deadline_r hl hc, Option.bind_some]
      by_cases c2 : c.Since + lim x.Limits c.Level < t
      · rw [decide_eq_true c2, cond_true, if_pos (show due _ _ _ from ⟨c1, c2⟩)]
        rw [fail_r hc h0 (by omega), Option.bind_some]
        have hf := fail_n c n t
        exact go _ _ hf.1 hf.2
      · rw [decide_eq_false c2, cond_false, if_neg (fun h : due _ _ _ => c2 h.2)]
        exact go c n (Int.le_refl _) (by omega)
    · rw [show (c.State == 1) = false from beq_false_of_ne c1, cond_false, if_neg (fun h : due _ _ _ => c1 h.1)]
      exact go c n (Int.le_refl _) (by omega)
theorem exp_rv2L (x : Screening) (t : Int) : ∀ (r : List Check) (k : Nat) (n : Int) (l : List Check), ref15_Expire_v2_L1 x t r k n l = ref15_Expire_L1 x t r k n l
  | [], k, n, l => rfl
  | e :: r, k, n, l => by
    rw [ref15_Expire_v2_L1, ref15_Expire_L1]
    simp only [exp_rv2L x t r]
theorem exp_rv2 (x : Screening) (t : Int) : ref15_Expire_v2 x t = ref15_Expire x t := by
  unfold ref15_Expire_v2 ref15_Expire
  simp only [exp_rv2L]
def expS (x : Screening) (t : Int) : Screening := ⟨x.Limits, (expM x.Limits t x.L x.Next).2, (expM x.Limits t x.L x.Next).1⟩
def expR (x : Screening) (t : Int) : Screening × Int := if t < 0 ∨ 1048576 < t then (Z, 1) else if 1048577 < (expS x t).Next then (Z, 2) else (expS x t, 0)
theorem exp_p {x : Screening} (h : SOk x) (t : Int) : screen_Expire x t = some (expR x t) := by
  have hl := h.len
  have hn := h.nx
  have e : (if x.Next < (1048577 : Int) then (1048577 : Int) else x.Next) = 1048577 := by split <;> omega
  unfold screen_Expire expR
  rw [timed_eq, Option.bind_some, e]
  by_cases c1 : 0 ≤ t ∧ t ≤ 1048576
  rotate_left
  · rw [decide_eq_false c1, if_pos (show t < 0 ∨ 1048576 < t by omega)]; rfl
  rw [decide_eq_true c1, if_neg (show ¬ (t < 0 ∨ 1048576 < t) by omega), Bool.not_true, cond_false, clone_eq x (by omega), Option.bind_some]
  have := exp_pL x h.lims t x.Limits x.L [] x.Next h.chk (by omega) (by omega)
  rw [List.length_nil, List.nil_append, List.nil_append] at this
  rw [fin_brkE this]
  show cond (decide (1048577 < (expS x t).Next)) (some (Z, 2)) (some (expS x t, 0)) = _
  by_cases c2 : 1048577 < (expS x t).Next
  · rw [decide_eq_true (show (1048577 : Int) < _ from c2), if_pos c2]; rfl
  · rw [decide_eq_false (show ¬ (1048577 : Int) < _ from c2), if_neg c2]; rfl
theorem exp_r {x : Screening} (h : SOk x) (t : Int) : ref15_Expire x t = some (expR x t) := by
  have hl := h.len
  have hn := h.nx
  unfold ref15_Expire expR
  by_cases c3 : t < 0
  · rw [decide_eq_true c3, if_pos (by first | exact .inl c3 | exact .inr (.inr (.inl c3)))]; rfl
  rw [decide_eq_false c3, cond_false]
  by_cases c3' : 1048576 < t
  · rw [decide_eq_true c3', if_pos (by first | exact .inr c3' | exact .inr (.inr (.inr c3')))]; rfl
  rw [decide_eq_false c3', cond_false, if_neg (show ¬ (t < 0 ∨ 1048576 < t) by omega)]
  rw [fin_brkE (exp_rL x h.lims t x.L [] 0 x.Next h.chk (by omega) (by omega) (by simp; omega))]
  show cond (decide (1048577 < (expS x t).Next)) (some (Z, 2)) (some (expS x t, 0)) = _
  by_cases c2 : 1048577 < (expS x t).Next
  · rw [decide_eq_true (show (1048577 : Int) < _ from c2), if_pos c2]; rfl
  · rw [decide_eq_false (show ¬ (1048577 : Int) < _ from c2), if_neg c2]; rfl

/-! what Expire makes of each check -/
inductive Stp (l : A4_Int) (t n m : Int) (c d : Check) : Prop
  | same (h : ¬ due l t c) (e : d = c)
  | rej (h : due l t c) (hv : c.Level = 4) (e : d = ⟨c.Bag, c.Level, c.Since, c.Image, 3⟩)
  | next (h : due l t c) (hv : c.Level ≠ 4) (i : Int) (h1 : n ≤ i) (h2 : i < m) (e : d = ⟨c.Bag, c.Level + 1, t, i, c.State⟩)
theorem Stp.mono {l : A4_Int} {t n m n' m' : Int} {c d : Check} (h : Stp l t n m c d) (h1 : n' ≤ n) (h2 : m ≤ m') : Stp l t n' m' c d := by
  cases h with
  | same h e => exact .same h e
  | rej h hv e => exact .rej h hv e
  | next h hv i g1 g2 e => exact .next h hv i (by omega) (by omega) e
theorem Stp.bag {l : A4_Int} {t n m : Int} {c d : Check} (h : Stp l t n m c d) : d.Bag = c.Bag := by
  cases h with
  | same h e => rw [e]
  | rej h hv e => rw [e]
  | next h hv i g1 g2 e => rw [e]
theorem fail_stp {l : A4_Int} {t n : Int} {c : Check} (h : due l t c) : Stp l t n (failC c n t).2 c (failC c n t).1 := by
  unfold failC
  by_cases hv : c.Level = 4
  · rw [if_pos hv]; exact .rej h hv rfl
  · rw [if_neg hv]; exact .next h hv n (Int.le_refl _) (by show n < n + 1; omega) rfl
inductive All2 {α β : Type} (R : α → β → Prop) : List α → List β → Prop
  | nil : All2 R [] []
  | cons {a : α} {b : β} {l : List α} {r : List β} (h : R a b) (t : All2 R l r) : All2 R (a :: l) (b :: r)
theorem All2.imp {α β : Type} {R S : α → β → Prop} (f : ∀ a b, R a b → S a b) {l : List α} {r : List β} (h : All2 R l r) : All2 S l r := by
  induction h with
  | nil => exact .nil
  | cons h _ ih => exact .cons (f _ _ h) ih
theorem All2.mem {α β : Type} {R : α → β → Prop} {l : List α} {r : List β} (h : All2 R l r) {b : β} (hb : b ∈ r) : ∃ a ∈ l, R a b := by
  induction h with
  | nil => cases hb
  | cons h _ ih =>
    rcases List.mem_cons.1 hb with rfl | hb
    · exact ⟨_, by simp, h⟩
    · obtain ⟨a, ha, hr⟩ := ih hb
      exact ⟨a, by simp [ha], hr⟩
theorem All2.mem' {α β : Type} {R : α → β → Prop} {l : List α} {r : List β} (h : All2 R l r) {a : α} (ha : a ∈ l) : ∃ b ∈ r, R a b := by
  induction h with
  | nil => cases ha
  | cons h _ ih =>
    rcases List.mem_cons.1 ha with rfl | ha
    · exact ⟨_, by simp, h⟩
    · obtain ⟨a, ha, hr⟩ := ih ha
      exact ⟨a, by simp [ha], hr⟩
theorem All2.map {α β γ : Type} {R : α → β → Prop} {f : α → γ} {g : β → γ} (e : ∀ a b, R a b → g b = f a) {l : List α} {r : List β} (h : All2 R l r) : r.map g = l.map f := by
  induction h with
  | nil => rfl
  | cons h _ ih => rw [List.map_cons, List.map_cons, ih, e _ _ h]
theorem expM_stp (l : A4_Int) (t : Int) : ∀ (r : List Check) (n : Int), All2 (Stp l t n (expM l t r n).2) r (expM l t r n).1
  | [], n => .nil
  | c :: r, n => by
    have hf := fail_n c n t
    rw [expM]
    split
    · rename_i hd
      have ih := expM_stp l t r (failC c n t).2
      have hn := expM_n l t r (failC c n t).2
      refine .cons ((fail_stp hd).mono (Int.le_refl _) hn.1) ?_
      exact ih.imp (fun a b h => h.mono hf.1 (Int.le_refl _))
    · rename_i hd
      exact .cons (.same hd rfl) (expM_stp l t r n)
theorem Stp.img {l : A4_Int} {t n m : Int} {c d : Check} (h : Stp l t n m c d) : d.Image = c.Image ∨ n ≤ d.Image ∧ d.Image < m := by
  cases h with
  | same h e => rw [e]; exact .inl rfl
  | rej h hv e => rw [e]; exact .inl rfl
  | next h hv i g1 g2 e => rw [e]; exact .inr ⟨g1, g2⟩
theorem expM_dif (l : A4_Int) (t n0 : Int) : ∀ (r : List Check) (n : Int), (∀ c ∈ r, c.Image < n0) → n0 ≤ n → r.Pairwise (fun a b => a.Image ≠ b.Image) → (expM l t r n).1.Pairwise (fun a b => a.Image ≠ b.Image)
  | [], n, _, _, _ => .nil
  | c :: r, n, h1, h2, h3 => by
    rw [List.pairwise_cons] at h3
    have hf := fail_n c n t
    have hr : ∀ c ∈ r, c.Image < n0 := fun c hc => h1 c (by simp [hc])
    have hc := h1 c (by simp)
    rw [expM]
    split
    · rename_i hd
      rw [List.pairwise_cons]
      refine ⟨fun d hm => ?_, expM_dif l t n0 r _ hr (by omega) h3.2⟩
      obtain ⟨c', hc', hs⟩ := (expM_stp l t r (failC c n t).2).mem hm
      have hi := hs.img
      have h4 := hr c' hc'
      have h5 := h3.1 c' hc'
      show (failC c n t).1.Image ≠ d.Image
      revert hi hf
      unfold failC
      split
      · intro hf hi; show c.Image ≠ d.Image; simp only at hi; omega
      · intro hf hi; show n ≠ d.Image; simp only at hi; omega
    · rw [List.pairwise_cons]
      refine ⟨fun d hm => ?_, expM_dif l t n0 r _ hr h2 h3.2⟩
      obtain ⟨c', hc', hs⟩ := (expM_stp l t r n).mem hm
      have hi := hs.img
      have h4 := hr c' hc'
      have h5 := h3.1 c' hc'
      show c.Image ≠ d.Image
      omega
theorem pw_map {α : Type} {R : Int → Int → Prop} {f : α → Int} {l r : List α} (e : r.map f = l.map f) (h : l.Pairwise (fun a b => R (f a) (f b))) : r.Pairwise (fun a b => R (f a) (f b)) := by
  rw [← List.pairwise_map] at h ⊢
  rw [e]; exact h
theorem stp_chk {l : A4_Int} {t n m : Int} {c d : Check} (h : Stp l t n m c d) (hc : COk c) (h0 : 0 ≤ t) (h1 : t ≤ 1048576) : COk d := by
  have hv := hc.lv
  cases h with
  | same h e => rw [e]; exact hc
  | rej h hv e => rw [e]; exact ⟨hc.lv, hc.si, hc.bg⟩
  | next h hv i g1 g2 e => rw [e]; exact ⟨by show 1 ≤ c.Level + 1 ∧ c.Level + 1 ≤ 4; omega, ⟨h0, h1⟩, hc.bg⟩
theorem exp_stp (x : Screening) (t : Int) : All2 (Stp x.Limits t x.Next (expS x t).Next) x.L (expS x t).L := expM_stp _ _ _ _
theorem exp_next {x : Screening} (h : SOk x) (t : Int) : x.Next ≤ (expS x t).Next ∧ (expS x t).Next ≤ x.Next + 40 := by
  have := expM_n x.Limits t x.L x.Next
  have hl := h.len
  exact ⟨this.1, by unfold expS; show (expM x.Limits t x.L x.Next).2 ≤ _; omega⟩
theorem expS_ok {x : Screening} (h : SOk x) {t : Int} (h0 : 0 ≤ t) (h1 : t ≤ 1048576) (h2 : (expS x t).Next ≤ 1048577) : SOk (expS x t) := by
  have hs := exp_stp x t
  have hn := exp_next h t
  have hx := h.nx
  refine ⟨h.lims, fun d hd => ?_, ?_, fun d hd => ?_, ?_, ⟨by omega, h2⟩⟩
  · obtain ⟨c, hc, hr⟩ := hs.mem hd
    exact stp_chk hr (h.chk c hc) h0 h1
  · exact pw_map (R := fun a b => a < b) (hs.map (fun a b hr => hr.bag)) h.srt
  · obtain ⟨c, hc, hr⟩ := hs.mem hd
    have := hr.img
    have := h.img c hc
    omega
  · exact expM_dif x.Limits t x.Next x.L x.Next (fun c hc => (h.img c hc).2) (Int.le_refl _) h.dif
theorem exp_ok {x : Screening} (h : SOk x) {t : Int} (h0 : (expR x t).2 = 0) : SOk (expR x t).1 ∧ (expR x t).1 = expS x t ∧ 0 ≤ t ∧ t ≤ 1048576 ∧ (expS x t).Next ≤ 1048577 := by
  unfold expR at h0 ⊢
  by_cases c1 : t < 0 ∨ 1048576 < t
  · rw [if_pos c1] at h0; cases h0
  rw [if_neg c1] at h0 ⊢
  by_cases c2 : 1048577 < (expS x t).Next
  · rw [if_pos c2] at h0; cases h0
  rw [if_neg c2]
  exact ⟨expS_ok h (by omega) (by omega) (by omega), rfl, by omega, by omega, by omega⟩

/-! Verdict -/
def hitC (x : Screening) (i : Int) (c : Check) : Bool := decide (c.State = 1 ∧ c.Image = i ∧ i < x.Next)
def verS (x y : Screening) (i : Int) (cl : Bool) (t : Int) : Screening × Int × Int :=
  match y.L.drop (y.L.takeWhile (fun c => !hitC x i c)).length with
  | [] => (Z, 0, 6)
  | c :: q => if cl then (⟨y.Limits, y.Next, y.L.takeWhile (fun c => !hitC x i c) ++ ⟨c.Bag, c.Level, c.Since, c.Image, 2⟩ :: q⟩, c.Bag, 0)
      else if 1048577 < (failC c y.Next t).2 then (Z, 0, 2) else (⟨y.Limits, (failC c y.Next t).2, y.L.takeWhile (fun c => !hitC x i c) ++ (failC c y.Next t).1 :: q⟩, c.Bag, 0)
def verM (x : Screening) (i : Int) (cl : Bool) (t : Int) : Screening × Int × Int :=
  if (expR x t).2 = 0 then verS x (expR x t).1 i cl t else (Z, 0, (expR x t).2)
theorem idx_L (i : Int) (x : Screening) : ∀ (l : List Check) (k : Nat), slices_IndexFunc_Check_L1 i x l k = some (match l.drop (l.takeWhile (fun c => !hitC x i c)).length with | [] => .brk () | _ :: _ => .ret ((k + (l.takeWhile (fun c => !hitC x i c)).length : Nat) : Int))
  | [], k => rfl
  | c :: l, k => by
    have hf : screen_Verdict_f1 c i x = some (hitC x i c) := by
      unfold screen_Verdict_f1 hitC
      by_cases c1 : c.State = 1
      · by_cases c2 : c.Image = i
        · simp [c1, c2]
        · simp [c1, c2, beq_false_of_ne c2]
      · simp [c1, beq_false_of_ne c1]
    rw [slices_IndexFunc_Check_L1, hf, Option.bind_some]
    cases e : hitC x i c
    · rw [cond_false, idx_L i x l (k + 1), List.takeWhile_cons_of_pos (by rw [e]; rfl), List.length_cons, List.drop_succ_cons]
      split
      · rfl
      · congr 2; omega
    · rw [cond_true, List.takeWhile_cons_of_neg (by rw [e]; simp)]
      rfl
theorem tw_self {α : Type} {p : α → Bool} : ∀ (l : List α), (∀ x ∈ l, p x = true) → l.takeWhile p = l
  | [], _ => rfl
  | y :: l, h => by rw [List.takeWhile_cons_of_pos (h y (by simp)), tw_self l (fun x hx => h x (by simp [hx]))]
theorem split_tw {α : Type} (p : α → Bool) (l : List α) : l = l.takeWhile p ++ l.drop (l.takeWhile p).length := by
  rw [drop_tw, List.takeWhile_append_dropWhile]
theorem hit_drop {α : Type} {p : α → Bool} : ∀ {l : List α} {c : α} {q : List α}, l.drop (l.takeWhile p).length = c :: q → p c = false
  | [], c, q, h => by cases h
  | d :: l, c, q, h => by
    by_cases e : p d = true
    · rw [List.takeWhile_cons_of_pos e, List.length_cons, List.drop_succ_cons] at h
      exact hit_drop h
    · rw [List.takeWhile_cons_of_neg e] at h
      simp at h
      rw [← h.1]; simpa using e
theorem ver_p {x : Screening} (h : SOk x) (i : Int) (cl : Bool) (t : Int) : screen_Verdict x i cl t = some (verM x i cl t) := by
  unfold screen_Verdict verM
  rw [exp_v2, exp_p h, Option.bind_some]
  by_cases c0 : (expR x t).2 = 0
  rotate_left
  · rw [if_neg c0, show ((expR x t).2 != 0) = true from bne_iff_ne.2 c0]; rfl
  rw [if_pos c0, c0, show ((0 : Int) != 0) = false from rfl, cond_false]
  obtain ⟨hy, _⟩ := exp_ok h c0
  generalize (expR x t).1 = y at hy
  unfold slices_IndexFunc_Check verS
  rw [idx_L]
  have hsp := split_tw (fun c => !hitC x i c) y.L
  generalize hP : y.L.takeWhile (fun c => !hitC x i c) = P at hsp ⊢
  cases hd : y.L.drop P.length with
  | nil =>
    rw [fin_brkE rfl, Option.bind_some]
    rfl
  | cons c q =>
    rw [fin_retE rfl, Option.bind_some]
    rw [hd] at hsp
    rw [decide_eq_false (by omega), cond_false]
    have hix : ixL y.L ((0 + P.length : Nat) : Int) = some c := ixL_at' P.length (by omega) (by rw [hsp]; simp)
    rw [hix, Option.bind_some]
    have hc : c ∈ y.L := by rw [hsp]; simp
    have hn := hy.nx
    cases cl
    · simp only [cond_false, Bool.false_eq_true, if_false]
      have hf := fail_p (l := y.Limits) (hy.chk c hc) (n := y.Next) (t := t) (by omega) (by omega) P q
      rw [← hsp, show ((0 + P.length : Nat) : Int) = (P.length : Int) by omega] at *
      rw [hf, Option.bind_some]
      have e : (if y.Next < (1048577 : Int) then (1048577 : Int) else y.Next) = 1048577 := by split <;> omega
      rw [e]
      by_cases c2 : 1048577 < (failC c y.Next t).2
      · rw [decide_eq_true (show (1048577 : Int) < _ from c2), if_pos c2]; rfl
      · rw [decide_eq_false (show ¬ (1048577 : Int) < _ from c2), if_neg c2]; rfl
    · simp only [cond_true, if_true, Option.bind_some]
      have : y.L.set (((0 + P.length : Nat) : Int)).toNat ⟨c.Bag, c.Level, c.Since, c.Image, 2⟩ = P ++ ⟨c.Bag, c.Level, c.Since, c.Image, 2⟩ :: q := by
        rw [hsp]; simp
      rw [this]
theorem verr_L (x : Screening) (i : Int) (cl : Bool) (t : Int) (y : Screening) (e : Int) (hy : SOk y) : ∀ (l p : List Check), y.L = p ++ l → (∀ c ∈ p, hitC x i c = false) → 
    ref15_Verdict_L1 x i cl t (y, e) l p.length = some (if (verS x y i cl t).2.2 = 6 then .brk () else .ret (verS x y i cl t))
  | [], p, h1, h2 => by
    have : y.L.takeWhile (fun c => !hitC x i c) = y.L := by
      have := tw_self (p := fun c => !hitC x i c) y.L (fun c hc => by rw [h1] at hc; simp at hc; show (!hitC x i c) = true; rw [h2 c hc]; rfl)
      exact this
    unfold verS
    rw [this, List.drop_length]
    rfl
  | c :: l, p, h1, h2 => by
    have hn := hy.nx
    have hcm : c ∈ y.L := by rw [h1]; simp
    have skip : hitC x i c = false → ref15_Verdict_L1 x i cl t (y, e) l (p.length + 1) = some (if (verS x y i cl t).2.2 = 6 then .brk () else .ret (verS x y i cl t)) := by
      intro hh
      have := verr_L x i cl t y e hy l (p ++ [c]) (by rw [h1]; simp) (fun d hd => by
        rcases List.mem_append.1 hd with hd | hd
        · exact h2 d hd
        · rw [List.mem_singleton.1 hd]; exact hh)
      rw [List.length_append] at this
      exact this
    rw [ref15_Verdict_L1]
    by_cases c1 : c.State = 1
    rotate_left
    · rw [show (c.State != 1) = true from bne_iff_ne.2 c1, cond_true]
      exact skip (decide_eq_false (fun h => c1 h.1))
    rw [c1, show ((1 : Int) != 1) = false from rfl, cond_false]
    by_cases c2 : c.Image = i
    rotate_left
    · rw [show (c.Image != i) = true from bne_iff_ne.2 c2, cond_true]
      exact skip (decide_eq_false (fun h => c2 h.2.1))
    rw [show (c.Image != i) = false from by rw [c2]; simp, cond_false]
    by_cases c3 : i < x.Next
    rotate_left
    · rw [decide_eq_true (by omega), cond_true]
      exact skip (decide_eq_false (fun h => c3 h.2.2))
    rw [decide_eq_false (by omega), cond_false]
    have hP : y.L.takeWhile (fun c => !hitC x i c) = p := by
      rw [h1, List.takeWhile_append_of_pos (fun d hd => by rw [h2 d hd]; rfl), List.takeWhile_cons_of_neg (by rw [show hitC x i c = true from decide_eq_true ⟨c1, c2, c3⟩]; simp), List.append_nil]
    have hD : y.L.drop p.length = c :: l := by rw [h1]; simp
    unfold verS
    rw [hP, hD]
    cases cl
    · simp only [cond_false, Bool.false_eq_true, if_false]
      rw [fail_r (hy.chk c hcm) (by omega) (by omega), Option.bind_some]
      by_cases c4 : 1048577 < (failC c y.Next t).2
      · rw [decide_eq_true c4, if_pos c4]; rfl
      · rw [decide_eq_false c4, if_neg c4, cond_false]
        have hb : (failC c y.Next t).1.Bag = c.Bag := by unfold failC; split <;> rfl
        rw [if_neg (by show ¬ (0 : Int) = 6; omega), hb, h1]
        simp
    · simp only [cond_true, if_true]
      rw [decide_eq_false (show ¬ (1048577 : Int) < y.Next by omega), cond_false, if_neg (by show ¬ (0 : Int) = 6; omega), h1]
      simp [c1]
theorem ver_r {x : Screening} (h : SOk x) (i : Int) (cl : Bool) (t : Int) : ref15_Verdict x i cl t = some (verM x i cl t) := by
  unfold ref15_Verdict verM
  rw [exp_rv2, exp_r h, Option.bind_some]
  by_cases c0 : (expR x t).2 = 0
  rotate_left
  · rw [if_neg c0, show ((expR x t).2 != 0) = true from bne_iff_ne.2 c0]; rfl
  rw [if_pos c0, c0, show ((0 : Int) != 0) = false from rfl, cond_false]
  obtain ⟨hy, _⟩ := exp_ok h c0
  have := verr_L x i cl t (expR x t).1 (expR x t).2 hy (expR x t).1.L [] rfl (by simp)
  rw [show (((expR x t).1, (expR x t).2) : Screening × Int) = expR x t from rfl, List.length_nil] at this
  rw [this]
  by_cases c6 : (verS x (expR x t).1 i cl t).2.2 = 6
  · rw [if_pos c6, fin_brkE rfl]
    unfold verS at c6 ⊢
    split
    · rfl
    · rename_i hd
      rw [hd] at c6
      simp only at c6
      split at c6
      · cases c6
      · split at c6 <;> cases c6
  · rw [if_neg c6, fin_retE rfl]
/-- one check is replaced -/
theorem rep_ok {y : Screening} (hy : SOk y) {P q : List Check} {c d : Check} {m : Int} (hsp : y.L = P ++ c :: q) (hck : COk d) (hb : d.Bag = c.Bag) (hi : 1 ≤ d.Image ∧ d.Image < m) (hj : d.Image = c.Image ∨ d.Image = y.Next) (hm : y.Next ≤ m ∧ m ≤ 1048577) : SOk ⟨y.Limits, m, P ++ d :: q⟩ := by
  have hs := hy.srt
  have hd := hy.dif
  have hg := hy.img
  rw [hsp] at hs hd
  rw [List.pairwise_append, List.pairwise_cons] at hs hd
  have hn := hy.nx
  have hmem : ∀ e, e ∈ P ++ d :: q → e = d ∨ e ∈ y.L := by
    intro e he
    rw [hsp]
    simp only [List.mem_append, List.mem_cons] at he ⊢
    rcases he with h | h | h
    · exact .inr (.inl h)
    · exact .inl h
    · exact .inr (.inr (.inr h))
  have hP : ∀ e ∈ P, e.Image < y.Next ∧ e.Image ≠ c.Image := fun e he => ⟨(hg e (by rw [hsp]; simp [he])).2, hd.2.2 e he c (by simp)⟩
  have hq : ∀ e ∈ q, e.Image < y.Next ∧ c.Image ≠ e.Image := fun e he => ⟨(hg e (by rw [hsp]; simp [he])).2, hd.2.1.1 e he⟩
  refine ⟨hy.lims, fun e he => ?_, ?_, fun e he => ?_, ?_, ⟨by show 1 ≤ m; omega, hm.2⟩⟩
  · rcases hmem e he with rfl | he
    · exact hck
    · exact hy.chk e he
  · show (P ++ d :: q).Pairwise _
    rw [List.pairwise_append, List.pairwise_cons]
    refine ⟨hs.1, ⟨fun e he => by rw [hb]; exact hs.2.1.1 e he, hs.2.1.2⟩, fun a ha b hb' => ?_⟩
    rcases List.mem_cons.1 hb' with rfl | hb'
    · rw [hb]; exact hs.2.2 a ha c (by simp)
    · exact hs.2.2 a ha b (by simp [hb'])
  · show 1 ≤ e.Image ∧ e.Image < m
    rcases hmem e he with rfl | he
    · exact hi
    · have := hg e he; omega
  · show (P ++ d :: q).Pairwise _
    rw [List.pairwise_append, List.pairwise_cons]
    refine ⟨hd.1, ⟨fun e he => by have := hq e he; omega, hd.2.1.2⟩, fun a ha b hb' => ?_⟩
    rcases List.mem_cons.1 hb' with rfl | hb'
    · have := hP a ha; omega
    · exact hd.2.2 a ha b (by simp [hb'])
/-- what a verdict that is taken leaves -/
structure Ver (x y : Screening) (i : Int) (cl : Bool) (t : Int) (b : Int) : Prop where
  ex : ∃ p c q d, (expS x t).L = p ++ c :: q ∧ y.L = p ++ d :: q ∧ c.State = 1 ∧ c.Image = i ∧ i < x.Next ∧ b = c.Bag ∧ y.Limits = x.Limits ∧
    (cl = true ∧ d = ⟨c.Bag, c.Level, c.Since, c.Image, 2⟩ ∧ y.Next = (expS x t).Next ∨ cl = false ∧ d = (failC c (expS x t).Next t).1 ∧ y.Next = (failC c (expS x t).Next t).2)
theorem verS_hit {x y : Screening} {i : Int} {cl : Bool} {t : Int} (h0 : (verS x y i cl t).2.2 = 0) : ∃ P c q, y.L = P ++ c :: q ∧ (c.State = 1 ∧ c.Image = i ∧ i < x.Next) ∧
    verS x y i cl t = (if cl then (⟨y.Limits, y.Next, P ++ ⟨c.Bag, c.Level, c.Since, c.Image, 2⟩ :: q⟩, c.Bag, 0)
      else if 1048577 < (failC c y.Next t).2 then (Z, 0, 2) else (⟨y.Limits, (failC c y.Next t).2, P ++ (failC c y.Next t).1 :: q⟩, c.Bag, 0)) := by
  unfold verS at h0 ⊢
  have hsp := split_tw (fun c => !hitC x i c) y.L
  generalize hP : y.L.takeWhile (fun c => !hitC x i c) = P at hsp h0 ⊢
  cases hd : y.L.drop P.length with
  | nil => rw [hd] at h0; cases h0
  | cons c q =>
    rw [hd] at hsp
    have hh : hitC x i c = true := by
      rw [← hP] at hd
      simpa using hit_drop hd
    exact ⟨P, c, q, hsp, of_decide_eq_true hh, rfl⟩
theorem ver_ok {x : Screening} (h : SOk x) {i : Int} {cl : Bool} {t : Int} (h0 : (verM x i cl t).2.2 = 0) : SOk (verM x i cl t).1 ∧ Ver x (verM x i cl t).1 i cl t (verM x i cl t).2.1 ∧ 0 ≤ t ∧ t ≤ 1048576 ∧ (expS x t).Next ≤ 1048577 := by
  unfold verM at h0 ⊢
  by_cases c0 : (expR x t).2 = 0
  rotate_left
  · rw [if_neg c0] at h0; exact (c0 h0).elim
  rw [if_pos c0] at h0 ⊢
  obtain ⟨hy, ey, t0, t1, hnx⟩ := exp_ok h c0
  rw [ey] at h0 hy ⊢
  obtain ⟨P, c, q, hsp, hh, hv⟩ := verS_hit h0
  rw [hv] at h0 ⊢
  have hcm : c ∈ (expS x t).L := by rw [hsp]; simp
  have hc := hy.chk c hcm
  have hlv := hc.lv
  have hN := hy.nx
  have hig := hy.img c hcm
  cases cl
  · simp only [Bool.false_eq_true, if_false] at h0 ⊢
    by_cases c4 : 1048577 < (failC c (expS x t).Next t).2
    · rw [if_pos c4] at h0; cases h0
    rw [if_neg c4]
    refine ⟨?_, ⟨P, c, q, _, hsp, rfl, hh.1, hh.2.1, hh.2.2, rfl, rfl, .inr ⟨rfl, rfl, rfl⟩⟩, t0, t1, hnx⟩
    have hfn := fail_n c (expS x t).Next t
    have hb : (failC c (expS x t).Next t).1.Bag = c.Bag := by unfold failC; split <;> rfl
    have hi : (failC c (expS x t).Next t).1.Image = c.Image ∨ (failC c (expS x t).Next t).1.Image = (expS x t).Next ∧ (failC c (expS x t).Next t).2 = (expS x t).Next + 1 := by
      unfold failC; split
      · exact .inl rfl
      · exact .inr ⟨rfl, rfl⟩
    have hck : COk (failC c (expS x t).Next t).1 := by
      unfold failC; split
      · exact ⟨hc.lv, hc.si, hc.bg⟩
      · exact ⟨by show 1 ≤ c.Level + 1 ∧ c.Level + 1 ≤ 4; omega, ⟨t0, t1⟩, hc.bg⟩
    generalize (failC c (expS x t).Next t).1 = d at hb hi hck ⊢
    generalize (failC c (expS x t).Next t).2 = m at hfn hi c4 ⊢
    exact rep_ok hy hsp hck hb (by omega) (by omega) (by omega)
  · simp only [if_true] at h0 ⊢
    refine ⟨?_, ⟨P, c, q, _, hsp, rfl, hh.1, hh.2.1, hh.2.2, rfl, rfl, .inl ⟨rfl, rfl, rfl⟩⟩, t0, t1, hnx⟩
    exact rep_ok hy hsp ⟨hc.lv, hc.si, hc.bg⟩ rfl (by show 1 ≤ c.Image ∧ c.Image < _; omega) (.inl rfl) (by omega)
end Go.Proofs.Ytidhgcgbdjjdlaa.Ex.Sc
