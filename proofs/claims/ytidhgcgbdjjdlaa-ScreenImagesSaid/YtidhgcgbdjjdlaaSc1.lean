/- Chapter 15: screenings: what the functions of program and reference give. Plain. -/
import Derived.Test.YtidhgcgbdjjdlaaKp0
namespace Go.Proofs.Ytidhgcgbdjjdlaa.Ex.Sc
open Go.RowKit Go.Proofs.Ytidhgcgbdjjdlaa.Ax
set_option linter.unusedVariables false
set_option linter.unusedSimpArgs false

theorem awake15 : law15_awake = some true := by kernel_rfl

/-! lists, the first part of which is told by a test -/
theorem take_tw {α : Type} {p : α → Bool} : ∀ l : List α, l.take (l.takeWhile p).length = l.takeWhile p
  | [] => rfl
  | x :: l => by
    by_cases c : p x = true
    · rw [List.takeWhile_cons_of_pos c, List.length_cons, List.take_succ_cons, take_tw l]
    · rw [List.takeWhile_cons_of_neg c]; rfl
theorem drop_tw {α : Type} {p : α → Bool} : ∀ l : List α, l.drop (l.takeWhile p).length = l.dropWhile p
  | [] => rfl
  | x :: l => by
    by_cases c : p x = true
    · rw [List.takeWhile_cons_of_pos c, List.dropWhile_cons_of_pos c, List.length_cons, List.drop_succ_cons, drop_tw l]
    · rw [List.takeWhile_cons_of_neg c, List.dropWhile_cons_of_neg c]; rfl
theorem tw_le {α : Type} {p : α → Bool} (l : List α) : (l.takeWhile p).length ≤ l.length := (List.takeWhile_sublist _).length_le
theorem tw_idx {α : Type} {P : α → Bool} : ∀ {l : List α}, l.Pairwise (fun a b => P b = true → P a = true) → ∀ {k : Nat} {x : α}, l[k]? = some x → (P x = true ↔ k < (l.takeWhile P).length)
  | y :: l, h, 0, x, hx => by
    simp at hx
    subst hx
    by_cases c : P y = true
    · rw [List.takeWhile_cons_of_pos c]; simp [c]
    · rw [List.takeWhile_cons_of_neg c]; simp [c]
  | y :: l, h, k + 1, x, hx => by
    rw [List.pairwise_cons] at h
    have hx' : l[k]? = some x := by simpa using hx
    by_cases c : P y = true
    · rw [List.takeWhile_cons_of_pos c, List.length_cons, tw_idx h.2 hx']
      omega
    · rw [List.takeWhile_cons_of_neg c]
      simp only [List.length_nil]
      constructor
      · intro hp; exact (c (h.1 x (List.mem_of_getElem? hx') hp)).elim
      · omega
theorem pos_found {α : Type} {P : α → Bool} {E : α → Prop} {l : List α} (h1 : l.Pairwise (fun a b => P b = true → P a = true)) (hE : ∀ x, E x → P x = false) (hlt : l.Pairwise (fun a b => E b → P a = true)) :
    (∃ x ∈ l, E x) ↔ ∃ x, l[(l.takeWhile P).length]? = some x ∧ E x := by
  constructor
  · rintro ⟨x, hx, he⟩
    obtain ⟨k, hk⟩ := List.getElem?_of_mem hx
    have h2 : ¬ k < (l.takeWhile P).length := fun h => by have := (tw_idx h1 hk).2 h; rw [hE x he] at this; cases this
    by_cases e : k = (l.takeWhile P).length
    · rw [← e]; exact ⟨x, hk, he⟩
    · exfalso
      have hkl := (List.getElem?_eq_some_iff.1 hk).1
      have hpl : (l.takeWhile P).length < l.length := by omega
      have hq := List.getElem?_eq_getElem hpl
      have := List.pairwise_iff_getElem.1 hlt _ k hpl hkl (by omega)
      rw [(List.getElem?_eq_some_iff.1 hk).2] at this
      have h3 := (tw_idx h1 hq).1 (this he)
      omega
  · rintro ⟨x, hx, he⟩
    exact ⟨x, List.mem_of_getElem? hx, he⟩

theorem mid_eq {a : Int} (h0 : 0 ≤ a) (h1 : a ≤ 1000000) : IntKind.i64.wrap (shrF .u64 (IntKind.u64.wrap (w64 a)) (1 : Int)) = a / 2 := by
  have e : IntKind.u64.wrap a = a := by
    unfold IntKind.wrap
    simp only [IntKind.bits, IntKind.signed]
    first
      | omega
      | (simp; omega)
  rw [w64_id (z := a) (by omega) (by omega), e]
  have : shrF .u64 a 1 = a / 2 := by
    unfold shrF
    rw [show min (Int.toNat 1) IntKind.u64.bits = 1 from rfl, Int.fdiv_eq_ediv_of_nonneg _ (by decide)]
    rfl
  rw [this]
  exact w64_id (by omega) (by omega)


theorem Range_ok (s : Src) (lo hi : Int) (h : SrcOk s) (h0 : lo ≤ hi) (h1 : -1000000000 ≤ lo) (h2 : hi ≤ 1000000000) : okP (keep_Src_Range s lo hi) (fun r => lo ≤ r.1 ∧ r.1 ≤ hi ∧ SrcOk r.2) := by
  unfold keep_Src_Range
  rw [w64_id (z := hi - lo) (by omega) (by omega), w64_id (z := hi - lo + 1) (by omega) (by omega)]
  refine okP_bind (N_ok s _ h (by omega) (by omega)) (fun r ⟨r1, r2, r3⟩ => okP_some ?_)
  rw [w64_id (by omega) (by omega)]
  exact ⟨by omega, by omega, r3⟩
theorem Pick_ok (s : Src) (l : List Int) (h : SrcOk s) (h1 : 1 ≤ l.length) (h2 : l.length ≤ 1000000) : okP (keep_Src_Pick s l) (fun r => r.1 ∈ l ∧ SrcOk r.2) := by
  unfold keep_Src_Pick
  refine okP_bind (N_ok s _ h (by omega) (by omega)) (fun r ⟨r1, r2, r3⟩ => ?_)
  exact okP_bind (okP_ixL (Q := fun x => x ∈ l) r1 r2 (fun x hx _ => hx)) (fun x hx => okP_some ⟨hx, r3⟩)

/-! limits, checks, screenings -/
structure LOk (l : A4_Int) : Prop where
  a0 : 0 ≤ l.e0 ∧ l.e0 ≤ 1000
  a1 : 0 ≤ l.e1 ∧ l.e1 ≤ 1000
  a2 : 0 ≤ l.e2 ∧ l.e2 ≤ 1000
  a3 : 0 ≤ l.e3 ∧ l.e3 ≤ 1000
def lim (l : A4_Int) (v : Int) : Int := if v = 1 then l.e0 else if v = 2 then l.e1 else if v = 3 then l.e2 else l.e3
theorem lim_rng {l : A4_Int} (h : LOk l) (v : Int) : 0 ≤ lim l v ∧ lim l v ≤ 1000 := by
  obtain ⟨h0, h1, h2, h3⟩ := h
  unfold lim
  split
  · exact h0
  · split
    · exact h1
    · split
      · exact h2
      · exact h3
structure COk (c : Check) : Prop where
  lv : 1 ≤ c.Level ∧ c.Level ≤ 4
  si : 0 ≤ c.Since ∧ c.Since ≤ 1048576
  bg : 1 ≤ c.Bag ∧ c.Bag ≤ 40
structure SOk (x : Screening) : Prop where
  lims : LOk x.Limits
  chk : ∀ c ∈ x.L, COk c
  srt : x.L.Pairwise (fun a b => a.Bag < b.Bag)
  img : ∀ c ∈ x.L, 1 ≤ c.Image ∧ c.Image < x.Next
  dif : x.L.Pairwise (fun a b => a.Image ≠ b.Image)
  nx : 1 ≤ x.Next ∧ x.Next ≤ 1048577

theorem bags_len : ∀ (l : List Check) (lo : Int), (∀ c ∈ l, lo ≤ c.Bag ∧ c.Bag ≤ 40) → l.Pairwise (fun a b => a.Bag < b.Bag) → lo ≤ 41 → (l.length : Int) ≤ 41 - lo
  | [], lo, h, _, h2 => by simp; omega
  | c :: l, lo, h, hp, h2 => by
    rw [List.pairwise_cons] at hp
    have hc := h c (by simp)
    have := bags_len l (c.Bag + 1) (fun d hd => ⟨by have := hp.1 d hd; omega, (h d (by simp [hd])).2⟩) hp.2 (by omega)
    simp only [List.length_cons]; omega
theorem SOk.len {x : Screening} (h : SOk x) : x.L.length ≤ 40 := by
  have := bags_len x.L 1 (fun c hc => (h.chk c hc).bg) h.srt (by omega)
  omega

theorem cmpi15 (x y : Int) : cmp_Compare_int x y = some (if x < y then -1 else if y < x then 1 else 0) := by
  unfold cmp_Compare_int cmp_isNaN_int
  simp only [bne_self_eq_false, Option.bind_some, cond_ite, decide_eq_true_eq, Bool.false_eq_true, if_false]
  (repeat' split) <;> rfl
theorem f1C (c : Check) (b : Int) : screen_at_f1 c b = some (if c.Bag < b then -1 else if b < c.Bag then 1 else 0) := by
  unfold screen_at_f1
  rw [cmpi15]
  rfl

/-! searching -/
def ltC (b : Int) (c : Check) : Bool := decide (c.Bag < b)
def posC (L : List Check) (b : Int) : Nat := (L.takeWhile (ltC b)).length
abbrev hasC (L : List Check) (b : Int) : Prop := ∃ c ∈ L, c.Bag = b
theorem monoC {L : List Check} (h : L.Pairwise (fun a b => a.Bag < b.Bag)) (b : Int) : L.Pairwise (fun x y => ltC b y = true → ltC b x = true) :=
  List.Pairwise.imp (fun {x y} hxy hy => decide_eq_true (by have := of_decide_eq_true hy; omega)) h
theorem foundC {L : List Check} (h : L.Pairwise (fun a b => a.Bag < b.Bag)) (b : Int) : hasC L b ↔ ∃ c, L[posC L b]? = some c ∧ c.Bag = b :=
  pos_found (E := fun c : Check => c.Bag = b) (monoC h b) (fun s e => decide_eq_false (by omega)) (List.Pairwise.imp (fun {x y} hxy e => decide_eq_true (by omega)) h)
theorem search_CL (b : Int) (L : List Check) (hs : L.Pairwise (fun a b => a.Bag < b.Bag)) (hl : L.length ≤ 1000) : ∀ (n i j : Nat), i ≤ posC L b → posC L b ≤ j → j ≤ L.length → j - i < n → slices_BinarySearchFunc_int_L1 L b n (i : Int) (j : Int) = some (.brk (posC L b : Int))
  | 0, i, j, _, _, _, h => by omega
  | n + 1, i, j, h1, h2, h3, h4 => by
    rw [slices_BinarySearchFunc_int_L1]
    by_cases c : i < j
    · rw [decide_eq_true (by omega), cond_true, mid_eq (by omega) (by omega)]
      obtain ⟨q, hq⟩ : ∃ q : Nat, ((i : Int) + (j : Int)) / 2 = q := ⟨(((i : Int) + (j : Int)) / 2).toNat, by omega⟩
      have hql : q < L.length := by omega
      have hx := List.getElem?_eq_getElem hql
      rw [hq, ixL_at' q rfl hx]
      simp only [Option.bind_some, f1C]
      have key := tw_idx (monoC hs b) hx
      by_cases c2 : L[q].Bag < b
      · rw [if_pos c2, decide_eq_true (by omega), cond_true, w64_id (by omega) (by omega), show (q : Int) + 1 = ((q + 1 : Nat) : Int) by omega]
        have : q < posC L b := key.1 (decide_eq_true c2)
        exact search_CL b L hs hl n (q + 1) j (by omega) h2 h3 (by omega)
      · rw [if_neg c2, decide_eq_false (by split <;> omega), cond_false]
        have : ¬ q < posC L b := fun h => c2 (of_decide_eq_true (key.2 h))
        exact search_CL b L hs hl n i q (by omega) (by omega) (by omega) (by omega)
    · rw [decide_eq_false (by omega), cond_false, show i = posC L b by omega]
theorem search_C (b : Int) (L : List Check) (hs : L.Pairwise (fun a b => a.Bag < b.Bag)) (hl : L.length ≤ 1000) : slices_BinarySearchFunc_int L b = some ((posC L b : Int), decide (hasC L b)) := by
  unfold slices_BinarySearchFunc_int
  have hle : posC L b ≤ L.length := tw_le L
  have := search_CL b L hs hl 9223372036854775807 0 L.length (Nat.zero_le _) hle (Nat.le_refl _) (by omega)
  rw [show ((0 : Nat) : Int) = 0 from rfl] at this
  rw [this]
  simp only [Ctl.fin]
  have hf := foundC hs b
  by_cases c : posC L b < L.length
  · have hx := List.getElem?_eq_getElem c
    rw [decide_eq_true (by omega), cond_true, ixL_at' _ rfl hx]
    simp only [Option.bind_some, f1C]
    congr 2
    rw [Bool.eq_iff_iff, beq_iff_eq, decide_eq_true_eq, hf]
    constructor
    · intro e; exact ⟨_, hx, by (repeat' split at e) <;> omega⟩
    · rintro ⟨s, h1, h2⟩
      rw [hx] at h1
      cases h1
      rw [if_neg (by omega), if_neg (by omega)]
  · rw [decide_eq_false (by omega), cond_false]
    congr 2
    rw [eq_comm, decide_eq_false_iff_not, hf]
    rintro ⟨s, h1, _⟩
    have := (List.getElem?_eq_some_iff.1 h1).1
    omega
end Go.Proofs.Ytidhgcgbdjjdlaa.Ex.Sc
