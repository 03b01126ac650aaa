/- Chapter 24: Validate and Least of the program and of the reference agree. Plain. -/
import Derived.Test.YtkajegjghfbgaaaCn1
namespace Go.Proofs.Ytkajegjghfbgaaa.Ex.Cn
open Go.RowKit Go.Proofs.Ytkajegjghfbgaaa.Ax
set_option linter.unusedVariables false
set_option linter.unusedSimpArgs false

def t1 (l : List Int) (i : Int) : Int := (l[i.toNat]?).getD 0
theorem t1_ix {l : List Int} (hl : l.length = 6) {i : Int} (hi : 0 ≤ i ∧ i < 6) : ixL l i = some (t1 l i) := by
  unfold ixL t1
  rw [if_pos (by omega), List.getElem?_eq_getElem (show i.toNat < l.length by omega)]
  rfl
theorem t1_set {l : List Int} (hl : l.length = 6) {a i : Int} (v : Int) (ha : 0 ≤ a ∧ a < 6) (hi : 0 ≤ i ∧ i < 6) : t1 (l.set a.toNat v) i = if i = a then v else t1 l i := by
  unfold t1
  rw [List.getElem?_set]
  by_cases c : i = a
  · subst c
    rw [if_pos rfl, if_pos (by omega), if_pos rfl]
    rfl
  · rw [if_neg (by omega), if_neg c]

theorem rL1 : ∀ (n : Nat) (l : List Int) (j : Int), l.length = 6 → 0 ≤ j → j ≤ 6 → 6 - j < n →
    okP (ref24_Least_L1 n l j) (ctlQ (fun _ => False) (fun z => z.length = 6 ∧ ∀ a, 0 ≤ a ∧ a < 6 → t1 z a = if j ≤ a then 1099511627776 else t1 l a))
  | 0, l, j, _, _, _, h => by omega
  | n + 1, l, j, hl, h0, h6, hn => by
    rw [ref24_Least_L1]
    refine okP_cond (fun c => ?_) (fun c => ?_)
    · have c := of_decide_eq_true c
      rw [gd 6 h0 c, Option.bind_some, t1_ix hl ⟨h0, c⟩, Option.bind_some, w64_id (by omega) (by omega)]
      refine okP_mono (rL1 n _ (j + 1) (by simpa using hl) (by omega) (by omega) (by omega)) fun z hz => ?_
      cases z with
      | ret r => exact hz
      | brk z =>
        refine ⟨hz.1, fun a ha => ?_⟩
        rw [hz.2 a ha, t1_set hl _ ⟨h0, c⟩ ha]
        by_cases c2 : j + 1 ≤ a
        · rw [if_pos c2, if_pos (by omega)]
        · rw [if_neg c2]
          by_cases c3 : a = j
          · rw [if_pos c3, if_pos (by omega)]
          · rw [if_neg c3, if_neg (by omega)]
    · have c := of_decide_eq_false c
      exact okP_some ⟨hl, fun a ha => by rw [if_neg (by omega)]⟩

theorem rL2 (x : Int) : ∀ (q : List Minimum) (k : Nat) (l : List Int), l.length = 6 → (∀ m ∈ q, 0 ≤ m.To ∧ m.To ≤ 5) →
    okP (ref24_Least_L2 x q k l) (ctlQ (fun _ => False) (fun z => z.length = 6 ∧ ∀ b, 0 ≤ b ∧ b < 6 → (∃ m ∈ q, m.From = x ∧ m.To = b ∧ t1 z b = m.Ticks) ∨ ((∀ m ∈ q, ¬ (m.From = x ∧ m.To = b)) ∧ t1 z b = t1 l b)))
  | [], k, l, hl, _ => okP_some ⟨hl, fun b _ => .inr ⟨by simp, rfl⟩⟩
  | m :: q, k, l, hl, hq => by
    have hm := hq m (by simp)
    rw [ref24_Least_L2]
    refine okP_cond (fun c => ?_) (fun c => ?_)
    · have c := eq_of_beq c
      rw [gd 6 hm.1 (by omega), Option.bind_some, t1_ix hl ⟨hm.1, by omega⟩, Option.bind_some]
      refine okP_mono (rL2 x q (k + 1) _ (by simpa using hl) (fun y hy => hq y (by simp [hy]))) fun z hz => ?_
      cases z with
      | ret r => exact hz
      | brk z =>
        refine ⟨hz.1, fun b hb => ?_⟩
        rcases hz.2 b hb with ⟨m', h1, h2⟩ | ⟨h1, h2⟩
        · exact .inl ⟨m', by simp [h1], h2⟩
        · rw [t1_set hl _ ⟨hm.1, by omega⟩ hb] at h2
          by_cases c2 : b = m.To
          · rw [if_pos c2] at h2
            exact .inl ⟨m, by simp, c, c2.symm, h2⟩
          · rw [if_neg c2] at h2
            refine .inr ⟨fun y hy => ?_, h2⟩
            rcases List.mem_cons.1 hy with rfl | hy
            · exact fun q => c2 q.2.symm
            · exact h1 y hy
    · have c := ne_of_beq_false c
      refine okP_mono (rL2 x q (k + 1) l hl (fun y hy => hq y (by simp [hy]))) fun z hz => ?_
      cases z with
      | ret r => exact hz
      | brk z =>
        refine ⟨hz.1, fun b hb => ?_⟩
        rcases hz.2 b hb with ⟨m', h1, h2⟩ | ⟨h1, h2⟩
        · exact .inl ⟨m', by simp [h1], h2⟩
        · refine .inr ⟨fun y hy => ?_, h2⟩
          rcases List.mem_cons.1 hy with rfl | hy
          · exact fun q => c q.1
          · exact h1 y hy

/-- sound entries -/
structure Snd (l : List Minimum) (x : Int) (t : Int → Int) : Prop where
  bd : ∀ b, 0 ≤ b ∧ b < 6 → 0 ≤ t b ∧ t b ≤ 1099511627776
  wk : ∀ b, 0 ≤ b ∧ b < 6 → t b < 1099511627776 → ∃ vs, W l x (b :: vs) (t b)

theorem rL4 {l0 : List Minimum} (h : VOk l0) (x : Int) : ∀ (q : List Minimum) (k : Nat) (l : List Int), l.length = 6 → (∀ m ∈ q, m ∈ l0) → Snd l0 x (t1 l) →
    okP (ref24_Least_L4 q k l) (ctlQ (fun _ => False) (fun z => z.length = 6 ∧ Snd l0 x (t1 z) ∧ (∀ b, 0 ≤ b ∧ b < 6 → t1 z b ≤ t1 l b) ∧ ∀ m ∈ q, t1 l m.From < 1099511627776 → t1 z m.To ≤ t1 l m.From + m.Ticks))
  | [], k, l, hl, _, hs => okP_some ⟨hl, hs, fun b _ => Int.le_refl _, by simp⟩
  | m :: q, k, l, hl, hq, hs => by
    have hm0 := hq m (by simp)
    have hm := h.rg m hm0
    have hF : 0 ≤ m.From ∧ m.From < 6 := by omega
    have hT : 0 ≤ m.To ∧ m.To < 6 := by omega
    rw [ref24_Least_L4, gd 6 hF.1 hF.2, Option.bind_some, t1_ix hl hF, Option.bind_some]
    have b1 := hs.bd m.From hF
    have b2 := hs.bd m.To hT
    refine okP_cond (fun c => ?_) (fun c => ?_)
    · have c := of_decide_eq_true c
      rw [gd 6 hT.1 hT.2]
      simp only [Option.bind_some]
      rw [t1_ix hl hT, Option.bind_some, w64_id (by omega) (by omega)]
      have hs2 : Snd l0 x (t1 (l.set m.To.toNat (if t1 l m.From + m.Ticks < t1 l m.To then t1 l m.From + m.Ticks else t1 l m.To))) := by
        refine ⟨fun b hb => ?_, fun b hb hf => ?_⟩
        · rw [t1_set hl _ hT hb]
          have := hs.bd b hb
          split
          · split <;> omega
          · exact this
        · rw [t1_set hl _ hT hb] at hf ⊢
          by_cases c1 : b = m.To
          · rw [if_pos c1] at hf ⊢
            by_cases c2 : t1 l m.From + m.Ticks < t1 l m.To
            · rw [if_pos c2]
              obtain ⟨vs, hv⟩ := hs.wk m.From hF c
              exact ⟨m.From :: vs, m, hm0, c1.symm, rfl, by rw [show t1 l m.From + m.Ticks - m.Ticks = t1 l m.From by omega]; exact hv⟩
            · rw [if_neg c2] at hf ⊢
              rw [c1]
              exact hs.wk m.To hT hf
          · rw [if_neg c1] at hf ⊢
            exact hs.wk b hb hf
      refine okP_mono (rL4 h x q (k + 1) _ (by simpa using hl) (fun y hy => hq y (by simp [hy])) hs2) fun z hz => ?_
      cases z with
      | ret r => exact hz
      | brk z =>
        obtain ⟨z1, z2, z3, z4⟩ := hz
        have le : ∀ b, 0 ≤ b ∧ b < 6 → t1 (l.set m.To.toNat (if t1 l m.From + m.Ticks < t1 l m.To then t1 l m.From + m.Ticks else t1 l m.To)) b ≤ t1 l b := fun b hb => by
          rw [t1_set hl _ hT hb]
          split
          · rename_i e; subst e; split <;> omega
          · exact Int.le_refl _
        refine ⟨z1, z2, fun b hb => Int.le_trans (z3 b hb) (le b hb), fun y hy hf => ?_⟩
        rcases List.mem_cons.1 hy with rfl | hy
        · have := z3 y.To hT
          rw [t1_set hl _ hT hT, if_pos rfl] at this
          split at this <;> omega
        · have hyr := h.rg y (hq y (by simp [hy]))
          have := le y.From (by omega)
          have := z4 y hy (by omega)
          omega
    · have c := of_decide_eq_false c
      refine okP_mono (rL4 h x q (k + 1) l hl (fun y hy => hq y (by simp [hy])) hs) fun z hz => ?_
      cases z with
      | ret r => exact hz
      | brk z =>
        obtain ⟨z1, z2, z3, z4⟩ := hz
        refine ⟨z1, z2, z3, fun y hy hf => ?_⟩
        rcases List.mem_cons.1 hy with rfl | hy
        · exact absurd hf c
        · exact z4 y hy hf

/-- no walk of at most k steps is shorter -/
def Cmp (l : List Minimum) (x : Int) (k : Nat) (t : Int → Int) : Prop := ∀ vs b n, (b :: vs).length ≤ k → W l x (b :: vs) n → t b ≤ n

theorem cmp_step {l : List Minimum} (h : VOk l) {x : Int} {k : Nat} (hk : 1 ≤ k ∧ k ≤ 10) {t z : Int → Int} (hc : Cmp l x k t) (h1 : ∀ b, 0 ≤ b ∧ b < 6 → z b ≤ t b) (h2 : ∀ m ∈ l, t m.From < 1099511627776 → z m.To ≤ t m.From + m.Ticks) : Cmp l x (k + 1) z := by
  intro vs b n hl hw
  have hw0 := hw
  obtain ⟨m, hm, e1, e2, e3⟩ := hw
  have hr := h.rg m hm
  cases vs with
  | nil =>
    have := hc [] b n (by simp; omega) hw0
    have := h1 b (by omega)
    omega
  | cons c vs =>
    simp only [List.length_cons] at hl
    simp only [List.head?_cons, Option.getD_some] at e2
    have := hc vs c _ (by simp only [List.length_cons]; omega) e3
    have hb := W_len h e3
    simp only [List.length_cons] at hb
    have := h2 m hm (by rw [e2]; omega)
    rw [e1, e2] at this
    omega

theorem rL3 {l0 : List Minimum} (h : VOk l0) (x : Int) : ∀ (n : Nat) (l : List Int) (i : Int), l.length = 6 → Snd l0 x (t1 l) → Cmp l0 x (i + 1).toNat (t1 l) → 0 ≤ i → i ≤ 6 → 6 - i < n →
    okP (ref24_Least_L3 l0 n l i) (ctlQ (fun _ => False) (fun z => z.length = 6 ∧ Snd l0 x (t1 z) ∧ Cmp l0 x 7 (t1 z)))
  | 0, l, i, _, _, _, _, _, h => by omega
  | n + 1, l, i, hl, hs, hc, h0, h6, hn => by
    rw [ref24_Least_L3]
    refine okP_cond (fun c => ?_) (fun c => ?_)
    · have c := of_decide_eq_true c
      refine okP_sub (rL4 h x l0 0 l hl (fun m hm => hm) hs) fun z hz => ?_
      rw [w64_id (by omega) (by omega)]
      refine rL3 h x n z (i + 1) hz.1 hz.2.1 ?_ (by omega) (by omega) (by omega)
      have := cmp_step h (by omega) hc hz.2.2.1 hz.2.2.2
      rwa [show (i + 1 + 1).toNat = (i + 1).toNat + 1 by omega]
    · have c := of_decide_eq_false c
      have : i = 6 := by omega
      subst this
      exact okP_some ⟨hl, hs, hc⟩

/-! ### Validate -/
def ky (m : Minimum) : Int := m.From * 6 + m.To
structure Pre (pre : List Minimum) : Prop where
  rg : ∀ m ∈ pre, 0 ≤ m.From ∧ m.From ≤ 5 ∧ 0 ≤ m.To ∧ m.To ≤ 5 ∧ 0 ≤ m.Ticks ∧ m.Ticks ≤ 1048576
  un : pre.Pairwise (fun a b => ky a < ky b)
  la : ∀ e, pre[pre.length - 1]? = some e → ∀ a ∈ pre, ky a ≤ ky e

theorem in_eq (a b c : Int) : connect_in a b c = some (decide (b ≤ a) && decide (a ≤ c)) := by
  unfold connect_in
  cases h : decide (b ≤ a) <;> simp
theorem term_eq (a : Int) : ref24_terminal a = some (decide (0 ≤ a) && decide (a ≤ 5)) := by
  unfold ref24_terminal
  cases h : decide (0 ≤ a) <;> simp

theorem pre_snoc {pre : List Minimum} (h : Pre pre) {e : Minimum} (he : 0 ≤ e.From ∧ e.From ≤ 5 ∧ 0 ≤ e.To ∧ e.To ≤ 5 ∧ 0 ≤ e.Ticks ∧ e.Ticks ≤ 1048576) (hk : ∀ p, pre[pre.length - 1]? = some p → ky p < ky e) : Pre (pre ++ [e]) := by
  have lt : ∀ a ∈ pre, ky a < ky e := fun a ha => by
    have hne : 0 < pre.length := List.length_pos_of_mem ha
    have hp := List.getElem?_eq_getElem (show pre.length - 1 < pre.length by omega)
    have := h.la _ hp a ha
    have := hk _ hp
    omega
  refine ⟨fun m hm => ?_, ?_, fun p hp a ha => ?_⟩
  · rcases List.mem_append.1 hm with hm | hm
    · exact h.rg m hm
    · rw [List.mem_singleton.1 hm]; exact he
  · rw [List.pairwise_append]
    exact ⟨h.un, by simp, fun a ha b hb => by rw [List.mem_singleton.1 hb]; exact lt a ha⟩
  · rw [List.length_append, List.length_singleton, Nat.add_sub_cancel, List.getElem?_append_right (Nat.le_refl _)] at hp
    simp at hp
    subst hp
    rcases List.mem_append.1 ha with ha | ha
    · have := lt a ha; omega
    · rw [List.mem_singleton.1 ha]; exact Int.le_refl _

theorem val_L (x : List Minimum) (hx : x.length ≤ 1000) : ∀ (q pre : List Minimum), x = pre ++ q → Pre pre →
    ∃ r, connect_Validate_L1 x q pre.length = some r ∧ ref24_Validate_L1 x q pre.length = some r ∧ ctlQ (fun z => z ≠ 0) (fun _ => Pre x) r
  | [], pre, e, hp => ⟨.brk (), rfl, rfl, by rw [List.append_nil] at e; rw [e]; exact hp⟩
  | m :: q, pre, e, hp => by
    have hlen : pre.length < 1000 := by rw [e] at hx; simp at hx; omega
    simp only [connect_Validate_L1, ref24_Validate_L1, in_eq, term_eq, Option.bind_some]
    by_cases a1 : 0 ≤ m.From ∧ m.From ≤ 5
    case neg =>
      have : (decide (0 ≤ m.From) && decide (m.From ≤ 5)) = false := by
        rw [← Bool.not_eq_true]
        simp only [Bool.and_eq_true, decide_eq_true_eq]
        exact a1
      rw [this]
      exact ⟨.ret 1, rfl, rfl, by simp [ctlQ]⟩
    rw [show (decide (0 ≤ m.From) && decide (m.From ≤ 5)) = true by simp [a1]]
    by_cases a2 : 0 ≤ m.To ∧ m.To ≤ 5
    case neg =>
      have : (decide (0 ≤ m.To) && decide (m.To ≤ 5)) = false := by
        rw [← Bool.not_eq_true]
        simp only [Bool.and_eq_true, decide_eq_true_eq]
        exact a2
      rw [this]
      exact ⟨.ret 1, rfl, rfl, by simp [ctlQ]⟩
    rw [show (decide (0 ≤ m.To) && decide (m.To ≤ 5)) = true by simp [a2]]
    simp only [Bool.not_true, cond_false]
    by_cases a3 : m.Ticks < 0
    · rw [show (decide (0 ≤ m.Ticks) && decide (m.Ticks ≤ 1048576)) = false by simp; omega, show decide (m.Ticks < 0) = true by simpa using a3]
      exact ⟨.ret 1, rfl, rfl, by simp [ctlQ]⟩
    rw [show decide (m.Ticks < 0) = false by simpa using a3, cond_false]
    by_cases a4 : 1048576 < m.Ticks
    · rw [show (decide (0 ≤ m.Ticks) && decide (m.Ticks ≤ 1048576)) = false by simp; omega, show decide (1048576 < m.Ticks) = true by simpa using a4]
      exact ⟨.ret 1, rfl, rfl, by simp [ctlQ]⟩
    rw [show decide (1048576 < m.Ticks) = false by simpa using a4, cond_false, show (decide (0 ≤ m.Ticks) && decide (m.Ticks ≤ 1048576)) = true by simp; omega]
    simp only [Bool.not_true, cond_false]
    have hmr : 0 ≤ m.From ∧ m.From ≤ 5 ∧ 0 ≤ m.To ∧ m.To ≤ 5 ∧ 0 ≤ m.Ticks ∧ m.Ticks ≤ 1048576 := by omega
    have rest : (∀ p, pre[pre.length - 1]? = some p → ky p < ky m) → ∃ r, connect_Validate_L1 x q (pre.length + 1) = some r ∧ ref24_Validate_L1 x q (pre.length + 1) = some r ∧ ctlQ (fun z => z ≠ 0) (fun _ => Pre x) r := fun hk => by
      have := val_L x hx q (pre ++ [m]) (by simp [e]) (pre_snoc hp hmr hk)
      simpa using this
    by_cases a5 : pre.length = 0
    · rw [show (((pre.length : Nat) : Int) == 0) = true by simp [a5], cond_true, cond_true]
      have hnil : pre = [] := List.eq_nil_of_length_eq_zero a5
      exact rest (fun p hp => by rw [hnil] at hp; simp at hp)
    · rw [show (((pre.length : Nat) : Int) == 0) = false from beq_false_of_ne (by omega), cond_false, cond_false, w64_id (by omega) (by omega)]
      have hp1 := List.getElem?_eq_getElem (show pre.length - 1 < pre.length by omega)
      generalize pre[pre.length - 1] = p at hp1
      have hix : ixL x ((pre.length : Int) - 1) = some p := by
        refine ixL_at' (pre.length - 1) (by omega) ?_
        rw [e, List.getElem?_append_left (by omega)]
        exact hp1
      rw [hix]
      simp only [Option.bind_some]
      have hpr := hp.rg p (List.mem_of_getElem? hp1)
      rw [show (p.From == m.From) = (m.From == p.From) from Bool.beq_comm ..]
      rw [show (p.To == m.To) = (m.To == p.To) from Bool.beq_comm ..]
      have rest' : ky p < ky m → ∃ r, connect_Validate_L1 x q (pre.length + 1) = some r ∧ ref24_Validate_L1 x q (pre.length + 1) = some r ∧ ctlQ (fun z => z ≠ 0) (fun _ => Pre x) r := fun h => rest (fun p' hp' => by rw [hp1] at hp'; cases hp'; exact h)
      by_cases c1 : m.From = p.From
      · rw [show (m.From == p.From) = true from beq_iff_eq.2 c1]
        simp only [cond_true]
        by_cases c2 : m.To = p.To
        · rw [show (m.To == p.To) = true from beq_iff_eq.2 c2]
          exact ⟨.ret 5, rfl, rfl, by simp [ctlQ]⟩
        · rw [show (m.To == p.To) = false from beq_false_of_ne c2, show decide (m.From < p.From) = false by simp; omega]
          simp only [cond_false]
          by_cases c3 : m.To < p.To
          · rw [show decide (m.To < p.To) = true by simpa using c3]
            exact ⟨.ret 9, rfl, rfl, by simp [ctlQ]⟩
          · rw [show decide (m.To < p.To) = false by simpa using c3]
            exact rest' (by unfold ky; omega)
      · rw [show (m.From == p.From) = false from beq_false_of_ne c1]
        simp only [cond_false]
        by_cases c3 : m.From < p.From
        · rw [show decide (m.From < p.From) = true by simpa using c3]
          exact ⟨.ret 9, rfl, rfl, by simp [ctlQ]⟩
        · rw [show decide (m.From < p.From) = false by simpa using c3]
          exact rest' (by unfold ky; omega)

theorem val_both (x : List Minimum) (hx : x.length ≤ 1000) : ∃ r, connect_Validate x = some r ∧ ref24_Validate x = some r ∧ (r = 0 → VOk x) := by
  obtain ⟨r, h1, h2, h3⟩ := val_L x hx x [] rfl ⟨by simp, List.Pairwise.nil, fun e he => by simp at he⟩
  unfold connect_Validate ref24_Validate
  have h1 : connect_Validate_L1 x x 0 = some r := h1
  have h2 : ref24_Validate_L1 x x 0 = some r := h2
  rw [h1, h2]
  cases r with
  | ret r => exact ⟨r, rfl, rfl, fun e => absurd e h3⟩
  | brk u => exact ⟨0, rfl, rfl, fun _ => ⟨h3.rg, h3.un⟩⟩

theorem nat6 {a : Int} (h : 0 ≤ a ∧ a ≤ 5) : a = 0 ∨ a = 1 ∨ a = 2 ∨ a = 3 ∨ a = 4 ∨ a = 5 := by omega

theorem least_prog {l : List Minimum} (hl : l.length ≤ 1000) (h : VOk l) (hv : connect_Validate l = some 0) {a b : Int} (ha : 0 ≤ a ∧ a ≤ 5) (hb : 0 ≤ b ∧ b ≤ 5) : okP (connect_Least l a b) (LeastIs l a b) := by
  unfold connect_Least
  rw [hv, Option.bind_some, bne_self_eq_false, cond_false, in_eq, in_eq]
  simp only [Option.bind_some]
  rw [show (decide (0 ≤ a) && decide (a ≤ 5)) = true by simp [ha], show (decide (0 ≤ b) && decide (b ≤ 5)) = true by simp [hb]]
  simp only [Bool.not_true, cond_false, Option.bind_some]
  refine okP_bind (ways_ok h) fun r hr => ?_
  have fin : ∀ (v : Int), LeastIs l a b (if v < 38797349 then (v, true) else (0, false)) → okP (cond (decide ((38797349 : Int) ≤ v)) (some ((0 : Int), false)) (some (v, true))) (LeastIs l a b) := fun v hv => by
    by_cases c : v < 38797349
    · rw [if_pos c] at hv
      rw [show decide ((38797349 : Int) ≤ v) = false by simp; omega]
      exact okP_some hv
    · rw [if_neg c] at hv
      rw [show decide ((38797349 : Int) ≤ v) = true by simp; omega]
      exact okP_some hv
  rcases nat6 ha with rfl | rfl | rfl | rfl | rfl | rfl <;> rcases nat6 hb with rfl | rfl | rfl | rfl | rfl | rfl
  · exact fin _ (hr 0 0 (by omega) (by omega))
  · exact fin _ (hr 0 1 (by omega) (by omega))
  · exact fin _ (hr 0 2 (by omega) (by omega))
  · exact fin _ (hr 0 3 (by omega) (by omega))
  · exact fin _ (hr 0 4 (by omega) (by omega))
  · exact fin _ (hr 0 5 (by omega) (by omega))
  · exact fin _ (hr 1 0 (by omega) (by omega))
  · exact fin _ (hr 1 1 (by omega) (by omega))
  · exact fin _ (hr 1 2 (by omega) (by omega))
  · exact fin _ (hr 1 3 (by omega) (by omega))
  · exact fin _ (hr 1 4 (by omega) (by omega))
  · exact fin _ (hr 1 5 (by omega) (by omega))
  · exact fin _ (hr 2 0 (by omega) (by omega))
  · exact fin _ (hr 2 1 (by omega) (by omega))
  · exact fin _ (hr 2 2 (by omega) (by omega))
  · exact fin _ (hr 2 3 (by omega) (by omega))
  · exact fin _ (hr 2 4 (by omega) (by omega))
  · exact fin _ (hr 2 5 (by omega) (by omega))
  · exact fin _ (hr 3 0 (by omega) (by omega))
  · exact fin _ (hr 3 1 (by omega) (by omega))
  · exact fin _ (hr 3 2 (by omega) (by omega))
  · exact fin _ (hr 3 3 (by omega) (by omega))
  · exact fin _ (hr 3 4 (by omega) (by omega))
  · exact fin _ (hr 3 5 (by omega) (by omega))
  · exact fin _ (hr 4 0 (by omega) (by omega))
  · exact fin _ (hr 4 1 (by omega) (by omega))
  · exact fin _ (hr 4 2 (by omega) (by omega))
  · exact fin _ (hr 4 3 (by omega) (by omega))
  · exact fin _ (hr 4 4 (by omega) (by omega))
  · exact fin _ (hr 4 5 (by omega) (by omega))
  · exact fin _ (hr 5 0 (by omega) (by omega))
  · exact fin _ (hr 5 1 (by omega) (by omega))
  · exact fin _ (hr 5 2 (by omega) (by omega))
  · exact fin _ (hr 5 3 (by omega) (by omega))
  · exact fin _ (hr 5 4 (by omega) (by omega))
  · exact fin _ (hr 5 5 (by omega) (by omega))

theorem least_ref {l : List Minimum} (h : VOk l) (hv : ref24_Validate l = some 0) {a b : Int} (ha : 0 ≤ a ∧ a ≤ 5) (hb : 0 ≤ b ∧ b ≤ 5) : okP (ref24_Least l a b) (LeastIs l a b) := by
  unfold ref24_Least
  rw [hv, Option.bind_some, bne_self_eq_false, cond_false, term_eq, term_eq]
  simp only [Option.bind_some]
  rw [show (decide (0 ≤ a) && decide (a ≤ 5)) = true by simp [ha], show (decide (0 ≤ b) && decide (b ≤ 5)) = true by simp [hb]]
  simp only [Bool.not_true, cond_false, Option.bind_some]
  refine okP_bindE (x := List.replicate 6 0) rfl ?_
  have hb6 : 0 ≤ b ∧ b < 6 := by omega
  refine okP_finB (rL1 9223372036854775807 _ 0 (by simp) (by omega) (by omega) (by omega)) fun z1 hz1 => ?_
  refine okP_finB (rL2 a l 0 z1 hz1.1 (fun m hm => by have := h.rg m hm; omega)) fun z2 hz2 => ?_
  have hfar : ∀ c, 0 ≤ c ∧ c < 6 → t1 z1 c = 1099511627776 := fun c hc => by rw [hz1.2 c hc, if_pos hc.1]
  have hs : Snd l a (t1 z2) := by
    refine ⟨fun c hc => ?_, fun c hc hf => ?_⟩
    · rcases hz2.2 c hc with ⟨m, hm, _, _, e⟩ | ⟨_, e⟩
      · have := h.rg m hm; omega
      · rw [hfar c hc] at e; omega
    · rcases hz2.2 c hc with ⟨m, hm, e1, e2, e⟩ | ⟨_, e⟩
      · exact ⟨[], m, hm, e2, by simpa using e1, by show t1 z2 c - m.Ticks = 0; omega⟩
      · rw [hfar c hc] at e; omega
  have hc : Cmp l a 1 (t1 z2) := by
    intro vs c n hlen hw
    obtain ⟨m, hm, e1, e2, e3⟩ := hw
    have hr := h.rg m hm
    cases vs with
    | cons d vs => simp at hlen
    | nil =>
      have e3 : n - m.Ticks = 0 := e3
      simp only [List.head?_nil, Option.getD_none] at e2
      rcases hz2.2 c (by omega) with ⟨m', hm', q1, q2, q⟩ | ⟨q, _⟩
      · have := uniq h hm' hm (by omega) (by omega); omega
      · exact absurd ⟨e2, e1⟩ (q m hm)
  refine okP_finB (rL3 h a 9223372036854775807 z2 0 hz2.1 hs hc (by omega) (by omega) (by omega)) fun z hz => ?_
  obtain ⟨z1', z2', z3'⟩ := hz
  rw [gd 6 hb6.1 hb6.2]
  simp only [Option.bind_some]
  rw [t1_ix z1' hb6]
  simp only [Option.bind_some]
  have hbd := z2'.bd b hb6
  by_cases c : t1 z b = 1099511627776
  · rw [show (t1 z b == 1099511627776) = true from beq_iff_eq.2 c, cond_true]
    refine okP_some (.inr ⟨rfl, rfl, fun vs n hw => ?_⟩)
    obtain ⟨vs', n', q1, q2, q3⟩ := short h vs.length vs n (Nat.le_refl _) hw
    have := z3' vs' b n' (by omega) q3
    have := W_len h q3
    omega
  · rw [show (t1 z b == 1099511627776) = false from beq_false_of_ne c, cond_false]
    refine okP_some (.inl ⟨rfl, z2'.wk b hb6 (by omega), fun vs n hw => ?_⟩)
    obtain ⟨vs', n', q1, q2, q3⟩ := short h vs.length vs n (Nat.le_refl _) hw
    have := z3' vs' b n' (by omega) q3
    show t1 z b ≤ n
    omega

/-- both Leasts, whatever the arguments -/
theorem least_both (x : List Minimum) (hx : x.length ≤ 1000) (a b : Int) : ∃ r, connect_Least x a b = some r ∧ ref24_Least x a b = some r ∧
    ((connect_Validate x = some 0 ∧ VOk x ∧ (0 ≤ a ∧ a ≤ 5) ∧ (0 ≤ b ∧ b ≤ 5) ∧ LeastIs x a b r) ∨ (r = (0, false) ∧ ¬ (connect_Validate x = some 0 ∧ (0 ≤ a ∧ a ≤ 5) ∧ (0 ≤ b ∧ b ≤ 5)))) := by
  obtain ⟨v, h1, h2, h3⟩ := val_both x hx
  by_cases hv : v = 0
  · subst hv
    have hV := h3 rfl
    by_cases ca : 0 ≤ a ∧ a ≤ 5
    · by_cases cb : 0 ≤ b ∧ b ≤ 5
      · obtain ⟨r, p1, p2⟩ := least_prog hx hV h1 ca cb
        obtain ⟨s, q1, q2⟩ := least_ref hV h2 ca cb
        have := least_uniq p2 q2
        subst this
        exact ⟨r, p1, q1, .inl ⟨h1, hV, ca, cb, p2⟩⟩
      · refine ⟨(0, false), ?_, ?_, .inr ⟨rfl, fun q => cb q.2.2⟩⟩
        · unfold connect_Least
          rw [h1, Option.bind_some, bne_self_eq_false, cond_false, in_eq, in_eq, show (decide (0 ≤ a) && decide (a ≤ 5)) = true by simp [ca], show (decide (0 ≤ b) && decide (b ≤ 5)) = false by
            rw [← Bool.not_eq_true]
            simp only [Bool.and_eq_true, decide_eq_true_eq]
            exact cb]
          rfl
        · unfold ref24_Least
          rw [h2, Option.bind_some, bne_self_eq_false, cond_false, term_eq, term_eq, show (decide (0 ≤ a) && decide (a ≤ 5)) = true by simp [ca], show (decide (0 ≤ b) && decide (b ≤ 5)) = false by
            rw [← Bool.not_eq_true]
            simp only [Bool.and_eq_true, decide_eq_true_eq]
            exact cb]
          rfl
    · refine ⟨(0, false), ?_, ?_, .inr ⟨rfl, fun q => ca q.2.1⟩⟩
      · unfold connect_Least
        rw [h1, Option.bind_some, bne_self_eq_false, cond_false, in_eq, show (decide (0 ≤ a) && decide (a ≤ 5)) = false by
            rw [← Bool.not_eq_true]
            simp only [Bool.and_eq_true, decide_eq_true_eq]
            exact ca]
        rfl
      · unfold ref24_Least
        rw [h2, Option.bind_some, bne_self_eq_false, cond_false, term_eq, show (decide (0 ≤ a) && decide (a ≤ 5)) = false by
            rw [← Bool.not_eq_true]
            simp only [Bool.and_eq_true, decide_eq_true_eq]
            exact ca]
        rfl
  · have hb : (v != 0) = true := by simpa using hv
    refine ⟨(0, false), ?_, ?_, .inr ⟨rfl, fun q => ?_⟩⟩
    · unfold connect_Least; rw [h1, Option.bind_some, hb]; rfl
    · unfold ref24_Least; rw [h2, Option.bind_some, hb]; rfl
    · rw [h1] at q; exact hv (Option.some.inj q.1)
end Go.Proofs.Ytkajegjghfbgaaa.Ex.Cn
