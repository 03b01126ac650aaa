/- Chapter 24: the law ConnectWays. Plain. -/
import Derived.Test.YtkajegjghfbgaaaCn3
namespace Go.Proofs.Ytkajegjghfbgaaa.Ex.Cn
open Go.RowKit Go.Proofs.Ytkajegjghfbgaaa.Ax
set_option linter.unusedVariables false
set_option linter.unusedSimpArgs false

def tb (l : List Bool) (i j : Int) : Bool := (l[(i * 6 + j).toNat]?).getD false
theorem tb_ix {l : List Bool} (hl : l.length = 36) {i j : Int} (hi : 0 ≤ i ∧ i < 6) (hj : 0 ≤ j ∧ j < 6) : ixL l (i * 6 + j) = some (tb l i j) := by
  unfold ixL tb
  rw [if_pos (by omega), List.getElem?_eq_getElem (show (i * 6 + j).toNat < l.length by omega)]
  rfl
theorem tb_set {l : List Bool} (hl : l.length = 36) {a b i j : Int} (v : Bool) (ha : 0 ≤ a ∧ a < 6) (hb : 0 ≤ b ∧ b < 6) (hi : 0 ≤ i ∧ i < 6) (hj : 0 ≤ j ∧ j < 6) : tb (l.set (a * 6 + b).toNat v) i j = if i = a ∧ j = b then v else tb l i j := by
  unfold tb
  rw [List.getElem?_set]
  by_cases c : i = a ∧ j = b
  · obtain ⟨rfl, rfl⟩ := c
    rw [if_pos rfl, if_pos (by omega), if_pos ⟨rfl, rfl⟩]
    rfl
  · rw [if_neg (by omega), if_neg c]

def lf (x : List Minimum) (a b : Int) : Int × Bool := (connect_Least x a b).getD (0, false)
theorem lf_eq {x : List Minimum} (hx : x.length ≤ 1000) (h : VOk x) {a b : Int} (ha : 0 ≤ a ∧ a < 6) (hb : 0 ≤ b ∧ b < 6) : connect_Least x a b = some (lf x a b) ∧ LeastIs x a b (lf x a b) := by
  obtain ⟨r, h1, h2⟩ := least_in hx h (a := a) (b := b) (by omega) (by omega)
  unfold lf
  rw [h1]
  exact ⟨rfl, h2⟩

theorem y_L2 {x : List Minimum} (hx : x.length ≤ 1000) (h : VOk x) (s : Src) (i : Int) (hi : 0 ≤ i ∧ i < 6) : ∀ (n : Nat) (l : List Int) (m : List Bool) (j : Int), l.length = 36 → m.length = 36 → 0 ≤ j → j ≤ 6 → 6 - j < n →
    okP (law24_ConnectWays_L2 (x, s) i n l m j) (ctlQ (fun _ => False) (fun z => z.1.length = 36 ∧ z.2.length = 36 ∧ ∀ a b, 0 ≤ a ∧ a < 6 → 0 ≤ b ∧ b < 6 → tg z.1 a b = (if a = i ∧ j ≤ b then (lf x a b).1 else tg l a b) ∧ tb z.2 a b = (if a = i ∧ j ≤ b then (lf x a b).2 else tb m a b)))
  | 0, l, m, j, _, _, _, _, h => by omega
  | n + 1, l, m, j, hl, hm, h0, h6, hn => by
    rw [law24_ConnectWays_L2]
    refine okP_cond (fun c => ?_) (fun c => ?_)
    · have c := of_decide_eq_true c
      have hj : 0 ≤ j ∧ j < 6 := ⟨h0, c⟩
      rw [(lf_eq hx h hi hj).1, Option.bind_some, gd 6 hi.1 hi.2, gd 6 h0 c]
      simp only [Option.bind_some]
      rw [tg_ix hl hi hj, Option.bind_some, tb_ix hm hi hj, Option.bind_some, w64_id (by omega) (by omega)]
      refine okP_mono (y_L2 hx h s i hi n _ _ (j + 1) (by simpa using hl) (by simpa using hm) (by omega) (by omega) (by omega)) fun z hz => ?_
      cases z with
      | ret r => exact hz
      | brk z =>
        refine ⟨hz.1, hz.2.1, fun a b ha hb => ?_⟩
        obtain ⟨e1, e2⟩ := hz.2.2 a b ha hb
        rw [e1, e2, tg_set hl _ hi hj ha hb, tb_set hm _ hi hj ha hb]
        by_cases c1 : a = i ∧ j + 1 ≤ b
        · rw [if_pos c1, if_pos c1, if_pos (show a = i ∧ j ≤ b by omega), if_pos (show a = i ∧ j ≤ b by omega)]
          exact ⟨rfl, rfl⟩
        · rw [if_neg c1, if_neg c1]
          by_cases c2 : a = i ∧ b = j
          · obtain ⟨rfl, rfl⟩ := c2
            simp
          · rw [if_neg c2, if_neg c2, if_neg (show ¬ (a = i ∧ j ≤ b) by omega), if_neg (show ¬ (a = i ∧ j ≤ b) by omega)]
            exact ⟨rfl, rfl⟩
    · have c := of_decide_eq_false c
      refine okP_some ⟨hl, hm, fun a b ha hb => ?_⟩
      rw [if_neg (by omega), if_neg (by omega)]
      exact ⟨rfl, rfl⟩

theorem y_L1 {x : List Minimum} (hx : x.length ≤ 1000) (h : VOk x) (s : Src) : ∀ (n : Nat) (l : List Int) (m : List Bool) (i : Int), l.length = 36 → m.length = 36 → 0 ≤ i → i ≤ 6 → 6 - i < n →
    okP (law24_ConnectWays_L1 (x, s) n l m i) (ctlQ (fun _ => False) (fun z => z.1.length = 36 ∧ z.2.length = 36 ∧ ∀ a b, 0 ≤ a ∧ a < 6 → 0 ≤ b ∧ b < 6 → tg z.1 a b = (if i ≤ a then (lf x a b).1 else tg l a b) ∧ tb z.2 a b = (if i ≤ a then (lf x a b).2 else tb m a b)))
  | 0, l, m, i, _, _, _, _, h => by omega
  | n + 1, l, m, i, hl, hm, h0, h6, hn => by
    rw [law24_ConnectWays_L1]
    refine okP_cond (fun c => ?_) (fun c => ?_)
    · have c := of_decide_eq_true c
      refine okP_sub (y_L2 hx h s i ⟨h0, c⟩ 9223372036854775807 l m 0 hl hm (by omega) (by omega) (by omega)) fun y hy => ?_
      rw [w64_id (by omega) (by omega)]
      refine okP_mono (y_L1 hx h s n _ _ (i + 1) hy.1 hy.2.1 (by omega) (by omega) (by omega)) fun z hz => ?_
      cases z with
      | ret r => exact hz
      | brk z =>
        refine ⟨hz.1, hz.2.1, fun a b ha hb => ?_⟩
        obtain ⟨e1, e2⟩ := hz.2.2 a b ha hb
        obtain ⟨e3, e4⟩ := hy.2.2 a b ha hb
        rw [e1, e2, e3, e4]
        by_cases c1 : i + 1 ≤ a
        · rw [if_pos c1, if_pos c1, if_pos (show i ≤ a by omega), if_pos (show i ≤ a by omega)]
          exact ⟨rfl, rfl⟩
        · rw [if_neg c1, if_neg c1]
          by_cases c2 : a = i
          · subst c2
            simp [hb.1]
          · have c3 : ¬ i ≤ a := by omega
            simp [c2, c3]
    · have c := of_decide_eq_false c
      refine okP_some ⟨hl, hm, fun a b ha hb => ?_⟩
      rw [if_neg (by omega), if_neg (by omega)]
      exact ⟨rfl, rfl⟩

structure Tb (x : List Minimum) (z : List Int × List Bool) : Prop where
  l1 : z.1.length = 36
  l2 : z.2.length = 36
  e : ∀ a b, 0 ≤ a ∧ a < 6 → 0 ≤ b ∧ b < 6 → tg z.1 a b = (lf x a b).1 ∧ tb z.2 a b = (lf x a b).2

theorem y_L5 (at_ : Int) : ∀ (q : List Minimum) (k : Nat) (a : List Minimum), a.length + q.length ≤ 1000 → law24_ConnectWays_L5 at_ q k a = some (.brk (a ++ q.filter (fun m => m.From == at_)))
  | [], k, a, _ => by simp [law24_ConnectWays_L5]
  | m :: q, k, a, hl => by
    simp only [List.length_cons] at hl
    rw [law24_ConnectWays_L5, List.filter_cons]
    cases c : (m.From == at_) with
    | true =>
      rw [cond_true, apL_eq (by simp; omega), Option.bind_some, y_L5 at_ q (k + 1) _ (by simp; omega)]
      simp
    | false =>
      rw [cond_false, y_L5 at_ q (k + 1) a (by omega)]
      simp

theorem y_L4 {x : List Minimum} (hx : x.length ≤ 1000) (h : VOk x) (s : Src) (z : List Int × List Bool) (hz : Tb x z) (f : Int) (hf : 0 ≤ f ∧ f < 6) : ∀ (q : List Int) (k : Nat) (vs : List Int) (sum : Int), W x f vs sum → vs.length ≤ k → k ≤ 30 →
    law24_ConnectWays_L4 (x, s) z f q k (vs.head?.getD f) sum = some (.brk ())
  | [], k, vs, sum, _, _, _ => rfl
  | e :: q, k, vs, sum, hw, hk, h30 => by
    rw [law24_ConnectWays_L4]
    by_cases c : (k : Int) < 30
    case neg => rw [decide_eq_false c, cond_false]
    rw [decide_eq_true c, cond_true]
    show Ctl.sub (law24_ConnectWays_L5 (vs.head?.getD f) x 0 []) _ = _
    rw [y_L5 _ x 0 [] (by simp; omega), sub_brkE rfl, List.nil_append]
    generalize hN : x.filter (fun m => m.From == vs.head?.getD f) = N
    by_cases c2 : N.length = 0
    · rw [show (((N.length : Nat) : Int) == 0) = true by simp [c2], cond_true]
    rw [show (((N.length : Nat) : Int) == 0) = false from beq_false_of_ne (by omega), cond_false]
    have hNl : N.length ≤ 1000 := by rw [← hN]; exact Nat.le_trans (List.length_filter_le _ _) hx
    rw [mod_eq e N.length (by omega) (by omega), Option.bind_some]
    have m0 : 0 ≤ e % (N.length : Int) := Int.emod_nonneg _ (by omega)
    have m1 : e % (N.length : Int) < N.length := Int.emod_lt_of_pos _ (by omega)
    have hlt : (e % (N.length : Int)).toNat < N.length := by omega
    have hm := List.getElem?_eq_getElem hlt
    generalize N[(e % (N.length : Int)).toNat] = m at hm
    rw [ixL_at' _ (by omega) hm, Option.bind_some]
    have hmem := List.mem_of_getElem? hm
    rw [← hN, List.mem_filter] at hmem
    obtain ⟨hmx, hmf⟩ := hmem
    have hr := h.rg m hmx
    have hT : 0 ≤ m.To ∧ m.To < 6 := by omega
    obtain ⟨e1, e2⟩ := hz.e f m.To hf hT
    obtain ⟨_, hL⟩ := lf_eq hx h hf hT
    have hw2 : W x f (m.To :: vs) (sum + m.Ticks) := ⟨m, hmx, rfl, eq_of_beq hmf, by rw [show sum + m.Ticks - m.Ticks = sum by omega]; exact hw⟩
    obtain ⟨g1, g2⟩ := least_le hL hw2
    have hb0 := W_nonneg h hw2
    have hb1 := W_len h hw2
    simp only [List.length_cons] at hb1
    rw [gd 6 hf.1 hf.2, gd 6 hT.1 hT.2]
    simp only [Option.bind_some]
    rw [tb_ix hz.l2 hf hT, Option.bind_some, e2, g1, Bool.not_true, cond_false, tg_ix hz.l1 hf hT, Option.bind_some, e1, w64_id (by omega) (by omega), decide_eq_false (by omega), cond_false]
    exact y_L4 hx h s z hz f hf q (k + 1) (m.To :: vs) (sum + m.Ticks) hw2 (by simp; omega) (by omega)

theorem y_L3 {x : List Minimum} (hx : x.length ≤ 1000) (h : VOk x) (s : Src) (z : List Int × List Bool) (hz : Tb x z) (ch : List Int) : ∀ (n : Nat) (f : Int), 0 ≤ f → f ≤ 6 → 6 - f < n → law24_ConnectWays_L3 ch (x, s) z n f = some (.brk ())
  | 0, f, _, _, h => by omega
  | n + 1, f, h0, h6, hn => by
    rw [law24_ConnectWays_L3]
    by_cases c : f < 6
    · have e : law24_ConnectWays_L4 (x, s) z f ch 0 f 0 = some (.brk ()) := y_L4 hx h s z hz f ⟨h0, c⟩ ch 0 [] 0 rfl (by simp) (by omega)
      rw [decide_eq_true c, cond_true, e, sub_brkE rfl, w64_id (by omega) (by omega)]
      exact y_L3 hx h s z hz ch n (f + 1) (by omega) (by omega) (by omega)
    · rw [decide_eq_false c, cond_false]

def good (x : List Minimum) (a b : Int) (m : Minimum) : Bool := (m.To == b) && (((m.From == a) && (m.Ticks == (lf x a b).1)) || ((lf x a m.From).2 && ((lf x a m.From).1 + m.Ticks == (lf x a b).1)))
theorem y_L8 {x : List Minimum} (hx : x.length ≤ 1000) (h : VOk x) (z : List Int × List Bool) (hz : Tb x z) (a b : Int) (ha : 0 ≤ a ∧ a < 6) (hb : 0 ≤ b ∧ b < 6) : ∀ (q : List Minimum) (k : Nat) (g : Bool), (∀ m ∈ q, m ∈ x) → law24_ConnectWays_L8 z a b q k g = some (.brk (g || q.any (good x a b)))
  | [], k, g, _ => by simp [law24_ConnectWays_L8]
  | m :: q, k, g, hq => by
    have ih := fun g' => y_L8 hx h z hz a b ha hb q (k + 1) g' (fun y hy => hq y (by simp [hy]))
    have hm := h.rg m (hq m (by simp))
    have hF : 0 ≤ m.From ∧ m.From < 6 := by omega
    rw [law24_ConnectWays_L8]
    cases g with
    | true => rw [cond_true, ih]; simp
    | false =>
      rw [cond_false, List.any_cons, Bool.false_or]
      simp only [gd 6 ha.1 ha.2, gd 6 hb.1 hb.2, gd 6 hF.1 hF.2, Option.bind_some, tg_ix hz.l1 ha hb, tg_ix hz.l1 ha hF, tb_ix hz.l2 ha hF, (hz.e a b ha hb).1, (hz.e a m.From ha hF).1, (hz.e a m.From ha hF).2, ih]
      unfold good
      obtain ⟨_, hL⟩ := lf_eq hx h ha hF
      cases c1 : (m.To == b) with
      | false => simp
      | true =>
        simp only [cond_true, Bool.true_and]
        cases c3 : (lf x a m.From).2 with
        | false =>
          cases c2 : (m.From == a) <;> cases c4 : (m.Ticks == (lf x a b).1) <;> simp
        | true =>
          obtain ⟨p1, p2, _⟩ := least_rng h hL c3
          rw [w64_id (by omega) (by omega)]
          cases c2 : (m.From == a) <;> cases c4 : (m.Ticks == (lf x a b).1) <;> simp

theorem good_any {x : List Minimum} (hx : x.length ≤ 1000) (h : VOk x) {a b : Int} (ha : 0 ≤ a ∧ a < 6) (hb : 0 ≤ b ∧ b < 6) (ht : (lf x a b).2 = true) : x.any (good x a b) = true := by
  obtain ⟨_, hL⟩ := lf_eq hx h ha hb
  obtain ⟨p1, p2, vs, hw⟩ := least_rng h hL ht
  obtain ⟨m, hm, e1, e2, e3⟩ := hw
  rw [List.any_eq_true]
  refine ⟨m, hm, ?_⟩
  unfold good
  rw [beq_iff_eq.2 e1, Bool.true_and]
  cases vs with
  | nil =>
    have e3 : (lf x a b).1 - m.Ticks = 0 := e3
    simp only [List.head?_nil, Option.getD_none] at e2
    rw [beq_iff_eq.2 e2, beq_iff_eq.2 (show m.Ticks = (lf x a b).1 by omega)]
    rfl
  | cons c vs =>
    simp only [List.head?_cons, Option.getD_some] at e2
    have hr := h.rg m hm
    have hF : 0 ≤ m.From ∧ m.From < 6 := by omega
    obtain ⟨_, hL2⟩ := lf_eq hx h ha hF
    rw [← e2] at e3
    obtain ⟨q1, q2⟩ := least_le hL2 e3
    obtain ⟨_, _, ws, hw2⟩ := least_rng h hL2 q1
    have hw3 : W x a (b :: m.From :: ws) ((lf x a m.From).1 + m.Ticks) := ⟨m, hm, e1, rfl, by rw [show (lf x a m.From).1 + m.Ticks - m.Ticks = (lf x a m.From).1 by omega]; exact hw2⟩
    have := (least_le hL hw3).2
    rw [q1, beq_iff_eq.2 (show (lf x a m.From).1 + m.Ticks = (lf x a b).1 by omega)]
    simp

theorem y_L7 {x : List Minimum} (hx : x.length ≤ 1000) (h : VOk x) (s : Src) (z : List Int × List Bool) (hz : Tb x z) (a : Int) (ha : 0 ≤ a ∧ a < 6) : ∀ (n : Nat) (b : Int), 0 ≤ b → b ≤ 6 → 6 - b < n → law24_ConnectWays_L7 (x, s) z a n b = some (.brk ())
  | 0, b, _, _, h => by omega
  | n + 1, b, h0, h6, hn => by
    rw [law24_ConnectWays_L7]
    by_cases c : b < 6
    · have hb : 0 ≤ b ∧ b < 6 := ⟨h0, c⟩
      rw [decide_eq_true c, cond_true, gd 6 ha.1 ha.2, gd 6 hb.1 hb.2]
      simp only [Option.bind_some]
      rw [tb_ix hz.l2 ha hb, Option.bind_some, (hz.e a b ha hb).2, w64_id (by omega) (by omega)]
      have rest := y_L7 hx h s z hz a ha n (b + 1) (by omega) (by omega) (by omega)
      cases ht : (lf x a b).2 with
      | false => exact rest
      | true =>
        rw [Bool.not_true, cond_false]
        show Ctl.sub (law24_ConnectWays_L8 z a b x 0 false) _ = _
        rw [y_L8 hx h z hz a b ha hb x 0 false (fun _ hm => hm), sub_brkE rfl, good_any hx h ha hb ht]
        exact rest
    · rw [decide_eq_false c, cond_false]
theorem y_L6 {x : List Minimum} (hx : x.length ≤ 1000) (h : VOk x) (s : Src) (z : List Int × List Bool) (hz : Tb x z) : ∀ (n : Nat) (a : Int), 0 ≤ a → a ≤ 6 → 6 - a < n → law24_ConnectWays_L6 (x, s) z n a = some (.brk ())
  | 0, a, _, _, h => by omega
  | n + 1, a, h0, h6, hn => by
    rw [law24_ConnectWays_L6]
    by_cases c : a < 6
    · rw [decide_eq_true c, cond_true, y_L7 hx h s z hz a ⟨h0, c⟩ 9223372036854775807 0 (by omega) (by omega) (by omega), sub_brkE rfl, w64_id (by omega) (by omega)]
      exact y_L6 hx h s z hz n (a + 1) (by omega) (by omega) (by omega)
    · rw [decide_eq_false c, cond_false]

theorem ways_law_ok (l ch : List Int) : law24_ConnectWays l ch = some true := by
  refine okP_eq ?_
  unfold law24_ConnectWays
  refine okP_bind (New_ok l) fun r1 h1 => ?_
  refine okP_bind (Min_ok r1 h1) fun r2 h2 => ?_
  have hx : r2.1.length ≤ 1000 := by have := h2.2.1; omega
  refine okP_bindE (x := List.replicate 36 0) rfl ?_
  refine okP_bindE (x := List.replicate 36 false) rfl ?_
  have e1 : okP (law24_ConnectWays_L1 r2 9223372036854775807 (List.replicate 36 0) (List.replicate 36 false) 0) _ := y_L1 hx h2.1 r2.2 9223372036854775807 (List.replicate 36 0) (List.replicate 36 false) 0 (by simp) (by simp) (by omega) (by omega) (by omega)
  refine okP_finB e1 fun z hz => ?_
  have hT : Tb r2.1 z := ⟨hz.1, hz.2.1, fun a b ha hb => by
    obtain ⟨q1, q2⟩ := hz.2.2 a b ha hb
    rw [if_pos ha.1] at q1 q2
    exact ⟨q1, q2⟩⟩
  rw [show law24_ConnectWays_L3 ch r2 z 9223372036854775807 0 = some (.brk ()) from y_L3 hx h2.1 r2.2 z hT ch 9223372036854775807 0 (by omega) (by omega) (by omega), fin_brkE rfl]
  rw [show law24_ConnectWays_L6 r2 z 9223372036854775807 0 = some (.brk ()) from y_L6 hx h2.1 r2.2 z hT 9223372036854775807 0 (by omega) (by omega) (by omega), fin_brkE rfl, awake24]
  exact okP_some rfl
end Go.Proofs.Ytkajegjghfbgaaa.Ex.Cn
