/- Chapter 24: drawn minimum times and bags; slacks; the laws ConnectValidates, ConnectTriangle, ConnectSlacks. Plain. -/
import Derived.Test.YtkajegjghfbgaaaCn2
import Derived.Test.YtkajegjghfbgaaaKp0
import Derived.Test.YtkajegjghfbgaaaDec
namespace Go.Proofs.Ytkajegjghfbgaaa.Ex.Cn
open Go.RowKit Go.Proofs.Ytkajegjghfbgaaa.Ax
set_option linter.unusedVariables false
set_option linter.unusedSimpArgs false

theorem awake24 : law24_awake = some true := by kernel_rfl

theorem andb_f {p q : Prop} [Decidable p] [Decidable q] (h : ¬ (p ∧ q)) : (decide p && decide q) = false := by
  rw [← Bool.not_eq_true]
  simp only [Bool.and_eq_true, decide_eq_true_eq]
  exact h
theorem andb_t {p q : Prop} [Decidable p] [Decidable q] (h : p ∧ q) : (decide p && decide q) = true := by simp [h]

theorem val_L0 (x : List Minimum) (hx : x.length ≤ 1000) (hV : VOk x) : ∀ (q pre : List Minimum), x = pre ++ q → connect_Validate_L1 x q pre.length = some (.brk ())
  | [], pre, e => rfl
  | m :: q, pre, e => by
    have hlen : pre.length < 1000 := by rw [e] at hx; simp at hx; omega
    have hm := hV.rg m (by rw [e]; simp)
    have rest : connect_Validate_L1 x q (pre.length + 1) = some (.brk ()) := by
      have := val_L0 x hx hV q (pre ++ [m]) (by simp [e])
      simpa using this
    simp only [connect_Validate_L1, in_eq, Option.bind_some]
    rw [andb_t ⟨hm.1, hm.2.1⟩, andb_t ⟨hm.2.2.1, hm.2.2.2.1⟩, andb_t ⟨hm.2.2.2.2.1, hm.2.2.2.2.2⟩]
    simp only [Bool.not_true, cond_false]
    by_cases a5 : pre.length = 0
    · rw [show (((pre.length : Nat) : Int) == 0) = true by simp [a5], cond_true]
      exact rest
    · rw [show (((pre.length : Nat) : Int) == 0) = false from beq_false_of_ne (by omega), cond_false, w64_id (by omega) (by omega)]
      have hlt : pre.length - 1 < pre.length := by omega
      have hp1 := List.getElem?_eq_getElem hlt
      generalize hpe : pre[pre.length - 1] = p at hp1
      have hix : ixL x ((pre.length : Int) - 1) = some p := by
        refine ixL_at' (pre.length - 1) (by omega) ?_
        rw [e, List.getElem?_append_left (by omega)]
        exact hp1
      rw [hix]
      simp only [Option.bind_some]
      have hk : p.From * 6 + p.To < m.From * 6 + m.To := by
        have hp := hV.un
        rw [e, List.pairwise_append] at hp
        exact hp.2.2 p (List.mem_of_getElem? hp1) m (by simp)
      have hpr := hV.rg p (by rw [e]; exact List.mem_append_left _ (List.mem_of_getElem? hp1))
      by_cases c1 : m.From = p.From
      · rw [show (m.From == p.From) = true from beq_iff_eq.2 c1, show (m.To == p.To) = false from beq_false_of_ne (by omega), show decide (m.From < p.From) = false by simp; omega, show decide (m.To < p.To) = false by simp; omega]
        exact rest
      · rw [show (m.From == p.From) = false from beq_false_of_ne c1, show decide (m.From < p.From) = false by simp; omega]
        exact rest

theorem val_zero {x : List Minimum} (hx : x.length ≤ 1000) (hV : VOk x) : connect_Validate x = some 0 := by
  unfold connect_Validate
  rw [show connect_Validate_L1 x x 0 = some (.brk ()) from val_L0 x hx hV x [] rfl]
  rfl

/-! ### drawn minimum times -/
structure Gm (l : List Minimum) (k : Int) : Prop where
  ok : VOk l
  lt : ∀ m ∈ l, m.From * 6 + m.To < k
  ln : (l.length : Int) ≤ k

theorem gm_snoc {l : List Minimum} {k : Int} (h : Gm l k) {m : Minimum} (hm : 0 ≤ m.From ∧ m.From ≤ 5 ∧ 0 ≤ m.To ∧ m.To ≤ 5 ∧ 0 ≤ m.Ticks ∧ m.Ticks ≤ 1048576) (hk : m.From * 6 + m.To = k) : Gm (l ++ [m]) (k + 1) := by
  refine ⟨⟨fun a ha => ?_, ?_⟩, fun a ha => ?_, by simp; have := h.ln; omega⟩
  · rcases List.mem_append.1 ha with ha | ha
    · exact h.ok.rg a ha
    · rw [List.mem_singleton.1 ha]; exact hm
  · rw [List.pairwise_append]
    exact ⟨h.ok.un, by simp, fun a ha b hb => by rw [List.mem_singleton.1 hb]; have := h.lt a ha; omega⟩
  · rcases List.mem_append.1 ha with ha | ha
    · have := h.lt a ha; omega
    · rw [List.mem_singleton.1 ha]; omega

theorem gm_le {l : List Minimum} {k k' : Int} (h : Gm l k) (hk : k ≤ k') : Gm l k' := ⟨h.ok, fun m hm => by have := h.lt m hm; omega, by have := h.ln; omega⟩

theorem min_L2 (i : Int) (hi : 0 ≤ i ∧ i ≤ 5) : ∀ (n : Nat) (s : Src) (a : List Minimum) (j : Int), SrcOk s → Gm a (i * 6 + j) → 0 ≤ j → j ≤ 6 → 6 - j < n →
    okP (keep_Src_Minimums_L2 i n s.L s.At a j) (ctlQ (fun _ => False) (fun z => SrcOk ⟨z.2.2.1, z.2.2.2.1⟩ ∧ Gm z.2.2.2.2 (i * 6 + 6)))
  | 0, s, a, j, _, _, _, _, h => by omega
  | n + 1, s, a, j, hs, hg, h0, h6, hn => by
    rw [keep_Src_Minimums_L2]
    refine okP_cond (fun c => ?_) (fun c => ?_)
    · have c := of_decide_eq_true c
      refine okP_bind (N_ok s 3 hs (by omega) (by omega)) fun r hr => ?_
      rw [w64_id (by omega) (by omega)]
      refine okP_cond (fun c1 => ?_) (fun c1 => ?_)
      · refine okP_bind (N_ok r.2 12 hr.2.2 (by omega) (by omega)) fun r2 hr2 => ?_
        have hl := hg.ln
        rw [apL_eq (by simp; omega), Option.bind_some]
        have hg2 := gm_snoc (m := ⟨i, j, r2.1⟩) hg ⟨hi.1, hi.2, h0, c, hr2.1, by have := hr2.2.1; show r2.1 ≤ 1048576; omega⟩ rfl
        exact min_L2 i hi n r2.2 _ (j + 1) hr2.2.2 (by rwa [show i * 6 + (j + 1) = i * 6 + j + 1 by omega]) (by omega) (by omega) (by omega)
      · exact min_L2 i hi n r.2 a (j + 1) hr.2.2 (gm_le hg (by omega)) (by omega) (by omega) (by omega)
    · have c := of_decide_eq_false c
      exact okP_some ⟨hs, gm_le hg (by omega)⟩

theorem min_L1 : ∀ (n : Nat) (s : Src) (a : List Minimum) (i : Int), SrcOk s → Gm a (i * 6) → 0 ≤ i → i ≤ 6 → 6 - i < n →
    okP (keep_Src_Minimums_L1 n s.L s.At a i) (ctlQ (fun _ => False) (fun z => SrcOk ⟨z.1, z.2.1⟩ ∧ Gm z.2.2 36))
  | 0, s, a, j, _, _, _, _, h => by omega
  | n + 1, s, a, i, hs, hg, h0, h6, hn => by
    rw [keep_Src_Minimums_L1]
    refine okP_cond (fun c => ?_) (fun c => ?_)
    · have c := of_decide_eq_true c
      refine okP_sub (min_L2 i ⟨h0, c⟩ 9223372036854775807 s a 0 hs (by rwa [Int.add_zero]) (by omega) (by omega) (by omega)) fun z hz => ?_
      rw [w64_id (by omega) (by omega)]
      exact min_L1 n ⟨z.2.2.1, z.2.2.2.1⟩ _ (i + 1) hz.1 (by rw [show (i + 1) * 6 = i * 6 + 6 by omega]; exact hz.2) (by omega) (by omega) (by omega)
    · have c := of_decide_eq_false c
      exact okP_some ⟨hs, gm_le hg (by omega)⟩

theorem Min_ok (s : Src) (hs : SrcOk s) : okP (keep_Src_Minimums s) (fun r => VOk r.1 ∧ r.1.length ≤ 36 ∧ SrcOk r.2) := by
  unfold keep_Src_Minimums
  refine okP_finB (min_L1 9223372036854775807 s [] 0 hs ⟨⟨by simp, List.Pairwise.nil⟩, by simp, by simp⟩ (by omega) (by omega) (by omega)) fun z hz => okP_some ⟨hz.2.ok, ?_, hz.1⟩
  have := hz.2.ln
  show z.2.2.length ≤ 36
  omega

theorem Pick_ok (s : Src) (l : List Int) (h : SrcOk s) (h1 : 1 ≤ l.length) (h2 : l.length ≤ 1000000) : okP (keep_Src_Pick s l) (fun r => SrcOk r.2) := by
  unfold keep_Src_Pick
  refine okP_bind (N_ok s l.length h (by omega) (by omega)) fun r hr => ?_
  exact okP_bind (okP_ixL hr.1 hr.2.1 (Q := fun _ => True) fun _ _ _ => trivial) fun x _ => okP_some hr.2.2

theorem spoilt_ok (s : Src) (l : List Minimum) (hs : SrcOk s) (hl : l.length ≤ 36) : okP (law24_spoilt s l) (fun r => r.1.length ≤ 37 ∧ SrcOk r.2) := by
  unfold law24_spoilt
  rw [apL_eq (by simp; omega), Option.bind_some, List.nil_append]
  refine okP_cond (fun c => ?_) (fun c => ?_)
  · refine okP_bind (Raw_ok s hs) fun r hr => ?_
    rw [apL_eq (by simp; omega), Option.bind_some]
    exact okP_some ⟨by simp; omega, hr⟩
  · have c := ne_of_beq_false c
    have hne : 1 ≤ l.length := by
      rcases Nat.eq_zero_or_pos l.length with e | e
      · rw [e] at c; exact absurd rfl c
      · exact e
    refine okP_bind (N_ok s l.length hs (by omega) (by omega)) fun r hr => ?_
    have ix : ∀ {β : Type} {Q : β → Prop} {f : Minimum → Option β}, (∀ x, okP (f x) Q) → okP ((ixL l r.1).bind f) Q := fun {β Q f} hf => okP_bind (okP_ixL hr.1 hr.2.1 (Q := fun _ => True) fun _ _ _ => trivial) fun x _ => hf x
    have ix0 : ∀ {β : Type} {Q : β → Prop} {f : Minimum → Option β}, (∀ x, okP (f x) Q) → okP ((ixL l (0 : Int)).bind f) Q := fun {β Q f} hf => okP_bind (okP_ixL (Int.le_refl _) (by omega) (Q := fun _ => True) fun _ _ _ => trivial) fun x _ => hf x
    refine okP_bind (N_ok r.2 4 hr.2.2 (by omega) (by omega)) fun r5 hr5 => ?_
    refine okP_cond (fun _ => ?_) (fun _ => okP_cond (fun _ => ?_) (fun _ => okP_cond (fun _ => ?_) (fun _ => ?_)))
    · refine okP_bind (Pick_ok r5.2 _ hr5.2.2 (by simp) (by simp)) fun r6 hr6 => ?_
      exact ix fun x => okP_some ⟨by simp; omega, hr6⟩
    · refine okP_bind (Pick_ok r5.2 _ hr5.2.2 (by simp) (by simp)) fun r6 hr6 => ?_
      exact ix fun x => okP_some ⟨by simp; omega, hr6⟩
    · exact ix0 fun _ => ix fun _ => okP_some ⟨by simp; omega, hr5.2.2⟩
    · refine ix0 fun y => ix fun _ => ix fun _ => ?_
      refine okP_bind (okP_ixL (Int.le_refl _) (by simp; omega) (Q := fun _ => True) fun _ _ _ => trivial) fun x _ => ?_
      exact okP_some ⟨by simp; omega, hr5.2.2⟩

/-! ### ConnectValidates -/
theorem v_L3 (x : List Minimum) (hx : x.length ≤ 1000) (a : Int) : ∀ (n : Nat) (b : Int), -1 ≤ b → b ≤ 7 → 7 - b < n → law24_ConnectValidates_L3 x a n b = some (.brk ())
  | 0, b, _, _, h => by omega
  | n + 1, b, h0, h7, hn => by
    rw [law24_ConnectValidates_L3]
    by_cases c : b ≤ 6
    · obtain ⟨r, h1, h2, _⟩ := least_both x hx a b
      rw [show decide (b ≤ 6) = true by simpa using c, cond_true, h1, h2]
      simp only [Option.bind_some, bne_self_eq_false, cond_false, beq_self_eq_true, Bool.not_true]
      rw [w64_id (by omega) (by omega)]
      exact v_L3 x hx a n (b + 1) (by omega) (by omega) (by omega)
    · rw [show decide (b ≤ 6) = false by simpa using c, cond_false]
theorem v_L2 (x : List Minimum) (hx : x.length ≤ 1000) : ∀ (n : Nat) (a : Int), -1 ≤ a → a ≤ 7 → 7 - a < n → law24_ConnectValidates_L2 x n a = some (.brk ())
  | 0, a, _, _, h => by omega
  | n + 1, a, h0, h7, hn => by
    rw [law24_ConnectValidates_L2]
    by_cases c : a ≤ 6
    · rw [show decide (a ≤ 6) = true by simpa using c, cond_true, v_L3 x hx a 9223372036854775807 (-1) (by omega) (by omega) (by omega), sub_brkE rfl, w64_id (by omega) (by omega)]
      exact v_L2 x hx n (a + 1) (by omega) (by omega) (by omega)
    · rw [show decide (a ≤ 6) = false by simpa using c, cond_false]
theorem v_L1 (a b : Int) : ∀ (q : List (List Minimum)) (k : Nat), (∀ x ∈ q, x.length ≤ 1000) → law24_ConnectValidates_L1 a b q k = some (.brk ())
  | [], k, _ => rfl
  | x :: q, k, h => by
    have hx := h x (by simp)
    obtain ⟨v, h1, h2, _⟩ := val_both x hx
    obtain ⟨r, h3, h4, _⟩ := least_both x hx a b
    rw [law24_ConnectValidates_L1, h1, h2]
    simp only [Option.bind_some, bne_self_eq_false, cond_false]
    rw [v_L2 x hx 9223372036854775807 (-1) (by omega) (by omega) (by omega), sub_brkE rfl, h3, h4]
    simp only [Option.bind_some, bne_self_eq_false, cond_false, beq_self_eq_true, Bool.not_true]
    exact v_L1 a b q (k + 1) (fun y hy => h y (by simp [hy]))

theorem validates_ok (raw : List Minimum) (l : List Int) (a b : Int) (q : ∀ x ∈ raw, Q_Minimum x) : law24_ConnectValidates raw l a b = some true := by
  refine okP_eq ?_
  unfold law24_ConnectValidates
  refine okP_bind (New_ok l) fun r1 h1 => ?_
  refine okP_bind (Min_ok r1 h1) fun r2 h2 => ?_
  rw [slL_eq (by omega) (by split <;> omega) (by split <;> omega), Option.bind_some]
  refine okP_bind (spoilt_ok r2.2 r2.1 h2.2.2 h2.2.1) fun r4 h4 => ?_
  rw [v_L1, fin_brkE rfl, awake24]
  · exact okP_some rfl
  · intro x hx
    rcases List.mem_cons.1 hx with rfl | hx
    · simp only [List.length_take, List.length_drop]
      split <;> omega
    · rcases List.mem_cons.1 hx with rfl | hx
      · have := h2.2.1; omega
      · rw [List.mem_singleton.1 hx]
        have := h4.1
        omega

/-! ### ConnectTriangle -/
theorem least_rng {x : List Minimum} (h : VOk x) {a b : Int} {r : Int × Bool} (hr : LeastIs x a b r) (ht : r.2 = true) : 0 ≤ r.1 ∧ r.1 ≤ 6291456 ∧ ∃ vs, W x a (b :: vs) r.1 := by
  rcases hr with ⟨_, ⟨vs, hw⟩, hm⟩ | ⟨e, _⟩
  · obtain ⟨vs', n', q1, q2, q3⟩ := short h vs.length vs r.1 (Nat.le_refl _) hw
    have := hm _ _ q3
    have := W_len h q3
    exact ⟨W_nonneg h hw, by omega, vs, hw⟩
  · rw [ht] at e; cases e
theorem least_le {x : List Minimum} {a b : Int} {r : Int × Bool} (hr : LeastIs x a b r) {vs : List Int} {n : Int} (hw : W x a (b :: vs) n) : r.2 = true ∧ r.1 ≤ n := by
  rcases hr with ⟨e, _, hm⟩ | ⟨_, _, hm⟩
  · exact ⟨e, hm _ _ hw⟩
  · exact absurd hw (hm _ _)
theorem least_in {x : List Minimum} (hx : x.length ≤ 1000) (h : VOk x) {a b : Int} (ha : 0 ≤ a ∧ a ≤ 5) (hb : 0 ≤ b ∧ b ≤ 5) : ∃ r, connect_Least x a b = some r ∧ LeastIs x a b r := by
  obtain ⟨r, h1, _, h3⟩ := least_both x hx a b
  rcases h3 with ⟨_, _, _, _, h3⟩ | ⟨_, h3⟩
  · exact ⟨r, h1, h3⟩
  · exact absurd ⟨val_zero hx h, ha, hb⟩ h3

theorem t_L3 (x : List Minimum) (hx : x.length ≤ 1000) (h : VOk x) (s : Src) (a b : Int) (ha : 0 ≤ a ∧ a ≤ 5) (hb : 0 ≤ b ∧ b ≤ 5) : ∀ (n : Nat) (c : Int), 0 ≤ c → c ≤ 6 → 6 - c < n → law24_ConnectTriangle_L3 (x, s) a b n c = some (.brk ())
  | 0, c, _, _, h => by omega
  | n + 1, c, h0, h6, hn => by
    rw [law24_ConnectTriangle_L3]
    by_cases cc : c ≤ 5
    · have rest : law24_ConnectTriangle_L3 (x, s) a b n (w64 (c + 1)) = some (.brk ()) := by
        rw [w64_id (by omega) (by omega)]
        exact t_L3 x hx h s a b ha hb n (c + 1) (by omega) (by omega) (by omega)
      rw [show decide (c ≤ 5) = true by simpa using cc, cond_true]
      obtain ⟨r1, e1, l1⟩ := least_in hx h ha hb
      obtain ⟨r2, e2, l2⟩ := least_in hx h hb ⟨h0, cc⟩
      obtain ⟨r3, e3, l3⟩ := least_in hx h ha ⟨h0, cc⟩
      rw [e1, e2, e3]
      simp only [Option.bind_some]
      cases c1 : r1.2 with
      | false => exact rest
      | true =>
        cases c2 : r2.2 with
        | false => exact rest
        | true =>
          obtain ⟨p1, p2, vs, w1⟩ := least_rng h l1 c1
          obtain ⟨p3, p4, ws, w2⟩ := least_rng h l2 c2
          obtain ⟨q1, q2⟩ := least_le l3 (W_cat w1 w2)
          rw [q1, w64_id (z := r1.1 + r2.1) (by omega) (by omega), show decide (r1.1 + r2.1 < r3.1) = false by simp; omega]
          exact rest
    · rw [show decide (c ≤ 5) = false by simpa using cc, cond_false]
theorem t_L2 (x : List Minimum) (hx : x.length ≤ 1000) (h : VOk x) (s : Src) (a : Int) (ha : 0 ≤ a ∧ a ≤ 5) : ∀ (n : Nat) (b : Int), 0 ≤ b → b ≤ 6 → 6 - b < n → law24_ConnectTriangle_L2 (x, s) a n b = some (.brk ())
  | 0, b, _, _, h => by omega
  | n + 1, b, h0, h6, hn => by
    rw [law24_ConnectTriangle_L2]
    by_cases c : b ≤ 5
    · rw [show decide (b ≤ 5) = true by simpa using c, cond_true, t_L3 x hx h s a b ha ⟨h0, c⟩ 9223372036854775807 0 (by omega) (by omega) (by omega), sub_brkE rfl, w64_id (by omega) (by omega)]
      exact t_L2 x hx h s a ha n (b + 1) (by omega) (by omega) (by omega)
    · rw [show decide (b ≤ 5) = false by simpa using c, cond_false]
theorem t_L1 (x : List Minimum) (hx : x.length ≤ 1000) (h : VOk x) (s : Src) : ∀ (n : Nat) (a : Int), 0 ≤ a → a ≤ 6 → 6 - a < n → law24_ConnectTriangle_L1 (x, s) n a = some (.brk ())
  | 0, a, _, _, h => by omega
  | n + 1, a, h0, h6, hn => by
    rw [law24_ConnectTriangle_L1]
    by_cases c : a ≤ 5
    · rw [show decide (a ≤ 5) = true by simpa using c, cond_true, t_L2 x hx h s a ⟨h0, c⟩ 9223372036854775807 0 (by omega) (by omega) (by omega), sub_brkE rfl, w64_id (by omega) (by omega)]
      exact t_L1 x hx h s n (a + 1) (by omega) (by omega) (by omega)
    · rw [show decide (a ≤ 5) = false by simpa using c, cond_false]
theorem triangle_ok (l : List Int) : law24_ConnectTriangle l = some true := by
  refine okP_eq ?_
  unfold law24_ConnectTriangle
  refine okP_bind (New_ok l) fun r1 h1 => ?_
  refine okP_bind (Min_ok r1 h1) fun r2 h2 => ?_
  rw [show law24_ConnectTriangle_L1 r2 9223372036854775807 0 = some (.brk ()) from t_L1 r2.1 (by have := h2.2.1; omega) h2.1 r2.2 9223372036854775807 0 (by omega) (by omega) (by omega), fin_brkE rfl, awake24]
  exact okP_some rfl

/-! ### slacks -/
def pV (p : Plate) : Prop := 0 ≤ p.Lead ∧ p.Lead ≤ 9 ∧ 1 ≤ p.Airline ∧ p.Airline ≤ 999 ∧ 0 ≤ p.Serial ∧ p.Serial ≤ 999999
def cV (c : Connecting) : Prop := pV c.Plate ∧ 0 ≤ c.Ready ∧ c.Ready ≤ 1048576 ∧ (0 ≤ c.From ∧ c.From ≤ 5) ∧ (0 ≤ c.To ∧ c.To ≤ 5) ∧ 0 ≤ c.Category ∧ c.Category ≤ 4
instance (p : Plate) : Decidable (pV p) := by unfold pV; infer_instance
instance (c : Connecting) : Decidable (cV c) := by unfold cV; infer_instance
theorem cond_and (p : Prop) [Decidable p] (q : Bool) : cond (decide p) (some q) (some false) = some (decide p && q) := by cases decide p <;> rfl
theorem plate_eq (p : Plate) : plate_Valid p = some (decide (pV p)) ∧ ref01_Valid p = some (decide (pV p)) := by
  unfold plate_Valid ref01_Valid
  simp only [cond_and]
  refine ⟨congrArg some ?_, congrArg some ?_⟩ <;> (rw [Bool.eq_iff_iff]; simp only [Bool.and_eq_true, decide_eq_true_eq]; unfold pV; omega)
theorem cond_b (b q : Bool) : cond b (some q) (some false) = some (b && q) := by cases b <;> rfl
theorem cvalid_eq (c : Connecting) : connect_valid c = some (decide (cV c)) ∧ ref24_Valid c = some (decide (cV c)) := by
  unfold connect_valid ref24_Valid
  simp only [(plate_eq c.Plate).1, (plate_eq c.Plate).2, in_eq, term_eq, Option.bind_some, cond_b]
  refine ⟨congrArg some ?_, congrArg some ?_⟩ <;> (rw [Bool.eq_iff_iff]; simp only [Bool.and_eq_true, decide_eq_true_eq]; unfold cV; constructor <;> (intro h; simp only [h, and_self]))

theorem slack_both (x : List Minimum) (hx : x.length ≤ 1000) (c : Connecting) (t : Int) : ∃ r, connect_Slack x c t = some r ∧ ref24_Slack x c t = some r ∧
    ((r = (0, false) ∧ (∀ s, connect_Least x c.From c.To = some s → cV c → 0 ≤ t ∧ t ≤ 1048576 → s.2 = false)) ∨ (r.2 = true ∧ cV c ∧ (0 ≤ t ∧ t ≤ 1048576) ∧ ∃ n, connect_Least x c.From c.To = some (n, true) ∧ 0 ≤ n ∧ n ≤ 6291456 ∧ r.1 = t - c.Ready - n)) := by
  obtain ⟨s, h1, h2, h3⟩ := least_both x hx c.From c.To
  unfold connect_Slack ref24_Slack
  rw [(cvalid_eq c).1, (cvalid_eq c).2]
  simp only [Option.bind_some]
  by_cases cv : cV c
  case neg =>
    rw [decide_eq_false cv]
    exact ⟨(0, false), rfl, rfl, .inl ⟨rfl, fun _ _ q => absurd q cv⟩⟩
  rw [decide_eq_true cv]
  simp only [Bool.not_true, cond_false, in_eq, Option.bind_some]
  by_cases ct : 0 ≤ t ∧ t ≤ 1048576
  case neg =>
    rw [andb_f ct]
    refine ⟨(0, false), rfl, ?_, .inl ⟨rfl, fun _ _ _ q => absurd q ct⟩⟩
    by_cases c2 : t < 0
    · rw [decide_eq_true c2]; rfl
    · rw [decide_eq_false c2, decide_eq_true (show 1048576 < t by omega)]; rfl
  rw [andb_t ct, decide_eq_false (show ¬ t < 0 by omega), decide_eq_false (show ¬ 1048576 < t by omega), h1, h2]
  simp only [Bool.not_true, cond_false, Option.bind_some]
  cases hs : s.2 with
  | false => exact ⟨(0, false), rfl, rfl, .inl ⟨rfl, fun s' e _ _ => by cases e; exact hs⟩⟩
  | true =>
    simp only [Bool.not_true, cond_false]
    have hr : 0 ≤ s.1 ∧ s.1 ≤ 6291456 := by
      rcases h3 with ⟨_, hV, _, _, h3⟩ | ⟨e, _⟩
      · have := least_rng hV h3 hs; exact ⟨this.1, this.2.1⟩
      · rw [e] at hs; cases hs
    have hc := cv.2.1
    have hc2 := cv.2.2.1
    refine ⟨_, rfl, rfl, .inr ⟨rfl, cv, ct, s.1, congrArg some (Prod.ext rfl hs), hr.1, hr.2, ?_⟩⟩
    show w64 (w64 (t - c.Ready) - s.1) = t - c.Ready - s.1
    rw [w64_id (z := t - c.Ready) (by omega) (by omega), w64_id (by omega) (by omega)]

theorem classify_eq {a b : Int} (ha : -9223372036854775808 ≤ a ∧ a ≤ 9223372036854775807) (hb : -9223372036854775808 ≤ b ∧ b ≤ 9223372036854775807) : connect_Classify a b = some (if 0 ≤ a then 1 else if 0 ≤ a + max b 0 then 2 else 3) ∧ ref24_Classify a b = some (if 0 ≤ a then 1 else if 0 ≤ a + max b 0 then 2 else 3) := by
  unfold connect_Classify ref24_Classify
  by_cases c1 : 0 ≤ a
  · rw [decide_eq_true c1, if_pos c1]; exact ⟨rfl, rfl⟩
  · rw [decide_eq_false c1, if_neg c1]
    simp only [cond_false]
    have e1 : (if b < 0 then 0 else b) = max b 0 := by split <;> omega
    have e2 : (if 0 < b then b else 0) = max b 0 := by split <;> omega
    rw [e1, e2]
    have e3 : IntKind.i64.wrap (0 - max b 0) = 0 - max b 0 := w64_id (by omega) (by omega)
    rw [e3, w64_id (by omega) (by omega)]
    by_cases c2 : 0 ≤ a + max b 0
    · rw [decide_eq_true c2, decide_eq_true (show 0 - max b 0 ≤ a by omega), if_pos c2]; exact ⟨rfl, rfl⟩
    · rw [decide_eq_false c2, decide_eq_false (show ¬ 0 - max b 0 ≤ a by omega), if_neg c2]; exact ⟨rfl, rfl⟩

theorem s_L3 (x : List Minimum) (hx : x.length ≤ 1000) (c : Connecting) : ∀ (q : List Int) (k : Nat), law24_ConnectSlacks_L3 x c q k = some (.brk ())
  | [], k => rfl
  | t :: q, k => by
    obtain ⟨r, h1, h2, _⟩ := slack_both x hx c t
    rw [law24_ConnectSlacks_L3, h1, h2]
    simp only [Option.bind_some, bne_self_eq_false, cond_false, beq_self_eq_true, Bool.not_true]
    exact s_L3 x hx c q (k + 1)
theorem s_L2 (t : Int) (x : List Minimum) (hx : x.length ≤ 1000) : ∀ (q : List Connecting) (k : Nat) (s : Src), SrcOk s → okP (law24_ConnectSlacks_L2 t x q k s.L s.At) (ctlQ (fun _ => False) (fun z => SrcOk ⟨z.1, z.2⟩))
  | [], k, s, hs => okP_some hs
  | c :: q, k, s, hs => by
    rw [law24_ConnectSlacks_L2]
    refine okP_bind (N_ok s 80 hs (by omega) (by omega)) fun r hr => ?_
    rw [s_L3 x hx c, sub_brkE rfl]
    exact s_L2 t x hx q (k + 1) r.2 hr.2.2
theorem s_L1 (t : Int) (bags : List Connecting) : ∀ (q : List (List Minimum)) (k : Nat) (s : Src), (∀ x ∈ q, x.length ≤ 1000) → SrcOk s → okP (law24_ConnectSlacks_L1 t bags q k s.L s.At) (ctlQ (fun _ => False) (fun z => SrcOk ⟨z.1, z.2⟩))
  | [], k, s, _, hs => okP_some hs
  | x :: q, k, s, h, hs => by
    rw [law24_ConnectSlacks_L1]
    refine okP_sub (s_L2 t x (h x (by simp)) bags 0 s hs) fun z hz => ?_
    exact s_L1 t bags q (k + 1) ⟨z.1, z.2⟩ (fun y hy => h y (by simp [hy])) hz
def i64r (a : Int) : Prop := -9223372036854775808 ≤ a ∧ a ≤ 9223372036854775807
theorem s_L5 (a : Int) (ha : i64r a) : ∀ (q : List Int) (k : Nat), (∀ b ∈ q, i64r b) → law24_ConnectSlacks_L5 a q k = some (.brk ())
  | [], k, _ => rfl
  | b :: q, k, h => by
    obtain ⟨h1, h2⟩ := classify_eq ha (h b (by simp))
    obtain ⟨h3, h4⟩ := classify_eq ha ha
    rw [law24_ConnectSlacks_L5, h1, h2]
    simp only [Option.bind_some, bne_self_eq_false, cond_false]
    rw [h3, h4]
    simp only [Option.bind_some, bne_self_eq_false, cond_false]
    exact s_L5 a ha q (k + 1) (fun y hy => h y (by simp [hy]))
theorem s_L4 (b : Int) (hb : i64r b) : ∀ (q : List Int) (k : Nat) (s : Src), (∀ a ∈ q, i64r a) → SrcOk s → okP (law24_ConnectSlacks_L4 b q k s.L s.At) (ctlQ (fun _ => False) (fun _ => True))
  | [], k, s, _, hs => okP_some trivial
  | a :: q, k, s, h, hs => by
    rw [law24_ConnectSlacks_L4]
    refine okP_bind (N_ok s 10 hs (by omega) (by omega)) fun r hr => ?_
    rw [s_L5 a (h a (by simp)) [b, r.1] 0 (fun y hy => by
      rcases List.mem_cons.1 hy with rfl | hy
      · exact hb
      · rw [List.mem_singleton.1 hy]; unfold i64r; omega), sub_brkE rfl]
    exact s_L4 b hb q (k + 1) r.2 (fun y hy => h y (by simp [hy])) hr.2.2

def pl (n : Int) : Plate := ⟨n / 500, 117 + n / 100 % 5, 1000 + n % 100⟩
theorem plates_any (n : Int) : keep_Plates n = some (pl (n % 1000)) := by
  have h0 : 0 ≤ n % 1000 := Int.emod_nonneg _ (by omega)
  have h1 : n % 1000 < 1000 := Int.emod_lt_of_pos _ (by omega)
  unfold keep_Plates pl
  rw [mod_eq n 1000 (by omega) (by omega), Option.bind_some]
  generalize n % 1000 = m at h0 h1
  rw [Int.tdiv_eq_ediv_of_nonneg h0, Int.tdiv_eq_ediv_of_nonneg h0, Int.tmod_eq_emod_of_nonneg h0, w64_id (z := m / 100) (by omega) (by omega), Int.tmod_eq_emod_of_nonneg (by omega), w64_id (by omega) (by omega), w64_id (by omega) (by omega), w64_id (by omega) (by omega)]
theorem pl_val {n : Int} (h0 : 0 ≤ n) (h1 : n < 1000) : pV (pl n) := by unfold pV pl; simp only; omega
theorem pl_inj {n m : Int} (h0 : 0 ≤ n) (h1 : n < 1000) (g0 : 0 ≤ m) (g1 : m < 1000) (h : pl n = pl m) : n = m := by
  unfold pl at h
  injection h with a b c
  omega

/-- drawn bags: the i-th has the i-th plate -/
structure Gb (l : List Connecting) : Prop where
  p : ∀ (i : Nat) (c : Connecting), l[i]? = some c → c.Plate = pl (i : Int)
  v : ∀ c ∈ l, 0 ≤ c.Ready ∧ c.Ready ≤ 1048576 ∧ (0 ≤ c.From ∧ c.From ≤ 5) ∧ (0 ≤ c.To ∧ c.To ≤ 5) ∧ 0 ≤ c.Category ∧ c.Category ≤ 4
theorem gb_snoc {l : List Connecting} (h : Gb l) {c : Connecting} (hp : c.Plate = pl l.length) (hv : 0 ≤ c.Ready ∧ c.Ready ≤ 1048576 ∧ (0 ≤ c.From ∧ c.From ≤ 5) ∧ (0 ≤ c.To ∧ c.To ≤ 5) ∧ 0 ≤ c.Category ∧ c.Category ≤ 4) : Gb (l ++ [c]) := by
  refine ⟨fun i d hd => ?_, fun d hd => ?_⟩
  · by_cases hi : i < l.length
    · rw [List.getElem?_append_left hi] at hd
      exact h.p i d hd
    · rw [List.getElem?_append_right (by omega)] at hd
      have : i - l.length = 0 := by
        rcases Nat.eq_zero_or_pos (i - l.length) with e | e
        · exact e
        · rw [List.getElem?_eq_none (by simp; omega)] at hd; cases hd
      rw [this] at hd
      simp at hd
      subst hd
      rw [hp]
      congr 1
      omega
  · rcases List.mem_append.1 hd with hd | hd
    · exact h.v d hd
    · rw [List.mem_singleton.1 hd]; exact hv

theorem bags_L1 : ∀ (n : Nat) (s : Src) (a : List Connecting) (j : Int), SrcOk s → Gb a → 0 ≤ j → j < n → (a.length : Int) + j ≤ 100 →
    okP (keep_Src_Connections_L1 n s.L s.At a j) (ctlQ (fun _ => False) (fun z => SrcOk ⟨z.1, z.2.1⟩ ∧ Gb z.2.2 ∧ (z.2.2.length : Int) = a.length + j))
  | 0, s, a, j, _, _, _, h, _ => by omega
  | n + 1, s, a, j, hs, hg, h0, hn, hl => by
    rw [keep_Src_Connections_L1]
    refine okP_cond (fun c => ?_) (fun c => ?_)
    · have c := of_decide_eq_true c
      rw [plates_any, Option.bind_some, Int.emod_eq_of_lt (by omega) (by omega)]
      refine okP_bind (N_ok s 40 hs (by omega) (by omega)) fun r7 h7 => ?_
      refine okP_bind (N_ok r7.2 4 h7.2.2 (by omega) (by omega)) fun r8 h8 => ?_
      refine okP_bind (N_ok r8.2 4 h8.2.2 (by omega) (by omega)) fun r9 h9 => ?_
      refine okP_bind (N_ok r9.2 5 h9.2.2 (by omega) (by omega)) fun r10 h10 => ?_
      rw [apL_eq (by simp; omega), Option.bind_some, w64_id (z := j - 1) (by omega) (by omega), w64_id (by omega) (by omega)]
      refine okP_mono (bags_L1 n r10.2 _ (j - 1) h10.2.2 (gb_snoc hg rfl ⟨by show 0 ≤ 40 + r7.1; omega, by show 40 + r7.1 ≤ 1048576; omega, ⟨by show 0 ≤ r8.1; omega, by show r8.1 ≤ 5; omega⟩, ⟨by show 0 ≤ r9.1; omega, by show r9.1 ≤ 5; omega⟩, by show 0 ≤ r10.1; omega, by show r10.1 ≤ 4; omega⟩) (by omega) (by omega) (by simp; omega)) fun z hz => ?_
      cases z with
      | ret r => exact hz
      | brk z => exact ⟨hz.1, hz.2.1, by rw [hz.2.2]; simp; omega⟩
    · have c := of_decide_eq_false c
      exact okP_some ⟨hs, hg, by show (a.length : Int) = a.length + j; omega⟩
theorem Bags_ok (s : Src) (k : Int) (hs : SrcOk s) (h0 : 0 ≤ k) (h1 : k ≤ 50) : okP (keep_Src_Connections s k) (fun r => Gb r.1 ∧ (r.1.length : Int) ≤ k ∧ SrcOk r.2) := by
  unfold keep_Src_Connections
  rw [w64_id (by omega) (by omega)]
  refine okP_bind (N_ok s (k + 1) hs (by omega) (by omega)) fun r hr => ?_
  refine okP_finB (bags_L1 9223372036854775807 r.2 [] r.1 hr.2.2 ⟨by simp, by simp⟩ hr.1 (by omega) (by simp; omega)) fun z hz => okP_some ⟨hz.2.1, ?_, hz.1⟩
  have := hz.2.2
  simp at this
  show (z.2.2.length : Int) ≤ k
  omega

theorem slacks_ok (l : List Int) (c : Connecting) (t slack saving : Int) (q : Q_Connecting c) (w1 : (Lit.int .i64 slack).wf = true) (w2 : (Lit.int .i64 saving).wf = true) : law24_ConnectSlacks l c t slack saving = some true := by
  have hw : ∀ {a : Int}, (Lit.int .i64 a).wf = true → i64r a := fun {a} h => by
    simp [Lit.wf] at h
    unfold i64r
    have e1 : IntKind.i64.min = -9223372036854775808 := by decide
    have e2 : IntKind.i64.max = 9223372036854775807 := by decide
    omega
  refine okP_eq ?_
  unfold law24_ConnectSlacks
  refine okP_bind (New_ok l) fun r1 h1 => ?_
  refine okP_bind (Min_ok r1 h1) fun r2 h2 => ?_
  refine okP_bind (Bags_ok r2.2 5 h2.2.2 (by omega) (by omega)) fun r3 h3 => ?_
  have hp : okP (keep_Src_Plate r3.2 9) (fun r => SrcOk r.2) := by
    unfold keep_Src_Plate
    refine okP_bind (N_ok r3.2 9 h3.2.2 (by omega) (by omega)) fun r hr => ?_
    rw [plates_any]
    exact okP_some hr.2.2
  refine okP_bind hp fun r4 h4 => ?_
  refine okP_bind (N_ok r4.2 6 h4 (by omega) (by omega)) fun r5 h5 => ?_
  refine okP_bind (N_ok r5.2 6 h5.2.2 (by omega) (by omega)) fun r6 h6 => ?_
  have hl3 := h3.2.1
  rw [apL_eq (by simp; omega), Option.bind_some]
  refine okP_bind (spoilt_ok r6.2 r2.1 h6.2.2 h2.2.1) fun r8 h8 => ?_
  refine okP_finB (s_L1 t _ [r2.1, r8.1] 0 r8.2 (fun x hx => by
    rcases List.mem_cons.1 hx with rfl | hx
    · have := h2.2.1; omega
    · rw [List.mem_singleton.1 hx]; have := h8.1; omega) h8.2) fun z hz => ?_
  refine okP_bind (N_ok ⟨z.1, z.2⟩ 20 hz (by omega) (by omega)) fun r31 h31 => ?_
  refine okP_finB (s_L4 saving (hw w2) [slack, w64 (r31.1 - 10)] 0 r31.2 (fun x hx => by
    rcases List.mem_cons.1 hx with rfl | hx
    · exact hw w1
    · rw [List.mem_singleton.1 hx, w64_id (by omega) (by omega)]; unfold i64r; omega) h31.2.2) fun _ _ => ?_
  rw [awake24]
  exact okP_some rfl
end Go.Proofs.Ytkajegjghfbgaaa.Ex.Cn
