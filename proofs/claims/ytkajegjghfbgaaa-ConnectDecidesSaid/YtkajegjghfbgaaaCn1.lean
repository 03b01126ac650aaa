/- Chapter 24: walks along minimum times; the shortest ones. Plain. -/
import Derived.Test.YtkajegjghfbgaaaExF
import Derived.Test.YtkajegjghfbgaaaOkP
namespace Go.Proofs.Ytkajegjghfbgaaa.Ex.Cn
open Go.RowKit Go.Proofs.Ytkajegjghfbgaaa.Ax
set_option linter.unusedVariables false
set_option linter.unusedSimpArgs false

/-- minimum times as Validate lets them pass -/
structure VOk (l : List Minimum) : Prop where
  rg : ∀ m ∈ l, 0 ≤ m.From ∧ m.From ≤ 5 ∧ 0 ≤ m.To ∧ m.To ≤ 5 ∧ 0 ≤ m.Ticks ∧ m.Ticks ≤ 1048576
  un : l.Pairwise (fun a b => a.From * 6 + a.To < b.From * 6 + b.To)

theorem uniq {l : List Minimum} (h : VOk l) {a b : Minimum} (ha : a ∈ l) (hb : b ∈ l) (h1 : a.From = b.From) (h2 : a.To = b.To) : a.Ticks = b.Ticks := by
  obtain ⟨i, hi, rfl⟩ := List.mem_iff_getElem.1 ha
  obtain ⟨j, hj, rfl⟩ := List.mem_iff_getElem.1 hb
  have hp := List.pairwise_iff_getElem.1 h.un
  rcases Nat.lt_trichotomy i j with c | c | c
  · have := hp i j hi hj c; omega
  · subst c; rfl
  · have := hp j i hj hi c; omega

/-- a walk from a: the terminals where it arrives, the last one first; its length -/
def W (l : List Minimum) (a : Int) : List Int → Int → Prop
  | [], n => n = 0
  | v :: vs, n => ∃ m ∈ l, m.To = v ∧ m.From = vs.head?.getD a ∧ W l a vs (n - m.Ticks)

theorem W_nonneg {l : List Minimum} (h : VOk l) {a : Int} : ∀ {vs : List Int} {n : Int}, W l a vs n → 0 ≤ n
  | [], n, e => by have e : n = 0 := e; omega
  | v :: vs, n, ⟨m, hm, _, _, hw⟩ => by
    have := W_nonneg h hw
    have := (h.rg m hm).2.2.2.2.1
    omega

theorem W_rng {l : List Minimum} (h : VOk l) {a : Int} : ∀ {vs : List Int} {n : Int}, W l a vs n → ∀ v ∈ vs, 0 ≤ v ∧ v ≤ 5
  | [], n, _ => by simp
  | v :: vs, n, ⟨m, hm, hv, _, hw⟩ => by
    intro u hu
    rcases List.mem_cons.1 hu with rfl | hu
    · have := h.rg m hm; omega
    · exact W_rng h hw u hu

theorem W_len {l : List Minimum} (h : VOk l) {a : Int} : ∀ {vs : List Int} {n : Int}, W l a vs n → n ≤ 1048576 * vs.length
  | [], n, e => by have e : n = 0 := e; simp [e]
  | v :: vs, n, ⟨m, hm, _, _, hw⟩ => by
    have := W_len h hw
    have := h.rg m hm
    simp only [List.length_cons]
    omega

theorem W_cat {l : List Minimum} {a k : Int} {vs : List Int} {n1 : Int} (h1 : W l a (k :: vs) n1) : ∀ {ws : List Int} {n2 : Int}, W l k ws n2 → W l a (ws ++ k :: vs) (n1 + n2)
  | [], n2, e => by have e : n2 = 0 := e; rw [e, Int.add_zero]; exact h1
  | w :: ws, n2, ⟨m, hm, hv, hf, hw⟩ => by
    refine ⟨m, hm, hv, ?_, ?_⟩
    · rw [hf]; cases ws <;> simp
    · have := W_cat h1 hw
      rwa [show n1 + n2 - m.Ticks = n1 + (n2 - m.Ticks) by omega]

theorem W_drop {l : List Minimum} (h : VOk l) {a : Int} {R : List Int} : ∀ {P : List Int} {n : Int}, W l a (P ++ R) n → ∃ n2, n2 ≤ n ∧ W l a R n2
  | [], n, hw => ⟨n, Int.le_refl _, hw⟩
  | p :: P, n, ⟨m, hm, _, _, hw⟩ => by
    obtain ⟨n2, h1, h2⟩ := W_drop h hw
    have := (h.rg m hm).2.2.2.2.1
    exact ⟨n2, by omega, h2⟩

theorem W_cut {l : List Minimum} (h : VOk l) {a v : Int} {S : List Int} : ∀ {P : List Int} {n : Int}, W l a (P ++ v :: S) n → ∃ n1, n1 ≤ n ∧ W l a (v :: S) n1 ∧ ∀ R n2, W l a (v :: R) n2 → n2 ≤ n1 → ∃ n', n' ≤ n ∧ W l a (P ++ v :: R) n'
  | [], n, hw => ⟨n, Int.le_refl _, hw, fun R n2 h2 h3 => ⟨n2, h3, h2⟩⟩
  | p :: P, n, ⟨m, hm, hp, hf, hw⟩ => by
    obtain ⟨n1, h1, h2, h3⟩ := W_cut h hw
    have ht := (h.rg m hm).2.2.2.2.1
    refine ⟨n1, by omega, h2, fun R n2 hR hle => ?_⟩
    obtain ⟨n', q1, q2⟩ := h3 R n2 hR hle
    refine ⟨n' + m.Ticks, by omega, m, hm, hp, ?_, ?_⟩
    · rw [hf]; cases P <;> simp
    · rw [show n' + m.Ticks - m.Ticks = n' by omega]; exact q2

theorem dup {vs : List Int} (h : ¬ vs.Nodup) : ∃ v P Q R, vs = P ++ v :: (Q ++ v :: R) := by
  induction vs with
  | nil => exact absurd List.nodup_nil h
  | cons x vs ih =>
    by_cases hx : x ∈ vs
    · obtain ⟨Q, R, rfl⟩ := List.append_of_mem hx
      exact ⟨x, [], Q, R, rfl⟩
    · have : ¬ vs.Nodup := fun hn => h (List.nodup_cons.2 ⟨hx, hn⟩)
      obtain ⟨v, P, Q, R, rfl⟩ := ih this
      exact ⟨v, x :: P, Q, R, rfl⟩

theorem nodup_le : ∀ (n : Nat) (vs : List Int), vs.Nodup → (∀ v ∈ vs, 0 ≤ v ∧ v < n) → vs.length ≤ n
  | 0, vs, _, h => by
    cases vs with
    | nil => simp
    | cons v vs => have := h v (by simp); omega
  | n + 1, vs, hn, h => by
    have h1 := nodup_le n (vs.erase (n : Int)) (hn.erase _) (fun v hv => by
      obtain ⟨h2, h3⟩ := (hn.mem_erase_iff).1 hv
      have := h v h3
      omega)
    rw [List.length_erase] at h1
    split at h1 <;> omega

theorem short {l : List Minimum} (h : VOk l) {a b : Int} : ∀ (k : Nat) (vs : List Int) (n : Int), vs.length ≤ k → W l a (b :: vs) n → ∃ vs' n', (b :: vs').length ≤ 6 ∧ n' ≤ n ∧ W l a (b :: vs') n'
  | k, vs, n, hk, hw => by
    by_cases hd : (b :: vs).Nodup
    · refine ⟨vs, n, ?_, Int.le_refl _, hw⟩
      exact nodup_le 6 _ hd (fun v hv => by have := W_rng h hw v hv; omega)
    · obtain ⟨v, P, Q, R, e⟩ := dup hd
      have hw' := hw
      rw [e] at hw'
      obtain ⟨n1, h1, h2, h3⟩ := W_cut h hw'
      obtain ⟨n2, h4, h5⟩ := W_drop (P := v :: Q) h h2
      obtain ⟨n', h6, h7⟩ := h3 R n2 h5 h4
      have hl := congrArg List.length e
      simp only [List.length_cons, List.length_append] at hl
      obtain ⟨vs2, e2⟩ : ∃ vs2, P ++ v :: R = b :: vs2 := by
        cases P with
        | nil => simp at e; exact ⟨R, by simp [e.1]⟩
        | cons p P => simp at e; exact ⟨P ++ v :: R, by simp [e.1]⟩
      have hl2 := congrArg List.length e2
      simp only [List.length_cons, List.length_append] at hl2
      rw [e2] at h7
      match k, hk with
      | 0, hk => omega
      | k + 1, hk =>
        obtain ⟨vs', n'', q1, q2, q3⟩ := short h k vs2 n' (by omega) h7
        exact ⟨vs', n'', q1, by omega, q3⟩

/-- what Least says -/
def LeastIs (l : List Minimum) (a b : Int) (r : Int × Bool) : Prop :=
  (r.2 = true ∧ (∃ vs, W l a (b :: vs) r.1) ∧ ∀ vs n, W l a (b :: vs) n → r.1 ≤ n) ∨ (r.2 = false ∧ r.1 = 0 ∧ ∀ vs n, ¬ W l a (b :: vs) n)

theorem least_uniq {l : List Minimum} {a b : Int} {r s : Int × Bool} (hr : LeastIs l a b r) (hs : LeastIs l a b s) : r = s := by
  rcases hr with ⟨r1, ⟨vs, r2⟩, r3⟩ | ⟨r1, r2, r3⟩ <;> rcases hs with ⟨s1, ⟨ws, s2⟩, s3⟩ | ⟨s1, s2, s3⟩
  · have := r3 _ _ s2
    have := s3 _ _ r2
    exact Prod.ext (by omega) (by rw [r1, s1])
  · exact absurd r2 (s3 _ _)
  · exact absurd s2 (r3 _ _)
  · exact Prod.ext (by omega) (by rw [r1, s1])

/-! ### the table -/
def tg (l : List Int) (i j : Int) : Int := (l[(i * 6 + j).toNat]?).getD 0
theorem w64_id {z : Int} (h1 : -9223372036854775808 ≤ z) (h2 : z ≤ 9223372036854775807) : w64 z = z := wrap64 h1 h2
theorem gd {i : Int} (n : Nat) (h0 : 0 ≤ i) (h1 : i < n) : gdA n i = some () := if_pos ⟨h0, h1⟩
theorem tg_ix {l : List Int} (hl : l.length = 36) {i j : Int} (hi : 0 ≤ i ∧ i < 6) (hj : 0 ≤ j ∧ j < 6) : ixL l (i * 6 + j) = some (tg l i j) := by
  unfold ixL tg
  rw [if_pos (by omega), List.getElem?_eq_getElem (show (i * 6 + j).toNat < l.length by omega)]
  rfl
theorem tg_set {l : List Int} (hl : l.length = 36) {a b i j : Int} (v : Int) (ha : 0 ≤ a ∧ a < 6) (hb : 0 ≤ b ∧ b < 6) (hi : 0 ≤ i ∧ i < 6) (hj : 0 ≤ j ∧ j < 6) : tg (l.set (a * 6 + b).toNat v) i j = if i = a ∧ j = b then v else tg l i j := by
  unfold tg
  rw [List.getElem?_set]
  by_cases c : i = a ∧ j = b
  · obtain ⟨rfl, rfl⟩ := c
    rw [if_pos rfl, if_pos (by omega), if_pos ⟨rfl, rfl⟩]
    rfl
  · rw [if_neg (by omega), if_neg c]

theorem ways_L2 (i : Int) (hi : 0 ≤ i ∧ i < 6) : ∀ (n : Nat) (l : List Int) (j : Int), l.length = 36 → 0 ≤ j → j ≤ 6 → 6 - j < n →
    okP (connect_ways_L2 i n l j) (ctlQ (fun _ => False) (fun z => z.length = 36 ∧ ∀ a b, 0 ≤ a ∧ a < 6 → 0 ≤ b ∧ b < 6 → tg z a b = if a = i ∧ j ≤ b then 38797349 else tg l a b))
  | 0, l, j, _, _, _, h => by omega
  | n + 1, l, j, hl, h0, h6, hn => by
    rw [connect_ways_L2]
    refine okP_cond (fun c => ?_) (fun c => ?_)
    · have c := of_decide_eq_true c
      rw [gd 6 hi.1 hi.2, Option.bind_some, gd 6 h0 c, Option.bind_some, tg_ix hl hi ⟨h0, c⟩, Option.bind_some, w64_id (by omega) (by omega)]
      refine okP_mono (ways_L2 i hi n _ (j + 1) (by simpa using hl) (by omega) (by omega) (by omega)) fun z hz => ?_
      cases z with
      | ret r => exact hz
      | brk z =>
        refine ⟨hz.1, fun a b ha hb => ?_⟩
        rw [hz.2 a b ha hb, tg_set hl _ hi ⟨h0, c⟩ ha hb]
        by_cases c1 : a = i
        · by_cases c2 : j + 1 ≤ b
          · rw [if_pos ⟨c1, c2⟩, if_pos ⟨c1, by omega⟩]
          · rw [if_neg (fun q => c2 q.2)]
            by_cases c3 : b = j
            · rw [if_pos ⟨c1, c3⟩, if_pos ⟨c1, by omega⟩]
            · rw [if_neg (fun q => c3 q.2), if_neg (fun q => by omega)]
        · rw [if_neg (fun q => c1 q.1), if_neg (fun q => c1 q.1), if_neg (fun q => c1 q.1)]
    · have c := of_decide_eq_false c
      exact okP_some ⟨hl, fun a b ha hb => by rw [if_neg (fun q => by omega)]⟩

theorem ways_L1 : ∀ (n : Nat) (l : List Int) (i : Int), l.length = 36 → 0 ≤ i → i ≤ 6 → 6 - i < n →
    okP (connect_ways_L1 n l i) (ctlQ (fun _ => False) (fun z => z.length = 36 ∧ ∀ a b, 0 ≤ a ∧ a < 6 → 0 ≤ b ∧ b < 6 → tg z a b = if i ≤ a then 38797349 else tg l a b))
  | 0, l, i, _, _, _, h => by omega
  | n + 1, l, i, hl, h0, h6, hn => by
    rw [connect_ways_L1]
    refine okP_cond (fun c => ?_) (fun c => ?_)
    · have c := of_decide_eq_true c
      refine okP_sub (ways_L2 i ⟨h0, c⟩ 9223372036854775807 l 0 hl (by omega) (by omega) (by omega)) fun z hz => ?_
      rw [w64_id (by omega) (by omega)]
      refine okP_mono (ways_L1 n z (i + 1) hz.1 (by omega) (by omega) (by omega)) fun y hy => ?_
      cases y with
      | ret r => exact hy
      | brk y =>
        refine ⟨hy.1, fun a b ha hb => ?_⟩
        rw [hy.2 a b ha hb, hz.2 a b ha hb]
        by_cases c1 : i + 1 ≤ a
        · rw [if_pos c1, if_pos (by omega)]
        · rw [if_neg c1]
          by_cases c2 : a = i
          · rw [if_pos ⟨c2, hb.1⟩, if_pos (by omega)]
          · rw [if_neg (fun q => c2 q.1), if_neg (by omega)]
    · have c := of_decide_eq_false c
      exact okP_some ⟨hl, fun a b ha hb => by rw [if_neg (by omega)]⟩

theorem ways_L3 : ∀ (q : List Minimum) (k : Nat) (l : List Int), l.length = 36 → (∀ m ∈ q, 0 ≤ m.From ∧ m.From ≤ 5 ∧ 0 ≤ m.To ∧ m.To ≤ 5) →
    okP (connect_ways_L3 q k l) (ctlQ (fun _ => False) (fun z => z.length = 36 ∧ ∀ a b, 0 ≤ a ∧ a < 6 → 0 ≤ b ∧ b < 6 → (∃ m ∈ q, m.From = a ∧ m.To = b ∧ tg z a b = m.Ticks) ∨ ((∀ m ∈ q, ¬ (m.From = a ∧ m.To = b)) ∧ tg z a b = tg l a b)))
  | [], k, l, hl, _ => okP_some ⟨hl, fun a b _ _ => .inr ⟨by simp, rfl⟩⟩
  | m :: q, k, l, hl, hq => by
    have hm := hq m (by simp)
    rw [connect_ways_L3, gd 6 hm.1 (by omega), Option.bind_some, gd 6 hm.2.2.1 (by omega), Option.bind_some, tg_ix hl ⟨hm.1, by omega⟩ ⟨hm.2.2.1, by omega⟩, Option.bind_some]
    refine okP_mono (ways_L3 q (k + 1) _ (by simpa using hl) (fun x hx => hq x (by simp [hx]))) fun z hz => ?_
    cases z with
    | ret r => exact hz
    | brk z =>
      refine ⟨hz.1, fun a b ha hb => ?_⟩
      rcases hz.2 a b ha hb with ⟨m', h1, h2⟩ | ⟨h1, h2⟩
      · exact .inl ⟨m', by simp [h1], h2⟩
      · rw [tg_set hl _ ⟨hm.1, by omega⟩ ⟨hm.2.2.1, by omega⟩ ha hb] at h2
        by_cases c : a = m.From ∧ b = m.To
        · rw [if_pos c] at h2
          exact .inl ⟨m, by simp, c.1.symm, c.2.symm, h2⟩
        · rw [if_neg c] at h2
          refine .inr ⟨fun x hx => ?_, h2⟩
          rcases List.mem_cons.1 hx with rfl | hx
          · exact fun q => c ⟨q.1.symm, q.2.symm⟩
          · exact h1 x hx

/-- a phase of the program: what an element becomes -/
def mn (D : Int → Int → Int) (k a b : Int) : Int := if D a k + D k b < D a b then D a k + D k b else D a b
theorem mn_row {D : Int → Int → Int} {k b : Int} (h : 0 ≤ D k k) : mn D k k b = D k b := by unfold mn; rw [if_neg (by omega)]
theorem mn_col {D : Int → Int → Int} {k a : Int} (h : 0 ≤ D k k) : mn D k a k = D a k := by unfold mn; rw [if_neg (by omega)]

def Mid (D : Int → Int → Int) (k i j : Int) (l : List Int) : Prop := l.length = 36 ∧ ∀ a b, 0 ≤ a ∧ a < 6 → 0 ≤ b ∧ b < 6 → tg l a b = if a < i ∨ (a = i ∧ b < j) then mn D k a b else D a b
def Bd (D : Int → Int → Int) : Prop := ∀ a b, 0 ≤ a ∧ a < 6 → 0 ≤ b ∧ b < 6 → 0 ≤ D a b ∧ D a b ≤ 38797349

theorem ways_L6 {D : Int → Int → Int} (hD : Bd D) (k i : Int) (hk : 0 ≤ k ∧ k < 6) (hi : 0 ≤ i ∧ i < 6) : ∀ (n : Nat) (l : List Int) (j : Int), Mid D k i j l → 0 ≤ j → j ≤ 6 → 6 - j < n →
    okP (connect_ways_L6 k i n l j) (ctlQ (fun _ => False) (fun z => Mid D k i 6 z))
  | 0, l, j, _, _, _, h => by omega
  | n + 1, l, j, hl, h0, h6, hn => by
    rw [connect_ways_L6]
    refine okP_cond (fun c => ?_) (fun c => ?_)
    · have c := of_decide_eq_true c
      have hj : 0 ≤ j ∧ j < 6 := ⟨h0, c⟩
      have e1 : tg l i j = D i j := by rw [hl.2 i j hi hj, if_neg (by omega)]
      have e2 : tg l i k = D i k := by
        rw [hl.2 i k hi hk]
        split
        · exact mn_col (hD k k hk hk).1
        · rfl
      have e3 : tg l k j = D k j := by
        rw [hl.2 k j hk hj]
        split
        · exact mn_row (hD k k hk hk).1
        · rfl
      have b1 := hD i k hi hk
      have b2 := hD k j hk hj
      rw [gd 6 hi.1 hi.2, Option.bind_some, gd 6 h0 c, Option.bind_some, tg_ix hl.1 hi hj, Option.bind_some, gd 6 hk.1 hk.2]
      simp only [Option.bind_some]
      rw [tg_ix hl.1 hi hk, Option.bind_some, tg_ix hl.1 hk hj, Option.bind_some, e1, e2, e3, w64_id (z := D i k + D k j) (by omega) (by omega), w64_id (z := j + 1) (by omega) (by omega)]
      refine ways_L6 hD k i hk hi n _ (j + 1) ⟨by simpa using hl.1, fun a b ha hb => ?_⟩ (by omega) (by omega) (by omega)
      rw [tg_set hl.1 _ hi hj ha hb, hl.2 a b ha hb]
      by_cases c1 : a = i ∧ b = j
      · obtain ⟨rfl, rfl⟩ := c1
        rw [if_pos ⟨rfl, rfl⟩]
        exact Eq.trans rfl (if_pos (show a < a ∨ a = a ∧ b < b + 1 by omega)).symm
      · rw [if_neg c1]
        by_cases c2 : a < i ∨ a = i ∧ b < j
        · rw [if_pos c2, if_pos (by omega)]
        · rw [if_neg c2, if_neg (by omega)]
    · have c := of_decide_eq_false c
      have : j = 6 := by omega
      subst this
      exact okP_some hl

theorem ways_L5 {D : Int → Int → Int} (hD : Bd D) (k : Int) (hk : 0 ≤ k ∧ k < 6) : ∀ (n : Nat) (l : List Int) (i : Int), Mid D k i 0 l → 0 ≤ i → i ≤ 6 → 6 - i < n →
    okP (connect_ways_L5 k n l i) (ctlQ (fun _ => False) (fun z => Mid D k 6 0 z))
  | 0, l, i, _, _, _, h => by omega
  | n + 1, l, i, hl, h0, h6, hn => by
    rw [connect_ways_L5]
    refine okP_cond (fun c => ?_) (fun c => ?_)
    · have c := of_decide_eq_true c
      refine okP_sub (ways_L6 hD k i hk ⟨h0, c⟩ 9223372036854775807 l 0 hl (by omega) (by omega) (by omega)) fun z hz => ?_
      rw [w64_id (by omega) (by omega)]
      refine ways_L5 hD k hk n z (i + 1) ⟨hz.1, fun a b ha hb => ?_⟩ (by omega) (by omega) (by omega)
      rw [hz.2 a b ha hb]
      by_cases c1 : a < i ∨ a = i ∧ b < 6
      · rw [if_pos c1, if_pos (by omega)]
      · rw [if_neg c1, if_neg (by omega)]
    · have c := of_decide_eq_false c
      have : i = 6 := by omega
      subst this
      exact okP_some hl

/-- the table in front of phase k -/
structure Inv (l : List Minimum) (k : Int) (D : Int → Int → Int) : Prop where
  bd : Bd D
  wk : ∀ a b, 0 ≤ a ∧ a < 6 → 0 ≤ b ∧ b < 6 → D a b < 38797349 → ∃ vs, W l a (b :: vs) (D a b)
  ed : ∀ m ∈ l, D m.From m.To ≤ m.Ticks
  tr : ∀ a b c, 0 ≤ a ∧ a < 6 → 0 ≤ b ∧ b < 6 → 0 ≤ c ∧ c < k → D a b ≤ D a c + D c b

theorem inv_step {l : List Minimum} (h : VOk l) {k : Int} {D : Int → Int → Int} (hk : 0 ≤ k ∧ k < 6) (hI : Inv l k D) : Inv l (k + 1) (mn D k) := by
  have le1 : ∀ a b, mn D k a b ≤ D a b := fun a b => by unfold mn; split <;> omega
  have le2 : ∀ a b, mn D k a b ≤ D a k + D k b := fun a b => by unfold mn; split <;> omega
  have cs : ∀ a b, mn D k a b = D a b ∨ mn D k a b = D a k + D k b := fun a b => by unfold mn; split <;> simp
  have pos : ∀ a b, 0 ≤ a ∧ a < 6 → 0 ≤ b ∧ b < 6 → 0 ≤ D a b := fun a b ha hb => (hI.bd a b ha hb).1
  refine ⟨fun a b ha hb => ?_, fun a b ha hb hf => ?_, fun m hm => Int.le_trans (le1 _ _) (hI.ed m hm), fun a b c ha hb hc => ?_⟩
  · have := hI.bd a b ha hb
    have := pos a k ha hk
    have := pos k b hk hb
    have := le1 a b
    rcases cs a b with e | e <;> omega
  · rcases cs a b with e | e
    · rw [e] at hf ⊢
      exact hI.wk a b ha hb hf
    · rw [e] at hf ⊢
      have p1 := pos a k ha hk
      have p2 := pos k b hk hb
      obtain ⟨vs, w1⟩ := hI.wk a k ha hk (by omega)
      obtain ⟨ws, w2⟩ := hI.wk k b hk hb (by omega)
      exact ⟨ws ++ k :: vs, W_cat w1 w2⟩
  · have hc6 : 0 ≤ c ∧ c < 6 := ⟨hc.1, by omega⟩
    have h1 := le1 a b
    have h2 := le2 a b
    by_cases ck : c = k
    · subst ck
      rw [mn_col (pos c c hk hk), mn_row (pos c c hk hk)]
      exact h2
    · have hc' : 0 ≤ c ∧ c < k := ⟨hc.1, by omega⟩
      have t1 := hI.tr a b c ha hb hc'
      have t2 := hI.tr a k c ha hk hc'
      have t3 := hI.tr k b c hk hb hc'
      have q1 := pos k c hk hc6
      have q2 := pos c k hc6 hk
      have q3 := pos a k ha hk
      have q4 := pos k b hk hb
      rcases cs a c with e1 | e1 <;> rcases cs c b with e2 | e2 <;> rw [e1, e2] <;> omega

theorem ways_L4 {l0 : List Minimum} (h : VOk l0) : ∀ (n : Nat) (l : List Int) (k : Int), l.length = 36 → Inv l0 k (tg l) → 0 ≤ k → k ≤ 6 → 6 - k < n →
    okP (connect_ways_L4 n l k) (ctlQ (fun _ => False) (fun z => z.length = 36 ∧ Inv l0 6 (tg z)))
  | 0, l, k, _, _, _, _, h => by omega
  | n + 1, l, k, hl, hI, h0, h6, hn => by
    rw [connect_ways_L4]
    refine okP_cond (fun c => ?_) (fun c => ?_)
    · have c := of_decide_eq_true c
      refine okP_sub (ways_L5 hI.bd k ⟨h0, c⟩ 9223372036854775807 l 0 ⟨hl, fun a b ha hb => by rw [if_neg (by omega)]⟩ (by omega) (by omega) (by omega)) fun z hz => ?_
      rw [w64_id (by omega) (by omega)]
      have e : ∀ a b, 0 ≤ a ∧ a < 6 → 0 ≤ b ∧ b < 6 → tg z a b = mn (tg l) k a b := fun a b ha hb => by rw [hz.2 a b ha hb, if_pos (by omega)]
      have hI2 := inv_step h ⟨h0, c⟩ hI
      refine ways_L4 h n z (k + 1) hz.1 ⟨fun a b ha hb => ?_, fun a b ha hb hf => ?_, fun m hm => ?_, fun a b c' ha hb hc => ?_⟩ (by omega) (by omega) (by omega)
      · rw [e a b ha hb]; exact hI2.bd a b ha hb
      · rw [e a b ha hb] at hf ⊢; exact hI2.wk a b ha hb hf
      · have := h.rg m hm
        rw [e _ _ (by omega) (by omega)]; exact hI2.ed m hm
      · rw [e a b ha hb, e a c' ha (by omega), e c' b (by omega) hb]; exact hI2.tr a b c' ha hb hc
    · have c := of_decide_eq_false c
      have : k = 6 := by omega
      subst this
      exact okP_some ⟨hl, hI⟩

theorem inv_le {l : List Minimum} (h : VOk l) {D : Int → Int → Int} (hI : Inv l 6 D) {a : Int} (ha : 0 ≤ a ∧ a < 6) : ∀ (vs : List Int) (b n : Int), W l a (b :: vs) n → D a b ≤ n
  | [], b, n, ⟨m, hm, h1, h2, h3⟩ => by
    have h3 : n - m.Ticks = 0 := h3
    have := hI.ed m hm
    rw [h1, h2] at this
    simp only [List.head?_nil, Option.getD_none] at this
    omega
  | c :: vs, b, n, ⟨m, hm, h1, h2, h3⟩ => by
    have ih := inv_le h hI ha vs c _ h3
    have e := hI.ed m hm
    simp only [List.head?_cons, Option.getD_some] at h2
    have r := h.rg m hm
    rw [h1, h2] at e
    rw [h1, h2] at r
    have := hI.tr a b c ha ⟨r.2.2.1, by omega⟩ ⟨r.1, by omega⟩
    omega

/-- the table of the program, as a value -/
def at6 (r : A6_A6_Int) (i : Nat) : A6_Int := match i with
  | 0 => r.e0 | 1 => r.e1 | 2 => r.e2 | 3 => r.e3 | 4 => r.e4 | _ => r.e5
def at1 (r : A6_Int) (i : Nat) : Int := match i with
  | 0 => r.e0 | 1 => r.e1 | 2 => r.e2 | 3 => r.e3 | 4 => r.e4 | _ => r.e5

theorem ways_ok {l : List Minimum} (h : VOk l) : okP (connect_ways l) (fun r => ∀ a b : Nat, a < 6 → b < 6 → LeastIs l a b (if at1 (at6 r a) b < 38797349 then (at1 (at6 r a) b, true) else (0, false))) := by
  unfold connect_ways
  refine okP_bindE (x := List.replicate 36 0) rfl ?_
  refine okP_finB (ways_L1 9223372036854775807 _ 0 (by simp) (by omega) (by omega) (by omega)) fun z1 hz1 => ?_
  refine okP_finB (ways_L3 l 0 z1 hz1.1 (fun m hm => by have := h.rg m hm; omega)) fun z2 hz2 => ?_
  have hfar : ∀ a b, 0 ≤ a ∧ a < 6 → 0 ≤ b ∧ b < 6 → tg z1 a b = 38797349 := fun a b ha hb => by rw [hz1.2 a b ha hb, if_pos ha.1]
  have hI : Inv l 0 (tg z2) := by
    refine ⟨fun a b ha hb => ?_, fun a b ha hb hf => ?_, fun m hm => ?_, fun a b c ha hb hc => by omega⟩
    · rcases hz2.2 a b ha hb with ⟨m, hm, _, _, e⟩ | ⟨_, e⟩
      · have := h.rg m hm; omega
      · rw [hfar a b ha hb] at e; omega
    · rcases hz2.2 a b ha hb with ⟨m, hm, e1, e2, e⟩ | ⟨_, e⟩
      · exact ⟨[], m, hm, e2, by simpa using e1, by show tg z2 a b - m.Ticks = 0; omega⟩
      · rw [hfar a b ha hb] at e; omega
    · have r := h.rg m hm
      rcases hz2.2 m.From m.To (by omega) (by omega) with ⟨m', hm', e1, e2, e⟩ | ⟨e, _⟩
      · have := uniq h hm' hm e1 e2; omega
      · exact absurd ⟨rfl, rfl⟩ (e m hm)
  refine okP_finB (ways_L4 h 9223372036854775807 z2 0 hz2.1 hI (by omega) (by omega) (by omega)) fun z hz => ?_
  refine okP_bindE (x := ()) (if_pos hz.1) (okP_some fun a b ha hb => ?_)
  have hv : at1 (at6 (⟨(⟨(z.getD 0 (0 : Int)), (z.getD 1 (0 : Int)), (z.getD 2 (0 : Int)), (z.getD 3 (0 : Int)), (z.getD 4 (0 : Int)), (z.getD 5 (0 : Int))⟩ : A6_Int), (⟨(z.getD 6 (0 : Int)), (z.getD 7 (0 : Int)), (z.getD 8 (0 : Int)), (z.getD 9 (0 : Int)), (z.getD 10 (0 : Int)), (z.getD 11 (0 : Int))⟩ : A6_Int), (⟨(z.getD 12 (0 : Int)), (z.getD 13 (0 : Int)), (z.getD 14 (0 : Int)), (z.getD 15 (0 : Int)), (z.getD 16 (0 : Int)), (z.getD 17 (0 : Int))⟩ : A6_Int), (⟨(z.getD 18 (0 : Int)), (z.getD 19 (0 : Int)), (z.getD 20 (0 : Int)), (z.getD 21 (0 : Int)), (z.getD 22 (0 : Int)), (z.getD 23 (0 : Int))⟩ : A6_Int), (⟨(z.getD 24 (0 : Int)), (z.getD 25 (0 : Int)), (z.getD 26 (0 : Int)), (z.getD 27 (0 : Int)), (z.getD 28 (0 : Int)), (z.getD 29 (0 : Int))⟩ : A6_Int), (⟨(z.getD 30 (0 : Int)), (z.getD 31 (0 : Int)), (z.getD 32 (0 : Int)), (z.getD 33 (0 : Int)), (z.getD 34 (0 : Int)), (z.getD 35 (0 : Int))⟩ : A6_Int)⟩ : A6_A6_Int) a) b = tg z a b := by
    unfold tg
    rw [← List.getD_eq_getElem?_getD]
    match a, ha with
    | 0, _ | 1, _ | 2, _ | 3, _ | 4, _ | 5, _ => match b, hb with
      | 0, _ | 1, _ | 2, _ | 3, _ | 4, _ | 5, _ => rfl
  rw [hv]
  have ha' : 0 ≤ (a : Int) ∧ (a : Int) < 6 := by omega
  have hb' : 0 ≤ (b : Int) ∧ (b : Int) < 6 := by omega
  by_cases c : tg z a b < 38797349
  · rw [if_pos c]
    exact .inl ⟨rfl, hz.2.wk a b ha' hb' c, fun vs n hw => inv_le h hz.2 ha' vs b n hw⟩
  · rw [if_neg c]
    refine .inr ⟨rfl, rfl, fun vs n hw => c ?_⟩
    obtain ⟨vs', n', q1, q2, q3⟩ := short h vs.length vs n (Nat.le_refl _) hw
    have := inv_le h hz.2 ha' vs' b n' q3
    have := W_len h q3
    omega
end Go.Proofs.Ytkajegjghfbgaaa.Ex.Cn
