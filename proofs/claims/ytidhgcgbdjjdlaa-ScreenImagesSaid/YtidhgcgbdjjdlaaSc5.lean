/- Chapter 15: the law ScreenBound. Plain. -/
import Derived.Test.YtidhgcgbdjjdlaaSc4
namespace Go.Proofs.Ytidhgcgbdjjdlaa.Ex.Sc
open Go.RowKit Go.Proofs.Ytidhgcgbdjjdlaa.Ax
set_option linter.unusedVariables false
set_option linter.unusedSimpArgs false

/-- a screening with one check -/
def one (l : A4_Int) (n : Int) (c : Check) : Screening := ⟨l, n, [c]⟩
theorem one_ok {l : A4_Int} (hl : LOk l) {n : Int} {c : Check} (hc : COk c) (h1 : 1 ≤ c.Image) (h2 : c.Image < n) (h3 : n ≤ 1048577) : SOk (one l n c) :=
  ⟨hl, fun d hd => by rw [List.mem_singleton.1 hd]; exact hc, List.pairwise_singleton _ _, fun d hd => by rw [List.mem_singleton.1 hd]; exact ⟨h1, h2⟩, List.pairwise_singleton _ _, by show 1 ≤ n ∧ n ≤ 1048577; omega⟩
/-- how the check stands at the time t behind the start -/
def cum (l : A4_Int) (v : Int) : Int := if v = 1 then 0 else if v = 2 then l.e0 + 1 else if v = 3 then l.e0 + l.e1 + 2 else l.e0 + l.e1 + l.e2 + 3
structure At (l : A4_Int) (b st t : Int) (n : Int) (c : Check) : Prop where
  bag : c.Bag = b
  pend : c.State = 1
  lv : 1 ≤ c.Level ∧ c.Level ≤ 4
  since : c.Since = st + cum l c.Level
  img : c.Image = c.Level
  nx : n = c.Level + 1
  lo : cum l c.Level < t ∨ c.Level = 1
  hi : t ≤ cum l c.Level + lim l c.Level + 1
theorem bound_L1 (l : A4_Int) (hl : 0 ≤ l.e0 ∧ l.e0 < 12 ∧ 0 ≤ l.e1 ∧ l.e1 < 12 ∧ 0 ≤ l.e2 ∧ l.e2 < 12 ∧ 0 ≤ l.e3 ∧ l.e3 < 12) (b st : Int) (hb : 0 ≤ b ∧ b < 40) (hst : 0 ≤ st ∧ st < 1000) : ∀ (m : Nat) (t n : Int) (c : Check), 0 ≤ t → t ≤ 4 + l.e0 + l.e1 + l.e2 + l.e3 → At l (1 + b) st t n c → 4 + l.e0 + l.e1 + l.e2 + l.e3 - t + 1 < m →
    okP (law15_ScreenBound_L1 l.e0 l.e1 l.e2 l.e3 b st m l.e0 l.e1 l.e2 l.e3 n [c] t) (ctlQ (fun _ => False) (fun z => ∃ c' n', z = (l.e0, l.e1, l.e2, l.e3, n', [c']) ∧ SOk (one l n' c') ∧ c'.Bag = 1 + b ∧ c'.State = 3 ∧ c'.Level = 4))
  | 0, t, n, c, h0, h1, hA, h => by omega
  | m + 1, t, n, c, h0, h1, hA, h => by
    have hlo : LOk l := ⟨by omega, by omega, by omega, by omega⟩
    obtain ⟨a1, a2, a3, a4, a5, a6, a7, a8⟩ := hA
    have hcum : 0 ≤ cum l c.Level ∧ cum l c.Level ≤ 40 := by unfold cum; (repeat' split) <;> omega
    have hc : COk c := ⟨a3, by omega, by omega⟩
    have hx : SOk (one l n c) := one_ok hlo hc (by omega) (by omega) (by omega)
    rw [law15_ScreenBound_L1]
    have e4 : w64 (w64 (w64 (w64 (4 + l.e0) + l.e1) + l.e2) + l.e3) = 4 + l.e0 + l.e1 + l.e2 + l.e3 := by
      rw [w64_id (z := 4 + l.e0) (by omega) (by omega), w64_id (z := 4 + l.e0 + l.e1) (by omega) (by omega), w64_id (z := 4 + l.e0 + l.e1 + l.e2) (by omega) (by omega), w64_id (by omega) (by omega)]
    rw [e4, decide_eq_true h1, cond_true]
    have e5 : w64 (1 + b) = c.Bag := by rw [w64_id (by omega) (by omega), a1]
    show okP ((screen_Find (one l n c) (w64 (1 + b))).bind _) _
    rw [e5, find_p1 hx (c := c) (by simp [one]), Option.bind_some, Bool.not_true, cond_false, a2, show ((1 : Int) != 1) = false from rfl, cond_false]
    show okP ((screen_Expire (one l n c) (w64 (st + t))).bind _) _
    rw [w64_id (z := st + t) (by omega) (by omega), exp_p hx, Option.bind_some, w64_id (z := t + 1) (by omega) (by omega)]
    have hlim := lim_rng hlo c.Level
    have hexp : ∀ (m' : Int) (d : Check), expS (one l n c) (st + t) = one l m' d → m' ≤ 1048577 → expR (one l n c) (st + t) = (one l m' d, 0) := by
      intro m' d e hm
      unfold expR
      rw [if_neg (by omega), e, if_neg (show ¬ 1048577 < (one l m' d).Next from fun h => by have : 1048577 < m' := h; omega)]
    by_cases hd : due l (st + t) c
    · have hlt := hd.2
      by_cases hv : c.Level = 4
      · have e : expS (one l n c) (st + t) = one l n ⟨c.Bag, c.Level, c.Since, c.Image, 3⟩ := by
          unfold expS one
          simp only [expM, if_pos hd, failC, if_pos hv]
        rw [hexp _ _ e (by omega)]
        rw [show ((0 : Int) != 0) = false from rfl, cond_false]
        have ht : t = 4 + l.e0 + l.e1 + l.e2 + l.e3 := by
          rw [a4, hv] at hlt
          simp [cum, lim] at hlt
          omega
        match m, h with
        | 0, h => omega
        | m + 1, _ =>
          show okP (law15_ScreenBound_L1 _ _ _ _ _ _ (m + 1) l.e0 l.e1 l.e2 l.e3 n [⟨c.Bag, c.Level, c.Since, c.Image, 3⟩] (t + 1)) _
          rw [law15_ScreenBound_L1, e4, decide_eq_false (by omega), cond_false]
          exact okP_some ⟨_, _, rfl, one_ok hlo ⟨hc.lv, hc.si, hc.bg⟩ (by show 1 ≤ c.Image; omega) (by show c.Image < n; omega) (by omega), a1, rfl, hv⟩
      · have e : expS (one l n c) (st + t) = one l (n + 1) ⟨c.Bag, c.Level + 1, st + t, n, c.State⟩ := by
          unfold expS one
          simp only [expM, if_pos hd, failC, if_neg hv]
        rw [hexp _ _ e (by omega), show ((0 : Int) != 0) = false from rfl, cond_false]
        have hcn : cum l (c.Level + 1) = cum l c.Level + lim l c.Level + 1 := by
          rcases (by omega : c.Level = 1 ∨ c.Level = 2 ∨ c.Level = 3) with g | g | g
          · rw [g]; simp [cum, lim]
          · rw [g]; simp [cum, lim]; omega
          · rw [g]; simp [cum, lim]; omega
        have hl2 := lim_rng hlo (c.Level + 1)
        have hlast : cum l (c.Level + 1) ≤ 3 + l.e0 + l.e1 + l.e2 := by unfold cum; (repeat' split) <;> omega
        refine bound_L1 l hl b st hb hst m (t + 1) (n + 1) ⟨c.Bag, c.Level + 1, st + t, n, c.State⟩ (by omega) (by omega) ⟨a1, a2, by show 1 ≤ c.Level + 1 ∧ c.Level + 1 ≤ 4; omega, ?_, by show n = c.Level + 1; omega, by show n + 1 = c.Level + 1 + 1; omega, .inl ?_, ?_⟩ (by omega)
        · show st + t = st + cum l (c.Level + 1); omega
        · show cum l (c.Level + 1) < t + 1; omega
        · show t + 1 ≤ cum l (c.Level + 1) + lim l (c.Level + 1) + 1; omega
    · have e : expS (one l n c) (st + t) = one l n c := by
        unfold expS one
        simp only [expM, if_neg hd]
      rw [hexp _ _ e (by omega), show ((0 : Int) != 0) = false from rfl, cond_false]
      have hge : ¬ c.Since + lim l c.Level < st + t := fun h => hd ⟨a2, h⟩
      have hend : cum l c.Level + lim l c.Level ≤ 3 + l.e0 + l.e1 + l.e2 + l.e3 := by unfold cum lim; (repeat' split) <;> omega
      refine bound_L1 l hl b st hb hst m (t + 1) n c (by omega) (by omega) ⟨a1, a2, a3, a4, a5, a6, ?_, by omega⟩ (by omega)
      rcases a7 with a7 | a7
      · exact .inl (by omega)
      · exact .inr a7
theorem bound_ok (a b c d bag start : Int) : law15_ScreenBound a b c d bag start = some true := by
  refine okP_eq ?_
  unfold law15_ScreenBound
  rw [awake15, mod_eq a 12 (by omega) (by omega), mod_eq b 12 (by omega) (by omega), mod_eq c 12 (by omega) (by omega), mod_eq d 12 (by omega) (by omega), mod_eq bag 40 (by omega) (by omega), mod_eq start 1000 (by omega) (by omega)]
  simp only [Option.bind_some]
  obtain ⟨e0, h0⟩ : ∃ e, e = a % 12 := ⟨_, rfl⟩
  obtain ⟨e1, h1⟩ : ∃ e, e = b % 12 := ⟨_, rfl⟩
  obtain ⟨e2, h2⟩ : ∃ e, e = c % 12 := ⟨_, rfl⟩
  obtain ⟨e3, h3⟩ : ∃ e, e = d % 12 := ⟨_, rfl⟩
  obtain ⟨bg, h4⟩ : ∃ e, e = bag % 40 := ⟨_, rfl⟩
  obtain ⟨st, h5⟩ : ∃ e, e = start % 1000 := ⟨_, rfl⟩
  rw [← h0, ← h1, ← h2, ← h3, ← h4, ← h5]
  have hl : 0 ≤ e0 ∧ e0 < 12 ∧ 0 ≤ e1 ∧ e1 < 12 ∧ 0 ≤ e2 ∧ e2 < 12 ∧ 0 ≤ e3 ∧ e3 < 12 := by omega
  have hb : 0 ≤ bg ∧ bg < 40 := by omega
  have hs : 0 ≤ st ∧ st < 1000 := by omega
  have hlo : LOk ⟨e0, e1, e2, e3⟩ := ⟨by show 0 ≤ e0 ∧ e0 ≤ 1000; omega, by show 0 ≤ e1 ∧ e1 ≤ 1000; omega, by show 0 ≤ e2 ∧ e2 ≤ 1000; omega, by show 0 ≤ e3 ∧ e3 ≤ 1000; omega⟩
  rw [new_eq hlo]
  simp only [Option.bind_some]
  have e5 : w64 (1 + bg) = 1 + bg := w64_id (by omega) (by omega)
  rw [start_p (new_ok hlo), e5]
  have hst : startM ⟨⟨e0, e1, e2, e3⟩, 1, []⟩ (1 + bg) st = (one ⟨e0, e1, e2, e3⟩ 2 ⟨1 + bg, 1, st, 1, 1⟩, 0) := by
    unfold startM
    rw [if_neg (by omega), if_neg (by rintro ⟨c, hc, _⟩; cases hc), if_neg (by show ¬ (1048576 : Int) < 1; omega)]
    rfl
  rw [hst]
  simp only [Option.bind_some, bne_self_eq_false, cond_false]
  have hA : At ⟨e0, e1, e2, e3⟩ (1 + bg) st 0 2 ⟨1 + bg, 1, st, 1, 1⟩ := ⟨rfl, rfl, by show (1 : Int) ≤ 1 ∧ (1 : Int) ≤ 4; omega, by show st = st + cum _ 1; simp [cum], rfl, rfl, .inr rfl, by show (0 : Int) ≤ cum _ 1 + lim _ 1 + 1; simp [cum, lim]; omega⟩
  refine okP_finB (bound_L1 ⟨e0, e1, e2, e3⟩ hl bg st hb hs 9223372036854775807 0 2 ⟨1 + bg, 1, st, 1, 1⟩ (by omega) (by show (0 : Int) ≤ 4 + e0 + e1 + e2 + e3; omega) hA (by show 4 + e0 + e1 + e2 + e3 - 0 + 1 < _; omega)) ?_
  rintro z ⟨c', n', rfl, hx, g1, g2, g3⟩
  show okP ((screen_Find (one ⟨e0, e1, e2, e3⟩ n' c') (1 + bg)).bind _) _
  rw [← g1, find_p1 hx (c := c') (by simp [one]), Option.bind_some, cond_true, g2, show ((3 : Int) == 3) = true from rfl, cond_true, g3, show ((4 : Int) == 4) = true from rfl, cond_true]
  obtain ⟨r, r1, _, r3⟩ := al_both hx
  show okP ((screen_Alarms (one ⟨e0, e1, e2, e3⟩ n' c')).bind _) _
  rw [r1, Option.bind_some]
  have : r = [] := by
    have h : alM (one ⟨e0, e1, e2, e3⟩ n' c').Limits (one ⟨e0, e1, e2, e3⟩ n' c').L = [] := by
      unfold alM one
      simp [g2]
    rw [h] at r3
    exact r3.eq_nil
  rw [this]
  exact okP_some rfl
end Go.Proofs.Ytidhgcgbdjjdlaa.Ex.Sc
