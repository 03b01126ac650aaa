/- Chapter 15: the images that are used are as many as the levels; the law ScreenOnlyVerdicts. Plain. -/
import Derived.Test.YtidhgcgbdjjdlaaSc5
namespace Go.Proofs.Ytidhgcgbdjjdlaa.Ex.Sc
open Go.RowKit Go.Proofs.Ytidhgcgbdjjdlaa.Ax
set_option linter.unusedVariables false
set_option linter.unusedSimpArgs false

def lsum : List Check → Int
  | [] => 0
  | c :: l => c.Level + lsum l
theorem lsum_app : ∀ (a b : List Check), lsum (a ++ b) = lsum a + lsum b
  | [], b => by simp [lsum]
  | c :: a, b => by rw [List.cons_append, lsum, lsum, lsum_app a b]; omega
theorem lsum_le : ∀ (l : List Check), (∀ c ∈ l, COk c) → 0 ≤ lsum l ∧ lsum l ≤ 4 * l.length
  | [], _ => by simp [lsum]
  | c :: l, h => by
    have := lsum_le l (fun d hd => h d (by simp [hd]))
    have := (h c (by simp)).lv
    rw [lsum, List.length_cons]; omega
theorem bags_lenK (K : Int) : ∀ (l : List Check) (lo : Int), (∀ c ∈ l, lo ≤ c.Bag ∧ c.Bag ≤ K) → l.Pairwise (fun a b => a.Bag < b.Bag) → lo ≤ K + 1 → (l.length : Int) ≤ K + 1 - lo
  | [], lo, h, _, h2 => by simp; omega
  | c :: l, lo, h, hp, h2 => by
    rw [List.pairwise_cons] at hp
    have hc := h c (by simp)
    have := bags_lenK K l (c.Bag + 1) (fun d hd => ⟨by have := hp.1 d hd; omega, (h d (by simp [hd])).2⟩) hp.2 (by omega)
    simp only [List.length_cons]; omega
/-- few bags, and as many images as levels -/
structure XOk (K : Int) (x : Screening) : Prop where
  ok : SOk x
  few : ∀ c ∈ x.L, c.Bag ≤ K
  sum : x.Next = 1 + lsum x.L
theorem XOk.small {K : Int} {x : Screening} (h : XOk K x) (hK : 0 ≤ K) : x.Next ≤ 1 + 4 * K := by
  have h1 := lsum_le x.L h.ok.chk
  have h2 := bags_lenK K x.L 1 (fun c hc => ⟨(h.ok.chk c hc).bg.1, h.few c hc⟩) h.ok.srt (by omega)
  have := h.sum
  omega
theorem fail_sum (c : Check) (n t : Int) : (failC c n t).1.Level - c.Level = (failC c n t).2 - n := by
  unfold failC
  split
  · show c.Level - c.Level = n - n; omega
  · show c.Level + 1 - c.Level = n + 1 - n; omega
theorem expM_sum (l : A4_Int) (t : Int) : ∀ (r : List Check) (n : Int), lsum (expM l t r n).1 - lsum r = (expM l t r n).2 - n
  | [], n => by simp [expM, lsum]
  | c :: r, n => by
    rw [expM]
    split
    · have h1 := fail_sum c n t
      have h2 := expM_sum l t r (failC c n t).2
      simp only [lsum]; omega
    · have h2 := expM_sum l t r n
      simp only [lsum]; omega
theorem expS_sum {x : Screening} (h : x.Next = 1 + lsum x.L) (t : Int) : (expS x t).Next = 1 + lsum (expS x t).L := by
  have := expM_sum x.Limits t x.L x.Next
  unfold expS
  show (expM x.Limits t x.L x.Next).2 = 1 + lsum (expM x.Limits t x.L x.Next).1
  omega
theorem exp_x {K : Int} (hK : 0 ≤ K) (hK2 : K ≤ 40) {x : Screening} (h : XOk K x) {t : Int} (t0 : 0 ≤ t) (t1 : t ≤ 1048576) : expR x t = (expS x t, 0) ∧ XOk K (expS x t) := by
  have hn := exp_next h.ok t
  have hs := h.small hK
  have hle : (expS x t).Next ≤ 1048577 := by omega
  refine ⟨?_, expS_ok h.ok t0 t1 hle, fun d hd => ?_, expS_sum h.sum t⟩
  · unfold expR
    rw [if_neg (by omega), if_neg (by omega)]
  · obtain ⟨c, hc, hr⟩ := (exp_stp x t).mem hd
    rw [hr.bag]; exact h.few c hc
theorem start_x {K : Int} {x : Screening} (h : XOk K x) {b t : Int} (hb : b ≤ K) (h0 : (startM x b t).2 = 0) : XOk K (startM x b t).1 ∧ (startM x b t).1 = startS x b t ∧ ¬ hasC x.L b := by
  obtain ⟨h1, h2, h3, _⟩ := start_ok h.ok h0
  refine ⟨⟨h1, ?_, ?_⟩, h2, h3⟩
  · rw [h2]
    intro c hc
    rcases mem_start.1 hc with rfl | hc
    · exact hb
    · exact h.few c hc
  · rw [h2]
    unfold startS
    show x.Next + 1 = 1 + lsum (x.L.take (posC x.L b) ++ newC x b t :: x.L.drop (posC x.L b))
    have e : lsum x.L = lsum (x.L.take (posC x.L b)) + lsum (x.L.drop (posC x.L b)) := by rw [← lsum_app, List.take_append_drop]
    rw [lsum_app, lsum]
    have := h.sum
    show x.Next + 1 = 1 + (_ + ((1 : Int) + _))
    omega
theorem ver_x {K : Int} {x : Screening} (h : XOk K x) {i : Int} {cl : Bool} {t : Int} (h0 : (verM x i cl t).2.2 = 0) : XOk K (verM x i cl t).1 ∧ Ver x (verM x i cl t).1 i cl t (verM x i cl t).2.1 := by
  obtain ⟨h1, h2, _⟩ := ver_ok h.ok h0
  refine ⟨⟨h1, ?_, ?_⟩, h2⟩
  · obtain ⟨p, c, q, d, e1, e2, _, _, _, _, _, e3⟩ := h2.ex
    have hbag : d.Bag = c.Bag := by
      rcases e3 with ⟨_, rfl, _⟩ | ⟨_, rfl, _⟩
      · rfl
      · unfold failC; split <;> rfl
    have hall : ∀ e ∈ (expS x t).L, e.Bag ≤ K := by
      intro e he
      obtain ⟨c, hc, hr⟩ := (exp_stp x t).mem he
      rw [hr.bag]; exact h.few c hc
    rw [e1] at hall
    rw [e2]
    intro e he
    rcases List.mem_append.1 he with he | he
    · exact hall e (by simp [he])
    · rcases List.mem_cons.1 he with rfl | he
      · rw [hbag]; exact hall c (by simp)
      · exact hall e (by simp [he])
  · obtain ⟨p, c, q, d, e1, e2, _, _, _, _, _, e3⟩ := h2.ex
    have hs := expS_sum h.sum t
    rw [e1, lsum_app, lsum] at hs
    rw [e2, lsum_app, lsum]
    rcases e3 with ⟨_, rfl, e4⟩ | ⟨_, rfl, e4⟩
    · rw [e4]; show _ = 1 + (_ + (c.Level + _)); omega
    · have := fail_sum c (expS x t).Next t
      rw [e4]; omega

/-! what one act makes of the checks -/
structure Good (x y : Screening) (i : Int) (cl : Bool) (t : Int) : Prop where
  lms : y.Limits = x.Limits
  old : ∀ c ∈ x.L, ∃ d ∈ y.L, d.Bag = c.Bag ∧ (c.State ≠ 1 → d = c) ∧ (c.State = 1 → d.State = 2 → cl = true ∧ c.Image = i ∧ d.Image = i ∧ t ≤ c.Since + lim x.Limits c.Level)
  new : ∀ d ∈ y.L, ¬ hasC x.L d.Bag → d.State ≠ 2
theorem good_same (x : Screening) (i : Int) (cl : Bool) (t : Int) : Good x x i cl t :=
  ⟨rfl, fun c hc => ⟨c, hc, rfl, fun _ => rfl, fun h1 h2 => by omega⟩, fun d hd hn => (hn ⟨d, hd, rfl⟩).elim⟩
theorem good_start {x : Screening} {b t : Int} (i : Int) (cl : Bool) (t' : Int) : Good x (startS x b t) i cl t' :=
  ⟨rfl, fun c hc => ⟨c, mem_start.2 (.inr hc), rfl, fun _ => rfl, fun h1 h2 => by omega⟩, fun d hd hn => by
    rcases mem_start.1 hd with rfl | hd
    · show (1 : Int) ≠ 2; omega
    · exact (hn ⟨d, hd, rfl⟩).elim⟩
theorem good_exp (x : Screening) (i : Int) (cl : Bool) (t t' : Int) : Good x (expS x t) i cl t' := by
  refine ⟨rfl, fun c hc => ?_, fun d hd hn => ?_⟩
  · obtain ⟨d, hd, hr⟩ := (exp_stp x t).mem' hc
    refine ⟨d, hd, hr.bag, ?_, ?_⟩
    · intro h1
      cases hr with
      | same h e => exact e
      | rej h hv e => exact (h1 h.1).elim
      | next h hv i g1 g2 e => exact (h1 h.1).elim
    · intro h1 h2
      exfalso
      cases hr with
      | same h e => rw [e] at h2; omega
      | rej h hv e => rw [e] at h2; have : (3 : Int) = 2 := h2; omega
      | next h hv i g1 g2 e => rw [e] at h2; have : c.State = 2 := h2; omega
  · obtain ⟨c, hc, hr⟩ := (exp_stp x t).mem hd
    exact (hn ⟨c, hc, hr.bag.symm⟩).elim
theorem good_ver {x y : Screening} {i : Int} {cl : Bool} {t b : Int} (h : Ver x y i cl t b) : Good x y i cl t := by
  obtain ⟨p, c0, q, d0, e1, e2, s1, s2, s3, s4, s5, s6⟩ := h.ex
  have hbag : d0.Bag = c0.Bag := by
    rcases s6 with ⟨_, rfl, _⟩ | ⟨_, rfl, _⟩
    · rfl
    · unfold failC; split <;> rfl
  refine ⟨s5, fun c hc => ?_, fun d hd hn => ?_⟩
  · obtain ⟨e, he, hr⟩ := (exp_stp x t).mem' hc
    have hother : e ∈ y.L → ∃ d ∈ y.L, d.Bag = c.Bag ∧ (c.State ≠ 1 → d = c) ∧ (c.State = 1 → d.State = 2 → cl = true ∧ c.Image = i ∧ d.Image = i ∧ t ≤ c.Since + lim x.Limits c.Level) := by
      intro hy
      refine ⟨e, hy, hr.bag, ?_, ?_⟩
      · intro h1
        cases hr with
        | same h e => exact e
        | rej h hv e => exact (h1 h.1).elim
        | next h hv i g1 g2 e => exact (h1 h.1).elim
      · intro h1 h2
        exfalso
        cases hr with
        | same h e => rw [e] at h2; omega
        | rej h hv e => rw [e] at h2; have : (3 : Int) = 2 := h2; omega
        | next h hv i g1 g2 e => rw [e] at h2; have : c.State = 2 := h2; omega
    rw [e1] at he
    rcases List.mem_append.1 he with hp | hp
    · exact hother (by rw [e2]; simp [hp])
    · rcases List.mem_cons.1 hp with rfl | hp
      · have hce : c = e ∧ ¬ due x.Limits t c := by
          cases hr with
          | same h e' => exact ⟨e'.symm, h⟩
          | rej h hv e' => rw [e'] at s1; have : (3 : Int) = 1 := s1; omega
          | next h hv i' g1 g2 e' => rw [e'] at s2; have : i' = i := s2; omega
        obtain ⟨rfl, hnd⟩ := hce
        refine ⟨d0, by rw [e2]; simp, hbag, fun h1 => (h1 s1).elim, fun h1 h2 => ?_⟩
        rcases s6 with ⟨rfl, rfl, _⟩ | ⟨rfl, rfl, _⟩
        · refine ⟨rfl, s2, s2, ?_⟩
          have : ¬ c.Since + lim x.Limits c.Level < t := fun k => hnd ⟨h1, k⟩
          omega
        · exfalso
          revert h2
          unfold failC
          split
          · intro h2; have : (3 : Int) = 2 := h2; omega
          · intro h2; have : c.State = 2 := h2; omega
      · exact hother (by rw [e2]; simp [hp])
  · exfalso
    have : ∃ e ∈ (expS x t).L, e.Bag = d.Bag := by
      rw [e2] at hd
      rcases List.mem_append.1 hd with hd | hd
      · exact ⟨d, by rw [e1]; simp [hd], rfl⟩
      · rcases List.mem_cons.1 hd with rfl | hd
        · exact ⟨c0, by rw [e1]; simp, hbag.symm⟩
        · exact ⟨d, by rw [e1]; simp [hd], rfl⟩
    obtain ⟨e, he, hb⟩ := this
    obtain ⟨c, hc, hr⟩ := (exp_stp x t).mem he
    exact hn ⟨c, hc, by rw [← hr.bag, hb]⟩

theorem in_eq (l : List Int) (b : Int) : keep_In l b = some (decide (b ∈ l)) := by
  have key : ∀ (l : List Int) (k : Nat), keep_In_L1 b l k = some (if b ∈ l then .ret true else .brk ()) := by
    intro l
    induction l with
    | nil => intro k; rfl
    | cons e l ih =>
      intro k
      rw [keep_In_L1]
      by_cases h : e = b
      · subst h; simp
      · rw [show (e == b) = false from beq_false_of_ne h, cond_false, ih]
        have : (b ∈ e :: l) ↔ b ∈ l := by simp [Ne.symm h]
        by_cases c : b ∈ l
        · rw [if_pos c, if_pos (this.2 c)]
        · rw [if_neg c, if_neg (fun k => c (this.1 k))]
  unfold keep_In
  rw [key]
  by_cases c : b ∈ l
  · rw [if_pos c, decide_eq_true c]; rfl
  · rw [if_neg c, decide_eq_false c]; rfl
theorem mem_cl {l : List Check} {b : Int} : b ∈ clM l ↔ ∃ d ∈ l, d.State = 2 ∧ d.Bag = b := by
  unfold clM
  simp only [List.mem_map, List.mem_filter, beq_iff_eq]
  constructor
  · rintro ⟨d, ⟨h1, h2⟩, h3⟩; exact ⟨d, h1, h2, h3⟩
  · rintro ⟨d, h1, h2, h3⟩; exact ⟨d, ⟨h1, h2⟩, h3⟩
theorem uniq {x : Screening} (h : SOk x) {c d : Check} (hc : c ∈ x.L) (hd : d ∈ x.L) (e : c.Bag = d.Bag) : c = d := by
  have h1 := find_p1 h hc
  have h2 := find_p1 h hd
  rw [e, h2] at h1
  have := Option.some.inj h1
  exact (congrArg Prod.fst this).symm

theorem only_L2 (x y : Screening) (hx : SOk x) (hy : SOk y) (a : List Int) (at' image now : Int) (cl : Bool) (r : Int × Src) (hG : Good x y image cl (w64 (now + r.1))) : ∀ (n : Nat) (b : Int), 1 ≤ b → b ≤ 6 → 6 - b < n →
    okP (law15_ScreenOnlyVerdicts_L2 x.Limits.e0 x.Limits.e1 x.Limits.e2 x.Limits.e3 x.Next x.L now r (a, at', y.Limits.e0, y.Limits.e1, y.Limits.e2, y.Limits.e3, y.Next, y.L, image, cl) n b) (ctlQ (fun _ => False) (fun _ => True))
  | 0, b, _, _, h => by omega
  | n + 1, b, b1, b2, b3 => by
    rw [law15_ScreenOnlyVerdicts_L2]
    refine okP_cond (fun c5 => ?_) (fun _ => okP_some trivial)
    have c5 := of_decide_eq_true c5
    have hyl := hy.len
    have tail : ∀ v : Bool, (v = true ↔ ∃ d ∈ y.L, d.State = 2 ∧ d.Bag = b) → okP ((screen_Cleared y).bind fun r_39 =>
    (keep_In r_39 b).bind fun r_40 =>
    cond (!(r_40 == v))
    (some (Ctl.ret false))
    (law15_ScreenOnlyVerdicts_L2 x.Limits.e0 x.Limits.e1 x.Limits.e2 x.Limits.e3 x.Next x.L now r (a, at', y.Limits.e0, y.Limits.e1, y.Limits.e2, y.Limits.e3, y.Next, y.L, image, cl) n (w64 (b + (1 : Int))))) (ctlQ (fun _ => False) (fun _ => True)) := by
      intro v hv
      rw [cl_p (by omega), Option.bind_some, in_eq, Option.bind_some]
      have : decide (b ∈ clM y.L) = v := by
        rw [Bool.eq_iff_iff, decide_eq_true_eq, mem_cl, hv]
      rw [this, beq_self_eq_true, Bool.not_true, cond_false, w64_id (z := b + 1) (by omega) (by omega)]
      exact only_L2 x y hx hy a at' image now cl r hG n (b + 1) (by omega) (by omega) (by omega)
    obtain ⟨p, p1, _, p3, p4⟩ := find_both hx b
    obtain ⟨q, q1, _, q3, q4⟩ := find_both hy b
    show okP ((screen_Find x b).bind _) _
    rw [p1, Option.bind_some]
    show okP ((screen_Find y b).bind _) _
    rw [q1, Option.bind_some]
    have tQ : q.2 = true → ((q.1.State == 2) = true ↔ ∃ d ∈ y.L, d.State = 2 ∧ d.Bag = b) := by
      intro h
      obtain ⟨h1, h2⟩ := q3 h
      rw [beq_iff_eq]
      constructor
      · intro e; exact ⟨q.1, h1, e, h2⟩
      · rintro ⟨d, g1, g2, g3⟩
        rw [uniq hy h1 g1 (by omega)]; exact g2
    have tF : q.2 = false → (false = true ↔ ∃ d ∈ y.L, d.State = 2 ∧ d.Bag = b) := by
      intro h
      refine ⟨fun k => (by cases k), fun ⟨d, g1, g2, g3⟩ => ((q4 h).1 ⟨d, g1, g3⟩).elim⟩
    refine okP_cond (fun h1 => ?_) (fun h1 => ?_)
    · obtain ⟨hc, hcb⟩ := p3 h1
      obtain ⟨d, hd, k1, k2, k3⟩ := hG.old p.1 hc
      have hq : q.2 = true := by
        cases e : q.2
        · exact ((q4 e).1 ⟨d, hd, by omega⟩).elim
        · rfl
      obtain ⟨hq1, hq2⟩ := q3 hq
      have hdq : d = q.1 := uniq hy hd hq1 (by omega)
      subst hdq
      have hck := hx.chk p.1 hc
      have hlv := hck.lv
      have hsi := hck.si
      have hlims := hx.lims
      simp only [hq, Bool.not_true, cond_false, cond_true]
      refine okP_cond (fun h2 => ?_) (fun h2 => ?_)
      · have h2 : p.1.State ≠ 1 := by simpa using h2
        have e := k2 h2
        rw [e]
        simp only [beq_self_eq_true, Bool.and_true, Bool.not_true, cond_false]
        rw [← e]
        refine okP_cond (fun h3 => ?_) (fun h3 => tail _ (tQ hq))
        rw [e, show (p.1.State == 1) = false from beq_false_of_ne h2, cond_false, ← e]
        exact tail _ (tQ hq)
      · have h2 : p.1.State = 1 := by simpa using h2
        refine okP_cond (fun h3 => ?_) (fun h3 => tail _ (tQ hq))
        have h3' : q.1.State = 2 := eq_of_beq h3
        obtain ⟨g1, g2, g3, g4⟩ := k3 h2 h3'
        rw [h2, show ((1 : Int) == 1) = true from rfl, cond_true]
        subst g1

        rw [Bool.not_true, cond_false, g2, bne_self_eq_false, cond_false, g3, bne_self_eq_false, cond_false]
        rw [w64_id (z := p.1.Level - 1) (by omega) (by omega)]
        obtain ⟨l0, l1, l2, l3⟩ := hlims
        have hlm := hG.lms
        have dl : ∀ e : Int, lim x.Limits p.1.Level = e → 0 ≤ e → e ≤ 1000 → decide (w64 (p.1.Since + e) < w64 (now + r.1)) = false := by
          intro e he e0 e1
          rw [w64_id (z := p.1.Since + e) (by omega) (by omega)]
          exact decide_eq_false (by omega)
        refine okP_cond (fun h4 => ?_) (fun h4 => okP_cond (fun h5 => ?_) (fun h5 => okP_cond (fun h6 => ?_) (fun h6 => okP_cond (fun h7 => ?_) (fun h7 => ?_))))
        · have h4 : p.1.Level - 1 = 0 := eq_of_beq h4
          rw [dl y.Limits.e0 (by rw [hlm]; unfold lim; rw [if_pos (by omega)]) (by rw [hlm]; omega) (by rw [hlm]; omega), cond_false]
          exact tail _ (tQ hq)
        · have h5 : p.1.Level - 1 = 1 := eq_of_beq h5
          rw [dl y.Limits.e1 (by rw [hlm]; unfold lim; rw [if_neg (by omega), if_pos (by omega)]) (by rw [hlm]; omega) (by rw [hlm]; omega), cond_false]
          exact tail _ (tQ hq)
        · have h6 : p.1.Level - 1 = 2 := eq_of_beq h6
          rw [dl y.Limits.e2 (by rw [hlm]; unfold lim; rw [if_neg (by omega), if_neg (by omega), if_pos (by omega)]) (by rw [hlm]; omega) (by rw [hlm]; omega), cond_false]
          exact tail _ (tQ hq)
        · have h7 : p.1.Level - 1 = 3 := eq_of_beq h7
          rw [dl y.Limits.e3 (by rw [hlm]; unfold lim; rw [if_neg (by omega), if_neg (by omega), if_neg (by omega)]) (by rw [hlm]; omega) (by rw [hlm]; omega), cond_false]
          exact tail _ (tQ hq)
        · have h4 := ne_of_beq_false h4
          have h5 := ne_of_beq_false h5
          have h6 := ne_of_beq_false h6
          have h7 := ne_of_beq_false h7
          omega
    · refine okP_cond (fun h2 => okP_cond (fun h3 => ?_) (fun h3 => tail _ (tQ h2))) (fun h2 => tail _ (tF h2))
      obtain ⟨hq1, hq2⟩ := q3 h2
      have := hG.new q.1 hq1 (by rw [hq2]; exact (p4 h1).1)
      exact (this (eq_of_beq h3)).elim
theorem only_L1 : ∀ (n : Nat) (s : Src) (x : Screening) (now i : Int), SrcOk s → XOk 5 x → 0 ≤ i → i ≤ 30 → 0 ≤ now → now ≤ 3 * i → 30 - i < n →
    okP (law15_ScreenOnlyVerdicts_L1 n s.L s.At x.Limits.e0 x.Limits.e1 x.Limits.e2 x.Limits.e3 x.Next x.L now i) (ctlQ (fun _ => False) (fun _ => True))
  | 0, s, x, now, i, _, _, _, _, _, _, h => by omega
  | n + 1, s, x, now, i, hs, hx, h0, h1, hn0, hn1, h2 => by
    rw [law15_ScreenOnlyVerdicts_L1]
    refine okP_cond (fun c => ?_) (fun _ => okP_some trivial)
    have hi := of_decide_eq_true c
    refine okP_cond (fun _ => ?_) (fun _ => okP_bind (R := fun _ => True) (okP_some trivial) (fun b _ => okP_cond (fun _ => ?_) (fun _ => okP_some trivial)))
    all_goals
      refine okP_bind (N_ok s 4 hs (by decide) (by decide)) (fun r17 h17 => okP_bind (N_ok _ 4 h17.2.2 (by decide) (by decide)) (fun r18 h18 => ?_))
      obtain ⟨t, ht⟩ : ∃ t, t = now + r17.1 := ⟨_, rfl⟩
      have et : w64 (now + r17.1) = t := by rw [ht]; exact w64_id (by omega) (by omega)
      refine okP_sub (S := fun z => ∃ (s' : Src) (y : Screening) (im : Int) (cl : Bool), z = (s'.L, s'.At, y.Limits.e0, y.Limits.e1, y.Limits.e2, y.Limits.e3, y.Next, y.L, im, cl) ∧ SrcOk s' ∧ XOk 5 y ∧ Good x y im cl t) ?_ ?_
      · rw [et]
        refine okP_cond (fun _ => ?_) (fun _ => okP_cond (fun _ => ?_) (fun _ => ?_))
        · refine okP_bind (Range_ok _ 1 5 h18.2.2 (by decide) (by decide) (by decide)) (fun r19 h19 => ?_)
          show okP ((screen_Start x r19.1 t).bind _) _
          rw [start_p hx.ok, Option.bind_some]
          refine okP_cond (fun e => ?_) (fun e => ?_)
          · obtain ⟨g1, g2, g3⟩ := start_x hx h19.2.1 (eq_of_beq e)
            exact okP_some ⟨r19.2, (startM x r19.1 t).1, 0, false, rfl, h19.2.2, g1, by rw [g2]; exact good_start _ _ _⟩
          · exact okP_some ⟨r19.2, x, 0, false, rfl, h19.2.2, hx, good_same _ _ _ _⟩
        · show okP ((screen_Expire x t).bind _) _
          obtain ⟨g1, g2⟩ := exp_x (by omega) (by omega) hx (t := t) (by omega) (by omega)
          rw [exp_p hx.ok, Option.bind_some, g1, show ((0 : Int) != 0) = false from rfl, cond_false]
          exact okP_some ⟨r18.2, expS x t, 0, false, rfl, h18.2.2, g2, good_exp _ _ _ _ _⟩
        · refine okP_bind (N_ok _ 12 h18.2.2 (by decide) (by decide)) (fun r22 h22 => okP_bind (N_ok _ 2 h22.2.2 (by decide) (by decide)) (fun r23 h23 => ?_))
          show okP ((screen_Verdict x r22.1 _ t).bind _) _
          rw [ver_p hx.ok, Option.bind_some]
          refine okP_cond (fun e => ?_) (fun e => ?_)
          · obtain ⟨g1, g2⟩ := ver_x hx (eq_of_beq e)
            exact okP_some ⟨r23.2, (verM x r22.1 (r23.1 == 0) t).1, r22.1, (r23.1 == 0), rfl, h23.2.2, g1, good_ver g2⟩
          · exact okP_some ⟨r23.2, x, r22.1, (r23.1 == 0), rfl, h23.2.2, hx, good_same _ _ _ _⟩
      · rintro z ⟨s', y, im, cl, rfl, hs', hy, hG⟩
        refine okP_sub (only_L2 x y hx.ok hy.ok _ _ im now cl r17 (by rw [et]; exact hG) 9223372036854775807 1 (by omega) (by omega) (by omega)) (fun _ _ => ?_)
        dsimp only
        rw [et, w64_id (z := i + 1) (by omega) (by omega)]
        exact only_L1 n s' y t (i + 1) hs' hy (by omega) (by omega) (by omega) (by omega) (by omega)
theorem only_ok (l : List Int) : law15_ScreenOnlyVerdicts l = some true := by
  refine okP_eq ?_
  unfold law15_ScreenOnlyVerdicts
  rw [awake15]
  refine okP_bind (New_ok l) fun r1 h1 => okP_bind (N_ok r1 5 h1 (by decide) (by decide)) fun r2 h2 => okP_bind (N_ok _ 5 h2.2.2 (by decide) (by decide)) fun r3 h3 => okP_bind (N_ok _ 5 h3.2.2 (by decide) (by decide)) fun r4 h4 => okP_bind (N_ok _ 5 h4.2.2 (by decide) (by decide)) fun r5 h5 => ?_
  have hl : LOk ⟨r2.1, r3.1, r4.1, r5.1⟩ := ⟨by show 0 ≤ r2.1 ∧ r2.1 ≤ 1000; omega, by show 0 ≤ r3.1 ∧ r3.1 ≤ 1000; omega, by show 0 ≤ r4.1 ∧ r4.1 ≤ 1000; omega, by show 0 ≤ r5.1 ∧ r5.1 ≤ 1000; omega⟩
  rw [new_eq hl, Option.bind_some, show ((0 : Int) != 0) = false from rfl, cond_false]
  refine okP_finB (only_L1 9223372036854775807 r5.2 ⟨⟨r2.1, r3.1, r4.1, r5.1⟩, 1, []⟩ 0 0 h5.2.2 ⟨new_ok hl, by simp, by simp [lsum]⟩ (by omega) (by omega) (by omega) (by omega) (by omega)) fun _ _ => okP_some rfl
end Go.Proofs.Ytidhgcgbdjjdlaa.Ex.Sc
