/- Chapter 15: the law ScreenImages. Plain. -/
import Derived.Test.YtidhgcgbdjjdlaaSc6
namespace Go.Proofs.Ytidhgcgbdjjdlaa.Ex.Sc
open Go.RowKit Go.Proofs.Ytidhgcgbdjjdlaa.Ax
set_option linter.unusedVariables false
set_option linter.unusedSimpArgs false

theorem gd {i : Int} (n : Nat) (h0 : 0 ≤ i) (h1 : i < n) : gdA n i = some () := if_pos ⟨h0, h1⟩
theorem im_L3 (nx : Int) : ∀ (r : List Check) (k : Nat) (o : List A2_Int), o.length = 80 → (∀ d ∈ r, 1 ≤ d.Image ∧ d.Image < nx ∧ d.Image < 80) → r.Pairwise (fun a b => a.Image ≠ b.Image) →
    (∀ d ∈ r, o[d.Image.toNat]? = some ⟨0, 0⟩ ∨ o[d.Image.toNat]? = some ⟨d.Bag, d.Level⟩) →
    okP (law15_ScreenImages_L3 nx r k o) (ctlQ (fun _ => False) (fun o' => o'.length = 80 ∧ (∀ d ∈ r, o'[d.Image.toNat]? = some ⟨d.Bag, d.Level⟩) ∧ ∀ m : Nat, (∀ d ∈ r, d.Image ≠ m) → o'[m]? = o[m]?))
  | [], k, o, h0, _, _, _ => okP_some ⟨h0, by simp, fun _ _ => rfl⟩
  | c :: r, k, o, h0, h1, h2, h3 => by
    have hc := h1 c (by simp)
    rw [List.pairwise_cons] at h2
    rw [law15_ScreenImages_L3, decide_eq_false (by omega), cond_false, decide_eq_false (by omega), cond_false, decide_eq_false (by omega), cond_false]
    have hv := h3 c (by simp)
    have hlt : c.Image.toNat < o.length := by omega
    have hset : ∀ m : Nat, m ≠ c.Image.toNat → (o.set c.Image.toNat ⟨c.Bag, c.Level⟩)[m]? = o[m]? := fun m hm => List.getElem?_set_ne (Ne.symm hm)
    have go : okP (law15_ScreenImages_L3 nx r (k + 1) (o.set c.Image.toNat ⟨c.Bag, c.Level⟩)) (ctlQ (fun _ => False) (fun o' => o'.length = 80 ∧ (∀ d ∈ c :: r, o'[d.Image.toNat]? = some ⟨d.Bag, d.Level⟩) ∧ ∀ m : Nat, (∀ d ∈ c :: r, d.Image ≠ m) → o'[m]? = o[m]?)) := by
      refine okP_mono (im_L3 nx r (k + 1) _ (by rw [List.length_set]; exact h0) (fun d hd => h1 d (by simp [hd])) h2.2 (fun d hd => ?_)) ?_
      · have := h2.1 d hd
        have := h1 d (by simp [hd])
        rw [hset _ (by omega)]
        exact h3 d (by simp [hd])
      · intro z hz
        cases z with
        | ret r => exact hz.elim
        | brk o' =>
          obtain ⟨g1, g2, g3⟩ := hz
          refine ⟨g1, fun d hd => ?_, fun m hm => ?_⟩
          · rcases List.mem_cons.1 hd with rfl | hd
            · rw [g3 _ (fun e he => by have := h2.1 e he; have := h1 e (by simp [he]); omega), List.getElem?_set_self hlt]
            · exact g2 d hd
          · rw [g3 m (fun d hd => hm d (by simp [hd])), hset m (fun e => hm c (by simp) (by omega))]
    have hg : gdA 80 c.Image = some () := gd 80 (by omega) (by omega)
    rw [hg, Option.bind_some]
    rcases hv with hv | hv
    · rw [ixL_at' c.Image.toNat (by omega) hv, Option.bind_some]
      exact go
    · rw [ixL_at' c.Image.toNat (by omega) hv, Option.bind_some]
      refine okP_cond (fun _ => ?_) (fun _ => go)
      simp only [Option.bind_some, beq_self_eq_true, Bool.and_true, Bool.not_true, cond_false]
      exact go
theorem im_L2 (q : Screening × Int) : ∀ (r : List Check) (k : Nat) (o : List A2_Int), law15_ScreenImages_L2 q r k o = law15_ScreenImages_L3 q.1.Next r k o
  | [], k, o => rfl
  | c :: r, k, o => by
    rw [law15_ScreenImages_L2, law15_ScreenImages_L3]
    simp only [im_L2 q r]
theorem im_L6 (q : Screening × Int × Int) : ∀ (r : List Check) (k : Nat) (o : List A2_Int), law15_ScreenImages_L6 q r k o = law15_ScreenImages_L3 q.1.Next r k o
  | [], k, o => rfl
  | c :: r, k, o => by
    rw [law15_ScreenImages_L6, law15_ScreenImages_L3]
    simp only [im_L6 q r]

def was (x : Screening) (d : Check) : Prop := (∃ c ∈ x.L, c.Bag = d.Bag ∧ c.Level = d.Level ∧ c.Image = d.Image) ∨ x.Next ≤ d.Image
structure Keep (x y : Screening) : Prop where
  nx : x.Next ≤ y.Next
  was : ∀ d ∈ y.L, was x d
theorem keep_same (x : Screening) : Keep x x := ⟨Int.le_refl _, fun d hd => .inl ⟨d, hd, rfl, rfl, rfl⟩⟩
theorem keep_start (x : Screening) (b t : Int) : Keep x (startS x b t) := ⟨by show x.Next ≤ x.Next + 1; omega, fun d hd => by
  rcases mem_start.1 hd with rfl | hd
  · exact .inr (Int.le_refl _)
  · exact .inl ⟨d, hd, rfl, rfl, rfl⟩⟩
theorem keep_exp {x : Screening} (h : SOk x) (t : Int) : Keep x (expS x t) := ⟨(exp_next h t).1, fun d hd => by
  obtain ⟨c, hc, hr⟩ := (exp_stp x t).mem hd
  cases hr with
  | same h e => exact .inl ⟨c, hc, by rw [e], by rw [e], by rw [e]⟩
  | rej h hv e => exact .inl ⟨c, hc, by rw [e], by rw [e], by rw [e]⟩
  | next h hv i g1 g2 e => exact .inr (by rw [e]; exact g1)⟩
theorem keep_ver {x y : Screening} (hx : SOk x) {i : Int} {cl : Bool} {t b : Int} (h : Ver x y i cl t b) : Keep x y := by
  obtain ⟨p, c0, q, d0, e1, e2, s1, s2, s3, s4, s5, s6⟩ := h.ex
  have hk := keep_exp hx t
  have h0 : was x c0 := hk.was c0 (by rw [e1]; simp)
  refine ⟨?_, fun d hd => ?_⟩
  · have := hk.nx
    have := fail_n c0 (expS x t).Next t
    rcases s6 with ⟨_, _, e⟩ | ⟨_, _, e⟩ <;> omega
  · rw [e2] at hd
    rcases List.mem_append.1 hd with hd | hd
    · exact hk.was d (by rw [e1]; simp [hd])
    · rcases List.mem_cons.1 hd with rfl | hd
      · rcases s6 with ⟨_, rfl, _⟩ | ⟨_, rfl, _⟩
        · exact h0
        · unfold failC
          split
          · exact h0
          · exact .inr hk.nx
      · exact hk.was d (by rw [e1]; simp [hd])
structure Own (o : List A2_Int) (x : Screening) : Prop where
  len : o.length = 80
  free : ∀ m : Nat, x.Next ≤ m → m < 80 → o[m]? = some ⟨0, 0⟩
  chk : ∀ c ∈ x.L, o[c.Image.toNat]? = some ⟨c.Bag, c.Level⟩
theorem own_step {o : List A2_Int} {x y : Screening} (hO : Own o x) (hx : SOk x) (hy : XOk 6 y) (hk : Keep x y) (k : Nat) : okP (law15_ScreenImages_L3 y.Next y.L k o) (ctlQ (fun _ => False) (fun o' => Own o' y)) := by
  have hs := hy.small (by omega)
  refine okP_mono (im_L3 y.Next y.L k o hO.len (fun d hd => ?_) hy.ok.dif (fun d hd => ?_)) ?_
  · have := hy.ok.img d hd; omega
  · have hi := hy.ok.img d hd
    rcases hk.was d hd with ⟨c, hc, g1, g2, g3⟩ | g
    · right
      rw [← g3, ← g1, ← g2]; exact hO.chk c hc
    · left
      exact hO.free _ (by omega) (by omega)
  · intro z hz
    cases z with
    | ret r => exact hz.elim
    | brk o' =>
      obtain ⟨g1, g2, g3⟩ := hz
      refine ⟨g1, fun m hm h80 => ?_, g2⟩
      rw [g3 m (fun d hd => by have := hy.ok.img d hd; omega)]
      have := hk.nx
      exact hO.free m (by omega) h80
theorem img_L1 : ∀ (n : Nat) (s : Src) (x : Screening) (o : List A2_Int) (now i : Int), SrcOk s → XOk 6 x → Own o x → 0 ≤ i → i ≤ 30 → 0 ≤ now → now ≤ 2 * i → 30 - i < n →
    okP (law15_ScreenImages_L1 n s.L s.At x.Limits.e0 x.Limits.e1 x.Limits.e2 x.Limits.e3 x.Next x.L o now i) (ctlQ (fun _ => False) (fun _ => True))
  | 0, s, x, o, now, i, _, _, _, _, _, _, _, h => by omega
  | n + 1, s, x, o, now, i, hs, hx, hO, h0, h1, hn0, hn1, h2 => by
    rw [law15_ScreenImages_L1]
    refine okP_cond (fun c => ?_) (fun _ => okP_some trivial)
    have hi := of_decide_eq_true c
    refine okP_cond (fun _ => ?_) (fun _ => okP_bind (R := fun _ => True) (okP_some trivial) (fun b _ => okP_cond (fun _ => ?_) (fun _ => okP_some trivial)))
    all_goals
      refine okP_bind (N_ok s 3 hs (by decide) (by decide)) (fun r15 h15 => okP_bind (N_ok _ 3 h15.2.2 (by decide) (by decide)) (fun r16 h16 => ?_))
      obtain ⟨t, ht⟩ : ∃ t, t = now + r15.1 := ⟨_, rfl⟩
      have et : w64 (now + r15.1) = t := by rw [ht]; exact w64_id (by omega) (by omega)
      have ei : w64 (i + 1) = i + 1 := w64_id (by omega) (by omega)
      rw [et, ei]
      have fin : ∀ (s' : Src) (y : Screening) (o' : List A2_Int), SrcOk s' → XOk 6 y → Own o' y → okP (law15_ScreenImages_L1 n s'.L s'.At y.Limits.e0 y.Limits.e1 y.Limits.e2 y.Limits.e3 y.Next y.L o' t (i + 1)) (ctlQ (fun _ => False) (fun _ => True)) :=
        fun s' y o' hs' hy hO' => img_L1 n s' y o' t (i + 1) hs' hy hO' (by omega) (by omega) (by omega) (by omega) (by omega)
      refine okP_cond (fun _ => ?_) (fun _ => okP_cond (fun _ => ?_) (fun _ => ?_))
      · refine okP_bind (Range_ok _ 1 6 h16.2.2 (by decide) (by decide) (by decide)) (fun r17 h17 => ?_)
        show okP ((screen_Start x r17.1 t).bind _) _
        rw [start_p hx.ok, Option.bind_some]
        refine okP_cond (fun e => ?_) (fun e => ?_)
        · obtain ⟨g1, g2, g3⟩ := start_x hx h17.2.1 (eq_of_beq e)
          rw [im_L2]
          exact okP_sub (own_step hO hx.ok g1 (by rw [g2]; exact keep_start _ _ _) 0) (fun o' hO' => fin r17.2 _ o' h17.2.2 g1 hO')
        · exact okP_sub (own_step hO hx.ok hx (keep_same x) 0) (fun o' hO' => fin r17.2 x o' h17.2.2 hx hO')
      · show okP ((screen_Expire x t).bind _) _
        obtain ⟨g1, g2⟩ := exp_x (by omega) (by omega) hx (t := t) (by omega) (by omega)
        rw [exp_p hx.ok, Option.bind_some, g1, show ((0 : Int) == 0) = true from rfl, cond_true, im_L2]
        exact okP_sub (own_step hO hx.ok g2 (keep_exp hx.ok t) 0) (fun o' hO' => fin r16.2 _ o' h16.2.2 g2 hO')
      · refine okP_bind (Range_ok _ 1 20 h16.2.2 (by decide) (by decide) (by decide)) (fun r76 h76 => okP_bind (N_ok _ 3 h76.2.2 (by decide) (by decide)) (fun r77 h77 => ?_))
        show okP ((screen_Verdict x r76.1 _ t).bind _) _
        rw [ver_p hx.ok, Option.bind_some]
        refine okP_cond (fun e => ?_) (fun e => ?_)
        · obtain ⟨g1, g2⟩ := ver_x hx (eq_of_beq e)
          rw [im_L6]
          exact okP_sub (own_step hO hx.ok g1 (keep_ver hx.ok g2) 0) (fun o' hO' => fin r77.2 _ o' h77.2.2 g1 hO')
        · exact okP_sub (own_step hO hx.ok hx (keep_same x) 0) (fun o' hO' => fin r77.2 x o' h77.2.2 hx hO')
theorem images_ok (l : List Int) : law15_ScreenImages l = some true := by
  refine okP_eq ?_
  unfold law15_ScreenImages
  rw [awake15]
  have hl : LOk ⟨1, 1, 1, 1⟩ := ⟨by show (0 : Int) ≤ 1 ∧ (1 : Int) ≤ 1000; omega, by show (0 : Int) ≤ 1 ∧ (1 : Int) ≤ 1000; omega, by show (0 : Int) ≤ 1 ∧ (1 : Int) ≤ 1000; omega, by show (0 : Int) ≤ 1 ∧ (1 : Int) ≤ 1000; omega⟩
  refine okP_bind (New_ok l) fun r1 h1 => ?_
  rw [new_eq hl, Option.bind_some, show ((0 : Int) != 0) = false from rfl, cond_false]
  have hO : Own (List.replicate 80 (⟨0, 0⟩ : A2_Int)) ⟨⟨1, 1, 1, 1⟩, 1, []⟩ := ⟨List.length_replicate, fun m _ h => by rw [List.getElem?_replicate, if_pos h], by simp⟩
  refine okP_bindE (x := List.replicate 80 (⟨0, 0⟩ : A2_Int)) rfl ?_
  refine okP_finB (img_L1 9223372036854775807 r1 ⟨⟨1, 1, 1, 1⟩, 1, []⟩ _ 0 0 h1 ⟨new_ok hl, by simp, by simp [lsum]⟩ hO (by omega) (by omega) (by omega) (by omega) (by omega)) fun _ _ => okP_some rfl
end Go.Proofs.Ytidhgcgbdjjdlaa.Ex.Sc
