/- RegistryApplies and RegistryFinds: the plain laws. -/
import Derived.Test.YtkliakcegihikaaRg4
import Derived.Test.YtkliakcegihikaaDec
namespace Go.Proofs.Ytkliakcegihikaa.Ex
open Go.RowKit Go.Proofs.Ytkliakcegihikaa.Ax
set_option linter.unusedVariables false
set_option linter.unusedSimpArgs false

theorem light_L : ∀ (l : List Bag) (k : Nat), (law06_light_L1 l k = some (Ctl.brk ()) ∧ ∀ b ∈ l, b.Onward.length ≤ 20) ∨ law06_light_L1 l k = some (Ctl.ret false)
  | [], k => .inl ⟨rfl, fun b hb => by cases hb⟩
  | b :: l, k => by
    rw [law06_light_L1]
    by_cases h : (20 : Int) < b.Onward.length
    · rw [decide_eq_true h]; exact .inr rfl
    · rw [decide_eq_false h, cond_false]
      rcases light_L l (k + 1) with ⟨h1, h2⟩ | h1
      · refine .inl ⟨h1, fun c hc => ?_⟩
        rcases List.mem_cons.1 hc with rfl | hc
        · omega
        · exact h2 c hc
      · exact .inr h1
theorem light_v (x : Registry) : ∃ b, law06_light x = some b ∧ (b = true → onwOk x.L ∧ x.L.length ≤ 220) := by
  unfold law06_light
  rcases light_L x.L 0 with ⟨h1, h2⟩ | h1
  · rw [fin_brkE h1]
    refine ⟨_, rfl, fun h => ⟨fun b hb => Nat.le_trans (h2 b hb) (by decide), ?_⟩⟩
    have := of_decide_eq_true h
    omega
  · rw [fin_retE h1]
    exact ⟨false, rfl, fun h => by cases h⟩
theorem appl_L1 : ∀ (n : Nat) (s : Src) (l : List Bag) (i : Int), SrcOk s → RegOk l → onwOk l → 0 ≤ i → i ≤ 20 → 20 - i < n → okP (law06_RegistryApplies_L1 n s.L s.At l i) (ctlQ (fun _ => False) (fun z => SrcOk ⟨z.1, z.2.1⟩ ∧ RegOk z.2.2 ∧ onwOk z.2.2))
  | 0, s, l, i, hs, hr, hw, h0, h1, h2 => by omega
  | n + 1, s, l, i, hs, hr, hw, h0, h1, h2 => by
    rw [law06_RegistryApplies_L1]
    refine okP_cond (fun hi => ?_) (fun _ => okP_some ⟨hs, hr, hw⟩)
    have hi := of_decide_eq_true hi
    have body : okP ((keep_Src_Message s (0 : Int)).bind fun r_10 =>
        (registry_Apply (⟨l⟩ : Registry) r_10.1).bind fun r_11 =>
        (ref06_Apply (⟨l⟩ : Registry) r_10.1).bind fun r_12 =>
        cond (r_11.2 != r_12.2)
        (some (Ctl.ret false))
        ((ref06_Same r_11.1 r_12.1).bind fun r_13 =>
        cond (!r_13)
        (some (Ctl.ret false))
        ((registry_Validate (⟨l⟩ : Registry)).bind fun r_14 =>
        cond (r_14 != (0 : Int))
        (some (Ctl.ret false))
        (cond (r_12.2 == (0 : Int))
        (law06_RegistryApplies_L1 n r_10.2.L r_10.2.At r_11.1.L (w64 (i + (1 : Int))))
        (law06_RegistryApplies_L1 n r_10.2.L r_10.2.At l (w64 (i + (1 : Int)))))))) (ctlQ (fun _ => False) (fun z => SrcOk ⟨z.1, z.2.1⟩ ∧ RegOk z.2.2 ∧ onwOk z.2.2)) := by
      refine okP_bind (message_t s hs) (fun r ⟨r1, r2⟩ => ?_)
      obtain ⟨a, ha1, ha2, _, hz⟩ := apply_eq l r.1 r2.ok hw
      rw [ha1, ha2, Option.bind_some, Option.bind_some, bne_self_eq_false, cond_false, regSelf, Option.bind_some, Bool.not_true, cond_false, regValidate_eq, Option.bind_some]
      simp only
      rw [vReg_zero.2 hr, show ((0 : Int) != 0) = false from rfl, cond_false, w64_id (z := i + 1) (by omega) (by omega)]
      refine okP_cond (fun h => ?_) (fun _ => appl_L1 n r.2 l (i + 1) r1 hr hw (by omega) (by omega) (by omega))
      obtain ⟨_, _, h3, h4, _⟩ := hz (by simpa using h)
      exact appl_L1 n r.2 a.1.L (i + 1) r1 h3 h4 (by omega) (by omega) (by omega)
    refine okP_cond (fun _ => body) (fun _ => ?_)
    have hm : okP (keep_Src_More s) (fun _ => True) := okP_some trivial
    exact okP_bind hm (fun b _ => okP_cond (fun _ => body) (fun _ => okP_some ⟨hs, hr, hw⟩))
theorem appl_L2 (x : Registry) (z : List Int × Int × List Bag) (hx : onwOk x.L) (hz : onwOk z.2.2) : ∀ (ms : List Message) (k : Nat), (∀ m ∈ ms, MsgOk m) → law06_RegistryApplies_L2 x z ms k = some (Ctl.brk ())
  | [], k, _ => rfl
  | m :: ms, k, h => by
    obtain ⟨a, a1, a2, _⟩ := apply_eq x.L m (h m (List.mem_cons_self ..)) hx
    obtain ⟨b, b1, b2, _⟩ := apply_eq z.2.2 m (h m (List.mem_cons_self ..)) hz
    have a1' : registry_Apply x m = some a := a1
    have a2' : ref06_Apply x m = some a := a2
    rw [law06_RegistryApplies_L2, a1', a2', Option.bind_some, Option.bind_some, b1, b2, Option.bind_some, Option.bind_some, bne_self_eq_false, cond_false, bne_self_eq_false, cond_false, regSelf, Option.bind_some, Bool.not_true, cond_false, regSelf, Option.bind_some, Bool.not_true, cond_false]
    exact appl_L2 x z hx hz ms (k + 1) (fun y hy => h y (List.mem_cons_of_mem _ hy))
theorem applies_ok (l : List Int) (x1 : Registry) (x2 : Message) (q1 : Q_Registry x1) (q2 : Q_Message x2) : law06_RegistryApplies l x1 x2 = some true := by
  have hm : MsgOk x2 := by
    obtain ⟨h1, h2⟩ := q2
    unfold maxLen at h1 h2
    exact ⟨by omega, by omega⟩
  unfold law06_RegistryApplies
  rw [awake06]
  simp only [Option.bind_some]
  obtain ⟨b, hb, hl⟩ := light_v x1
  rw [hb, Option.bind_some]
  cases b
  · rfl
  obtain ⟨hw, _⟩ := hl rfl
  rw [Bool.not_true, cond_false]
  by_cases h3 : (20 : Int) < x2.Onward.length
  · rw [decide_eq_true h3]; rfl
  rw [decide_eq_false h3, cond_false]
  by_cases h4 : (100 : Int) < x2.List.length
  · rw [decide_eq_true h4]; rfl
  rw [decide_eq_false h4, cond_false]
  obtain ⟨s, hs, s1⟩ := New_ok l
  rw [hs, Option.bind_some]
  refine okP_eq (okP_finB (appl_L1 9223372036854775807 s [] 0 s1 regOk_nil (fun b hb => by cases hb) (by decide) (by decide) (by decide)) (fun z ⟨z1, z2, z3⟩ => ?_))
  refine okP_bind (message_t ⟨z.1, z.2.1⟩ z1) (fun r ⟨_, r2⟩ => ?_)
  have hL := appl_L2 x1 z hw z3 [x2, r.1] 0 (fun m hm' => by
    simp only [List.mem_cons, List.not_mem_nil, or_false] at hm'
    rcases hm' with rfl | rfl
    · exact hm
    · exact r2.ok)
  rw [fin_brkE hL, regValidate_eq, Option.bind_some, refValidate_eq, Option.bind_some, beq_self_eq_true, cond_true]
  exact okP_some rfl

theorem findBoth (e : Registry) (p : Plate) (h : onwOk e.L) : ∃ r, registry_Find e p = some r ∧ ref06_Find e p = some r := by
  by_cases hv : vReg e.L = 0
  · have hr := vReg_zero.1 hv
    exact ⟨_, find_eq e.L p hr h, refFind_eq e.L p hr⟩
  · unfold registry_Find ref06_Find
    rw [regValidate_eq, refValidate_eq, index_eq, Option.bind_some, Option.bind_some, Option.bind_some, show (vReg e.L != 0) = true by simpa using hv, cond_true, cond_true]
    exact ⟨_, rfl, rfl⟩
theorem finds_L2 (e : Registry) (h : onwOk e.L) : ∀ (ps : List Plate) (k : Nat), law06_RegistryFinds_L2 e ps k = some (Ctl.brk ())
  | [], k => rfl
  | p :: ps, k => by
    obtain ⟨r, h1, h2⟩ := findBoth e p h
    rw [law06_RegistryFinds_L2, h1, h2, Option.bind_some, Option.bind_some, beq_self_eq_true, Bool.not_true, cond_false, samebag_self, Option.bind_some, Bool.not_true, cond_false]
    exact finds_L2 e h ps (k + 1)
theorem refOfF_L (x : Registry) (f : Flight) (h : vReg x.L = 0) : ∀ (l : List Bag) (k : Nat) (acc : List Plate), acc.length + l.length ≤ 1000000 → ref06_OfFlight_L1 x f l k acc = some (Ctl.brk (acc ++ (l.filter (fun b => decide (b.Out.Flight = f))).map (·.Plate)))
  | [], k, acc, _ => by simp [ref06_OfFlight_L1]
  | b :: l, k, acc, hl => by
    rw [List.length_cons] at hl
    rw [ref06_OfFlight_L1, refValidate_eq, Option.bind_some, h, show ((0 : Int) == 0) = true from rfl, cond_true, flight_beq]
    by_cases hb : b.Out.Flight = f
    · rw [decide_eq_true hb, cond_true, apL_eq (by simp; omega), Option.bind_some, refOfF_L x f h l (k + 1) _ (by simp; omega), List.filter_cons_of_pos (by simpa using hb)]
      simp
    · rw [decide_eq_false hb, cond_false, refOfF_L x f h l (k + 1) _ (by omega), List.filter_cons_of_neg (by simpa using hb)]
theorem refOfP_L (x : Registry) (f : Flight) (s : Int) (h : vReg x.L = 0) : ∀ (l : List Bag) (k : Nat) (acc : List Plate), acc.length + l.length ≤ 1000000 → ref06_OfPassenger_L1 x f s l k acc = some (Ctl.brk (acc ++ (l.filter (fun b => decide (b.Out.Flight = f ∧ b.Sequence = s))).map (·.Plate)))
  | [], k, acc, _ => by simp [ref06_OfPassenger_L1]
  | b :: l, k, acc, hl => by
    rw [List.length_cons] at hl
    rw [ref06_OfPassenger_L1, refValidate_eq, Option.bind_some, h, show ((0 : Int) == 0) = true from rfl, cond_true, flight_beq]
    by_cases hb : b.Out.Flight = f
    · rw [decide_eq_true hb, cond_true]
      by_cases hs : b.Sequence = s
      · rw [show (b.Sequence == s) = true by simp [hs], cond_true, apL_eq (by simp; omega), Option.bind_some, refOfP_L x f s h l (k + 1) _ (by simp; omega), List.filter_cons_of_pos (by simp [hb, hs])]
        simp
      · rw [show (b.Sequence == s) = false by simp [hs], cond_false, refOfP_L x f s h l (k + 1) _ (by omega), List.filter_cons_of_neg (by simp [hs])]
    · rw [decide_eq_false hb, cond_false, refOfP_L x f s h l (k + 1) _ (by omega), List.filter_cons_of_neg (by simp [hb])]
theorem ofFBoth (e : Registry) (f : Flight) : ∃ r, registry_OfFlight e f = some r ∧ ref06_OfFlight e f = some r := by
  by_cases hv : vReg e.L = 0
  · have hr := vReg_zero.1 hv
    refine ⟨_, ofFlight_eq e.L f hr, ?_⟩
    unfold ref06_OfFlight
    rw [fin_brkE (refOfF_L e f hv e.L 0 [] (by have := hr.len; simp; omega)), List.nil_append]
  · have h1 : registry_OfFlight e f = some [] := by
      unfold registry_OfFlight registry_chosen
      rw [regValidate_eq, Option.bind_some, show (vReg e.L != 0) = true by simpa using hv, cond_true, Option.bind_some]
    have h2 : ref06_OfFlight_L1 e f e.L 0 [] = some (Ctl.brk []) := by
      cases he : e.L with
      | nil => rfl
      | cons b l => rw [ref06_OfFlight_L1, refValidate_eq, Option.bind_some, show (vReg e.L == 0) = false by simpa using hv, cond_false]
    refine ⟨[], h1, ?_⟩
    unfold ref06_OfFlight
    rw [fin_brkE h2]
theorem ofPBoth (e : Registry) (f : Flight) (s : Int) : ∃ r, registry_OfPassenger e f s = some r ∧ ref06_OfPassenger e f s = some r := by
  by_cases hv : vReg e.L = 0
  · have hr := vReg_zero.1 hv
    refine ⟨_, ofPass_eq e.L f s hr, ?_⟩
    unfold ref06_OfPassenger
    rw [fin_brkE (refOfP_L e f s hv e.L 0 [] (by have := hr.len; simp; omega)), List.nil_append]
  · have h1 : registry_OfPassenger e f s = some [] := by
      unfold registry_OfPassenger registry_chosen_v2
      rw [regValidate_eq, Option.bind_some, show (vReg e.L != 0) = true by simpa using hv, cond_true, Option.bind_some]
    have h2 : ref06_OfPassenger_L1 e f s e.L 0 [] = some (Ctl.brk []) := by
      cases he : e.L with
      | nil => rfl
      | cons b l => rw [ref06_OfPassenger_L1, refValidate_eq, Option.bind_some, show (vReg e.L == 0) = false by simpa using hv, cond_false]
    refine ⟨[], h1, ?_⟩
    unfold ref06_OfPassenger
    rw [fin_brkE h2]
theorem platesSelf_L (y : List Plate) : ∀ (l : List Plate) (k : Nat), y.drop k = l → ref06_SamePlates_L1 y l k = some (Ctl.brk ())
  | [], k, h => rfl
  | x :: l, k, h => by
    have hx : y[k]? = some x := by rw [← List.head?_drop, h]; rfl
    rw [ref06_SamePlates_L1, ixL_at' k rfl hx, Option.bind_some, plate_beq, decide_eq_true rfl, Bool.not_true, cond_false]
    exact platesSelf_L y l (k + 1) (by rw [← List.drop_drop, h]; rfl)
theorem platesSelf (y : List Plate) : ref06_SamePlates y y = some true := by
  unfold ref06_SamePlates
  rw [bne_self_eq_false, cond_false, fin_brkE (platesSelf_L y y 0 rfl)]
theorem finds_L3 (x4 : Int) (e : Registry) : ∀ (fs : List Flight) (k : Nat) (s : Src), SrcOk s → okP (law06_RegistryFinds_L3 x4 e fs k s.L s.At) (ctlQ (fun _ => False) (fun z => SrcOk ⟨z.1, z.2⟩))
  | [], k, s, hs => okP_some hs
  | f :: fs, k, s, hs => by
    rw [law06_RegistryFinds_L3]
    refine okP_bind (Range_ok s 1 4 hs (by decide) (by decide) (by decide)) (fun r ⟨_, _, r3⟩ => ?_)
    obtain ⟨a, a1, a2⟩ := ofFBoth e f
    obtain ⟨b, b1, b2⟩ := ofPBoth e f r.1
    obtain ⟨c, c1, c2⟩ := ofPBoth e f x4
    rw [a1, a2, Option.bind_some, Option.bind_some, platesSelf, Option.bind_some, Bool.not_true, cond_false, b1, b2, Option.bind_some, Option.bind_some, platesSelf, Option.bind_some, Bool.not_true, cond_false, c1, c2, Option.bind_some, Option.bind_some, platesSelf, Option.bind_some, Bool.not_true, cond_false]
    exact finds_L3 x4 e fs (k + 1) r.2 r3
theorem finds_L1 (x2 : Plate) (x3 : Flight) (x4 : Int) : ∀ (rs : List Registry) (k : Nat) (s : Src), SrcOk s → (∀ e ∈ rs, onwOk e.L) → okP (law06_RegistryFinds_L1 x2 x3 x4 rs k s.L s.At) (ctlQ (fun _ => False) (fun _ => True))
  | [], k, s, hs, _ => okP_some trivial
  | e :: rs, k, s, hs, h => by
    rw [law06_RegistryFinds_L1]
    refine okP_bind (anyPlate_t s hs) (fun r hr => okP_bind (anyPlate_t r.2 hr) (fun r2 hr2 => ?_))
    rw [sub_brkE (finds_L2 e (h e (List.mem_cons_self ..)) _ 0)]
    refine okP_bind (anyFlight_t _ hr2) (fun r3 hr3 => okP_bind (anyFlight_t _ hr3) (fun r4 hr4 => ?_))
    refine okP_sub (finds_L3 x4 e _ 0 r4.2 hr4) (fun z hz => ?_)
    exact finds_L1 x2 x3 x4 rs (k + 1) ⟨z.1, z.2⟩ hz (fun y hy => h y (List.mem_cons_of_mem _ hy))
theorem finds_ok (l : List Int) (x1 : Registry) (x2 : Plate) (x3 : Flight) (x4 : Int) (q1 : Q_Registry x1) (q2 : Q_Plate x2) (q3 : Q_Flight x3) : law06_RegistryFinds l x1 x2 x3 x4 = some true := by
  unfold law06_RegistryFinds
  rw [awake06]
  simp only [Option.bind_some]
  obtain ⟨b, hb, hl⟩ := light_v x1
  rw [hb, Option.bind_some]
  cases b
  · rfl
  obtain ⟨hw, _⟩ := hl rfl
  rw [Bool.not_true, cond_false]
  obtain ⟨s, hs, s1⟩ := New_ok l
  obtain ⟨r, hr, r1, r2, r3⟩ := built2_t s 20 s1 (by decide)
  rw [hs, Option.bind_some, hr, Option.bind_some]
  refine okP_eq (okP_finB (finds_L1 x2 x3 x4 [r.1, x1] 0 r.2 r1 (fun e he => ?_)) (fun z _ => okP_some rfl))
  simp only [List.mem_cons, List.not_mem_nil, or_false] at he
  rcases he with rfl | rfl
  · exact r3
  · exact hw
end Go.Proofs.Ytkliakcegihikaa.Ex
