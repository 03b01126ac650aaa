/- Chapter 24: Decide of program and reference agree; the law ConnectDecides. Plain. -/
import Derived.Test.YtkajegjghfbgaaaCn4
namespace Go.Proofs.Ytkajegjghfbgaaa.Ex.Cn
open Go.RowKit Go.Proofs.Ytkajegjghfbgaaa.Ax Go.Maps
set_option linter.unusedVariables false
set_option linter.unusedSimpArgs false

instance (r : HoldRule) : Decidable (rV r) := inferInstanceAs (Decidable (_ ∨ _ ∨ _))
theorem beq_dec (a b : Int) : (a == b) = decide (a = b) := by rw [Bool.eq_iff_iff]; simp
theorem poss_eq (r : HoldRule) : connect_possible r = some (decide (rV r)) := by
  unfold connect_possible rV
  simp only [in_eq, Option.bind_some, cond_b]
  by_cases h1 : r.Kind = 1
  · simp [h1, Bool.and_assoc]
  by_cases h2 : r.Kind = 2
  · simp [h2, Bool.and_assoc]
  by_cases h3 : r.Kind = 3
  · simp [h3, beq_dec]
  · simp [h1, h2, h3, beq_false_of_ne h1, beq_false_of_ne h2, beq_false_of_ne h3]
theorem rule_eq (r : HoldRule) : ref24_rule r = some (decide (rV r)) := by
  rw [← poss_eq]
  unfold connect_possible ref24_rule
  simp only [in_eq, Option.bind_some, cond_b]
  cases hk1 : (r.Kind == 1)
  · cases hk2 : (r.Kind == 2)
    · cases hk3 : (r.Kind == 3)
      · simp only [cond_false]; cases decide ((1 : Int) ≤ r.Most) <;> rfl
      · simp only [cond_false, cond_true]; cases decide ((1 : Int) ≤ r.Most) <;> cases (r.N == 0) <;> cases (r.Most == 0) <;> rfl
    · simp only [cond_false, cond_true]; cases decide ((1 : Int) ≤ r.Most) <;> cases decide ((0 : Int) ≤ r.N) <;> cases decide (r.N ≤ 4) <;> cases decide (r.Most ≤ 1048576) <;> rfl
  · simp only [cond_false, cond_true]; cases decide ((1 : Int) ≤ r.Most) <;> cases decide ((1 : Int) ≤ r.N) <;> cases decide (r.N ≤ 40) <;> cases decide (r.Most ≤ 1048576) <;> rfl

/-! arguments -/
theorem argp_L1 : ∀ (q : List HoldRule) (k : Nat), connect_arguments_L1 q k = some (if ∀ r ∈ q, rV r then .brk () else .ret 4)
  | [], k => by rw [if_pos (by simp)]; rfl
  | r :: q, k => by
    rw [connect_arguments_L1, poss_eq, Option.bind_some]
    by_cases h : rV r
    · rw [decide_eq_true h, Bool.not_true, cond_false, argp_L1 q (k + 1)]
      congr 1
      by_cases g : ∀ r ∈ q, rV r
      · rw [if_pos g, if_pos (by simp [h]; exact g)]
      · rw [if_neg g, if_neg (fun k => g (fun y hy => k y (by simp [hy])))]
    · rw [decide_eq_false h, Bool.not_false, cond_true, if_neg (fun k => h (k r (by simp)))]
theorem argr_L1 : ∀ (q : List HoldRule) (k : Nat), ref24_Check_L1 q k = some (if ∀ r ∈ q, rV r then .brk () else .ret 4)
  | [], k => by rw [if_pos (by simp)]; rfl
  | r :: q, k => by
    rw [ref24_Check_L1, rule_eq, Option.bind_some]
    by_cases h : rV r
    · rw [decide_eq_true h, Bool.not_true, cond_false, argr_L1 q (k + 1)]
      congr 1
      by_cases g : ∀ r ∈ q, rV r
      · rw [if_pos g, if_pos (by simp [h]; exact g)]
      · rw [if_neg g, if_neg (fun k => g (fun y hy => k y (by simp [hy])))]
    · rw [decide_eq_false h, Bool.not_false, cond_true, if_neg (fun k => h (k r (by simp)))]
theorem argp_bad : ∀ (q : List Connecting) (k : Nat) (a : List Plate), (¬ ∀ c ∈ q, cV c) → a.length + q.length ≤ 900000 → connect_arguments_L2 q k a = some (.ret 1)
  | [], k, a, h, _ => (h (by simp)).elim
  | c :: q, k, a, h, hl => by
    simp only [List.length_cons] at hl
    rw [connect_arguments_L2, (cvalid_eq c).1, Option.bind_some]
    by_cases hc : cV c
    · rw [decide_eq_true hc, show mpL mpW a c.Plate = some (a ++ [c.Plate]) from if_pos ⟨mpW_val hc.1, by omega⟩]
      simp only [Bool.not_true, cond_false, Option.bind_some]
      exact argp_bad q (k + 1) _ (fun g => h (fun y hy => by
        rcases List.mem_cons.1 hy with rfl | hy
        · exact hc
        · exact g y hy)) (by simp; omega)
    · rw [decide_eq_false hc]; rfl
theorem argr_L2 : ∀ (q : List Connecting) (k : Nat), ref24_Check_L2 q k = some (if ∀ c ∈ q, cV c then .brk () else .ret 1)
  | [], k => by rw [if_pos (by simp)]; rfl
  | r :: q, k => by
    rw [ref24_Check_L2, (cvalid_eq r).2, Option.bind_some]
    by_cases h : cV r
    · rw [decide_eq_true h, Bool.not_true, cond_false, argr_L2 q (k + 1)]
      congr 1
      by_cases g : ∀ r ∈ q, cV r
      · rw [if_pos g, if_pos (by intro y hy; rcases List.mem_cons.1 hy with rfl | hy; exact h; exact g y hy)]
      · rw [if_neg g, if_neg (fun k => g (fun y hy => k y (by simp [hy])))]
    · rw [decide_eq_false h, Bool.not_false, cond_true, if_neg (fun k => h (k r (by simp)))]
theorem plb {p q : Plate} : ((p.Lead == q.Lead) && ((p.Airline == q.Airline) && ((p.Serial == q.Serial) && true))) = decide (p = q) := by
  cases p; cases q
  simp only [Bool.and_true, Plate.mk.injEq]
  rw [Bool.eq_iff_iff]
  simp
theorem argr_L4 (x : List Connecting) (k : Nat) (hk : k ≤ x.length) (hl : x.length ≤ 1000) (e : Connecting) : ∀ (n : Nat) (i : Nat), i ≤ k → k - i < n → ref24_Check_L4 x k e n (i : Int) = some (if ∃ c ∈ (x.take k).drop i, c.Plate = e.Plate then .ret 5 else .brk ())
  | 0, i, _, h => by omega
  | n + 1, i, h1, h2 => by
    rw [ref24_Check_L4]
    by_cases c : i < k
    · have hlt : i < x.length := by omega
      have hx := List.getElem?_eq_getElem hlt
      rw [decide_eq_true (by omega), cond_true, ixL_at' i rfl hx, Option.bind_some, plb]
      have hd : (x.take k).drop i = x[i] :: (x.take k).drop (i + 1) := drop_cons (by rw [List.getElem?_take, if_pos c]; exact hx)
      rw [hd]
      by_cases g : e.Plate = x[i].Plate
      · rw [decide_eq_true g, cond_true, if_pos ⟨x[i], by simp, g.symm⟩]
      · rw [decide_eq_false g, cond_false, w64_id (by omega) (by omega), show (i : Int) + 1 = ((i + 1 : Nat) : Int) by omega, argr_L4 x k hk hl e n (i + 1) (by omega) (by omega)]
        congr 1
        by_cases d : ∃ c ∈ (x.take k).drop (i + 1), c.Plate = e.Plate
        · obtain ⟨c', hc', he⟩ := d
          rw [if_pos ⟨c', hc', he⟩, if_pos ⟨c', by simp [hc'], he⟩]
        · rw [if_neg d, if_neg]
          rintro ⟨c', hc', he⟩
          rcases List.mem_cons.1 hc' with rfl | hc'
          · exact g he.symm
          · exact d ⟨c', hc', he⟩
    · rw [decide_eq_false (by omega), cond_false, if_neg]
      rintro ⟨c', hc', _⟩
      rw [List.drop_of_length_le (by rw [List.length_take]; omega)] at hc'
      cases hc'
theorem argr_L3 (x : List Connecting) (hl : x.length ≤ 1000) : ∀ (q pre : List Connecting), x = pre ++ q → ref24_Check_L3 x q pre.length = some (if (∀ c ∈ q, ∀ d ∈ pre, d.Plate ≠ c.Plate) ∧ (q.map (·.Plate)).Nodup then .brk () else .ret 5)
  | [], pre, h => by rw [if_pos (by simp)]; rfl
  | e :: q, pre, h => by
    rw [ref24_Check_L3]
    have hpl : pre.length ≤ x.length := by rw [h]; simp
    have h4 := argr_L4 x pre.length (by rw [h]; simp) hl e 9223372036854775807 0 (by omega) (by omega)
    rw [show ((0 : Nat) : Int) = 0 from rfl, List.drop_zero] at h4
    have ht : x.take pre.length = pre := by rw [h]; simp
    rw [ht] at h4
    rw [h4]
    have ih := argr_L3 x hl q (pre ++ [e]) (by rw [h]; simp)
    rw [List.length_append] at ih
    by_cases c : ∃ c ∈ pre, c.Plate = e.Plate
    · rw [if_pos c, sub_retE rfl, if_neg]
      rintro ⟨g, _⟩
      obtain ⟨d, hd, he⟩ := c
      exact g e (by simp) d hd he
    · rw [if_neg c, sub_brkE rfl]
      show ref24_Check_L3 x q (pre.length + [e].length) = _
      rw [ih]
      congr 1
      by_cases g : (∀ c ∈ q, ∀ d ∈ pre ++ [e], d.Plate ≠ c.Plate) ∧ (q.map (·.Plate)).Nodup
      · rw [if_pos g, if_pos]
        refine ⟨fun y hy d hd => ?_, ?_⟩
        · rcases List.mem_cons.1 hy with rfl | hy
          · exact fun he => c ⟨d, hd, he⟩
          · exact g.1 y hy d (by simp [hd])
        · rw [List.map_cons, List.nodup_cons]
          refine ⟨fun hm => ?_, g.2⟩
          obtain ⟨y, hy, he⟩ := List.mem_map.1 hm
          exact g.1 y hy e (by simp) he.symm
      · rw [if_neg g, if_neg]
        rintro ⟨g1, g2⟩
        rw [List.map_cons, List.nodup_cons] at g2
        refine g ⟨fun y hy d hd => ?_, g2.2⟩
        rcases List.mem_append.1 hd with hd | hd
        · exact g1 y (by simp [hy]) d hd
        · rw [List.mem_singleton.1 hd]
          exact fun he => g2.1 (List.mem_map.2 ⟨y, hy, he.symm⟩)
theorem foldl_le : ∀ (l acc : List Lit), (l.foldl addKey acc).length ≤ acc.length + l.length
  | [], acc => by simp
  | x :: l, acc => by
    have := foldl_le l (addKey acc x)
    have h2 : (addKey acc x).length ≤ acc.length + 1 := by
      unfold addKey
      split <;> simp
    rw [List.foldl_cons, List.length_cons]
    omega
theorem mpN_dup : ∀ (E acc : List Plate), (∀ p ∈ E, mpW p = true) → ¬ E.Nodup → ((E.map mpK).foldl addKey (acc.map mpK)).length < acc.length + E.length
  | [], acc, _, h => (h List.nodup_nil).elim
  | p :: E, acc, hv, h => by
    rw [List.map_cons, List.foldl_cons, List.length_cons]
    have hle : (addKey (acc.map mpK) (mpK p)).length ≤ acc.length + 1 := by
      unfold addKey
      split <;> simp
    by_cases g : E.Nodup
    · -- p occurs again
      have hp : p ∈ E := by
        refine Classical.byContradiction fun hn => h ?_
        rw [List.nodup_cons]; exact ⟨hn, g⟩
      have key : ∀ (E : List Plate) (l : List Lit), mpK p ∈ l → p ∈ E → ((E.map mpK).foldl addKey l).length < l.length + E.length := by
        intro E
        induction E with
        | nil => intro l _ hp; cases hp
        | cons q E ih =>
          intro l hl hp
          rw [List.map_cons, List.foldl_cons, List.length_cons]
          rcases List.mem_cons.1 hp with rfl | hp
          · have : addKey l (mpK p) = l := by
              unfold addKey
              rw [if_pos]
              rw [List.any_eq_true]
              exact ⟨mpK p, hl, by
                have := mp_key p (hv p (by simp))
                exact WideAt.sameKey_self trivial⟩
            rw [this]
            have := foldl_le (E.map mpK) l
            rw [List.length_map] at this
            omega
          · have h2 : (addKey l (mpK q)).length ≤ l.length + 1 := by
              unfold addKey
              split <;> simp
            have hm : mpK p ∈ addKey l (mpK q) := by
              unfold addKey
              split
              · exact hl
              · simp [hl]
            have := ih (addKey l (mpK q)) hm hp
            omega
      have hm : mpK p ∈ addKey (acc.map mpK) (mpK p) := by
        unfold addKey
        split
        · rename_i c
          rw [List.any_eq_true] at c
          obtain ⟨y, hy, he⟩ := c
          have := WideAt.sameKey_eq he
          rw [← this]; exact hy
        · simp
      have := key E _ hm hp
      omega
    · have hrest : ∃ acc' : List Plate, addKey (acc.map mpK) (mpK p) = acc'.map mpK ∧ acc'.length ≤ acc.length + 1 := by
        unfold addKey
        split
        · exact ⟨acc, rfl, by omega⟩
        · exact ⟨acc ++ [p], by simp, by simp⟩
      obtain ⟨acc', e1, e2⟩ := hrest
      rw [e1]
      have := mpN_dup E acc' (fun q hq => hv q (by simp [hq])) g
      omega
theorem args_both (x : List Minimum) (hx : x.length ≤ 1000) (rs : List HoldRule) (bags : List Connecting) (t : Int) : ∃ e, connect_arguments x rs bags t = some e ∧ ref24_Check x rs bags t = some e ∧
    (e = 0 → VOk x ∧ (∀ r ∈ rs, rV r) ∧ (∀ c ∈ bags, cV c) ∧ bags.length ≤ 40 ∧ rs.length ≤ 8 ∧ 0 ≤ t ∧ t ≤ 1048576) := by
  obtain ⟨v, v1, v2, v3⟩ := val_both x hx
  unfold connect_arguments ref24_Check
  rw [v1, v2, Option.bind_some, Option.bind_some]
  by_cases c0 : v = 0
  rotate_left
  · rw [show (v != 0) = true from bne_iff_ne.2 c0]
    exact ⟨v, rfl, rfl, fun h => (c0 h).elim⟩
  rw [c0, show ((0 : Int) != 0) = false from rfl, cond_false, cond_false, in_eq, Option.bind_some]
  by_cases c1 : t < 0
  · rw [decide_eq_true c1, andb_f (by omega)]
    exact ⟨1, rfl, rfl, fun h => by cases h⟩
  by_cases c2 : 1048576 < t
  · rw [decide_eq_false c1, decide_eq_true c2, andb_f (by omega)]
    exact ⟨1, rfl, rfl, fun h => by cases h⟩
  rw [decide_eq_false c1, decide_eq_false c2, andb_t (by omega), Bool.not_true]
  simp only [cond_false]
  by_cases c3 : (8 : Int) < (rs.length : Int)
  · rw [decide_eq_true c3]
    exact ⟨2, rfl, rfl, fun h => by cases h⟩
  rw [decide_eq_false c3, cond_false, cond_false]
  by_cases c4 : (40 : Int) < (bags.length : Int)
  · rw [decide_eq_true c4]
    exact ⟨2, rfl, rfl, fun h => by cases h⟩
  rw [decide_eq_false c4, cond_false, cond_false, argp_L1, argr_L1]
  by_cases c5 : ∀ r ∈ rs, rV r
  rotate_left
  · rw [if_neg c5]
    exact ⟨4, rfl, rfl, fun h => by cases h⟩
  rw [if_pos c5, fin_brkE rfl, fin_brkE rfl, argr_L2]
  by_cases c6 : ∀ c ∈ bags, cV c
  rotate_left
  · rw [if_neg c6, argp_bad bags 0 [] c6 (by simp; omega)]
    exact ⟨1, rfl, rfl, fun h => by cases h⟩
  have h3 := argr_L3 bags (by omega) bags [] rfl
  rw [List.length_nil] at h3
  rw [if_pos c6, fin_brkE rfl, h3, arg_L2 bags 0 [] c6 (by simp; omega), fin_brkE rfl, List.nil_append]
  have hw : ∀ p ∈ bags.map (·.Plate), mpW p = true := fun p hp => by
    obtain ⟨c, hc, rfl⟩ := List.mem_map.1 hp
    exact mpW_val (c6 c hc).1
  by_cases c7 : (bags.map (·.Plate)).Nodup
  · rw [if_pos ⟨by simp, c7⟩, fin_brkE rfl, mpN_nodup c7 hw, List.length_map, decide_eq_false (by omega)]
    exact ⟨0, rfl, rfl, fun _ => ⟨v3 c0, c5, c6, by omega, by omega, by omega, by omega⟩⟩
  · rw [if_neg (fun h => c7 h.2), fin_retE rfl]
    have := mpN_dup (bags.map (·.Plate)) [] hw c7
    rw [List.length_map] at this
    rw [decide_eq_true (show mpN mpK (bags.map (·.Plate)) < (bags.length : Int) by
      unfold mpN
      simp only [List.length_nil, Nat.zero_add, List.map_nil] at this
      omega)]
    exact ⟨5, rfl, rfl, fun h => by cases h⟩

/-! the reference's wait -/
theorem slr_eq {x : List Minimum} (hx : x.length ≤ 1000) (t : Int) (c : Connecting) : ref24_Slack x c t = some (slF x t c) := by
  obtain ⟨r, h1, h2, _⟩ := slack_both x hx c t
  unfold slF
  rw [h1, h2]
  rfl
theorem makes_eq {x : List Minimum} (hx : x.length ≤ 1000) (t : Int) (c : Connecting) {w : Int} (h0 : 0 ≤ w) (h1 : w ≤ 1000000000) : ref24_Makes x c t w = some ((slF x t c).2 && decide (-w ≤ (slF x t c).1)) := by
  unfold ref24_Makes
  rw [slr_eq hx, Option.bind_some, show IntKind.i64.wrap (0 - w) = -w from by rw [show 0 - w = -w by omega]; exact w64_id (by omega) (by omega)]
  cases (slF x t c).2 <;> rfl
def cntL (w : Int) : List Late → Int
  | [] => 0
  | e :: l => if e.need ≤ w then 1 + cntL w l else cntL w l
def catB (r : HoldRule) (w : Int) (l : List Late) : Bool := l.any (fun e => decide (e.need ≤ w) && (e.category == r.N))
def refapp (r : HoldRule) (l : List Late) (w : Int) : Bool := if r.Kind = 2 then catB r w l else if r.Kind = 1 then decide (r.N ≤ cntL w l) else false
theorem cnt_nn (w : Int) : ∀ l, 0 ≤ cntL w l ∧ cntL w l ≤ (l.length : Int)
  | [] => by simp [cntL]
  | e :: l => by
    have := cnt_nn w l
    rw [cntL, List.length_cons]
    split <;> omega
theorem app_L1 {x : List Minimum} (hx : x.length ≤ 1000) (t : Int) (r : HoldRule) {w : Int} (h0 : 0 ≤ w) (h1 : w ≤ 1000000000) : ∀ (q : List Connecting) (k : Nat) (i : Int), 0 ≤ i → i + q.length ≤ 1000000 →
    ref24_applies_L1 x r t w q k i = some (cond ((r.Kind == 2) && catB r w (lateOf x t q)) (.ret true) (.brk (i + cntL w (lateOf x t q))))
  | [], k, i, _, _ => by simp [ref24_applies_L1, lateOf, catB, cntL]
  | c :: q, k, i, hi, hl => by
    rw [List.length_cons] at hl
    have ih := fun (i' : Int) (g0 : 0 ≤ i') (g1 : i' + q.length ≤ 1000000) => app_L1 hx t r h0 h1 q (k + 1) i' g0 g1
    have hlate : lateOf x t (c :: q) = if lateB x t c = true then ⟨-(slF x t c).1, c.Category⟩ :: lateOf x t q else lateOf x t q := by
      unfold lateOf
      rw [List.filter_cons]
      split <;> rfl
    rw [ref24_applies_L1, makes_eq hx t c (by omega) (by omega), Option.bind_some, makes_eq hx t c h0 h1, hlate]
    by_cases c1 : (slF x t c).2 = true
    rotate_left
    · have c1 : (slF x t c).2 = false := by simpa using c1
      rw [if_neg (by unfold lateB; rw [c1]; simp)]
      simp only [c1, Bool.false_and, cond_false, Option.bind_some, Bool.not_false, cond_true]
      exact ih i hi (by omega)
    by_cases c2 : (slF x t c).1 < 0
    rotate_left
    · rw [if_neg (by unfold lateB; rw [decide_eq_false c2]; simp)]
      simp only [c1, Bool.true_and, decide_eq_true (show -(0 : Int) ≤ (slF x t c).1 by omega), cond_true]
      exact ih i hi (by omega)
    rw [if_pos (by unfold lateB; rw [c1, decide_eq_true c2]; rfl)]
    simp only [c1, Bool.true_and, decide_eq_false (show ¬ -(0 : Int) ≤ (slF x t c).1 by omega), cond_false, Option.bind_some]
    by_cases c3 : -w ≤ (slF x t c).1
    rotate_left
    · rw [decide_eq_false c3, Bool.not_false, cond_true, ih i hi (by omega)]
      unfold catB
      rw [List.any_cons, cntL, decide_eq_false (show ¬ -(slF x t c).1 ≤ w by omega), if_neg (show ¬ -(slF x t c).1 ≤ w by omega), Bool.false_and, Bool.false_or]
    rw [decide_eq_true c3, Bool.not_true, cond_false]
    have hcat : catB r w (⟨-(slF x t c).1, c.Category⟩ :: lateOf x t q) = ((c.Category == r.N) || catB r w (lateOf x t q)) := by
      unfold catB
      rw [List.any_cons, decide_eq_true (show -(slF x t c).1 ≤ w by omega), Bool.true_and]
    rw [hcat, cntL, if_pos (show -(slF x t c).1 ≤ w by omega), w64_id (by omega) (by omega), ih (i + 1) (by omega) (by omega), show i + (1 + cntL w (lateOf x t q)) = i + 1 + cntL w (lateOf x t q) by omega]
    cases (r.Kind == 2)
    · rfl
    · rw [cond_true]
      cases (c.Category == r.N)
      · rfl
      · rfl
theorem app_eq {x : List Minimum} (hx : x.length ≤ 1000) (t : Int) (r : HoldRule) {w : Int} (h0 : 0 ≤ w) (h1 : w ≤ 1000000000) {bags : List Connecting} (hb : bags.length ≤ 40) : ref24_applies x r bags t w = some (refapp r (lateOf x t bags) w) := by
  unfold ref24_applies refapp
  rw [app_L1 hx t r h0 h1 bags 0 0 (by omega) (by omega)]
  by_cases c1 : r.Kind = 2
  · rw [if_pos c1, c1, show ((2 : Int) == 2) = true from rfl, Bool.true_and]
    cases catB r w (lateOf x t bags) <;> rfl
  · rw [if_neg c1, show (r.Kind == 2) = false from beq_false_of_ne c1, Bool.false_and, cond_false, fin_brkE rfl, Int.zero_add]
    by_cases c2 : r.Kind = 1
    · rw [if_pos c2, c2]; rfl
    · rw [if_neg c2, show (r.Kind == 1) = false from beq_false_of_ne c2]; rfl
def minL (r : HoldRule) (L : List Late) (k : Int) : List Late → Int → Int → Int × Int
  | [], w, i => (w, i)
  | e :: l, w, i => if e.need ≤ r.Most ∧ refapp r L e.need = true ∧ (i < 0 ∨ e.need < w) then minL r L k l e.need k else minL r L k l w i
theorem mnd_L2 {x : List Minimum} (hx : x.length ≤ 1000) (t : Int) (k : Nat) (r : HoldRule) {bags : List Connecting} (hb : bags.length ≤ 40) : ∀ (q : List Connecting) (j : Nat) (w i : Int),
    ref24_Decide_L2 x bags t k r q j w i = some (.brk (minL r (lateOf x t bags) (k : Int) (lateOf x t q) w i))
  | [], j, w, i => by simp [ref24_Decide_L2, lateOf, minL]
  | c :: q, j, w, i => by
    have ih := fun (w' i' : Int) => mnd_L2 hx t k r hb q (j + 1) w' i'
    obtain ⟨_, s2, s3⟩ := sl_eq hx t c
    rw [ref24_Decide_L2, slr_eq hx, Option.bind_some]
    have hlate : lateOf x t (c :: q) = if lateB x t c = true then ⟨-(slF x t c).1, c.Category⟩ :: lateOf x t q else lateOf x t q := by
      unfold lateOf
      rw [List.filter_cons]
      split <;> rfl
    rw [hlate]
    by_cases c1 : (slF x t c).2 = true
    rotate_left
    · have c1 : (slF x t c).2 = false := by simpa using c1
      rw [c1, Bool.not_false, cond_true, ih, if_neg (by unfold lateB; rw [c1]; simp)]
    rw [c1, Bool.not_true, cond_false]
    by_cases c2 : (slF x t c).1 < 0
    rotate_left
    · rw [decide_eq_true (by omega), cond_true, ih, if_neg (by unfold lateB; rw [decide_eq_false c2]; simp)]
    have e : IntKind.i64.wrap (0 - (slF x t c).1) = -(slF x t c).1 := by rw [show 0 - (slF x t c).1 = -(slF x t c).1 by omega]; exact w64_id (by omega) (by omega)
    rw [decide_eq_false (by omega), cond_false, if_pos (by unfold lateB; rw [c1, decide_eq_true c2]; rfl), e, minL]
    simp only
    by_cases c3 : r.Most < -(slF x t c).1
    · rw [decide_eq_true c3, cond_true, ih, if_neg (fun h => by omega)]
    rw [decide_eq_false c3, cond_false, app_eq hx t r (by omega) (by omega) hb, Option.bind_some]
    cases c4 : refapp r (lateOf x t bags) (-(slF x t c).1)
    · rw [Bool.not_false, cond_true, ih, if_neg (fun h => by cases h.2.1)]
    rw [Bool.not_true, cond_false]
    by_cases c5 : i < 0
    · rw [decide_eq_true c5, cond_true, ih, if_pos ⟨by omega, rfl, .inl c5⟩]
    rw [decide_eq_false c5, cond_false]
    by_cases c6 : -(slF x t c).1 < w
    · rw [decide_eq_true c6, cond_true, ih, if_pos ⟨by omega, rfl, .inr c6⟩]
    · rw [decide_eq_false c6, cond_false, ih, if_neg (fun h => by rcases h.2.2 with h | h; exact c5 h; exact c6 h)]
def cand (r : HoldRule) (L : List Late) (e : Late) : Prop := e.need ≤ r.Most ∧ refapp r L e.need = true
theorem min_spec (r : HoldRule) (L : List Late) {k : Int} (hk : 0 ≤ k) : ∀ (l : List Late) (w i : Int), (i < 0 ∨ i = k) →
    (minL r L k l w i = (w, i) ∧ ∀ e ∈ l, cand r L e → 0 ≤ i ∧ w ≤ e.need) ∨ (∃ e ∈ l, cand r L e ∧ minL r L k l w i = (e.need, k) ∧ (∀ e' ∈ l, cand r L e' → e.need ≤ e'.need) ∧ (i < 0 ∨ e.need < w))
  | [], w, i, _ => .inl ⟨rfl, by simp⟩
  | e :: l, w, i, h => by
    rw [minL]
    by_cases c : e.need ≤ r.Most ∧ refapp r L e.need = true ∧ (i < 0 ∨ e.need < w)
    · rw [if_pos c]
      rcases min_spec r L hk l e.need k (.inr rfl) with ⟨g1, g2⟩ | ⟨e', g1, g2, g3, g4, g5⟩
      · refine .inr ⟨e, by simp, ⟨c.1, c.2.1⟩, g1, fun e' he' hc => ?_, c.2.2⟩
        rcases List.mem_cons.1 he' with rfl | he'
        · exact Int.le_refl _
        · exact (g2 e' he' hc).2
      · refine .inr ⟨e', by simp [g1], g2, g3, fun e2 he2 hc => ?_, ?_⟩
        · rcases List.mem_cons.1 he2 with rfl | he2
          · omega
          · exact g4 e2 he2 hc
        · rcases c.2.2 with c3 | c3
          · exact .inl c3
          · right; omega
    · rw [if_neg c]
      rcases min_spec r L hk l w i h with ⟨g1, g2⟩ | ⟨e', g1, g2, g3, g4, g5⟩
      · refine .inl ⟨g1, fun e2 he2 hc => ?_⟩
        rcases List.mem_cons.1 he2 with rfl | he2
        · have h1 : ¬ (i < 0 ∨ e2.need < w) := fun k => c ⟨hc.1, hc.2, k⟩
          omega
        · exact g2 e2 he2 hc
      · refine .inr ⟨e', by simp [g1], g2, g3, fun e2 he2 hc => ?_, g5⟩
        rcases List.mem_cons.1 he2 with rfl | he2
        · have h1 : ¬ (i < 0 ∨ e2.need < w) := fun k => c ⟨hc.1, hc.2, k⟩
          omega
        · exact g4 e2 he2 hc

/-! sorted lates: the wait of a rule -/
theorem cnt_perm {w : Int} {a b : List Late} (h : a.Perm b) : cntL w a = cntL w b := by
  induction h with
  | nil => rfl
  | cons x _ ih => rw [cntL, cntL, ih]
  | swap x y l => simp only [cntL]; split <;> split <;> omega
  | trans _ _ h1 h2 => exact h1.trans h2
theorem cnt_sorted {w : Int} : ∀ {S : List Late}, S.Pairwise (fun a b => a.need ≤ b.need) → ∀ (n : Nat), ((n : Int) + 1 ≤ cntL w S ↔ ∃ e, S[n]? = some e ∧ e.need ≤ w)
  | [], _, n => by simp [cntL]
  | e :: S, h, n => by
    rw [List.pairwise_cons] at h
    rw [cntL]
    by_cases c : e.need ≤ w
    · rw [if_pos c]
      cases n with
      | zero => simp [c]; have := (cnt_nn w S).1; omega
      | succ n =>
        have := cnt_sorted (w := w) h.2 n
        simp only [List.getElem?_cons_succ]
        rw [← this]; omega
    · rw [if_neg c]
      have h0 : cntL w S = 0 := by
        have : ∀ l : List Late, (∀ x ∈ l, ¬ x.need ≤ w) → cntL w l = 0 := by
          intro l
          induction l with
          | nil => intro _; rfl
          | cons y l ih => intro hy; rw [cntL, if_neg (hy y (by simp)), ih (fun z hz => hy z (by simp [hz]))]
        exact this S (fun x hx => by have := h.1 x hx; omega)
      rw [h0]
      constructor
      · intro g; omega
      · rintro ⟨y, hy, hw⟩
        exfalso
        rcases List.mem_cons.1 (List.mem_of_getElem? hy) with rfl | hm
        · exact c hw
        · have := h.1 y hm; omega
theorem star {x : List Minimum} {t : Int} {bags : List Connecting} {S : List Late} (hS : Srt x t bags S) {r : HoldRule} (hr : rV r) (h3 : r.Kind ≠ 3) :
    (waitF r S = (0, false) ∧ ∀ w, refapp r (lateOf x t bags) w = false) ∨ (∃ e ∈ lateOf x t bags, (∀ w, refapp r (lateOf x t bags) w = true ↔ e.need ≤ w) ∧ waitF r S = if e.need ≤ r.Most then (e.need, true) else (0, false)) := by
  unfold waitF refapp
  by_cases c1 : r.Kind = 1
  · have hN : 1 ≤ r.N := by
      rcases hr with h | h | h
      · exact h.2.1
      · omega
      · omega
    rw [if_pos c1]
    have key : ∀ w, decide (r.N ≤ cntL w (lateOf x t bags)) = true ↔ ∃ e, S[(r.N - 1).toNat]? = some e ∧ e.need ≤ w := by
      intro w
      rw [decide_eq_true_eq, ← cnt_perm hS.p, ← cnt_sorted hS.s]
      omega
    cases hg : S[(r.N - 1).toNat]? with
    | none =>
      refine .inl ⟨rfl, fun w => ?_⟩
      rw [if_neg (by omega), if_pos c1]
      refine Bool.eq_false_iff.2 (fun h => ?_)
      obtain ⟨e, he, _⟩ := (key w).1 h
      rw [hg] at he; cases he
    | some e =>
      refine .inr ⟨e, hS.p.mem_iff.1 (List.mem_of_getElem? hg), fun w => ?_, rfl⟩
      rw [if_neg (by omega), if_pos c1, key w, hg]
      constructor
      · rintro ⟨e', he', h⟩; cases he'; exact h
      · intro h; exact ⟨e, rfl, h⟩
  · have c2 : r.Kind = 2 := by
      rcases hr with h | h | h
      · exact (c1 h.1).elim
      · exact h.1
      · exact (h3 h.1).elim
    rw [if_neg c1, if_pos c2]
    cases hf : S.find? (fun e => e.category == r.N) with
    | none =>
      refine .inl ⟨rfl, fun w => ?_⟩
      rw [if_pos c2]
      refine Bool.eq_false_iff.2 (fun h => ?_)
      unfold catB at h
      rw [List.any_eq_true] at h
      obtain ⟨e, he, hc⟩ := h
      have := List.find?_eq_none.1 hf e (hS.p.mem_iff.2 he)
      simp only [Bool.and_eq_true] at hc
      exact this hc.2
    | some e =>
      have he := List.mem_of_find?_eq_some hf
      have hec : (e.category == r.N) = true := by have := List.find?_some hf; exact this
      refine .inr ⟨e, hS.p.mem_iff.1 he, fun w => ?_, rfl⟩
      rw [if_pos c2]
      unfold catB
      rw [List.any_eq_true]
      constructor
      · rintro ⟨e', he', hc⟩
        simp only [Bool.and_eq_true, decide_eq_true_eq] at hc
        obtain ⟨hp, i, hi, hgi, hb⟩ := List.find?_eq_some_iff_getElem.1 hf
        obtain ⟨j, hj⟩ := List.getElem?_of_mem (hS.p.mem_iff.2 he')
        obtain ⟨hjl, hje⟩ := List.getElem?_eq_some_iff.1 hj
        rcases Nat.lt_trichotomy i j with q | q | q
        · have := List.pairwise_iff_getElem.1 hS.s i j hi hjl q
          rw [hgi, hje] at this; omega
        · subst q; rw [hgi] at hje; rw [hje]; exact hc.1
        · have := hb j q
          rw [hje, hc.2] at this; simp at this
      · intro h
        exact ⟨e, hS.p.mem_iff.1 he, by rw [hec, decide_eq_true h]; rfl⟩
theorem min_wait {x : List Minimum} {t : Int} {bags : List Connecting} {S : List Late} (hS : Srt x t bags S) {r : HoldRule} (hr : rV r) (h3 : r.Kind ≠ 3) (k : Nat) :
    minL r (lateOf x t bags) (k : Int) (lateOf x t bags) 0 (-1) = if (waitF r S).2 = true then ((waitF r S).1, (k : Int)) else (0, -1) := by
  have hm := min_spec r (lateOf x t bags) (k := (k : Int)) (by omega) (lateOf x t bags) 0 (-1) (.inl (by omega))
  rcases star hS hr h3 with ⟨g1, g2⟩ | ⟨e, he, g1, g2⟩
  · rw [g1, if_neg (by simp)]
    rcases hm with ⟨m1, _⟩ | ⟨e', _, hc, _⟩
    · exact m1
    · have := hc.2; rw [g2] at this; cases this
  · by_cases c : e.need ≤ r.Most
    · rw [g2, if_pos c]
      simp only [if_true]
      have hce : cand r (lateOf x t bags) e := ⟨c, (g1 _).2 (Int.le_refl _)⟩
      rcases hm with ⟨_, m2⟩ | ⟨e', m1, m2, m3, m4, _⟩
      · have := (m2 e he hce).1; omega
      · rw [m3]
        have h1 := m4 e he hce
        have h2 := (g1 _).1 m2.2
        congr 1; omega
    · rw [g2, if_neg c]
      simp only [Bool.false_eq_true, if_false]
      rcases hm with ⟨m1, _⟩ | ⟨e', _, m2, _⟩
      · exact m1
      · have := (g1 _).1 m2.2
        have := m2.1
        omega
theorem rdec_L1 {x : List Minimum} (hx : x.length ≤ 1000) {t : Int} {bags : List Connecting} (hb : bags.length ≤ 40) {S : List Late} (hS : Srt x t bags S) : ∀ (q : List HoldRule) (k : Nat), (∀ r ∈ q, rV r) → ref24_Decide_L1 x bags t q k 0 (-1) = some (.brk (decR S q k))
  | [], k, _ => rfl
  | r :: q, k, h => by
    have hr := h r (by simp)
    rw [ref24_Decide_L1, show decide ((-1 : Int) < 0) = true from rfl, cond_true, decR]
    by_cases c3 : r.Kind = 3
    · rw [show (r.Kind == 3) = true from beq_iff_eq.2 c3, cond_true]
      have : waitF r S = (0, true) := by unfold waitF; rw [if_neg (by omega), if_neg (by omega)]
      rw [this]
      rfl
    rw [show (r.Kind == 3) = false from beq_false_of_ne c3, cond_false, mnd_L2 hx t k r hb bags 0 0 (-1), sub_brkE rfl, min_wait hS hr c3 k]
    cases c4 : (waitF r S).2
    · rw [if_neg (by simp), if_neg (by simp)]
      exact rdec_L1 hx hb hS q (k + 1) (fun y hy => h y (by simp [hy]))
    · rw [if_pos rfl, if_pos rfl]
      cases q with
      | nil => rfl
      | cons y q => rw [ref24_Decide_L1, decide_eq_false (by omega)]; rfl
theorem rdec_L3 {x : List Minimum} (hx : x.length ≤ 1000) (t : Int) (w : Int × Int) (hw : 0 ≤ w.1 ∧ w.1 ≤ 1000000000) : ∀ (q : List Connecting) (k : Nat) (a : List Plate), a.length + q.length ≤ 1000 → ref24_Decide_L3 x t w q k a = some (.brk (a ++ leftOf x t w.1 q))
  | [], k, a, _ => by simp [ref24_Decide_L3, leftOf]
  | c :: q, k, a, hl => by
    simp only [List.length_cons] at hl
    have ih := fun a' (h : a'.length + q.length ≤ 1000) => rdec_L3 hx t w hw q (k + 1) a' h
    rw [ref24_Decide_L3, makes_eq hx t c hw.1 hw.2, Option.bind_some]
    unfold leftOf at ih ⊢
    have e : (!((slF x t c).2 && decide (-w.1 ≤ (slF x t c).1))) = (!(slF x t c).2 || decide ((slF x t c).1 < -w.1)) := by
      cases (slF x t c).2
      · rfl
      · by_cases h : -w.1 ≤ (slF x t c).1
        · rw [decide_eq_true h, decide_eq_false (by omega)]; rfl
        · rw [decide_eq_false h, decide_eq_true (by omega)]; rfl
    rw [e, List.filter_cons]
    cases (!(slF x t c).2 || decide ((slF x t c).1 < -w.1))
    · rw [cond_false, ih a (by omega)]; rfl
    · rw [cond_true, apL_eq (by simp; omega), Option.bind_some, ih _ (by simp; omega)]
      simp
theorem decide_both (x : List Minimum) (hx : x.length ≤ 1000) (rs : List HoldRule) (bags : List Connecting) (t : Int) : ∃ r, connect_Decide x rs bags t = some r ∧ ref24_Decide x rs bags t = some r := by
  obtain ⟨e, e1, e2, e3⟩ := args_both x hx rs bags t
  unfold connect_Decide ref24_Decide
  rw [e1, e2, Option.bind_some, Option.bind_some]
  by_cases c0 : e = 0
  rotate_left
  · rw [show (e != 0) = true from bne_iff_ne.2 c0]
    exact ⟨_, rfl, rfl⟩
  obtain ⟨hV, hr, hc, hb, _, ht⟩ := e3 c0
  rw [c0, show ((0 : Int) != 0) = false from rfl, cond_false, cond_false]
  obtain ⟨S, hS⟩ := srt_ex hx t hb
  have hrng := decR_rng hS.n hr
  have hSl : S.length ≤ 1000 := by
    have := hS.p.length_eq
    unfold lateOf at this
    rw [List.length_map] at this
    have h2 := List.length_filter_le (lateB x t) bags
    omega
  rw [dec_L1 hx t bags 0 [] (by simp; omega), fin_brkE rfl, List.nil_append]
  unfold slices_SortFunc_late
  rw [hS.e, Option.bind_some, dec_L2 hSl rs 0 hr, fin_brkE rfl, dec_L3 hx t _ ⟨hrng.1, by omega⟩ bags 0 [] (by simp; omega), fin_brkE rfl, rdec_L1 hx hb hS rs 0 hr, fin_brkE rfl, rdec_L3 hx t _ ⟨hrng.1, by omega⟩ bags 0 [] (by simp; omega), fin_brkE rfl]
  exact ⟨_, rfl, rfl⟩
end Go.Proofs.Ytkajegjghfbgaaa.Ex.Cn
