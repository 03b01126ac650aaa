/- RegistryLocal: a message touches no other bag. -/
import Derived.Test.YtkliakcegihikaaRgL
namespace Go.Proofs.Ytkliakcegihikaa.Ex
open Go.RowKit Go.Proofs.Ytkliakcegihikaa.Ax
set_option linter.unusedVariables false
set_option linter.unusedSimpArgs false

theorem built2_L (x : Int) : ∀ (n : Nat) (s : Src) (l : List Bag) (i : Int), SrcOk s → RegOk l → onwOk l → 0 ≤ i → x ≤ 1000 → i ≤ 1000 → 1000 - i < n → okP (law06_built_L1 x n s.L s.At l i) (ctlQ (fun _ => False) (fun z => SrcOk ⟨z.1, z.2.1⟩ ∧ RegOk z.2.2 ∧ onwOk z.2.2))
  | 0, s, l, i, hs, h, hq, h0, hx, h1, h2 => by omega
  | n + 1, s, l, i, hs, h, hq, h0, hx, h1, h2 => by
    rw [law06_built_L1]
    refine okP_cond (fun hi => ?_) (fun _ => okP_some ⟨hs, h, hq⟩)
    have hi := of_decide_eq_true hi
    have hm : okP (keep_Src_More s) (fun _ => True) := okP_some trivial
    refine okP_bind hm (fun b _ => okP_cond (fun _ => ?_) (fun _ => okP_some ⟨hs, h, hq⟩))
    refine okP_bind (message_t s hs) (fun r ⟨r1, r2⟩ => ?_)
    obtain ⟨a, _, ha, _, hz⟩ := apply_eq l r.1 r2.ok hq
    rw [ha, Option.bind_some, w64_id (z := i + 1) (by omega) (by omega)]
    refine okP_cond (fun h0 => ?_) (fun _ => built2_L x n r.2 l (i + 1) r1 h hq (by omega) hx (by omega) (by omega))
    have h0 : a.2 = 0 := by simpa using h0
    obtain ⟨_, _, h3, h4, _⟩ := hz h0
    exact built2_L x n r.2 a.1.L (i + 1) r1 h3 h4 (by omega) hx (by omega) (by omega)
theorem built2_t (s : Src) (x : Int) (hs : SrcOk s) (hx : x ≤ 1000) : okP (law06_built s x) (fun r => SrcOk r.2 ∧ RegOk r.1.L ∧ onwOk r.1.L) := by
  unfold law06_built
  exact okP_finB (built2_L x 9223372036854775807 s [] 0 hs regOk_nil (fun b hb => by cases hb) (by omega) hx (by omega) (by omega)) (fun z hz => okP_some hz)

/-- bags away from some plates -/
def away (ps : List Plate) (l : List Bag) : List Bag := l.filter (fun b => !decide (b.Plate ∈ ps))
theorem insB_away {ps : List Plate} {b : Bag} (hb : b.Plate ∈ ps) : ∀ l : List Bag, away ps (insB b l) = away ps l
  | [] => by unfold away; rw [insB, List.filter_cons_of_neg (by simpa using hb)]
  | x :: l => by
    have ih := insB_away hb l
    unfold away at ih ⊢
    rw [insB]
    split
    · by_cases hx : x.Plate ∈ ps
      · rw [List.filter_cons_of_neg (by simpa using hx), List.filter_cons_of_neg (by simpa using hx), ih]
      · rw [List.filter_cons_of_pos (by simpa using hx), List.filter_cons_of_pos (by simpa using hx), ih]
    · split
      · rename_i e
        rw [List.filter_cons_of_neg (by simpa using hb), List.filter_cons_of_neg (by simpa [e] using hb)]
      · rw [List.filter_cons_of_neg (by simpa using hb)]
theorem step_away {ps : List Plate} {m : Message} {l : List Bag} {p : Plate} (hp : p ∈ ps) : away ps (stepB m l p) = away ps l := by
  unfold stepB
  split
  · split
    · unfold away
      rw [List.filter_filter]
      apply List.filter_congr
      intro b _
      by_cases e : b.Plate = p
      · simp [e, hp]
      · simp [e]
    · exact insB_away hp l
  · split <;> exact insB_away hp l
theorem fold_away {ps : List Plate} {m : Message} : ∀ (q : List Plate) (l : List Bag), (∀ p ∈ q, p ∈ ps) → away ps (q.foldl (stepB m) l) = away ps l
  | [], l, _ => rfl
  | p :: q, l, h => by
    rw [List.foldl_cons, fold_away q _ (fun r hr => h r (List.mem_cons_of_mem _ hr)), step_away (h p (List.mem_cons_self ..))]

theorem loc2 (e : Bag) : ∀ (ps : List Plate) (k : Nat) (b : Bool), law06_RegistryLocal_L2 e ps k b = some (Ctl.brk (b || decide (e.Plate ∈ ps)))
  | [], k, b => by rw [law06_RegistryLocal_L2]; simp
  | p :: ps, k, b => by
    rw [law06_RegistryLocal_L2, loc2 e ps, loc2 e ps, plate_beq]
    cases b
    · rw [cond_false]
      by_cases h : p = e.Plate
      · simp [h]
      · have h' : ¬ e.Plate = p := fun e => h e.symm
        simp [h, h']
    · rw [cond_true]; simp
theorem sb_L (y : Bag) : ∀ (l : List Leg) (k : Nat), y.Onward.drop k = l → ref06_SameBag_L1 y l k = some (Ctl.brk ())
  | [], k, h => rfl
  | x :: l, k, h => by
    have hx : y.Onward[k]? = some x := by rw [← List.head?_drop, h]; rfl
    rw [ref06_SameBag_L1, ixL_at' k rfl hx, Option.bind_some]
    simp only [beq_self_eq_true, Bool.and_true, Bool.and_self, Bool.not_true, cond_false]
    exact sb_L y l (k + 1) (by rw [← List.drop_drop, h]; rfl)
theorem samebag_self (b : Bag) : ref06_SameBag b b = some true := by
  unfold ref06_SameBag
  have hL := sb_L b b.Onward 0 rfl
  simp only [beq_self_eq_true, bne_self_eq_false, Bool.and_true, Bool.and_self, Bool.not_true, cond_false, cond_true, fin_brkE hL]
theorem mem_find {l : List Bag} {b : Bag} (h : RegOk l) (hb : b ∈ l) : known l b.Plate ∧ findB b.Plate l = b := by
  have hk : known l b.Plate := ⟨b, hb, rfl⟩
  obtain ⟨h1, h2⟩ := findB_in hk
  exact ⟨hk, known_uniq h2 l h.srt h1 hb⟩
theorem mem_away {ps : List Plate} {l : List Bag} {b : Bag} : b ∈ away ps l ↔ b ∈ l ∧ b.Plate ∉ ps := by
  unfold away
  rw [List.mem_filter]
  simp
/-- the first count: every bag that must be there is there, as it was -/
theorem loc1 (m : Message × Src) (r : Registry × Int) (ps : List Plate) (hr : RegOk r.1.L) (ho : onwOk r.1.L) : ∀ (l : List Bag) (k : Nat) (i : Int), 0 ≤ i → i + l.length ≤ 1000000 → (∀ b ∈ l, (m.1.Kind = 5 ∨ b.Plate ∉ ps) → b ∈ r.1.L) → law06_RegistryLocal_L1 m r ps l k i = some (Ctl.brk (i + if m.1.Kind = 5 then (l.length : Int) else ((away ps l).length : Int)))
  | [], k, i, _, _, _ => by
    rw [law06_RegistryLocal_L1]
    unfold away
    simp
  | b :: l, k, i, h0, h1, h => by
    rw [List.length_cons] at h1
    have ih0 := loc1 m r ps hr ho l (k + 1) i h0 (by omega) (fun x hx => h x (List.mem_cons_of_mem _ hx))
    have ih1 := loc1 m r ps hr ho l (k + 1) (i + 1) (by omega) (by omega) (fun x hx => h x (List.mem_cons_of_mem _ hx))
    rw [law06_RegistryLocal_L1, sub_brkE (loc2 b ps 0 false), Bool.false_or]
    have n5 : (m.1.Kind != 5) = !decide (m.1.Kind = 5) := rfl
    have hfound : b ∈ r.1.L → registry_Find r.1 b.Plate = some (b, true) := fun hb => by
      obtain ⟨f1, f2⟩ := mem_find hr hb
      have := find_eq r.1.L b.Plate hr ho
      rw [f2, decide_eq_true f1] at this
      exact this
    by_cases hp : b.Plate ∈ ps
    · rw [decide_eq_true hp, cond_true, n5]
      by_cases h5 : m.1.Kind = 5
      · rw [decide_eq_true h5, Bool.not_true, cond_false, hfound (h b (List.mem_cons_self ..) (.inl h5)), Option.bind_some]
        simp only
        rw [Bool.not_true, cond_false, samebag_self, Option.bind_some, Bool.not_true, cond_false, w64_id (z := i + 1) (by omega) (by omega), ih1, if_pos h5, if_pos h5, List.length_cons]
        congr 2
        omega
      · rw [decide_eq_false h5, Bool.not_false, cond_true, ih0, if_neg h5, if_neg h5]
        unfold away
        rw [List.filter_cons_of_neg (by simpa using hp)]
    · rw [decide_eq_false hp, cond_false, hfound (h b (List.mem_cons_self ..) (.inr hp)), Option.bind_some]
      simp only
      rw [Bool.not_true, cond_false, samebag_self, Option.bind_some, Bool.not_true, cond_false, w64_id (z := i + 1) (by omega) (by omega), ih1]
      congr 2
      have e : (away ps (b :: l)).length = (away ps l).length + 1 := by
        unfold away
        rw [List.filter_cons_of_pos (by simpa using hp), List.length_cons]
      rw [e, List.length_cons]
      split <;> omega
theorem loc3 (ps : List Plate) : ∀ (l : List Bag) (k : Nat) (i : Int), -1000000 ≤ i → i ≤ 1000000 → l.length ≤ 1000000 → law06_RegistryLocal_L3 ps l k i = some (Ctl.brk (i - ((away ps l).length : Int))) ∨ i - l.length < -1000000
  | [], k, i, _, _, _ => by
    left
    rw [law06_RegistryLocal_L3]
    unfold away
    simp
  | b :: l, k, i, h0, h1, h2 => by
    rw [List.length_cons] at h2 ⊢
    rw [law06_RegistryLocal_L3, sub_brkE (loc2 b ps 0 false), Bool.false_or]
    by_cases hbig : i - ((l.length + 1 : Nat) : Int) < -1000000
    · exact .inr hbig
    left
    by_cases hp : b.Plate ∈ ps
    · rw [decide_eq_true hp, Bool.not_true, cond_false]
      have e : away ps (b :: l) = away ps l := by
        unfold away
        rw [List.filter_cons_of_neg (by simpa using hp)]
      rw [e]
      exact (loc3 ps l (k + 1) i h0 h1 (by omega)).resolve_right (by omega)
    · rw [decide_eq_false hp, Bool.not_false, cond_true, w64_id (z := i - 1) (by omega) (by omega)]
      have e : (away ps (b :: l)).length = (away ps l).length + 1 := by
        unfold away
        rw [List.filter_cons_of_pos (by simpa using hp), List.length_cons]
      rw [e, (loc3 ps l (k + 1) (i - 1) (by omega) (by omega) (by omega)).resolve_right (by omega)]
      congr 2
      omega
theorem local_ok (l : List Int) : law06_RegistryLocal l = some true := by
  unfold law06_RegistryLocal
  obtain ⟨s, hs, s1⟩ := New_ok l
  obtain ⟨r, hr, r1, r2, r3⟩ := built2_t s 20 s1 (by decide)
  obtain ⟨mm, hm, m1, m2⟩ := message_t r.2 r1
  obtain ⟨a, ha, _, hne, hz⟩ := apply_eq r.1.L mm.1 m2.ok r3
  obtain ⟨ps, hps, hpo⟩ := plates_t mm.1
  rw [hs, Option.bind_some, hr, Option.bind_some, hm, Option.bind_some, show registry_Apply r.1 mm.1 = some a from ha, Option.bind_some]
  rw [awake06]
  by_cases h0 : a.2 = 0
  · rw [show (a.2 != 0) = false by simp [h0], cond_false, hps, Option.bind_some]
    obtain ⟨_, _, a1, a2, h5⟩ := hz h0
    have hal := a1.len
    have hrl := r2.len
    have hin : ∀ b ∈ r.1.L, (mm.1.Kind = 5 ∨ b.Plate ∉ ps) → b ∈ a.1.L := by
      intro b hb hc
      rcases h5 with ⟨h5, e⟩ | ⟨h5, qs, hq, _, _, e⟩
      · rw [e]; exact hb
      · have : qs = ps := by rw [hps] at hq; exact (Option.some.inj hq).symm
        subst this
        rcases hc with hc | hc
        · exact absurd hc h5
        · have := (mem_away (ps := qs)).2 ⟨hb, hc⟩
          rw [← fold_away (m := mm.1) qs r.1.L (fun p hp => hp), ← e] at this
          exact (mem_away.1 this).1
    rw [fin_brkE (loc1 mm a ps a1 a2 r.1.L 0 0 (by omega) (by omega) hin)]
    have hal2 : (away ps r.1.L).length ≤ r.1.L.length := List.length_filter_le _ _
    have hL3 := (loc3 ps a.1.L 0 (0 + if mm.1.Kind = 5 then (r.1.L.length : Int) else ((away ps r.1.L).length : Int)) (by split <;> omega) (by split <;> omega) (by omega)).resolve_right (by split <;> omega)
    rw [fin_brkE hL3]
    rcases h5 with ⟨h5, e⟩ | ⟨h5, qs, hq, _, _, e⟩
    · rw [show (mm.1.Kind == 5) = true by simp [h5], cond_true]
      split
      · rw [cond_ite]; split <;> rfl
      · rw [cond_ite]; split <;> rfl
    · have : qs = ps := by rw [hps] at hq; exact (Option.some.inj hq).symm
      subst this
      rw [if_neg h5, e, fold_away qs r.1.L (fun p hp => hp)]
      rw [show ((0 + ((away qs r.1.L).length : Int) - ((away qs r.1.L).length : Int)) == 0) = true by simp, cond_true]
      rfl
  · rw [show (a.2 != 0) = true by simpa using h0, cond_true, hne h0]
    rfl
end Go.Proofs.Ytkliakcegihikaa.Ex
