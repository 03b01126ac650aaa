/- Apply of the program is Apply of the reference. -/
import Derived.Test.YtkliakcegihikaaRgK
namespace Go.Proofs.Ytkliakcegihikaa.Ex
open Go.RowKit Go.Proofs.Ytkliakcegihikaa.Ax
set_option linter.unusedVariables false
set_option linter.unusedSimpArgs false

/-- the plates of a run -/
def runP (p : Plate) (n : Nat) : List Plate := (List.range n).map (fun j : Nat => ⟨p.Lead, p.Airline, (p.Serial + (j : Int)) % 1000000⟩)
theorem runP_succ (p : Plate) (n : Nat) : runP p (n + 1) = runP p n ++ [⟨p.Lead, p.Airline, (p.Serial + (n : Int)) % 1000000⟩] := by
  unfold runP
  rw [List.range_succ, List.map_append]
  rfl
theorem runP_len (p : Plate) (n : Nat) : (runP p n).length = n := by unfold runP; simp
theorem runP_nodup (p : Plate) (n : Nat) (hn : n ≤ 99) : (runP p n).Nodup := by
  unfold runP
  rw [List.nodup_iff_pairwise_ne, List.pairwise_map]
  refine List.Pairwise.imp_of_mem ?_ List.nodup_range
  intro a b ha hb hab e
  rw [List.mem_range] at ha hb
  have := (plate_ext.1 e).2.2
  simp only at this
  omega
theorem runL_v (p : Plate) (c : Nat) (hp : validP p) (hc : c ≤ 99) : ∀ (n k : Nat), k ≤ c → c < n + k → ref01_Run_L1 p (c : Int) n (runP p k) (k : Int) = some (Ctl.brk (runP p c))
  | 0, k, h1, h2 => by omega
  | n + 1, k, h1, h2 => by
    rw [ref01_Run_L1]
    by_cases hk : k < c
    · obtain ⟨v1, v2, v3, v4, v5, v6⟩ := hp
      rw [decide_eq_true (by omega : (k : Int) < (c : Int)), cond_true, apL_eq (by rw [runP_len]; simp; omega), Option.bind_some, w64_id (z := (k : Int) + 1) (by omega) (by omega), w64_id (z := p.Serial + (k : Int)) (by omega) (by omega), Int.tmod_eq_emod_of_nonneg (by omega), ← runP_succ]
      exact runL_v p c ⟨v1, v2, v3, v4, v5, v6⟩ hc n (k + 1) (by omega) (by omega)
    · rw [decide_eq_false (by omega : ¬ (k : Int) < (c : Int)), cond_false, show k = c by omega]
theorem rplates_v (m : Message) (hp : validP m.First) (h1 : 1 ≤ m.Count) (h2 : m.Count ≤ 99) : ref04_Plates m = some (runP m.First m.Count.toNat) := by
  unfold ref04_Plates ref01_Run
  have hL := runL_v m.First m.Count.toNat hp (by omega) 9223372036854775807 0 (by omega) (by omega)
  rw [show ((m.Count.toNat : Nat) : Int) = m.Count by omega, show runP m.First 0 = [] from rfl, show ((0 : Nat) : Int) = 0 from rfl] at hL
  rw [refvalid_eq, Option.bind_some, decide_eq_true hp, Bool.not_true, cond_false, decide_eq_false (by omega : ¬ m.Count < 1), cond_false, decide_eq_false (by omega : ¬ 99 < m.Count), cond_false, fin_brkE hL, Option.bind_some]
theorem rplates_nodup {m : Message} {ps : List Plate} (h : ref04_Plates m = some ps) : ps.Nodup := by
  by_cases hp : validP m.First ∧ 1 ≤ m.Count ∧ m.Count ≤ 99
  · rw [rplates_v m hp.1 hp.2.1 hp.2.2] at h
    rw [← Option.some.inj h]
    exact runP_nodup _ _ (by omega)
  · have : ref04_Plates m = some [] := by
      unfold ref04_Plates ref01_Run
      rw [refvalid_eq, Option.bind_some]
      by_cases h1 : validP m.First
      · rw [decide_eq_true h1, Bool.not_true, cond_false]
        by_cases h2 : m.Count < 1
        · rw [decide_eq_true h2]; rfl
        · have h3 : ¬ (1 ≤ m.Count ∧ m.Count ≤ 99) := fun e => hp ⟨h1, e⟩
          rw [decide_eq_false h2, cond_false, decide_eq_true (by omega : 99 < m.Count)]; rfl
      · rw [decide_eq_false h1]; rfl
    rw [this] at h
    rw [← Option.some.inj h]
    exact List.nodup_nil

/-- what a message that Validate lets pass is -/
theorem val_zero {m : Message} (hm : MsgOk m) (h : ref04_Validate m = some 0) : 1 ≤ m.Kind ∧ m.Kind ≤ 5 ∧ m.Onward.length ≤ 3 ∧ m.List.length ≤ 40 ∧ (¬ (m.Kind = 1 ∨ m.Kind = 2) → m.Do = 0) := by
  unfold ref04_Validate at h
  rw [in_eq, Option.bind_some] at h
  by_cases hk : 1 ≤ m.Kind ∧ m.Kind ≤ 5
  · rw [decide_eq_true hk, Bool.not_true, cond_false] at h
    obtain ⟨n, hn, _⟩ := own_t m
    obtain ⟨b, hb, _⟩ := same_t m n
    rw [hn, Option.bind_some, hb, Option.bind_some] at h
    cases b
    · cases h
    · rw [Bool.not_true, cond_false] at h
      by_cases h3 : (3 : Int) < m.Onward.length
      · rw [decide_eq_true h3, cond_true] at h; cases h
      · rw [decide_eq_false h3, cond_false] at h
        by_cases h4 : (40 : Int) < m.List.length
        · rw [decide_eq_true h4, cond_true] at h; cases h
        · exact ⟨hk.1, hk.2, by omega, by omega, fun e => (same_own hn hb hk.1 hk.2 e).1⟩
  · rw [decide_eq_false hk, Bool.not_false, cond_true] at h
    cases h

theorem tw_take (l : List Bag) (p : Plate) : l.take (pos l p) = l.takeWhile (fun x => decide (plt x.Plate p)) := by
  have h := List.takeWhile_append_dropWhile (p := fun x : Bag => decide (plt x.Plate p)) (l := l)
  unfold pos
  conv => lhs; rw [← h]
  rw [List.take_left']
  rw [h]
theorem dw_drop (l : List Bag) (p : Plate) : l.drop (pos l p) = l.dropWhile (fun x => decide (plt x.Plate p)) := by
  have h := List.takeWhile_append_dropWhile (p := fun x : Bag => decide (plt x.Plate p)) (l := l)
  unfold pos
  conv => lhs; rw [← h]
  rw [List.drop_left']
  rw [h]
theorem insB_new {b : Bag} {l : List Bag} (h : ¬ known l b.Plate) : insB b l = l.take (pos l b.Plate) ++ b :: l.drop (pos l b.Plate) := by
  rw [insB_split, tw_take, dw_drop]
  congr 2
  split
  · rename_i e; rw [e]
  · rename_i x t e
    rw [e]
    by_cases hx : x.Plate = b.Plate
    · have : x ∈ l := by
        have : x ∈ l.dropWhile (fun x => decide (plt x.Plate b.Plate)) := by rw [e]; exact List.mem_cons_self ..
        exact (List.dropWhile_sublist _).subset this
      exact absurd ⟨x, this, hx⟩ h
    · rw [if_neg hx]
theorem drop_find {l : List Bag} {p : Plate} (h : RegOk l) (hk : known l p) : l.drop (pos l p) = findB p l :: l.drop (pos l p + 1) := drop_cons (at_find h hk)
theorem insB_old {b : Bag} {l : List Bag} (h : RegOk l) (hk : known l b.Plate) : insB b l = l.set (pos l b.Plate) b := by
  have hd := drop_find h hk
  have hlt : pos l b.Plate < l.length := (List.getElem?_eq_some_iff.1 (at_find h hk)).1
  rw [insB_split, ← tw_take, ← dw_drop, hd]
  simp only
  rw [if_pos (findB_in hk).2, List.set_eq_take_append_cons_drop, if_pos hlt]
theorem filter_old {p : Plate} {l : List Bag} (h : RegOk l) (hk : known l p) : l.filter (fun b => !decide (b.Plate = p)) = l.take (pos l p) ++ l.drop (pos l p + 1) := by
  have hd := drop_find h hk
  have hs : l = l.take (pos l p) ++ findB p l :: l.drop (pos l p + 1) := by rw [← hd, List.take_append_drop]
  have hp := (findB_in hk).2
  have hsort := h.srt
  unfold sortedB at hsort
  rw [hs, List.pairwise_append] at hsort
  obtain ⟨_, h2, h3⟩ := hsort
  obtain ⟨h4, _⟩ := List.pairwise_cons.1 h2
  conv => lhs; rw [hs]
  rw [List.filter_append, List.filter_cons_of_neg (by simp [hp])]
  congr 1
  · rw [List.filter_eq_self]
    intro a ha
    have := h3 a ha (findB p l) (List.mem_cons_self ..)
    rw [hp] at this
    simp only [Bool.not_eq_true', decide_eq_false_iff_not]
    exact fun e => plt_irr (e ▸ this)
  · rw [List.filter_eq_self]
    intro a ha
    have := h4 a ha
    rw [hp] at this
    simp only [Bool.not_eq_true', decide_eq_false_iff_not]
    exact fun e => plt_irr (e ▸ this)

theorem described_eq (m : Message) (p : Plate) (h : m.Onward.length ≤ 1000000) : registry_described m p = some (dataB { zBag with Plate := p } m) := by
  unfold registry_described
  rw [copied_eq _ h, Option.bind_some]
  rfl
theorem change_eq (e : Bag) (m : Message) (h : m.Onward.length ≤ 1000000) : registry_change e m = some (if m.Kind = 3 then { e with Node := m.Node } else if m.Kind = 4 then { e with Load := false, Unloaded := true } else dataB e m) := by
  unfold registry_change
  by_cases h3 : m.Kind = 3
  · rw [show (m.Kind == 3) = true by simp [h3], cond_true, if_pos h3]
  · rw [show (m.Kind == 3) = false by simp [h3], cond_false, if_neg h3]
    by_cases h4 : m.Kind = 4
    · rw [show (m.Kind == 4) = true by simp [h4], cond_true, if_pos h4]
    · rw [show (m.Kind == 4) = false by simp [h4], cond_false, if_neg h4, described_eq m _ h, Option.bind_some]
      rfl
theorem findB_none {p : Plate} {l : List Bag} (h : ¬ known l p) : findB p l = zBag := by
  unfold findB
  rw [List.find?_eq_none.2 (fun x hx => by simpa using fun e => h ⟨x, hx, e⟩)]
  rfl
/-- what the rest of a run needs -/
def restOk (m : Message) (l : List Bag) (q : List Plate) : Prop :=
  ((m.Kind = 1 ∨ m.Kind = 2) ∧ m.Do ≠ 2) ∨ (((m.Kind = 1 ∨ m.Kind = 2) ∧ m.Do = 2) ∧ q.Nodup ∧ ∀ p ∈ q, known l p) ∨ ((m.Kind = 3 ∨ m.Kind = 4) ∧ m.Do = 0 ∧ ∀ p ∈ q, known l p)
theorem pstep (m : Message) (ho : m.Onward.length ≤ 1000000) (l : List Bag) (p : Plate) (q : List Plate) (k : Nat) (h : RegOk l) (hw : onwOk l) (hr : restOk m l (p :: q)) : registry_Apply_L1 m (p :: q) k l = registry_Apply_L1 m q (k + 1) (stepB m l p) := by
  have hl := h.len
  have hpl := pos_le l p
  rw [registry_Apply_L1, at_eq l p h, Option.bind_some]
  simp only
  by_cases hk : known l p
  · rw [decide_eq_true hk, Bool.not_true, cond_false]
    obtain ⟨hin, hpe⟩ := findB_in hk
    have hat := at_find h hk
    have hlt : pos l p < l.length := (List.getElem?_eq_some_iff.1 hat).1
    have d2 : (m.Do == 2) = decide (m.Do = 2) := rfl
    rw [d2]
    by_cases hd : m.Do = 2
    · have hb : m.Kind = 1 ∨ m.Kind = 2 := by
        rcases hr with hr | hr | hr
        · exact hr.1
        · exact hr.1.1
        · omega
      rw [decide_eq_true hd, cond_true, slL_eq (by omega) (by omega) (by omega), Option.bind_some, w64_id (z := (pos l p : Int) + 1) (by omega) (by omega), slL_eq (by omega) (by omega) (by omega), Option.bind_some]
      have e1 : ((0 : Int)).toNat = 0 := rfl
      have e2 : ((pos l p : Int) + 1).toNat = pos l p + 1 := by omega
      simp only [Int.toNat_natCast, e1, e2, List.drop_zero, Nat.sub_zero]
      rw [List.take_of_length_le (l := l.drop (pos l p + 1)) (by simp), apL_eq (by simp; omega), Option.bind_some, ← filter_old h hk]
      unfold stepB
      rw [if_pos hb, if_pos hd]
    · rw [decide_eq_false hd, cond_false, ixL_at' _ rfl hat, Option.bind_some, change_eq _ _ ho, Option.bind_some, Option.bind_some, Int.toNat_natCast]
      unfold stepB
      have hF : ({ findB p l with Plate := p } : Bag) = findB p l := by
        conv => rhs; rw [show findB p l = { findB p l with Plate := (findB p l).Plate } from rfl, hpe]
      have hN : ∀ (e : Bag) (n : ByteArray), e.Plate = p → ({ e with Plate := p, Node := n } : Bag) = { e with Node := n } := fun e n he => by subst he; rfl
      have hU : ∀ (e : Bag), e.Plate = p → ({ e with Plate := p, Load := false, Unloaded := true } : Bag) = { e with Load := false, Unloaded := true } := fun e he => by subst he; rfl
      have set_ins : ∀ b : Bag, b.Plate = p → l.set (pos l p) b = insB b l := fun b hb => by
        have := insB_old (b := b) h (hb ▸ hk)
        rw [hb] at this
        exact this.symm
      congr 1
      rcases hr with hr | hr | hr
      · have h3 : ¬ m.Kind = 3 := by omega
        have h4 : ¬ m.Kind = 4 := by omega
        rw [if_neg h3, if_neg h4, if_pos hr.1, if_neg hd, hF]
        exact set_ins _ hpe
      · exact absurd hr.1.2 hd
      · have hb : ¬ (m.Kind = 1 ∨ m.Kind = 2) := by omega
        rw [if_neg hb]
        by_cases h3 : m.Kind = 3
        · rw [if_pos h3, if_pos h3, hN _ _ hpe]
          exact set_ins _ hpe
        · rw [if_neg h3, if_neg h3, if_pos (by omega : m.Kind = 4), hU _ hpe]
          exact set_ins _ hpe
  · have hb : (m.Kind = 1 ∨ m.Kind = 2) ∧ m.Do ≠ 2 := by
      rcases hr with hr | hr | hr
      · exact hr
      · exact absurd (hr.2.2 p (List.mem_cons_self ..)) hk
      · exact absurd (hr.2.2 p (List.mem_cons_self ..)) hk
    rw [decide_eq_false hk, Bool.not_false, cond_true, slL_eq (by omega) (by omega) (by omega), Option.bind_some, described_eq m p ho, Option.bind_some, slL_eq (by omega) (by omega) (by omega), Option.bind_some]
    have e1 : ((0 : Int)).toNat = 0 := rfl
    simp only [Int.toNat_natCast, e1, List.drop_zero, Nat.sub_zero]
    rw [List.take_of_length_le (l := l.drop (pos l p)) (by simp), apL_eq (by simp; omega), Option.bind_some, apL_eq (by simp; omega), Option.bind_some]
    unfold stepB
    rw [if_pos hb.1, if_neg hb.2, findB_none hk]
    have := insB_new (b := dataB { zBag with Plate := p } m) (l := l) hk
    rw [this]
    rfl
theorem step_known {m : Message} {l : List Bag} {p q : Plate} (hn : ¬ ((m.Kind = 1 ∨ m.Kind = 2) ∧ m.Do = 2) ∨ p ≠ q) (h : known l q) : known (stepB m l p) q := by
  unfold stepB
  split
  · rename_i hb
    split
    · rename_i hd
      rcases hn with hn | hn
      · exact absurd ⟨hb, hd⟩ hn
      · obtain ⟨b, h1, h2⟩ := h
        exact ⟨b, List.mem_filter.2 ⟨h1, by simpa using fun e => hn (e.symm.trans h2)⟩, h2⟩
    · exact insB_known h
  · split <;> exact insB_known h
theorem rest_step {m : Message} {l : List Bag} {p : Plate} {q : List Plate} (hr : restOk m l (p :: q)) : restOk m (stepB m l p) q := by
  rcases hr with hr | hr | hr
  · exact .inl hr
  · obtain ⟨h1, h2, h3⟩ := hr
    rw [List.nodup_cons] at h2
    exact .inr (.inl ⟨h1, h2.2, fun r hr => step_known (.inr (fun e => h2.1 (e ▸ hr))) (h3 r (List.mem_cons_of_mem _ hr))⟩)
  · obtain ⟨h1, h2, h3⟩ := hr
    exact .inr (.inr ⟨h1, h2, fun r hr => step_known (.inl (fun e => by omega)) (h3 r (List.mem_cons_of_mem _ hr))⟩)
theorem onw_step {m : Message} {l : List Bag} {p : Plate} (ho : m.Onward.length ≤ 1000000) (h : onwOk l) : onwOk (stepB m l p) := by
  have hf : (findB p l).Onward.length ≤ 1000000 := by
    by_cases hk : known l p
    · exact h _ (findB_in hk).1
    · rw [findB_none hk]; exact Nat.zero_le _
  unfold stepB
  have ins : ∀ b : Bag, b.Onward.length ≤ 1000000 → onwOk (insB b l) := fun b hb x hx => by
    rcases insB_mem hx with rfl | hx
    · exact hb
    · exact h x hx
  split
  · split
    · exact fun b hb => h b (List.mem_filter.1 hb).1
    · exact ins _ ho
  · split <;> exact ins _ hf
theorem papply_loop (m : Message) (ho : m.Onward.length ≤ 1000000) : ∀ (ps : List Plate) (k : Nat) (l : List Bag), RegOk l → goesOn m l ps → onwOk l → restOk m l ps → registry_Apply_L1 m ps k l = some (Ctl.brk (ps.foldl (stepB m) l)) ∧ onwOk (ps.foldl (stepB m) l)
  | [], k, l, h, _, hw, _ => ⟨rfl, hw⟩
  | p :: q, k, l, h, hg, hw, hr => by
    rw [pstep m ho l p q k h hw hr]
    obtain ⟨h1, h2⟩ := step_ok m l p q h hg
    exact papply_loop m ho q (k + 1) _ h1 h2 (onw_step ho hw) (rest_step hr)

theorem refB_pos {l : List Bag} {m : Message} {ps : List Plate} (h : refB l m ps = 0) : posOk l m ps := by
  unfold refB at h
  unfold posOk
  by_cases hf : freshM m
  · rw [if_pos hf] at h
    rw [if_pos (show (m.Kind = 1 ∨ m.Kind = 2) ∧ m.Do = 0 from hf)]
    by_cases hk : ∃ p ∈ ps, known l p
    · rw [if_pos hk] at h; cases h
    · rw [if_neg hk] at h
      by_cases h2 : 200 < l.length + ps.length
      · rw [if_pos h2] at h; cases h
      · exact ⟨by omega, fun p hp e => hk ⟨p, hp, e⟩⟩
  · rw [if_neg hf] at h
    rw [if_neg (show ¬ ((m.Kind = 1 ∨ m.Kind = 2) ∧ m.Do = 0) from hf)]
    by_cases hk : ∃ p ∈ ps, ¬ known l p
    · rw [if_pos hk] at h; cases h
    · exact fun p hp => Classical.byContradiction fun e => hk ⟨p, hp, e⟩
/-- Apply, program and reference alike -/
theorem apply_eq (l : List Bag) (m : Message) (hm : MsgOk m) (hw : onwOk l) : ∃ r : Registry × Int, registry_Apply ⟨l⟩ m = some r ∧ ref06_Apply ⟨l⟩ m = some r ∧ (r.2 ≠ 0 → r.1.L = []) ∧
    (r.2 = 0 → RegOk l ∧ ref04_Validate m = some 0 ∧ RegOk r.1.L ∧ onwOk r.1.L ∧ ((m.Kind = 5 ∧ r.1.L = l) ∨ (m.Kind ≠ 5 ∧ ∃ ps, ref04_Plates m = some ps ∧ PlOk ps ∧ refB l m ps = 0 ∧ r.1.L = ps.foldl (stepB m) l))) := by
  unfold registry_Apply ref06_Apply
  rw [regValidate_eq, refValidate_eq, Option.bind_some, Option.bind_some]
  simp only
  by_cases hv : ¬ vReg l = 0
  · rw [show (vReg l != 0) = true by simpa using hv, cond_true, cond_true]
    exact ⟨_, rfl, rfl, fun _ => rfl, fun e => absurd e hv⟩
  have hv := Classical.not_not.1 hv
  have hr := vReg_zero.1 hv
  rw [hv, show ((0 : Int) != 0) = false from rfl, cond_false, cond_false, mval_eq m hm]
  obtain ⟨e, he, _⟩ := mval_t m hm
  rw [he, Option.bind_some, Option.bind_some]
  by_cases h0 : ¬ e = 0
  · rw [show (e != 0) = true by simpa using h0, cond_true, cond_true]
    exact ⟨_, rfl, rfl, fun _ => rfl, fun e => absurd e h0⟩
  have h0 := Classical.not_not.1 h0
  subst h0
  obtain ⟨k1, k2, ho, _, hdo⟩ := val_zero hm he
  have hl := hr.len
  rw [show ((0 : Int) != 0) = false from rfl, cond_false, cond_false, clone_eq l hw (by omega), Option.bind_some, plates_eq]
  obtain ⟨ps, hps, hpo⟩ := plates_t m
  rw [hps, Option.bind_some, Option.bind_some]
  have d5 : (m.Kind == 5) = decide (m.Kind = 5) := rfl
  rw [d5]
  by_cases h5 : m.Kind = 5
  · rw [decide_eq_true h5, cond_true, cond_true, possible_eq l m [] hr (by simp), Option.bind_some]
    have hB : refB l m [] = 0 := by
      unfold refB
      have hnf : ¬ freshM m := fun e => by
        have := e.1
        omega
      rw [if_neg hnf, if_neg (fun ⟨p, hp, _⟩ => by cases hp), if_neg (fun ⟨p, hp, _⟩ => by cases hp)]
    have hL : ref06_Apply_L1 9223372036854775807 = some (Ctl.brk ()) := rfl
    rw [hB, show ((0 : Int) != 0) = false from rfl, cond_false, fin_brkE hL]
    exact ⟨_, rfl, rfl, fun e => absurd rfl e, fun _ => ⟨hr, rfl, hr, hw, .inl ⟨h5, rfl⟩⟩⟩
  · rw [decide_eq_false h5, cond_false, cond_false, possible_eq l m ps hr hpo.1, refused_eq l m ps hr hpo.1, Option.bind_some, Option.bind_some]
    by_cases hB : ¬ refB l m ps = 0
    · rw [show (refB l m ps != 0) = true by simpa using hB, cond_true, cond_true]
      exact ⟨_, rfl, rfl, fun _ => rfl, fun e => absurd e hB⟩
    have hB := Classical.not_not.1 hB
    rw [hB, show ((0 : Int) != 0) = false from rfl, cond_false, cond_false]
    have hpos := refB_pos hB
    have hg := posOk_goesOn hpos hpo.2
    have hrest : restOk m l ps := by
      unfold posOk at hpos
      by_cases hb : m.Kind = 1 ∨ m.Kind = 2
      · by_cases hd : m.Do = 2
        · rw [if_neg (fun e => by omega)] at hpos
          exact .inr (.inl ⟨⟨hb, hd⟩, rplates_nodup hps, hpos⟩)
        · exact .inl ⟨hb, hd⟩
      · rw [if_neg (fun e => hb e.1)] at hpos
        exact .inr (.inr ⟨by omega, hdo hb, hpos⟩)
    obtain ⟨a1, a2⟩ := apply_loop m (by omega) ps 0 l hr hg
    obtain ⟨b1, b2⟩ := papply_loop m (by omega) ps 0 l hr hg hw hrest
    rw [fin_brkE a1, fin_brkE b1]
    exact ⟨_, rfl, rfl, fun e => absurd rfl e, fun _ => ⟨hr, rfl, a2, b2, .inr ⟨h5, ps, rfl, hpo, hB, rfl⟩⟩⟩
end Go.Proofs.Ytkliakcegihikaa.Ex
