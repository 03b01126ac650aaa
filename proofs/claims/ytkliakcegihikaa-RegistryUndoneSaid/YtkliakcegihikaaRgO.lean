/- RegistryUndone: what a message added, its deletion takes away. -/
import Derived.Test.YtkliakcegihikaaRgN
namespace Go.Proofs.Ytkliakcegihikaa.Ex
open Go.RowKit Go.Proofs.Ytkliakcegihikaa.Ax
set_option linter.unusedVariables false
set_option linter.unusedSimpArgs false

set_option maxHeartbeats 2000000 in
theorem count_t (s : Src) (hs : SrcOk s) : okP (keep_Src_Message s 0) (fun r => r.1.Count ≤ 3) := by
  unfold keep_Src_Message
  rw [show ((0 : Int) == 0) = true from rfl, cond_true]
  refine okP_bind (Range_ok s 1 5 hs (by decide) (by decide) (by decide)) (fun k hk => okP_bind (Text_ok _ _ hk.2.2 (by decide) (by decide)) (fun po hpo => okP_bind (Range_ok _ 1 12 hpo.2 (by decide) (by decide) (by decide)) (fun nu hnu => ?_)))
  refine okP_cond (fun h3 => ?_) (fun h3 => okP_cond (fun h4 => ?_) (fun h4 => okP_cond (fun h5 => ?_) (fun h5 => ?_)))
  · exact okP_bind (anyPlate_t _ hnu.2.2) (fun r1 h1 => okP_bind (Range_ok _ 1 3 h1 (by decide) (by decide) (by decide)) (fun r2 h2 => okP_bind (letters_gen _ 1 4 h2.2.2 (by decide) (by decide) (by decide)) (fun r4 hr4 => okP_some h2.2.1)))
  · exact okP_bind (anyPlate_t _ hnu.2.2) (fun r1 h1 => okP_bind (Range_ok _ 1 3 h1 (by decide) (by decide) (by decide)) (fun r2 h2 => okP_bind (legG_t _ h2.2.2) (fun r4 hr4 => okP_some h2.2.1)))
  · refine okP_bind (legG_t _ hnu.2.2) (fun r1 h1 => okP_bind (N_ok _ 12 h1 (by decide) (by decide)) (fun r2 h2 => ?_))
    exact okP_finB (msgL1_t 9223372036854775807 r2.2 [] 0 r2.1 h2.2.2 (by simp; omega) h2.1 (by omega)) (fun q hq => okP_some (show (0 : Int) ≤ 3 by decide))
  · refine okP_bind (Pick_ok _ _ hnu.2.2 (by decide) (by decide)) (fun r1 h1 => okP_bind (legG_t _ h1.2) (fun r2 h2 => okP_bind (anyPlate_t _ h2) (fun r6 h6 => okP_bind (Range_ok _ 1 3 h6 (by decide) (by decide) (by decide)) (fun r7 h7 => ?_))))
    refine okP_cond (fun _ => ?_) (fun _ => ?_)
    · refine okP_bind (legG_t _ h7.2.2) (fun r8 h8 => okP_bind (N_ok _ 4 h8 (by decide) (by decide)) (fun r9 h9 => ?_))
      refine okP_finB (msgL2_t 9223372036854775807 r9.2 [] r9.1 h9.2.2 (by simp; omega) h9.1 (by omega)) (fun q hq => ?_)
      refine okP_bind (N_ok _ 3 hq.1 (by decide) (by decide)) (fun s1 t1 => okP_bind (Range_ok _ 1 4 t1.2.2 (by decide) (by decide) (by decide)) (fun s2 t2 => okP_bind (Range_ok _ 1 4 t2.2.2 (by decide) (by decide) (by decide)) (fun s3 t3 => okP_bind (Pick_ok _ _ t3.2.2 (by decide) (by decide)) (fun s4 t4 => ?_))))
      exact okP_bind (letters_gen _ 1 6 t4.2 (by decide) (by decide) (by decide)) (fun s5 t5 => okP_bind (letters_gen _ 0 5 t5.1 (by decide) (by decide) (by decide)) (fun s6 t6 => okP_bind (Range_ok _ 0 3 t6.1 (by decide) (by decide) (by decide)) (fun s7 t7 => okP_some h7.2.1)))
    · refine okP_bind (N_ok _ 4 h7.2.2 (by decide) (by decide)) (fun r9 h9 => ?_)
      refine okP_finB (msgL2_t 9223372036854775807 r9.2 [] r9.1 h9.2.2 (by simp; omega) h9.1 (by omega)) (fun q hq => ?_)
      refine okP_bind (N_ok _ 3 hq.1 (by decide) (by decide)) (fun s1 t1 => okP_bind (Range_ok _ 1 4 t1.2.2 (by decide) (by decide) (by decide)) (fun s2 t2 => okP_bind (Range_ok _ 1 4 t2.2.2 (by decide) (by decide) (by decide)) (fun s3 t3 => okP_bind (Pick_ok _ _ t3.2.2 (by decide) (by decide)) (fun s4 t4 => ?_))))
      exact okP_bind (letters_gen _ 1 6 t4.2 (by decide) (by decide) (by decide)) (fun s5 t5 => okP_bind (letters_gen _ 0 5 t5.1 (by decide) (by decide) (by decide)) (fun s6 t6 => okP_bind (Range_ok _ 0 3 t6.1 (by decide) (by decide) (by decide)) (fun s7 t7 => okP_some h7.2.1)))

theorem rplates_len {m : Message} {ps : List Plate} (h : ref04_Plates m = some ps) : ps.length ≤ m.Count.toNat := by
  by_cases hp : validP m.First ∧ 1 ≤ m.Count ∧ m.Count ≤ 99
  · rw [rplates_v m hp.1 hp.2.1 hp.2.2] at h
    rw [← Option.some.inj h, runP_len]
    exact Nat.le_refl _
  · have : ref04_Plates m = some [] := by
      unfold ref04_Plates ref01_Run
      rw [refvalid_eq, Option.bind_some]
      by_cases h1 : validP m.First
      · rw [decide_eq_true h1, Bool.not_true, cond_false]
        by_cases h2 : m.Count < 1
        · rw [decide_eq_true h2]; rfl
        · have h3 : ¬ (1 ≤ m.Count ∧ m.Count ≤ 99) := fun e => hp ⟨h1, e⟩
          rw [decide_eq_false h2, cond_false, decide_eq_true (by omega : 99 < m.Count)]; rfl
      · rw [decide_eq_false h1]; rfl
    rw [this] at h
    rw [← Option.some.inj h]
    exact Nat.zero_le _
theorem insB_le (b : Bag) : ∀ l : List Bag, (insB b l).length ≤ l.length + 1
  | [] => Nat.le_refl _
  | x :: l => by
    rw [insB]
    split
    · have := insB_le b l
      simp only [List.length_cons]
      omega
    · split <;> simp only [List.length_cons] <;> omega
theorem step_le (m : Message) (l : List Bag) (p : Plate) : (stepB m l p).length ≤ l.length + 1 := by
  unfold stepB
  split
  · split
    · exact Nat.le_trans (List.length_filter_le _ _) (Nat.le_succ _)
    · exact insB_le _ _
  · split <;> exact insB_le _ _
theorem fold_le (m : Message) : ∀ (ps : List Plate) (l : List Bag), (ps.foldl (stepB m) l).length ≤ l.length + ps.length
  | [], l => Nat.le_refl _
  | p :: q, l => by
    rw [List.foldl_cons, List.length_cons]
    have := fold_le m q (stepB m l p)
    have := step_le m l p
    omega
theorem built3_L (x : Int) : ∀ (n : Nat) (s : Src) (l : List Bag) (i : Int), SrcOk s → RegOk l → onwOk l → (l.length : Int) ≤ 3 * i → 0 ≤ i → x ≤ 1000 → i ≤ x → x - i < n → okP (law06_built_L1 x n s.L s.At l i) (ctlQ (fun _ => False) (fun z => SrcOk ⟨z.1, z.2.1⟩ ∧ RegOk z.2.2 ∧ onwOk z.2.2 ∧ (z.2.2.length : Int) ≤ 3 * x))
  | 0, s, l, i, hs, h, hq, hlen, h0, hx, h1, h2 => by omega
  | n + 1, s, l, i, hs, h, hq, hlen, h0, hx, h1, h2 => by
    have hout : (l.length : Int) ≤ 3 * x := by omega
    rw [law06_built_L1]
    refine okP_cond (fun hi => ?_) (fun _ => okP_some ⟨hs, h, hq, hout⟩)
    have hi := of_decide_eq_true hi
    have hm : okP (keep_Src_More s) (fun _ => True) := okP_some trivial
    refine okP_bind hm (fun b _ => okP_cond (fun _ => ?_) (fun _ => okP_some ⟨hs, h, hq, hout⟩))
    refine okP_bind (okP_and (message_t s hs) (count_t s hs)) (fun r ⟨⟨r1, r2⟩, rc⟩ => ?_)
    obtain ⟨a, _, ha, _, hz⟩ := apply_eq l r.1 r2.ok hq
    rw [ha, Option.bind_some, w64_id (z := i + 1) (by omega) (by omega)]
    refine okP_cond (fun h0 => ?_) (fun _ => built3_L x n r.2 l (i + 1) r1 h hq (by omega) (by omega) hx (by omega) (by omega))
    have h0 : a.2 = 0 := by simpa using h0
    obtain ⟨_, _, h3, h4, h5⟩ := hz h0
    have hle : (a.1.L.length : Int) ≤ 3 * (i + 1) := by
      rcases h5 with ⟨_, e⟩ | ⟨_, ps, hps, _, _, e⟩
      · rw [e]; omega
      · rw [e]
        have := fold_le r.1 ps l
        have := rplates_len hps
        omega
    exact built3_L x n r.2 a.1.L (i + 1) r1 h3 h4 hle (by omega) hx (by omega) (by omega)
theorem built3_t (s : Src) (x : Int) (hs : SrcOk s) (h0 : 0 ≤ x) (hx : x ≤ 1000) : okP (law06_built s x) (fun r => SrcOk r.2 ∧ RegOk r.1.L ∧ onwOk r.1.L ∧ (r.1.L.length : Int) ≤ 3 * x) := by
  unfold law06_built
  exact okP_finB (built3_L x 9223372036854775807 s [] 0 hs regOk_nil (fun b hb => by cases hb) (by simp) (by omega) hx h0 (by omega)) (fun z hz => okP_some hz)

/-- Apply of the program for a valid message about bags -/
theorem apply_v (l : List Bag) (m : Message) (hm : MsgOk m) (hr : RegOk l) (hw : onwOk l) (h0 : ref04_Validate m = some 0) (hk : m.Kind = 1 ∨ m.Kind = 2) {ps : List Plate} (hps : ref04_Plates m = some ps) (hpo : PlOk ps) :
    registry_Apply ⟨l⟩ m = some (if refB l m ps = 0 then (⟨ps.foldl (stepB m) l⟩, 0) else (⟨[]⟩, refB l m ps)) ∧ (refB l m ps = 0 → RegOk (ps.foldl (stepB m) l) ∧ onwOk (ps.foldl (stepB m) l)) := by
  obtain ⟨k1, k2, ho, _, hdo⟩ := val_zero hm h0
  have hl := hr.len
  have main : refB l m ps = 0 → registry_Apply_L1 m ps 0 l = some (Ctl.brk (ps.foldl (stepB m) l)) ∧ RegOk (ps.foldl (stepB m) l) ∧ onwOk (ps.foldl (stepB m) l) := fun hB => by
    have hpos := refB_pos hB
    have hg := posOk_goesOn hpos hpo.2
    have hrest : restOk m l ps := by
      unfold posOk at hpos
      by_cases hd : m.Do = 2
      · rw [if_neg (fun e => by omega)] at hpos
        exact .inr (.inl ⟨⟨hk, hd⟩, rplates_nodup hps, hpos⟩)
      · exact .inl ⟨hk, hd⟩
    obtain ⟨_, a2⟩ := apply_loop m (by omega) ps 0 l hr hg
    obtain ⟨b1, b2⟩ := papply_loop m (by omega) ps 0 l hr hg hw hrest
    exact ⟨b1, a2, b2⟩
  refine ⟨?_, fun hB => (main hB).2⟩
  unfold registry_Apply
  rw [regValidate_eq, Option.bind_some]
  simp only
  rw [vReg_zero.2 hr, show ((0 : Int) != 0) = false from rfl, cond_false, mval_eq m hm, h0, Option.bind_some, show ((0 : Int) != 0) = false from rfl, cond_false, clone_eq l hw (by omega), Option.bind_some, plates_eq, hps, show (m.Kind == 5) = false by simp; omega, cond_false, Option.bind_some, refused_eq l m ps hr hpo.1, Option.bind_some]
  by_cases hB : refB l m ps = 0
  · rw [if_pos hB, hB, show ((0 : Int) != 0) = false from rfl, cond_false, fin_brkE (main hB).1]
  · rw [if_neg hB, show (refB l m ps != 0) = true by simpa using hB, cond_true]

theorem und1 (r : Registry × Src) (hr : RegOk r.1.L) : ∀ (ps : List Plate) (k : Nat) (b : Bool), law06_RegistryUndone_L1 r ps k b = some (Ctl.brk (b || decide (∃ p ∈ ps, known r.1.L p)))
  | [], k, b => by rw [law06_RegistryUndone_L1]; simp
  | p :: ps, k, b => by
    have hf : ref06_Find r.1 p = some (findB p r.1.L, decide (known r.1.L p)) := refFind_eq r.1.L p hr
    rw [law06_RegistryUndone_L1, hf, Option.bind_some, und1 r hr ps, und1 r hr ps]
    cases b
    · rw [cond_false]
      by_cases h : known r.1.L p <;> simp [h]
    · rw [cond_true]; simp
theorem fold_keep {m : Message} {b : Bag} : ∀ (q : List Plate) (l : List Bag), ¬ ((m.Kind = 1 ∨ m.Kind = 2) ∧ m.Do = 2) → b ∈ l → b.Plate ∉ q → b ∈ q.foldl (stepB m) l
  | [], l, _, h, _ => h
  | p :: q, l, hn, h, hb => by
    rw [List.foldl_cons]
    have h1 : b.Plate ≠ p := fun e => hb (e ▸ List.mem_cons_self ..)
    have h2 : b.Plate ∉ q := fun e => hb (List.mem_cons_of_mem _ e)
    refine fold_keep q _ hn ?_ h2
    unfold stepB
    split
    · rename_i hk
      rw [if_neg (fun e => hn ⟨hk, e⟩)]
      exact insB_keeps h1 h
    · split <;> exact insB_keeps h1 h
/-- new bags -/
theorem fold_new {m : Message} (hk : m.Kind = 1 ∨ m.Kind = 2) (hd : m.Do = 0) : ∀ (q : List Plate) (l : List Bag), RegOk l → q.Nodup → (∀ p ∈ q, ¬ known l p) → (∀ p ∈ q, validP p) → l.length + q.length ≤ 200 → (∀ p ∈ q, dataB { zBag with Plate := p } m ∈ q.foldl (stepB m) l) ∧ (q.foldl (stepB m) l).length = l.length + q.length
  | [], l, _, _, _, _, _ => ⟨fun p hp => (by cases hp), rfl⟩
  | p :: q, l, hr, hn, hu, hv, hl => by
    rw [List.foldl_cons]
    rw [List.nodup_cons] at hn
    rw [List.length_cons] at hl ⊢
    have hup := hu p (List.mem_cons_self ..)
    have e : stepB m l p = insB (dataB { zBag with Plate := p } m) l := by
      unfold stepB
      rw [if_pos hk, if_neg (by omega), findB_none hup]
    have hlen : (stepB m l p).length = l.length + 1 := by
      rw [e]
      rcases insB_len (b := dataB { zBag with Plate := p } m) hr.srt with ⟨h1, _⟩ | ⟨_, h2⟩
      · exact h1
      · exact absurd h2 hup
    have hr1 : RegOk (stepB m l p) := by
      rw [e]
      exact regOk_ins hr (hv p (List.mem_cons_self ..)) (.inr (by omega))
    have hu1 : ∀ r ∈ q, ¬ known (stepB m l p) r := fun r hrq hkn => by
      obtain ⟨b, hb1, hb2⟩ := hkn
      rw [e] at hb1
      rcases insB_mem hb1 with rfl | hb1
      · have : p = r := hb2
        exact hn.1 (this ▸ hrq)
      · exact hu r (List.mem_cons_of_mem _ hrq) ⟨b, hb1, hb2⟩
    obtain ⟨i1, i2⟩ := fold_new hk hd q (stepB m l p) hr1 hn.2 hu1 (fun r hr => hv r (List.mem_cons_of_mem _ hr)) (by omega)
    refine ⟨fun r hrq => ?_, by rw [i2, hlen]; omega⟩
    rcases List.mem_cons.1 hrq with rfl | hrq
    · refine fold_keep q _ (fun e => by omega) ?_ hn.1
      rw [e]
      exact insB_self _ _
    · exact i1 r hrq
theorem fold_del {m : Message} (hk : m.Kind = 1 ∨ m.Kind = 2) (hd : m.Do = 2) : ∀ (q : List Plate) (l : List Bag), q.foldl (stepB m) l = away q l
  | [], l => by
    unfold away
    exact (List.filter_eq_self.2 (by simp)).symm
  | p :: q, l => by
    rw [List.foldl_cons, fold_del hk hd q]
    unfold stepB away
    rw [if_pos hk, if_pos hd, List.filter_filter]
    apply List.filter_congr
    intro b _
    by_cases e : b.Plate = p <;> simp [e]
theorem und2 (m : Message × Src) (r : Registry × Int) (hr : RegOk r.1.L) (ho : onwOk r.1.L) (m' : Message) (hm' : m'.In = m.1.In ∧ m'.Out = m.1.Out ∧ m'.Sequence = m.1.Sequence ∧ m'.Weight = m.1.Weight ∧ m'.Load = m.1.Load ∧ m'.Surname = m.1.Surname) : ∀ (ps : List Plate) (k : Nat), (∀ p ∈ ps, dataB { zBag with Plate := p } m' ∈ r.1.L) → law06_RegistryUndone_L2 m r ps k = some (Ctl.brk ())
  | [], k, _ => rfl
  | p :: ps, k, h => by
    obtain ⟨h1, h2, h3, h4, h5, h6⟩ := hm'
    obtain ⟨f1, f2⟩ := mem_find hr (h p (List.mem_cons_self ..))
    have hf : registry_Find r.1 p = some (dataB { zBag with Plate := p } m', true) := by
      have := find_eq r.1.L p hr ho
      rw [show (dataB { zBag with Plate := p } m').Plate = p from rfl] at f1 f2
      rw [f2, decide_eq_true f1] at this
      exact this
    have e1 : (dataB { zBag with Plate := p } m').In = m.1.In := h1
    have e2 : (dataB { zBag with Plate := p } m').Out = m.1.Out := h2
    have e3 : (dataB { zBag with Plate := p } m').Sequence = m.1.Sequence := h3
    have e4 : (dataB { zBag with Plate := p } m').Weight = m.1.Weight := h4
    have e5 : (dataB { zBag with Plate := p } m').Load = m.1.Load := h5
    have e6 : (dataB { zBag with Plate := p } m').Surname = m.1.Surname := h6
    have e7 : (dataB { zBag with Plate := p } m').Node = ⟨#[]⟩ := rfl
    have e8 : (dataB { zBag with Plate := p } m').Unloaded = false := rfl
    rw [law06_RegistryUndone_L2, hf, Option.bind_some]
    simp only [e1, e2, e3, e4, e5, e6, e7, e8, beq_self_eq_true, bne_self_eq_false, Bool.and_true, Bool.and_self, Bool.not_true, cond_false]
    exact und2 m r hr ho m' ⟨h1, h2, h3, h4, h5, h6⟩ ps (k + 1) (fun q hq => h q (List.mem_cons_of_mem _ hq))
theorem regSelf_L (y : Registry) : ∀ (l : List Bag) (k : Nat), y.L.drop k = l → ref06_Same_L1 y l k = some (Ctl.brk ())
  | [], k, h => rfl
  | x :: l, k, h => by
    have hx : y.L[k]? = some x := by rw [← List.head?_drop, h]; rfl
    rw [ref06_Same_L1, ixL_at' k rfl hx, Option.bind_some, samebag_self, Option.bind_some, Bool.not_true, cond_false]
    exact regSelf_L y l (k + 1) (by rw [← List.drop_drop, h]; rfl)
theorem regSelf (y : Registry) : ref06_Same y y = some true := by
  unfold ref06_Same
  rw [bne_self_eq_false, cond_false, fin_brkE (regSelf_L y y.L 0 rfl)]
theorem undone_ok (l : List Int) (x : Int) : law06_RegistryUndone l x = some true := by
  unfold law06_RegistryUndone
  obtain ⟨s, hs, s1⟩ := New_ok l
  obtain ⟨r, hr, r1, r2, r3, r4⟩ := built3_t s 15 s1 (by decide) (by decide)
  obtain ⟨g, hg, g1, g2, g3⟩ := Range_ok r.2 1 2 r1 (by decide) (by decide) (by decide)
  obtain ⟨mm, hm, m1, mv⟩ := messageV g.2 g.1 g3 (by omega)
  have hx0 := Int.emod_nonneg x (show (5 : Int) ≠ 0 by decide)
  have hx1 := Int.emod_lt_of_pos x (show (0 : Int) < 5 by decide)
  rw [hs, Option.bind_some, hr, Option.bind_some, hg, Option.bind_some, hm, Option.bind_some, mod_eq x 5 (by decide) (by decide), Option.bind_some, w64_id (z := 1 + x % 5) (by omega) (by omega), awake06]
  have mv1 : MsgV { mm.1 with Do := 0, Count := 1 + x % 5 } := ⟨mv.kind, mv.port, mv.num, mv.in1, mv.in2, mv.out, mv.onw, mv.first, mv.stat, mv.seq, mv.wei, mv.sur, mv.giv, mv.exc, mv.node, mv.lst⟩
  have mv2 : MsgV { mm.1 with Do := 2, Count := 1 + x % 5 } := ⟨mv.kind, mv.port, mv.num, mv.in1, mv.in2, mv.out, mv.onw, mv.first, mv.stat, mv.seq, mv.wei, mv.sur, mv.giv, mv.exc, mv.node, mv.lst⟩
  have ok1 : MsgOk { mm.1 with Do := 0, Count := 1 + x % 5 } := ⟨by have := mv.sur; show (mm.1.Surname.size : Int) ≤ _; omega, by have := mv.giv; show (mm.1.Given.size : Int) ≤ _; omega⟩
  have ok2 : MsgOk { mm.1 with Do := 2, Count := 1 + x % 5 } := ⟨by have := mv.sur; show (mm.1.Surname.size : Int) ≤ _; omega, by have := mv.giv; show (mm.1.Given.size : Int) ≤ _; omega⟩
  have z1 := msgV_zero mv1 ⟨by show (0 : Int) ≤ 0; decide, by show (0 : Int) ≤ 2; decide⟩ ⟨by show 1 ≤ 1 + x % 5; omega, by show 1 + x % 5 ≤ 99; omega⟩
  have z2 := msgV_zero mv2 ⟨by show (0 : Int) ≤ 2; decide, by show (2 : Int) ≤ 2; decide⟩ ⟨by show 1 ≤ 1 + x % 5; omega, by show 1 + x % 5 ≤ 99; omega⟩
  have p1 := rplates_v { mm.1 with Do := 0, Count := 1 + x % 5 } mv.first (by show 1 ≤ 1 + x % 5; omega) (by show 1 + x % 5 ≤ 99; omega)
  have p2 := rplates_v { mm.1 with Do := 2, Count := 1 + x % 5 } mv.first (by show 1 ≤ 1 + x % 5; omega) (by show 1 + x % 5 ≤ 99; omega)
  have hnd := rplates_nodup p1
  have hpl : PlOk (runP mm.1.First (1 + x % 5).toNat) := by
    obtain ⟨q, hq, hq2⟩ := plates_t { mm.1 with Do := 0, Count := 1 + x % 5 }
    rw [p1] at hq
    rw [Option.some.inj hq]
    exact hq2
  have hlen := runP_len mm.1.First (1 + x % 5).toNat
  simp only at p1 p2 hnd
  generalize hps : runP mm.1.First (1 + x % 5).toNat = ps at *
  obtain ⟨a1, a2⟩ := apply_v r.1.L { mm.1 with Do := 0, Count := 1 + x % 5 } ok1 r2 r3 z1 mv.kind p1 hpl
  have a1' : registry_Apply r.1 { mm.1 with Do := 0, Count := 1 + x % 5 } = _ := a1
  have hfr : freshM { mm.1 with Do := 0, Count := 1 + x % 5 } := ⟨mv.kind, rfl⟩
  have hfr2 : ¬ freshM { mm.1 with Do := 2, Count := 1 + x % 5 } := fun e => by have := e.2; simp at this
  rw [show registry_Apply r.1 (⟨mm.1.Kind, (0 : Int), mm.1.Port, mm.1.Number, mm.1.In, mm.1.Out, mm.1.Onward, mm.1.First, 1 + x % 5, mm.1.Load, mm.1.Status, mm.1.Sequence, mm.1.Weight, mm.1.Surname, mm.1.Given, mm.1.Exception, mm.1.Node, mm.1.List⟩ : Message) = _ from a1, Option.bind_some, show ref04_Plates (⟨mm.1.Kind, (0 : Int), mm.1.Port, mm.1.Number, mm.1.In, mm.1.Out, mm.1.Onward, mm.1.First, 1 + x % 5, mm.1.Load, mm.1.Status, mm.1.Sequence, mm.1.Weight, mm.1.Surname, mm.1.Given, mm.1.Exception, mm.1.Node, mm.1.List⟩ : Message) = some ps from p1, Option.bind_some, fin_brkE (und1 r r2 ps 0 false), Bool.false_or]
  by_cases hkn : ∃ p ∈ ps, known r.1.L p
  · have hB : refB r.1.L { mm.1 with Do := 0, Count := 1 + x % 5 } ps = 5 := by
      unfold refB
      rw [if_pos hfr, if_pos hkn]
    rw [decide_eq_true hkn, cond_true, hB]
    rfl
  · have hle : ¬ 200 < r.1.L.length + ps.length := by omega
    have hB : refB r.1.L { mm.1 with Do := 0, Count := 1 + x % 5 } ps = 0 := by
      unfold refB
      rw [if_pos hfr, if_neg hkn, if_neg hle]
    have hun : ∀ p ∈ ps, ¬ known r.1.L p := fun p hp e => hkn ⟨p, hp, e⟩
    obtain ⟨b1, b2⟩ := a2 hB
    obtain ⟨n1, n2⟩ := fold_new (m := { mm.1 with Do := 0, Count := 1 + x % 5 }) mv.kind rfl ps r.1.L r2 hnd hun hpl.2 (by omega)
    rw [decide_eq_false hkn, cond_false, if_pos hB]
    simp only
    rw [show ((0 : Int) != 0) = false from rfl, cond_false, n2, w64_id (z := (r.1.L.length : Int) + (ps.length : Int)) (by omega) (by omega)]
    rw [show ((((r.1.L.length + ps.length : Nat)) : Int) != (r.1.L.length : Int) + (ps.length : Int)) = false by simp, cond_false]
    have u2 := und2 mm (⟨ps.foldl (stepB { mm.1 with Do := 0, Count := 1 + x % 5 }) r.1.L⟩, 0) b1 b2 { mm.1 with Do := 0, Count := 1 + x % 5 } ⟨rfl, rfl, rfl, rfl, rfl, rfl⟩ ps 0 n1
    rw [fin_brkE u2]
    obtain ⟨c1, _⟩ := apply_v (ps.foldl (stepB { mm.1 with Do := 0, Count := 1 + x % 5 }) r.1.L) { mm.1 with Do := 2, Count := 1 + x % 5 } ok2 b1 b2 z2 mv.kind p2 hpl
    have hall : ∀ p ∈ ps, known (ps.foldl (stepB { mm.1 with Do := 0, Count := 1 + x % 5 }) r.1.L) p := fun p hp => ⟨_, n1 p hp, rfl⟩
    have hB2 : refB (ps.foldl (stepB { mm.1 with Do := 0, Count := 1 + x % 5 }) r.1.L) { mm.1 with Do := 2, Count := 1 + x % 5 } ps = 0 := by
      unfold refB
      rw [if_neg hfr2, if_neg (fun ⟨p, hp, e⟩ => e (hall p hp)), if_neg]
      rintro ⟨p, hp, e, _⟩
      have e : mm.1.Kind = 4 := e
      have := mv.kind
      omega
    rw [if_pos hB2, fold_del (m := { mm.1 with Do := 2, Count := 1 + x % 5 }) mv.kind rfl, fold_away ps r.1.L (fun p hp => hp)] at c1
    have hself : away ps r.1.L = r.1.L := by
      unfold away
      rw [List.filter_eq_self]
      intro b hb
      simpa using fun e => hun b.Plate e ⟨b, hb, rfl⟩
    rw [hself] at c1
    rw [show registry_Apply (⟨ps.foldl (stepB { mm.1 with Do := 0, Count := 1 + x % 5 }) r.1.L⟩ : Registry) (⟨mm.1.Kind, (2 : Int), mm.1.Port, mm.1.Number, mm.1.In, mm.1.Out, mm.1.Onward, mm.1.First, 1 + x % 5, mm.1.Load, mm.1.Status, mm.1.Sequence, mm.1.Weight, mm.1.Surname, mm.1.Given, mm.1.Exception, mm.1.Node, mm.1.List⟩ : Message) = _ from c1, Option.bind_some]
    simp only
    rw [show ((0 : Int) == 0) = true from rfl, cond_true, show ref06_Same (⟨r.1.L⟩ : Registry) r.1 = some true from regSelf r.1]
    rfl
end Go.Proofs.Ytkliakcegihikaa.Ex
