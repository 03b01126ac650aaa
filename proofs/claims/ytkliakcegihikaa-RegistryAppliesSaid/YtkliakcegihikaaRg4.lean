/- RegistryLocal: a message touches no other bag. -/
/- Messages that are drawn are valid. -/
/- RegistryUndone: what a message added, its deletion takes away. -/
import Derived.Test.YtkliakcegihikaaRg3
namespace Go.Proofs.Ytkliakcegihikaa.Ex
open Go.RowKit Go.Proofs.Ytkliakcegihikaa.Ax
set_option linter.unusedVariables false
set_option linter.unusedSimpArgs false

theorem built2_L (x : Int) : ∀ (n : Nat) (s : Src) (l : List Bag) (i : Int), SrcOk s → RegOk l → onwOk l → 0 ≤ i → x ≤ 1000 → i ≤ 1000 → 1000 - i < n → okP (law06_built_L1 x n s.L s.At l i) (ctlQ (fun _ => False) (fun z => SrcOk ⟨z.1, z.2.1⟩ ∧ RegOk z.2.2 ∧ onwOk z.2.2))
  | 0, s, l, i, hs, h, hq, h0, hx, h1, h2 => by omega
  | n + 1, s, l, i, hs, h, hq, h0, hx, h1, h2 => by
    rw [law06_built_L1]
    refine okP_cond (fun hi => ?_) (fun _ => okP_some ⟨hs, h, hq⟩)
    have hi := of_decide_eq_true hi
    have hm : okP (keep_Src_More s) (fun _ => True) := okP_some trivial
    refine okP_bind hm (fun b _ => okP_cond (fun _ => ?_) (fun _ => okP_some ⟨hs, h, hq⟩))
    refine okP_bind (message_t s hs) (fun r ⟨r1, r2⟩ => ?_)
    obtain ⟨a, _, ha, _, hz⟩ := apply_eq l r.1 r2.ok hq
    rw [ha, Option.bind_some, w64_id (z := i + 1) (by omega) (by omega)]
    refine okP_cond (fun h0 => ?_) (fun _ => built2_L x n r.2 l (i + 1) r1 h hq (by omega) hx (by omega) (by omega))
    have h0 : a.2 = 0 := by simpa using h0
    obtain ⟨_, _, h3, h4, _⟩ := hz h0
    exact built2_L x n r.2 a.1.L (i + 1) r1 h3 h4 (by omega) hx (by omega) (by omega)
theorem built2_t (s : Src) (x : Int) (hs : SrcOk s) (hx : x ≤ 1000) : okP (law06_built s x) (fun r => SrcOk r.2 ∧ RegOk r.1.L ∧ onwOk r.1.L) := by
  unfold law06_built
  exact okP_finB (built2_L x 9223372036854775807 s [] 0 hs regOk_nil (fun b hb => by cases hb) (by omega) hx (by omega) (by omega)) (fun z hz => okP_some hz)

/-- bags away from some plates -/
def away (ps : List Plate) (l : List Bag) : List Bag := l.filter (fun b => !decide (b.Plate ∈ ps))
theorem insB_away {ps : List Plate} {b : Bag} (hb : b.Plate ∈ ps) : ∀ l : List Bag, away ps (insB b l) = away ps l
  | [] => by unfold away; rw [insB, List.filter_cons_of_neg (by simpa using hb)]
  | x :: l => by
    have ih := insB_away hb l
    unfold away at ih ⊢
    rw [insB]
    split
    · by_cases hx : x.Plate ∈ ps
      · rw [List.filter_cons_of_neg (by simpa using hx), List.filter_cons_of_neg (by simpa using hx), ih]
      · rw [List.filter_cons_of_pos (by simpa using hx), List.filter_cons_of_pos (by simpa using hx), ih]
    · split
      · rename_i e
        rw [List.filter_cons_of_neg (by simpa using hb), List.filter_cons_of_neg (by simpa [e] using hb)]
      · rw [List.filter_cons_of_neg (by simpa using hb)]
theorem step_away {ps : List Plate} {m : Message} {l : List Bag} {p : Plate} (hp : p ∈ ps) : away ps (stepB m l p) = away ps l := by
  unfold stepB
  split
  · split
    · unfold away
      rw [List.filter_filter]
      apply List.filter_congr
      intro b _
      by_cases e : b.Plate = p
      · simp [e, hp]
      · simp [e]
    · exact insB_away hp l
  · split <;> exact insB_away hp l
theorem fold_away {ps : List Plate} {m : Message} : ∀ (q : List Plate) (l : List Bag), (∀ p ∈ q, p ∈ ps) → away ps (q.foldl (stepB m) l) = away ps l
  | [], l, _ => rfl
  | p :: q, l, h => by
    rw [List.foldl_cons, fold_away q _ (fun r hr => h r (List.mem_cons_of_mem _ hr)), step_away (h p (List.mem_cons_self ..))]

theorem loc2 (e : Bag) : ∀ (ps : List Plate) (k : Nat) (b : Bool), law06_RegistryLocal_L2 e ps k b = some (Ctl.brk (b || decide (e.Plate ∈ ps)))
  | [], k, b => by rw [law06_RegistryLocal_L2]; simp
  | p :: ps, k, b => by
    rw [law06_RegistryLocal_L2, loc2 e ps, loc2 e ps, plate_beq]
    cases b
    · rw [cond_false]
      by_cases h : p = e.Plate
      · simp [h]
      · have h' : ¬ e.Plate = p := fun e => h e.symm
        simp [h, h']
    · rw [cond_true]; simp
theorem sb_L (y : Bag) : ∀ (l : List Leg) (k : Nat), y.Onward.drop k = l → ref06_SameBag_L1 y l k = some (Ctl.brk ())
  | [], k, h => rfl
  | x :: l, k, h => by
    have hx : y.Onward[k]? = some x := by rw [← List.head?_drop, h]; rfl
    rw [ref06_SameBag_L1, ixL_at' k rfl hx, Option.bind_some]
    simp only [beq_self_eq_true, Bool.and_true, Bool.and_self, Bool.not_true, cond_false]
    exact sb_L y l (k + 1) (by rw [← List.drop_drop, h]; rfl)
theorem samebag_self (b : Bag) : ref06_SameBag b b = some true := by
  unfold ref06_SameBag
  have hL := sb_L b b.Onward 0 rfl
  simp only [beq_self_eq_true, bne_self_eq_false, Bool.and_true, Bool.and_self, Bool.not_true, cond_false, cond_true, fin_brkE hL]
theorem mem_find {l : List Bag} {b : Bag} (h : RegOk l) (hb : b ∈ l) : known l b.Plate ∧ findB b.Plate l = b := by
  have hk : known l b.Plate := ⟨b, hb, rfl⟩
  obtain ⟨h1, h2⟩ := findB_in hk
  exact ⟨hk, known_uniq h2 l h.srt h1 hb⟩
theorem mem_away {ps : List Plate} {l : List Bag} {b : Bag} : b ∈ away ps l ↔ b ∈ l ∧ b.Plate ∉ ps := by
  unfold away
  rw [List.mem_filter]
  simp
/-- the first count: every bag that must be there is there, as it was -/
theorem loc1 (m : Message × Src) (r : Registry × Int) (ps : List Plate) (hr : RegOk r.1.L) (ho : onwOk r.1.L) : ∀ (l : List Bag) (k : Nat) (i : Int), 0 ≤ i → i + l.length ≤ 1000000 → (∀ b ∈ l, (m.1.Kind = 5 ∨ b.Plate ∉ ps) → b ∈ r.1.L) → law06_RegistryLocal_L1 m r ps l k i = some (Ctl.brk (i + if m.1.Kind = 5 then (l.length : Int) else ((away ps l).length : Int)))
  | [], k, i, _, _, _ => by
    rw [law06_RegistryLocal_L1]
    unfold away
    simp
  | b :: l, k, i, h0, h1, h => by
    rw [List.length_cons] at h1
    have ih0 := loc1 m r ps hr ho l (k + 1) i h0 (by omega) (fun x hx => h x (List.mem_cons_of_mem _ hx))
    have ih1 := loc1 m r ps hr ho l (k + 1) (i + 1) (by omega) (by omega) (fun x hx => h x (List.mem_cons_of_mem _ hx))
    rw [law06_RegistryLocal_L1, sub_brkE (loc2 b ps 0 false), Bool.false_or]
    have n5 : (m.1.Kind != 5) = !decide (m.1.Kind = 5) := rfl
    have hfound : b ∈ r.1.L → registry_Find r.1 b.Plate = some (b, true) := fun hb => by
      obtain ⟨f1, f2⟩ := mem_find hr hb
      have := find_eq r.1.L b.Plate hr ho
      rw [f2, decide_eq_true f1] at this
      exact this
    by_cases hp : b.Plate ∈ ps
    · rw [decide_eq_true hp, cond_true, n5]
      by_cases h5 : m.1.Kind = 5
      · rw [decide_eq_true h5, Bool.not_true, cond_false, hfound (h b (List.mem_cons_self ..) (.inl h5)), Option.bind_some]
        simp only
        rw [Bool.not_true, cond_false, samebag_self, Option.bind_some, Bool.not_true, cond_false, w64_id (z := i + 1) (by omega) (by omega), ih1, if_pos h5, if_pos h5, List.length_cons]
        congr 2
        omega
      · rw [decide_eq_false h5, Bool.not_false, cond_true, ih0, if_neg h5, if_neg h5]
        unfold away
        rw [List.filter_cons_of_neg (by simpa using hp)]
    · rw [decide_eq_false hp, cond_false, hfound (h b (List.mem_cons_self ..) (.inr hp)), Option.bind_some]
      simp only
      rw [Bool.not_true, cond_false, samebag_self, Option.bind_some, Bool.not_true, cond_false, w64_id (z := i + 1) (by omega) (by omega), ih1]
      congr 2
      have e : (away ps (b :: l)).length = (away ps l).length + 1 := by
        unfold away
        rw [List.filter_cons_of_pos (by simpa using hp), List.length_cons]
      rw [e, List.length_cons]
      split <;> omega
theorem loc3 (ps : List Plate) : ∀ (l : List Bag) (k : Nat) (i : Int), -1000000 ≤ i → i ≤ 1000000 → l.length ≤ 1000000 → law06_RegistryLocal_L3 ps l k i = some (Ctl.brk (i - ((away ps l).length : Int))) ∨ i - l.length < -1000000
  | [], k, i, _, _, _ => by
    left
    rw [law06_RegistryLocal_L3]
    unfold away
    simp
  | b :: l, k, i, h0, h1, h2 => by
    rw [List.length_cons] at h2 ⊢
    rw [law06_RegistryLocal_L3, sub_brkE (loc2 b ps 0 false), Bool.false_or]
    by_cases hbig : i - ((l.length + 1 : Nat) : Int) < -1000000
    · exact .inr hbig
    left
    by_cases hp : b.Plate ∈ ps
    · rw [decide_eq_true hp, Bool.not_true, cond_false]
      have e : away ps (b :: l) = away ps l := by
        unfold away
        rw [List.filter_cons_of_neg (by simpa using hp)]
      rw [e]
      exact (loc3 ps l (k + 1) i h0 h1 (by omega)).resolve_right (by omega)
    · rw [decide_eq_false hp, Bool.not_false, cond_true, w64_id (z := i - 1) (by omega) (by omega)]
      have e : (away ps (b :: l)).length = (away ps l).length + 1 := by
        unfold away
        rw [List.filter_cons_of_pos (by simpa using hp), List.length_cons]
      rw [e, (loc3 ps l (k + 1) (i - 1) (by omega) (by omega) (by omega)).resolve_right (by omega)]
      congr 2
      omega
theorem local_ok (l : List Int) : law06_RegistryLocal l = some true := by
  unfold law06_RegistryLocal
  obtain ⟨s, hs, s1⟩ := New_ok l
  obtain ⟨r, hr, r1, r2, r3⟩ := built2_t s 20 s1 (by decide)
  obtain ⟨mm, hm, m1, m2⟩ := message_t r.2 r1
  obtain ⟨a, ha, _, hne, hz⟩ := apply_eq r.1.L mm.1 m2.ok r3
  obtain ⟨ps, hps, hpo⟩ := plates_t mm.1
  rw [hs, Option.bind_some, hr, Option.bind_some, hm, Option.bind_some, show registry_Apply r.1 mm.1 = some a from ha, Option.bind_some]
  rw [awake06]
  by_cases h0 : a.2 = 0
  · rw [show (a.2 != 0) = false by simp [h0], cond_false, hps, Option.bind_some]
    obtain ⟨_, _, a1, a2, h5⟩ := hz h0
    have hal := a1.len
    have hrl := r2.len
    have hin : ∀ b ∈ r.1.L, (mm.1.Kind = 5 ∨ b.Plate ∉ ps) → b ∈ a.1.L := by
      intro b hb hc
      rcases h5 with ⟨h5, e⟩ | ⟨h5, qs, hq, _, _, e⟩
      · rw [e]; exact hb
      · have : qs = ps := by rw [hps] at hq; exact (Option.some.inj hq).symm
        subst this
        rcases hc with hc | hc
        · exact absurd hc h5
        · have := (mem_away (ps := qs)).2 ⟨hb, hc⟩
          rw [← fold_away (m := mm.1) qs r.1.L (fun p hp => hp), ← e] at this
          exact (mem_away.1 this).1
    rw [fin_brkE (loc1 mm a ps a1 a2 r.1.L 0 0 (by omega) (by omega) hin)]
    have hal2 : (away ps r.1.L).length ≤ r.1.L.length := List.length_filter_le _ _
    have hL3 := (loc3 ps a.1.L 0 (0 + if mm.1.Kind = 5 then (r.1.L.length : Int) else ((away ps r.1.L).length : Int)) (by split <;> omega) (by split <;> omega) (by omega)).resolve_right (by split <;> omega)
    rw [fin_brkE hL3]
    rcases h5 with ⟨h5, e⟩ | ⟨h5, qs, hq, _, _, e⟩
    · rw [show (mm.1.Kind == 5) = true by simp [h5], cond_true]
      split
      · rw [cond_ite]; split <;> rfl
      · rw [cond_ite]; split <;> rfl
    · have : qs = ps := by rw [hps] at hq; exact (Option.some.inj hq).symm
      subst this
      rw [if_neg h5, e, fold_away qs r.1.L (fun p hp => hp)]
      rw [show ((0 + ((away qs r.1.L).length : Int) - ((away qs r.1.L).length : Int)) == 0) = true by simp, cond_true]
      rfl
  · rw [show (a.2 != 0) = true by simpa using h0, cond_true, hne h0]
    rfl

theorem carrierV {x : ByteArray} (h : x ∈ ([(⟨#[83, 75]⟩ : ByteArray), (⟨#[65, 89]⟩ : ByteArray), (⟨#[52, 85]⟩ : ByteArray)] : List ByteArray)) : ref02_Carrier x = some true := by
  simp only [List.mem_cons, List.not_mem_nil, or_false] at h
  rcases h with h | h | h <;> rw [h] <;> kernel_rfl
theorem suffixV {x : ByteArray} (h : x ∈ ([(⟨#[]⟩ : ByteArray), (⟨#[]⟩ : ByteArray), (⟨#[65]⟩ : ByteArray)] : List ByteArray)) : ref02_Suffix x = some true := by
  simp only [List.mem_cons, List.not_mem_nil, or_false] at h
  rcases h with h | h | h <;> rw [h] <;> kernel_rfl
theorem portV {x : ByteArray} (h : x ∈ ([(⟨#[67, 80, 72]⟩ : ByteArray), (⟨#[65, 82, 78]⟩ : ByteArray), (⟨#[79, 83, 76]⟩ : ByteArray)] : List ByteArray)) : ref02_ValidPort x = some true := by
  simp only [List.mem_cons, List.not_mem_nil, or_false] at h
  rcases h with h | h | h <;> rw [h] <;> kernel_rfl
theorem port2V {x : ByteArray} (h : x ∈ ([(⟨#[65, 82, 78]⟩ : ByteArray), (⟨#[67, 80, 72]⟩ : ByteArray)] : List ByteArray)) : ref02_ValidPort x = some true := by
  simp only [List.mem_cons, List.not_mem_nil, or_false] at h
  rcases h with h | h <;> rw [h] <;> kernel_rfl
theorem classV {x : ByteArray} (h : x ∈ ([(⟨#[89]⟩ : ByteArray), (⟨#[67]⟩ : ByteArray), (⟨#[70]⟩ : ByteArray)] : List ByteArray)) : ref02_ValidClass x = some true := by
  simp only [List.mem_cons, List.not_mem_nil, or_false] at h
  rcases h with h | h | h <;> rw [h] <;> kernel_rfl
theorem flightV (s : Src) (hs : SrcOk s) : okP (keep_Src_AnyFlight s) (fun r => SrcOk r.2 ∧ ref02_Valid r.1 = some true) := by
  unfold keep_Src_AnyFlight
  refine okP_bind (Text_ok s _ hs (by decide) (by decide)) (fun r hr => okP_bind (Pick_ok _ _ hr.2 (by decide) (by decide)) (fun r2 hr2 => ?_))
  refine okP_bind (Text_ok _ _ hr2.2 (by decide) (by decide)) (fun r3 hr3 => okP_bind (Pick_ok _ _ hr3.2 (by decide) (by decide)) (fun r4 hr4 => okP_some ⟨hr4.2, ?_⟩))
  unfold ref02_Valid
  have h2 := hr2.1
  have h4 := hr4.1
  simp only [List.mem_cons, List.not_mem_nil, or_false] at h2 h4
  simp only [carrierV hr.1, suffixV hr3.1, Option.bind_some, cond_true]
  rw [decide_eq_true (by omega : 1 ≤ r2.1), cond_true, decide_eq_true (by omega : r2.1 ≤ 9999), cond_true, decide_eq_true (by omega : 0 ≤ r4.1), cond_true, decide_eq_true (by omega : r4.1 ≤ 99)]
theorem legV (s : Src) (hs : SrcOk s) : okP (keep_Src_Leg s) (fun r => SrcOk r.2 ∧ ref02_ValidLeg r.1 = some true) := by
  unfold keep_Src_Leg
  refine okP_bind (flightV s hs) (fun r hr => okP_bind (Text_ok _ _ hr.1 (by decide) (by decide)) (fun r2 hr2 => ?_))
  refine okP_bind (Text_ok _ _ hr2.2 (by decide) (by decide)) (fun r3 hr3 => okP_some ⟨hr3.2, ?_⟩)
  unfold ref02_ValidLeg
  simp only [hr.2, portV hr2.1, classV hr3.1, Option.bind_some, cond_true]
theorem plateV (s : Src) (hs : SrcOk s) : okP (keep_Src_AnyPlate s) (fun r => SrcOk r.2 ∧ validP r.1) := by
  unfold keep_Src_AnyPlate
  refine okP_bind (N_ok s 2 hs (by decide) (by decide)) (fun r hr => okP_bind (N_ok _ 2 hr.2.2 (by decide) (by decide)) (fun r2 hr2 => ?_))
  refine okP_bind (Pick_ok _ _ hr2.2.2 (by decide) (by decide)) (fun r3 hr3 => okP_some ⟨hr3.2, ?_⟩)
  have h3 := hr3.1
  simp only [List.mem_cons, List.not_mem_nil, or_false] at h3
  have := hr.1
  have := hr.2.1
  have := hr2.1
  have := hr2.2.1
  unfold validP
  simp only
  rw [w64_id (z := 117 + r2.1) (by omega) (by omega)]
  omega

theorem byL_bytesF (l : List Int) (h : ∀ x ∈ l, isL x) : ∀ b ∈ byL (bytesF l), isL b := by
  have e : ∀ (l : List Int) (s : ByteArray), (l.foldl (fun r n => r.push (UInt8.ofNat n.toNat)) s).data.toList = s.data.toList ++ l.map (fun n => UInt8.ofNat n.toNat) := by
    intro l
    induction l with
    | nil => intro s; simp
    | cons x l ih =>
      intro s
      rw [List.foldl_cons, ih]
      have : (s.push (UInt8.ofNat x.toNat)).data = s.data.push (UInt8.ofNat x.toNat) := rfl
      rw [this, Array.toList_push, List.append_assoc]
      rfl
  intro b hb
  unfold byL at hb
  obtain ⟨u, hu, rfl⟩ := List.mem_map.1 hb
  have hu : u ∈ l.map (fun n => UInt8.ofNat n.toNat) := by
    have := e l ⟨#[]⟩
    unfold bytesF at hu
    rw [show (⟨#[]⟩ : ByteArray).data.toList = [] from rfl, List.nil_append] at this
    rw [← this]
    exact hu
  obtain ⟨x, hx, rfl⟩ := List.mem_map.1 hu
  have hL := h x hx
  unfold isL at hL ⊢
  rw [UInt8.toNat_ofNat']
  omega
theorem lettersV_L : ∀ (n : Nat) (s : Src) (l : List Int) (i : Int), SrcOk s → l.length ≤ 1000 → 0 ≤ i → i ≤ l.length → (l.length : Int) - i < n → (∀ (k : Nat) (x : Int), (k : Int) < i → l[k]? = some x → isL x) → okP (keep_Src_Letters_L1 n s.L s.At l i) (ctlQ (fun _ => False) (fun z => SrcOk ⟨z.1, z.2.1⟩ ∧ z.2.2.length = l.length ∧ ∀ x ∈ z.2.2, isL x))
  | 0, s, l, i, hs, hl, h0, h1, h2, hk => by omega
  | n + 1, s, l, i, hs, hl, h0, h1, h2, hk => by
    rw [keep_Src_Letters_L1]
    refine okP_cond (fun h => ?_) (fun h => okP_some ⟨hs, rfl, fun x hx => ?_⟩)
    · have h := of_decide_eq_true h
      refine okP_bind (N_ok s 26 hs (by decide) (by decide)) (fun r ⟨r1, r2, r3⟩ => ?_)
      refine okP_bind (okP_ixL (Q := fun _ => True) h0 h (fun _ _ _ => trivial)) (fun _ _ => ?_)
      have hv : IntKind.u8.wrap (w64 (65 + r.1)) = 65 + r.1 := by
        rw [w64_id (by omega) (by omega), IntKind.wrap_u8]
        omega
      rw [w64_id (z := i + 1) (by omega) (by omega), hv]
      have ih := lettersV_L n r.2 (l.set i.toNat (65 + r.1)) (i + 1) r3 (by simpa using hl) (by omega) (by simp; omega) (by simp; omega) (fun k x hk1 hx => by
        rw [List.getElem?_set] at hx
        by_cases e : i.toNat = k
        · rw [if_pos e] at hx
          split at hx
          · have := Option.some.inj hx
            unfold isL
            omega
          · cases hx
        · rw [if_neg e] at hx
          exact hk k x (by omega) hx)
      rw [List.length_set] at ih
      exact ih
    · have h := of_decide_eq_false h
      have hx : x ∈ l := hx
      obtain ⟨k, hk2⟩ := List.mem_iff_getElem?.1 hx
      have := (List.getElem?_eq_some_iff.1 hk2).1
      exact hk k x (by omega) hk2
theorem lettersV (s : Src) (lo hi : Int) (hs : SrcOk s) (h0 : 0 ≤ lo) (h1 : lo ≤ hi) (h2 : hi ≤ 1000) : okP (keep_Src_Letters s lo hi) (fun r => SrcOk r.2 ∧ lo ≤ (r.1.size : Int) ∧ (r.1.size : Int) ≤ hi ∧ allL r.1) := by
  unfold keep_Src_Letters
  refine okP_bind (Range_ok s lo hi hs h1 (by omega) (by omega)) (fun r ⟨r1, r2, r3⟩ => ?_)
  rw [mkL_eq (by omega) (by omega), Option.bind_some]
  refine okP_finB (lettersV_L 9223372036854775807 r.2 (List.replicate r.1.toNat 0) 0 r3 (by simp; omega) (by omega) (by rw [List.length_replicate]; omega) (by rw [List.length_replicate]; omega) (fun k x hk => by omega)) (fun z ⟨z1, z2, z3⟩ => okP_some ⟨z1, ?_, ?_, byL_bytesF _ z3⟩)
  · rw [bytesF_size, z2, List.length_replicate]
    omega
  · rw [bytesF_size, z2, List.length_replicate]
    omega
theorem legsV_L : ∀ (n : Nat) (s : Src) (l : List Leg) (j : Int), SrcOk s → (l.length : Int) + j ≤ 3 → 0 ≤ j → j < n → (∀ x ∈ l, ref02_ValidLeg x = some true) → okP (keep_Src_Message_L2 n s.L s.At l j) (ctlQ (fun _ => False) (fun z => SrcOk ⟨z.2.2.1, z.2.2.2.1⟩ ∧ z.2.2.2.2.length ≤ 3 ∧ ∀ x ∈ z.2.2.2.2, ref02_ValidLeg x = some true))
  | 0, s, l, j, hs, h0, h1, h2, hv => by omega
  | n + 1, s, l, j, hs, h0, h1, h2, hv => by
    rw [keep_Src_Message_L2]
    refine okP_cond (fun h => ?_) (fun _ => okP_some ⟨hs, by show l.length ≤ 3; omega, hv⟩)
    have h := of_decide_eq_true h
    refine okP_bind (legV s hs) (fun r hr => ?_)
    rw [apL_eq (by simp; omega), Option.bind_some, w64_id (z := j - 1) (by omega) (by omega)]
    refine legsV_L n r.2 _ (j - 1) hr.1 (by simp; omega) (by omega) (by omega) (fun x hx => ?_)
    rcases List.mem_append.1 hx with hx | hx
    · exact hv x hx
    · rw [List.mem_singleton.1 hx]; exact hr.2

/-- a message about bags that was drawn -/
structure MsgV (m : Message) : Prop where
  kind : m.Kind = 1 ∨ m.Kind = 2
  port : ref02_ValidPort m.Port = some true
  num : 1 ≤ m.Number ∧ m.Number ≤ 9999
  in1 : m.Kind = 1 → m.In = zLeg
  in2 : m.Kind = 2 → ref02_ValidLeg m.In = some true
  out : ref02_ValidLeg m.Out = some true
  onw : m.Onward.length ≤ 3 ∧ ∀ x ∈ m.Onward, ref02_ValidLeg x = some true
  first : validP m.First
  stat : 1 ≤ m.Status ∧ m.Status ≤ 4
  seq : 1 ≤ m.Sequence ∧ m.Sequence ≤ 4
  wei : 0 ≤ m.Weight ∧ m.Weight ≤ 999
  sur : 1 ≤ (m.Surname.size : Int) ∧ (m.Surname.size : Int) ≤ 20 ∧ allL m.Surname
  giv : (m.Given.size : Int) ≤ 20 ∧ allL m.Given
  exc : 0 ≤ m.Exception ∧ m.Exception ≤ 3
  node : m.Node = ⟨#[]⟩
  lst : m.List = []
set_option maxHeartbeats 2000000 in
theorem messageV (s : Src) (k : Int) (hs : SrcOk s) (hk : k = 1 ∨ k = 2) : okP (keep_Src_Message s k) (fun r => SrcOk r.2 ∧ MsgV r.1) := by
  unfold keep_Src_Message
  rw [show (k == 0) = false by simp; omega, cond_false]
  refine okP_bind (Text_ok _ _ hs (by decide) (by decide)) (fun po hpo => okP_bind (Range_ok _ 1 12 hpo.2 (by decide) (by decide) (by decide)) (fun nu hnu => ?_))
  rw [show (k == 3) = false by simp; omega, cond_false, show (k == 4) = false by simp; omega, cond_false, show (k == 5) = false by simp; omega, cond_false]
  refine okP_bind (Pick_ok _ _ hnu.2.2 (by decide) (by decide)) (fun r1 h1 => okP_bind (legV _ h1.2) (fun r2 h2 => okP_bind (plateV _ h2.1) (fun r6 h6 => okP_bind (Range_ok _ 1 3 h6.1 (by decide) (by decide) (by decide)) (fun r7 h7 => ?_))))
  have hw : ∀ x : Int, x ∈ ([20, 0, 999] : List Int) → 0 ≤ x ∧ x ≤ 999 := fun x hx => by
    simp only [List.mem_cons, List.not_mem_nil, or_false] at hx
    omega
  refine okP_cond (fun hk2 => ?_) (fun hk2 => ?_)
  · have hk2 : k = 2 := by simpa using hk2
    refine okP_bind (legV _ h7.2.2) (fun r8 h8 => okP_bind (N_ok _ 4 h8.1 (by decide) (by decide)) (fun r9 h9 => ?_))
    refine okP_finB (legsV_L 9223372036854775807 r9.2 [] r9.1 h9.2.2 (by simp; omega) h9.1 (by omega) (fun x hx => by cases hx)) (fun q hq => ?_)
    refine okP_bind (N_ok _ 3 hq.1 (by decide) (by decide)) (fun s1 t1 => okP_bind (Range_ok _ 1 4 t1.2.2 (by decide) (by decide) (by decide)) (fun s2 t2 => okP_bind (Range_ok _ 1 4 t2.2.2 (by decide) (by decide) (by decide)) (fun s3 t3 => okP_bind (Pick_ok _ _ t3.2.2 (by decide) (by decide)) (fun s4 t4 => ?_))))
    refine okP_bind (lettersV _ 1 6 t4.2 (by decide) (by decide) (by decide)) (fun s5 t5 => okP_bind (lettersV _ 0 5 t5.1 (by decide) (by decide) (by decide)) (fun s6 t6 => okP_bind (Range_ok _ 0 3 t6.1 (by decide) (by decide) (by decide)) (fun s7 t7 => okP_some ⟨t7.2.2, ?_⟩)))
    exact ⟨hk, port2V hpo.1, ⟨hnu.1, by show nu.1 ≤ 9999; have := hnu.2.1; omega⟩, fun e => by have e : k = 1 := e; omega, fun _ => h8.2, h2.2, hq.2, h6.2, ⟨t2.1, t2.2.1⟩, ⟨t3.1, t3.2.1⟩, hw _ t4.1, ⟨t5.2.1, by show (s5.1.size : Int) ≤ 20; have := t5.2.2.1; omega, t5.2.2.2⟩, ⟨by show (s6.1.size : Int) ≤ 20; have := t6.2.2.1; omega, t6.2.2.2⟩, ⟨t7.1, t7.2.1⟩, rfl, rfl⟩
  · have hk2 : ¬ k = 2 := by simpa using hk2
    refine okP_bind (N_ok _ 4 h7.2.2 (by decide) (by decide)) (fun r9 h9 => ?_)
    refine okP_finB (legsV_L 9223372036854775807 r9.2 [] r9.1 h9.2.2 (by simp; omega) h9.1 (by omega) (fun x hx => by cases hx)) (fun q hq => ?_)
    refine okP_bind (N_ok _ 3 hq.1 (by decide) (by decide)) (fun s1 t1 => okP_bind (Range_ok _ 1 4 t1.2.2 (by decide) (by decide) (by decide)) (fun s2 t2 => okP_bind (Range_ok _ 1 4 t2.2.2 (by decide) (by decide) (by decide)) (fun s3 t3 => okP_bind (Pick_ok _ _ t3.2.2 (by decide) (by decide)) (fun s4 t4 => ?_))))
    refine okP_bind (lettersV _ 1 6 t4.2 (by decide) (by decide) (by decide)) (fun s5 t5 => okP_bind (lettersV _ 0 5 t5.1 (by decide) (by decide) (by decide)) (fun s6 t6 => okP_bind (Range_ok _ 0 3 t6.1 (by decide) (by decide) (by decide)) (fun s7 t7 => okP_some ⟨t7.2.2, ?_⟩)))
    exact ⟨hk, port2V hpo.1, ⟨hnu.1, by show nu.1 ≤ 9999; have := hnu.2.1; omega⟩, fun _ => rfl, fun e => absurd e hk2, h2.2, hq.2, h6.2, ⟨t2.1, t2.2.1⟩, ⟨t3.1, t3.2.1⟩, hw _ t4.1, ⟨t5.2.1, by show (s5.1.size : Int) ≤ 20; have := t5.2.2.1; omega, t5.2.2.2⟩, ⟨by show (s6.1.size : Int) ≤ 20; have := t6.2.2.1; omega, t6.2.2.2⟩, ⟨t7.1, t7.2.1⟩, rfl, rfl⟩

theorem legsSelf_L (y : List Leg) : ∀ (l : List Leg) (k : Nat), y.drop k = l → ref04_legs_L1 y l k = some (Ctl.brk ())
  | [], k, h => rfl
  | x :: l, k, h => by
    have hx : y[k]? = some x := by rw [← List.head?_drop, h]; rfl
    rw [ref04_legs_L1, ixL_at' k rfl hx, Option.bind_some]
    simp only [beq_self_eq_true, Bool.and_true, Bool.and_self, Bool.not_true, cond_false]
    exact legsSelf_L y l (k + 1) (by rw [← List.drop_drop, h]; rfl)
theorem legsSelf (y : List Leg) : ref04_legs y y = some true := by
  unfold ref04_legs
  rw [bne_self_eq_false, cond_false, fin_brkE (legsSelf_L y y 0 rfl)]
theorem intsSelf_L (y : List Int) : ∀ (l : List Int) (k : Nat), y.drop k = l → keep_Ints_L1 y l k = some (Ctl.brk ())
  | [], k, h => rfl
  | x :: l, k, h => by
    have hx : y[k]? = some x := by rw [← List.head?_drop, h]; rfl
    rw [keep_Ints_L1, ixL_at' k rfl hx, Option.bind_some, bne_self_eq_false, cond_false]
    exact intsSelf_L y l (k + 1) (by rw [← List.drop_drop, h]; rfl)
theorem intsSelf (y : List Int) : keep_Ints y y = some true := by
  unfold keep_Ints
  rw [bne_self_eq_false, cond_false, fin_brkE (intsSelf_L y y 0 rfl)]
theorem sameSelf (m : Message) : ref04_Same m m = some true := by
  unfold ref04_Same
  simp only [beq_self_eq_true, Bool.and_true, Bool.and_self, cond_true, legsSelf, intsSelf, Option.bind_some]
theorem ownV {m : Message} (h : MsgV m) : ref04_own m = some m := by
  unfold ref04_own
  rw [bag_eq, Option.bind_some, decide_eq_true h.kind, cond_true]
  have hn := h.node
  have hl := h.lst
  rcases h.kind with e | e
  · have hi := h.in1 e
    rw [show (m.Kind == 1) = true by simp [e], cond_true]
    cases m
    simp only at hn hl hi
    rw [hn, hl, hi]
    rfl
  · rw [show (m.Kind == 1) = false by simp [e], cond_false]
    cases m
    simp only at hn hl
    rw [hn, hl]
theorem spelledV : ∀ (l : List Leg) (k : Nat), (∀ x ∈ l, ref02_ValidLeg x = some true) → ref04_spelled_L1 l k = some (Ctl.brk ())
  | [], k, h => rfl
  | x :: l, k, h => by
    rw [ref04_spelled_L1, h x (List.mem_cons_self ..), Option.bind_some]
    exact spelledV l (k + 1) (fun y hy => h y (List.mem_cons_of_mem _ hy))
theorem msgV_zero {m : Message} (h : MsgV m) (hd : 0 ≤ m.Do ∧ m.Do ≤ 2) (hc : 1 ≤ m.Count ∧ m.Count ≤ 99) : ref04_Validate m = some 0 := by
  have hk := h.kind
  unfold ref04_Validate
  rw [in_eq, Option.bind_some, decide_eq_true (by omega : 1 ≤ m.Kind ∧ m.Kind ≤ 5), Bool.not_true, cond_false, ownV h, Option.bind_some, sameSelf, Option.bind_some, Bool.not_true, cond_false]
  have ho := h.onw
  have hl := h.lst
  have h3 : ¬ (3 : Int) < (m.Onward.length : Int) := by omega
  rw [decide_eq_false h3, cond_false, hl, show decide ((40 : Int) < (([] : List Int).length : Int)) = false from rfl, cond_false]
  have hsp : ref04_spelled m = some true := by
    unfold ref04_spelled
    have hs1 : ref04_letters m.Surname 1 = some true := by
      rw [rLetters _ (by have := h.sur; omega)]
      rw [decide_eq_true ⟨h.sur.1, h.sur.2.1, h.sur.2.2⟩]
    have hs2 : ref04_letters m.Given 0 = some true := by
      rw [rLetters _ (by have := h.giv; omega)]
      rw [decide_eq_true ⟨Int.natCast_nonneg _, h.giv.1, h.giv.2⟩]
    have hk3 : (m.Kind != 3) = true := by simp; omega
    have hk3' : (m.Kind == 3) = false := by simp; omega
    rw [h.port, Option.bind_some, Bool.not_true, cond_false, hk3, cond_true, h.out, Option.bind_some, Bool.not_true, cond_false, hk3', fin_brkE (spelledV _ 0 ho.2)]
    simp only [fin_brkE (spelledV _ 0 ho.2), bag_eq, Option.bind_some, decide_eq_true hk, Bool.not_true, cond_false, cond_true, hs1, hs2]
    rcases hk with e | e
    · rw [show (m.Kind == 2) = false by simp [e], cond_false]
    · rw [show (m.Kind == 2) = true by simp [e], cond_true, h.in2 e, Option.bind_some, Bool.not_true, cond_false]
  have hct : ref04_counted m = some true := by
    unfold ref04_counted
    have hk5 : (m.Kind != 5) = true := by simp; omega
    have hlL : ref04_counted_L1 m.List 0 = some (Ctl.brk ()) := by rw [hl]; rfl
    have q := h.seq
    simp only [in_eq, bag_eq, refvalid_eq, Option.bind_some, decide_eq_true h.num, decide_eq_true h.first, decide_eq_true hc, decide_eq_true hk, decide_eq_true hd, decide_eq_true h.stat, decide_eq_true (⟨q.1, by omega⟩ : 1 ≤ m.Sequence ∧ m.Sequence ≤ 999), decide_eq_true h.wei, decide_eq_true h.exc, hk5, Bool.not_true, cond_false, cond_true, fin_brkE hlL]
  rw [hsp, Option.bind_some, Bool.not_true, cond_false, hct, Option.bind_some, Bool.not_true, cond_false]
  have hL : ref04_Validate_L1 m 9223372036854775807 1 = some (Ctl.brk ()) := by
    rw [show (9223372036854775807 : Nat) = 9223372036854775806 + 1 from rfl, ref04_Validate_L1, hl]
    rfl
  rw [fin_brkE hL]

set_option maxHeartbeats 2000000 in
theorem count_t (s : Src) (hs : SrcOk s) : okP (keep_Src_Message s 0) (fun r => r.1.Count ≤ 3) := by
  unfold keep_Src_Message
  rw [show ((0 : Int) == 0) = true from rfl, cond_true]
  refine okP_bind (Range_ok s 1 5 hs (by decide) (by decide) (by decide)) (fun k hk => okP_bind (Text_ok _ _ hk.2.2 (by decide) (by decide)) (fun po hpo => okP_bind (Range_ok _ 1 12 hpo.2 (by decide) (by decide) (by decide)) (fun nu hnu => ?_)))
  refine okP_cond (fun h3 => ?_) (fun h3 => okP_cond (fun h4 => ?_) (fun h4 => okP_cond (fun h5 => ?_) (fun h5 => ?_)))
  · exact okP_bind (anyPlate_t _ hnu.2.2) (fun r1 h1 => okP_bind (Range_ok _ 1 3 h1 (by decide) (by decide) (by decide)) (fun r2 h2 => okP_bind (letters_gen _ 1 4 h2.2.2 (by decide) (by decide) (by decide)) (fun r4 hr4 => okP_some h2.2.1)))
  · exact okP_bind (anyPlate_t _ hnu.2.2) (fun r1 h1 => okP_bind (Range_ok _ 1 3 h1 (by decide) (by decide) (by decide)) (fun r2 h2 => okP_bind (legG_t _ h2.2.2) (fun r4 hr4 => okP_some h2.2.1)))
  · refine okP_bind (legG_t _ hnu.2.2) (fun r1 h1 => okP_bind (N_ok _ 12 h1 (by decide) (by decide)) (fun r2 h2 => ?_))
    exact okP_finB (msgL1_t 9223372036854775807 r2.2 [] 0 r2.1 h2.2.2 (by simp; omega) h2.1 (by omega)) (fun q hq => okP_some (show (0 : Int) ≤ 3 by decide))
  · refine okP_bind (Pick_ok _ _ hnu.2.2 (by decide) (by decide)) (fun r1 h1 => okP_bind (legG_t _ h1.2) (fun r2 h2 => okP_bind (anyPlate_t _ h2) (fun r6 h6 => okP_bind (Range_ok _ 1 3 h6 (by decide) (by decide) (by decide)) (fun r7 h7 => ?_))))
    refine okP_cond (fun _ => ?_) (fun _ => ?_)
    · refine okP_bind (legG_t _ h7.2.2) (fun r8 h8 => okP_bind (N_ok _ 4 h8 (by decide) (by decide)) (fun r9 h9 => ?_))
      refine okP_finB (msgL2_t 9223372036854775807 r9.2 [] r9.1 h9.2.2 (by simp; omega) h9.1 (by omega)) (fun q hq => ?_)
      refine okP_bind (N_ok _ 3 hq.1 (by decide) (by decide)) (fun s1 t1 => okP_bind (Range_ok _ 1 4 t1.2.2 (by decide) (by decide) (by decide)) (fun s2 t2 => okP_bind (Range_ok _ 1 4 t2.2.2 (by decide) (by decide) (by decide)) (fun s3 t3 => okP_bind (Pick_ok _ _ t3.2.2 (by decide) (by decide)) (fun s4 t4 => ?_))))
      exact okP_bind (letters_gen _ 1 6 t4.2 (by decide) (by decide) (by decide)) (fun s5 t5 => okP_bind (letters_gen _ 0 5 t5.1 (by decide) (by decide) (by decide)) (fun s6 t6 => okP_bind (Range_ok _ 0 3 t6.1 (by decide) (by decide) (by decide)) (fun s7 t7 => okP_some h7.2.1)))
    · refine okP_bind (N_ok _ 4 h7.2.2 (by decide) (by decide)) (fun r9 h9 => ?_)
      refine okP_finB (msgL2_t 9223372036854775807 r9.2 [] r9.1 h9.2.2 (by simp; omega) h9.1 (by omega)) (fun q hq => ?_)
      refine okP_bind (N_ok _ 3 hq.1 (by decide) (by decide)) (fun s1 t1 => okP_bind (Range_ok _ 1 4 t1.2.2 (by decide) (by decide) (by decide)) (fun s2 t2 => okP_bind (Range_ok _ 1 4 t2.2.2 (by decide) (by decide) (by decide)) (fun s3 t3 => okP_bind (Pick_ok _ _ t3.2.2 (by decide) (by decide)) (fun s4 t4 => ?_))))
      exact okP_bind (letters_gen _ 1 6 t4.2 (by decide) (by decide) (by decide)) (fun s5 t5 => okP_bind (letters_gen _ 0 5 t5.1 (by decide) (by decide) (by decide)) (fun s6 t6 => okP_bind (Range_ok _ 0 3 t6.1 (by decide) (by decide) (by decide)) (fun s7 t7 => okP_some h7.2.1)))

theorem rplates_len {m : Message} {ps : List Plate} (h : ref04_Plates m = some ps) : ps.length ≤ m.Count.toNat := by
  by_cases hp : validP m.First ∧ 1 ≤ m.Count ∧ m.Count ≤ 99
  · rw [rplates_v m hp.1 hp.2.1 hp.2.2] at h
    rw [← Option.some.inj h, runP_len]
    exact Nat.le_refl _
  · have : ref04_Plates m = some [] := by
      unfold ref04_Plates ref01_Run
      rw [refvalid_eq, Option.bind_some]
      by_cases h1 : validP m.First
      · rw [decide_eq_true h1, Bool.not_true, cond_false]
        by_cases h2 : m.Count < 1
        · rw [decide_eq_true h2]; rfl
        · have h3 : ¬ (1 ≤ m.Count ∧ m.Count ≤ 99) := fun e => hp ⟨h1, e⟩
          rw [decide_eq_false h2, cond_false, decide_eq_true (by omega : 99 < m.Count)]; rfl
      · rw [decide_eq_false h1]; rfl
    rw [this] at h
    rw [← Option.some.inj h]
    exact Nat.zero_le _
theorem insB_le (b : Bag) : ∀ l : List Bag, (insB b l).length ≤ l.length + 1
  | [] => Nat.le_refl _
  | x :: l => by
    rw [insB]
    split
    · have := insB_le b l
      simp only [List.length_cons]
      omega
    · split <;> simp only [List.length_cons] <;> omega
theorem step_le (m : Message) (l : List Bag) (p : Plate) : (stepB m l p).length ≤ l.length + 1 := by
  unfold stepB
  split
  · split
    · exact Nat.le_trans (List.length_filter_le _ _) (Nat.le_succ _)
    · exact insB_le _ _
  · split <;> exact insB_le _ _
theorem fold_le (m : Message) : ∀ (ps : List Plate) (l : List Bag), (ps.foldl (stepB m) l).length ≤ l.length + ps.length
  | [], l => Nat.le_refl _
  | p :: q, l => by
    rw [List.foldl_cons, List.length_cons]
    have := fold_le m q (stepB m l p)
    have := step_le m l p
    omega
theorem built3_L (x : Int) : ∀ (n : Nat) (s : Src) (l : List Bag) (i : Int), SrcOk s → RegOk l → onwOk l → (l.length : Int) ≤ 3 * i → 0 ≤ i → x ≤ 1000 → i ≤ x → x - i < n → okP (law06_built_L1 x n s.L s.At l i) (ctlQ (fun _ => False) (fun z => SrcOk ⟨z.1, z.2.1⟩ ∧ RegOk z.2.2 ∧ onwOk z.2.2 ∧ (z.2.2.length : Int) ≤ 3 * x))
  | 0, s, l, i, hs, h, hq, hlen, h0, hx, h1, h2 => by omega
  | n + 1, s, l, i, hs, h, hq, hlen, h0, hx, h1, h2 => by
    have hout : (l.length : Int) ≤ 3 * x := by omega
    rw [law06_built_L1]
    refine okP_cond (fun hi => ?_) (fun _ => okP_some ⟨hs, h, hq, hout⟩)
    have hi := of_decide_eq_true hi
    have hm : okP (keep_Src_More s) (fun _ => True) := okP_some trivial
    refine okP_bind hm (fun b _ => okP_cond (fun _ => ?_) (fun _ => okP_some ⟨hs, h, hq, hout⟩))
    refine okP_bind (okP_and (message_t s hs) (count_t s hs)) (fun r ⟨⟨r1, r2⟩, rc⟩ => ?_)
    obtain ⟨a, _, ha, _, hz⟩ := apply_eq l r.1 r2.ok hq
    rw [ha, Option.bind_some, w64_id (z := i + 1) (by omega) (by omega)]
    refine okP_cond (fun h0 => ?_) (fun _ => built3_L x n r.2 l (i + 1) r1 h hq (by omega) (by omega) hx (by omega) (by omega))
    have h0 : a.2 = 0 := by simpa using h0
    obtain ⟨_, _, h3, h4, h5⟩ := hz h0
    have hle : (a.1.L.length : Int) ≤ 3 * (i + 1) := by
      rcases h5 with ⟨_, e⟩ | ⟨_, ps, hps, _, _, e⟩
      · rw [e]; omega
      · rw [e]
        have := fold_le r.1 ps l
        have := rplates_len hps
        omega
    exact built3_L x n r.2 a.1.L (i + 1) r1 h3 h4 hle (by omega) hx (by omega) (by omega)
theorem built3_t (s : Src) (x : Int) (hs : SrcOk s) (h0 : 0 ≤ x) (hx : x ≤ 1000) : okP (law06_built s x) (fun r => SrcOk r.2 ∧ RegOk r.1.L ∧ onwOk r.1.L ∧ (r.1.L.length : Int) ≤ 3 * x) := by
  unfold law06_built
  exact okP_finB (built3_L x 9223372036854775807 s [] 0 hs regOk_nil (fun b hb => by cases hb) (by simp) (by omega) hx h0 (by omega)) (fun z hz => okP_some hz)

/-- Apply of the program for a valid message about bags -/
theorem apply_v (l : List Bag) (m : Message) (hm : MsgOk m) (hr : RegOk l) (hw : onwOk l) (h0 : ref04_Validate m = some 0) (hk : m.Kind = 1 ∨ m.Kind = 2) {ps : List Plate} (hps : ref04_Plates m = some ps) (hpo : PlOk ps) :
    registry_Apply ⟨l⟩ m = some (if refB l m ps = 0 then (⟨ps.foldl (stepB m) l⟩, 0) else (⟨[]⟩, refB l m ps)) ∧ (refB l m ps = 0 → RegOk (ps.foldl (stepB m) l) ∧ onwOk (ps.foldl (stepB m) l)) := by
  obtain ⟨k1, k2, ho, _, hdo⟩ := val_zero hm h0
  have hl := hr.len
  have main : refB l m ps = 0 → registry_Apply_L1 m ps 0 l = some (Ctl.brk (ps.foldl (stepB m) l)) ∧ RegOk (ps.foldl (stepB m) l) ∧ onwOk (ps.foldl (stepB m) l) := fun hB => by
    have hpos := refB_pos hB
    have hg := posOk_goesOn hpos hpo.2
    have hrest : restOk m l ps := by
      unfold posOk at hpos
      by_cases hd : m.Do = 2
      · rw [if_neg (fun e => by omega)] at hpos
        exact .inr (.inl ⟨⟨hk, hd⟩, rplates_nodup hps, hpos⟩)
      · exact .inl ⟨hk, hd⟩
    obtain ⟨_, a2⟩ := apply_loop m (by omega) ps 0 l hr hg
    obtain ⟨b1, b2⟩ := papply_loop m (by omega) ps 0 l hr hg hw hrest
    exact ⟨b1, a2, b2⟩
  refine ⟨?_, fun hB => (main hB).2⟩
  unfold registry_Apply
  rw [regValidate_eq, Option.bind_some]
  simp only
  rw [vReg_zero.2 hr, show ((0 : Int) != 0) = false from rfl, cond_false, mval_eq m hm, h0, Option.bind_some, show ((0 : Int) != 0) = false from rfl, cond_false, clone_eq l hw (by omega), Option.bind_some, plates_eq, hps, show (m.Kind == 5) = false by simp; omega, cond_false, Option.bind_some, refused_eq l m ps hr hpo.1, Option.bind_some]
  by_cases hB : refB l m ps = 0
  · rw [if_pos hB, hB, show ((0 : Int) != 0) = false from rfl, cond_false, fin_brkE (main hB).1]
  · rw [if_neg hB, show (refB l m ps != 0) = true by simpa using hB, cond_true]

theorem und1 (r : Registry × Src) (hr : RegOk r.1.L) : ∀ (ps : List Plate) (k : Nat) (b : Bool), law06_RegistryUndone_L1 r ps k b = some (Ctl.brk (b || decide (∃ p ∈ ps, known r.1.L p)))
  | [], k, b => by rw [law06_RegistryUndone_L1]; simp
  | p :: ps, k, b => by
    have hf : ref06_Find r.1 p = some (findB p r.1.L, decide (known r.1.L p)) := refFind_eq r.1.L p hr
    rw [law06_RegistryUndone_L1, hf, Option.bind_some, und1 r hr ps, und1 r hr ps]
    cases b
    · rw [cond_false]
      by_cases h : known r.1.L p <;> simp [h]
    · rw [cond_true]; simp
theorem fold_keep {m : Message} {b : Bag} : ∀ (q : List Plate) (l : List Bag), ¬ ((m.Kind = 1 ∨ m.Kind = 2) ∧ m.Do = 2) → b ∈ l → b.Plate ∉ q → b ∈ q.foldl (stepB m) l
  | [], l, _, h, _ => h
  | p :: q, l, hn, h, hb => by
    rw [List.foldl_cons]
    have h1 : b.Plate ≠ p := fun e => hb (e ▸ List.mem_cons_self ..)
    have h2 : b.Plate ∉ q := fun e => hb (List.mem_cons_of_mem _ e)
    refine fold_keep q _ hn ?_ h2
    unfold stepB
    split
    · rename_i hk
      rw [if_neg (fun e => hn ⟨hk, e⟩)]
      exact insB_keeps h1 h
    · split <;> exact insB_keeps h1 h
/-- new bags -/
theorem fold_new {m : Message} (hk : m.Kind = 1 ∨ m.Kind = 2) (hd : m.Do = 0) : ∀ (q : List Plate) (l : List Bag), RegOk l → q.Nodup → (∀ p ∈ q, ¬ known l p) → (∀ p ∈ q, validP p) → l.length + q.length ≤ 200 → (∀ p ∈ q, dataB { zBag with Plate := p } m ∈ q.foldl (stepB m) l) ∧ (q.foldl (stepB m) l).length = l.length + q.length
  | [], l, _, _, _, _, _ => ⟨fun p hp => (by cases hp), rfl⟩
  | p :: q, l, hr, hn, hu, hv, hl => by
    rw [List.foldl_cons]
    rw [List.nodup_cons] at hn
    rw [List.length_cons] at hl ⊢
    have hup := hu p (List.mem_cons_self ..)
    have e : stepB m l p = insB (dataB { zBag with Plate := p } m) l := by
      unfold stepB
      rw [if_pos hk, if_neg (by omega), findB_none hup]
    have hlen : (stepB m l p).length = l.length + 1 := by
      rw [e]
      rcases insB_len (b := dataB { zBag with Plate := p } m) hr.srt with ⟨h1, _⟩ | ⟨_, h2⟩
      · exact h1
      · exact absurd h2 hup
    have hr1 : RegOk (stepB m l p) := by
      rw [e]
      exact regOk_ins hr (hv p (List.mem_cons_self ..)) (.inr (by omega))
    have hu1 : ∀ r ∈ q, ¬ known (stepB m l p) r := fun r hrq hkn => by
      obtain ⟨b, hb1, hb2⟩ := hkn
      rw [e] at hb1
      rcases insB_mem hb1 with rfl | hb1
      · have : p = r := hb2
        exact hn.1 (this ▸ hrq)
      · exact hu r (List.mem_cons_of_mem _ hrq) ⟨b, hb1, hb2⟩
    obtain ⟨i1, i2⟩ := fold_new hk hd q (stepB m l p) hr1 hn.2 hu1 (fun r hr => hv r (List.mem_cons_of_mem _ hr)) (by omega)
    refine ⟨fun r hrq => ?_, by rw [i2, hlen]; omega⟩
    rcases List.mem_cons.1 hrq with rfl | hrq
    · refine fold_keep q _ (fun e => by omega) ?_ hn.1
      rw [e]
      exact insB_self _ _
    · exact i1 r hrq
theorem fold_del {m : Message} (hk : m.Kind = 1 ∨ m.Kind = 2) (hd : m.Do = 2) : ∀ (q : List Plate) (l : List Bag), q.foldl (stepB m) l = away q l
  | [], l => by
    unfold away
    exact (List.filter_eq_self.2 (by simp)).symm
  | p :: q, l => by
    rw [List.foldl_cons, fold_del hk hd q]
    unfold stepB away
    rw [if_pos hk, if_pos hd, List.filter_filter]
    apply List.filter_congr
    intro b _
    by_cases e : b.Plate = p <;> simp [e]
theorem und2 (m : Message × Src) (r : Registry × Int) (hr : RegOk r.1.L) (ho : onwOk r.1.L) (m' : Message) (hm' : m'.In = m.1.In ∧ m'.Out = m.1.Out ∧ m'.Sequence = m.1.Sequence ∧ m'.Weight = m.1.Weight ∧ m'.Load = m.1.Load ∧ m'.Surname = m.1.Surname) : ∀ (ps : List Plate) (k : Nat), (∀ p ∈ ps, dataB { zBag with Plate := p } m' ∈ r.1.L) → law06_RegistryUndone_L2 m r ps k = some (Ctl.brk ())
  | [], k, _ => rfl
  | p :: ps, k, h => by
    obtain ⟨h1, h2, h3, h4, h5, h6⟩ := hm'
    obtain ⟨f1, f2⟩ := mem_find hr (h p (List.mem_cons_self ..))
    have hf : registry_Find r.1 p = some (dataB { zBag with Plate := p } m', true) := by
      have := find_eq r.1.L p hr ho
      rw [show (dataB { zBag with Plate := p } m').Plate = p from rfl] at f1 f2
      rw [f2, decide_eq_true f1] at this
      exact this
    have e1 : (dataB { zBag with Plate := p } m').In = m.1.In := h1
    have e2 : (dataB { zBag with Plate := p } m').Out = m.1.Out := h2
    have e3 : (dataB { zBag with Plate := p } m').Sequence = m.1.Sequence := h3
    have e4 : (dataB { zBag with Plate := p } m').Weight = m.1.Weight := h4
    have e5 : (dataB { zBag with Plate := p } m').Load = m.1.Load := h5
    have e6 : (dataB { zBag with Plate := p } m').Surname = m.1.Surname := h6
    have e7 : (dataB { zBag with Plate := p } m').Node = ⟨#[]⟩ := rfl
    have e8 : (dataB { zBag with Plate := p } m').Unloaded = false := rfl
    rw [law06_RegistryUndone_L2, hf, Option.bind_some]
    simp only [e1, e2, e3, e4, e5, e6, e7, e8, beq_self_eq_true, bne_self_eq_false, Bool.and_true, Bool.and_self, Bool.not_true, cond_false]
    exact und2 m r hr ho m' ⟨h1, h2, h3, h4, h5, h6⟩ ps (k + 1) (fun q hq => h q (List.mem_cons_of_mem _ hq))
theorem regSelf_L (y : Registry) : ∀ (l : List Bag) (k : Nat), y.L.drop k = l → ref06_Same_L1 y l k = some (Ctl.brk ())
  | [], k, h => rfl
  | x :: l, k, h => by
    have hx : y.L[k]? = some x := by rw [← List.head?_drop, h]; rfl
    rw [ref06_Same_L1, ixL_at' k rfl hx, Option.bind_some, samebag_self, Option.bind_some, Bool.not_true, cond_false]
    exact regSelf_L y l (k + 1) (by rw [← List.drop_drop, h]; rfl)
theorem regSelf (y : Registry) : ref06_Same y y = some true := by
  unfold ref06_Same
  rw [bne_self_eq_false, cond_false, fin_brkE (regSelf_L y y.L 0 rfl)]
theorem undone_ok (l : List Int) (x : Int) : law06_RegistryUndone l x = some true := by
  unfold law06_RegistryUndone
  obtain ⟨s, hs, s1⟩ := New_ok l
  obtain ⟨r, hr, r1, r2, r3, r4⟩ := built3_t s 15 s1 (by decide) (by decide)
  obtain ⟨g, hg, g1, g2, g3⟩ := Range_ok r.2 1 2 r1 (by decide) (by decide) (by decide)
  obtain ⟨mm, hm, m1, mv⟩ := messageV g.2 g.1 g3 (by omega)
  have hx0 := Int.emod_nonneg x (show (5 : Int) ≠ 0 by decide)
  have hx1 := Int.emod_lt_of_pos x (show (0 : Int) < 5 by decide)
  rw [hs, Option.bind_some, hr, Option.bind_some, hg, Option.bind_some, hm, Option.bind_some, mod_eq x 5 (by decide) (by decide), Option.bind_some, w64_id (z := 1 + x % 5) (by omega) (by omega), awake06]
  have mv1 : MsgV { mm.1 with Do := 0, Count := 1 + x % 5 } := ⟨mv.kind, mv.port, mv.num, mv.in1, mv.in2, mv.out, mv.onw, mv.first, mv.stat, mv.seq, mv.wei, mv.sur, mv.giv, mv.exc, mv.node, mv.lst⟩
  have mv2 : MsgV { mm.1 with Do := 2, Count := 1 + x % 5 } := ⟨mv.kind, mv.port, mv.num, mv.in1, mv.in2, mv.out, mv.onw, mv.first, mv.stat, mv.seq, mv.wei, mv.sur, mv.giv, mv.exc, mv.node, mv.lst⟩
  have ok1 : MsgOk { mm.1 with Do := 0, Count := 1 + x % 5 } := ⟨by have := mv.sur; show (mm.1.Surname.size : Int) ≤ _; omega, by have := mv.giv; show (mm.1.Given.size : Int) ≤ _; omega⟩
  have ok2 : MsgOk { mm.1 with Do := 2, Count := 1 + x % 5 } := ⟨by have := mv.sur; show (mm.1.Surname.size : Int) ≤ _; omega, by have := mv.giv; show (mm.1.Given.size : Int) ≤ _; omega⟩
  have z1 := msgV_zero mv1 ⟨by show (0 : Int) ≤ 0; decide, by show (0 : Int) ≤ 2; decide⟩ ⟨by show 1 ≤ 1 + x % 5; omega, by show 1 + x % 5 ≤ 99; omega⟩
  have z2 := msgV_zero mv2 ⟨by show (0 : Int) ≤ 2; decide, by show (2 : Int) ≤ 2; decide⟩ ⟨by show 1 ≤ 1 + x % 5; omega, by show 1 + x % 5 ≤ 99; omega⟩
  have p1 := rplates_v { mm.1 with Do := 0, Count := 1 + x % 5 } mv.first (by show 1 ≤ 1 + x % 5; omega) (by show 1 + x % 5 ≤ 99; omega)
  have p2 := rplates_v { mm.1 with Do := 2, Count := 1 + x % 5 } mv.first (by show 1 ≤ 1 + x % 5; omega) (by show 1 + x % 5 ≤ 99; omega)
  have hnd := rplates_nodup p1
  have hpl : PlOk (runP mm.1.First (1 + x % 5).toNat) := by
    obtain ⟨q, hq, hq2⟩ := plates_t { mm.1 with Do := 0, Count := 1 + x % 5 }
    rw [p1] at hq
    rw [Option.some.inj hq]
    exact hq2
  have hlen := runP_len mm.1.First (1 + x % 5).toNat
  simp only at p1 p2 hnd
  generalize hps : runP mm.1.First (1 + x % 5).toNat = ps at *
  obtain ⟨a1, a2⟩ := apply_v r.1.L { mm.1 with Do := 0, Count := 1 + x % 5 } ok1 r2 r3 z1 mv.kind p1 hpl
  have a1' : registry_Apply r.1 { mm.1 with Do := 0, Count := 1 + x % 5 } = _ := a1
  have hfr : freshM { mm.1 with Do := 0, Count := 1 + x % 5 } := ⟨mv.kind, rfl⟩
  have hfr2 : ¬ freshM { mm.1 with Do := 2, Count := 1 + x % 5 } := fun e => by have := e.2; simp at this
  rw [show registry_Apply r.1 (⟨mm.1.Kind, (0 : Int), mm.1.Port, mm.1.Number, mm.1.In, mm.1.Out, mm.1.Onward, mm.1.First, 1 + x % 5, mm.1.Load, mm.1.Status, mm.1.Sequence, mm.1.Weight, mm.1.Surname, mm.1.Given, mm.1.Exception, mm.1.Node, mm.1.List⟩ : Message) = _ from a1, Option.bind_some, show ref04_Plates (⟨mm.1.Kind, (0 : Int), mm.1.Port, mm.1.Number, mm.1.In, mm.1.Out, mm.1.Onward, mm.1.First, 1 + x % 5, mm.1.Load, mm.1.Status, mm.1.Sequence, mm.1.Weight, mm.1.Surname, mm.1.Given, mm.1.Exception, mm.1.Node, mm.1.List⟩ : Message) = some ps from p1, Option.bind_some, fin_brkE (und1 r r2 ps 0 false), Bool.false_or]
  by_cases hkn : ∃ p ∈ ps, known r.1.L p
  · have hB : refB r.1.L { mm.1 with Do := 0, Count := 1 + x % 5 } ps = 5 := by
      unfold refB
      rw [if_pos hfr, if_pos hkn]
    rw [decide_eq_true hkn, cond_true, hB]
    rfl
  · have hle : ¬ 200 < r.1.L.length + ps.length := by omega
    have hB : refB r.1.L { mm.1 with Do := 0, Count := 1 + x % 5 } ps = 0 := by
      unfold refB
      rw [if_pos hfr, if_neg hkn, if_neg hle]
    have hun : ∀ p ∈ ps, ¬ known r.1.L p := fun p hp e => hkn ⟨p, hp, e⟩
    obtain ⟨b1, b2⟩ := a2 hB
    obtain ⟨n1, n2⟩ := fold_new (m := { mm.1 with Do := 0, Count := 1 + x % 5 }) mv.kind rfl ps r.1.L r2 hnd hun hpl.2 (by omega)
    rw [decide_eq_false hkn, cond_false, if_pos hB]
    simp only
    rw [show ((0 : Int) != 0) = false from rfl, cond_false, n2, w64_id (z := (r.1.L.length : Int) + (ps.length : Int)) (by omega) (by omega)]
    rw [show ((((r.1.L.length + ps.length : Nat)) : Int) != (r.1.L.length : Int) + (ps.length : Int)) = false by simp, cond_false]
    have u2 := und2 mm (⟨ps.foldl (stepB { mm.1 with Do := 0, Count := 1 + x % 5 }) r.1.L⟩, 0) b1 b2 { mm.1 with Do := 0, Count := 1 + x % 5 } ⟨rfl, rfl, rfl, rfl, rfl, rfl⟩ ps 0 n1
    rw [fin_brkE u2]
    obtain ⟨c1, _⟩ := apply_v (ps.foldl (stepB { mm.1 with Do := 0, Count := 1 + x % 5 }) r.1.L) { mm.1 with Do := 2, Count := 1 + x % 5 } ok2 b1 b2 z2 mv.kind p2 hpl
    have hall : ∀ p ∈ ps, known (ps.foldl (stepB { mm.1 with Do := 0, Count := 1 + x % 5 }) r.1.L) p := fun p hp => ⟨_, n1 p hp, rfl⟩
    have hB2 : refB (ps.foldl (stepB { mm.1 with Do := 0, Count := 1 + x % 5 }) r.1.L) { mm.1 with Do := 2, Count := 1 + x % 5 } ps = 0 := by
      unfold refB
      rw [if_neg hfr2, if_neg (fun ⟨p, hp, e⟩ => e (hall p hp)), if_neg]
      rintro ⟨p, hp, e, _⟩
      have e : mm.1.Kind = 4 := e
      have := mv.kind
      omega
    rw [if_pos hB2, fold_del (m := { mm.1 with Do := 2, Count := 1 + x % 5 }) mv.kind rfl, fold_away ps r.1.L (fun p hp => hp)] at c1
    have hself : away ps r.1.L = r.1.L := by
      unfold away
      rw [List.filter_eq_self]
      intro b hb
      simpa using fun e => hun b.Plate e ⟨b, hb, rfl⟩
    rw [hself] at c1
    rw [show registry_Apply (⟨ps.foldl (stepB { mm.1 with Do := 0, Count := 1 + x % 5 }) r.1.L⟩ : Registry) (⟨mm.1.Kind, (2 : Int), mm.1.Port, mm.1.Number, mm.1.In, mm.1.Out, mm.1.Onward, mm.1.First, 1 + x % 5, mm.1.Load, mm.1.Status, mm.1.Sequence, mm.1.Weight, mm.1.Surname, mm.1.Given, mm.1.Exception, mm.1.Node, mm.1.List⟩ : Message) = _ from c1, Option.bind_some]
    simp only
    rw [show ((0 : Int) == 0) = true from rfl, cond_true, show ref06_Same (⟨r.1.L⟩ : Registry) r.1 = some true from regSelf r.1]
    rfl
end Go.Proofs.Ytkliakcegihikaa.Ex
