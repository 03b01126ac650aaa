/- Boarding: Validate and Status of the program and of the reference, for any manifests; BoardingValidates. -/
import Derived.Test.YtajmhegkkbnkcaaBd6
import Derived.Test.YtajmhegkkbnkcaaBd5
import Derived.Test.YtajmhegkkbnkcaaMv
import Derived.Test.YtajmhegkkbnkcaaDec
namespace Go.Proofs.Ytajmhegkkbnkcaa.Ex
open Go.RowKit Go.Proofs.Ytajmhegkkbnkcaa.Ax
set_option linter.unusedVariables false
set_option linter.unusedSimpArgs false

theorem Pick_ok (s : Src) (l : List Int) (h : SrcOk s) (h1 : 1 ≤ l.length) (h2 : l.length ≤ 1000000) : okP (keep_Src_Pick s l) (fun r => r.1 ∈ l ∧ SrcOk r.2) := by
  unfold keep_Src_Pick
  refine okP_bind (N_ok s _ h (by omega) (by omega)) (fun r ⟨r1, r2, r3⟩ => ?_)
  exact okP_bind (okP_ixL (Q := fun x => x ∈ l) r1 r2 (fun x hx _ => hx)) (fun x hx => okP_some ⟨hx, r3⟩)

/-- the manifest is valid -/
theorem valid_any (m : Manifest) (h : smallM m) : (boarding_valid m = some true ∧ ref25_Valid m = some true ∧ okM m) ∨ (boarding_valid m = some false ∧ ref25_Valid m = some false) := by
  obtain ⟨h1, h2⟩ := h
  unfold boarding_valid ref25_Valid
  rw [Mv.flightv_eq]
  obtain ⟨b, hb, _⟩ := Mv.flight_t m.Flight
  rw [hb]
  simp only [Option.bind_some]
  cases b with
  | false => exact .inr ⟨rfl, rfl⟩
  | true =>
    simp only [Bool.not_true, cond_false]
    by_cases c1 : m.Version < 1
    · rw [decide_eq_true c1]; exact .inr ⟨rfl, rfl⟩
    rw [decide_eq_false c1, cond_false, cond_false]
    by_cases c2 : 9999 < m.Version
    · rw [decide_eq_true c2]; exact .inr ⟨rfl, rfl⟩
    rw [decide_eq_false c2, cond_false, cond_false, asc_eq _ (by omega), rasc_eq _ (by omega)]
    simp only [Option.bind_some]
    by_cases c3 : asc m.Boarded
    · rw [decide_eq_true c3]
      simp only [Bool.not_true, cond_false]
      rw [asc_eq _ (by omega), rasc_eq _ (by omega)]
      simp only [Option.bind_some]
      by_cases c4 : asc m.Ever
      · rw [decide_eq_true c4]
        simp only [Bool.not_true, cond_false]
        rw [valid_L m c4.2 h2, rvalid_L m]
        by_cases c5 : ∀ n ∈ m.Boarded, n ∈ m.Ever
        · rw [if_pos c5]
          exact .inl ⟨rfl, rfl, by rw [Mv.flightv_eq]; exact hb, by omega, by omega, c3, c4, c5, h1, h2⟩
        · rw [if_neg c5]; exact .inr ⟨rfl, rfl⟩
      · rw [decide_eq_false c4]; exact .inr ⟨rfl, rfl⟩
    · rw [decide_eq_false c3]; exact .inr ⟨rfl, rfl⟩

def smallL (l : List Manifest) : Prop := ∀ m ∈ l, smallM m
theorem pair_next {l : List Manifest} {k : Nat} {m : Manifest} (hk : l[k]? = some m) (h : sortedM (l.take k)) (hq : ∀ q, 0 < k → l[k - 1]? = some q → flt q.Flight m.Flight) : sortedM (l.take (k + 1)) := by
  have hkl := (List.getElem?_eq_some_iff.1 hk).1
  rw [List.take_add_one, hk]
  unfold sortedM at h ⊢
  rw [List.pairwise_append]
  refine ⟨h, by simp, fun a ha b hb => ?_⟩
  simp at hb
  subst hb
  obtain ⟨i, hi⟩ := List.getElem?_of_mem ha
  rw [List.getElem?_take] at hi
  split at hi
  · rename_i hik
    have hlt : k - 1 < l.length := by omega
    have hl := hq l[k - 1] (by omega) (List.getElem?_eq_getElem hlt)
    by_cases e : i = k - 1
    · subst e
      rw [List.getElem?_eq_getElem hlt] at hi
      cases hi
      exact hl
    · have hp := List.pairwise_iff_getElem.1 h i (k - 1) (by simp; omega) (by simp; omega) (by omega)
      rw [List.getElem_take, List.getElem_take, (List.getElem?_eq_some_iff.1 hi).2] at hp
      exact flt_trans hp hl
  · cases hi
theorem validate_L2 (l : List Manifest) (hs : smallL l) (h3 : l.length ≤ 24) : ∀ (rest : List Manifest) (k : Nat), k ≤ l.length → l.drop k = rest → (∀ m ∈ l.take k, okM m) → sortedM (l.take k) →
    ∃ c, boarding_Validate_L1 l rest k = some c ∧ ref25_Validate_L1 l rest k = some c ∧ (match c with | .ret e => e = 1 ∨ e = 9 | .brk _ => okL l)
  | [], k, hk, hd, h1, h2 => by
    have : l.length ≤ k := List.drop_eq_nil_iff.1 hd
    rw [List.take_of_length_le this] at h1 h2
    exact ⟨.brk (), rfl, rfl, h1, h2, h3⟩
  | m :: rest, k, hk0, hd, h1, h2 => by
    have hk : l[k]? = some m := by rw [← List.head?_drop, hd]; rfl
    have hkl := (List.getElem?_eq_some_iff.1 hk).1
    have hd' : l.drop (k + 1) = rest := by rw [← List.tail_drop, hd]; rfl
    rw [boarding_Validate_L1, ref25_Validate_L1]
    rcases valid_any m (hs m (List.mem_of_getElem? hk)) with ⟨v1, v2, v3⟩ | ⟨v1, v2⟩
    · rw [v1, v2]
      simp only [Option.bind_some, Bool.not_true, cond_false]
      have t1 : ∀ x ∈ l.take (k + 1), okM x := fun x hx => by
        rw [List.take_add_one, hk] at hx
        rcases List.mem_append.1 hx with hx | hx
        · exact h1 x hx
        · simp at hx; subst hx; exact v3
      by_cases a : (0 : Int) < k
      · have hlt : k - 1 < l.length := by omega
        have hq := List.getElem?_eq_getElem hlt
        rw [decide_eq_true a, cond_true, cond_true, w64_id (z := (k : Int) - 1) (by omega) (by omega), ixL_at' (k - 1) (by omega) hq]
        simp only [Option.bind_some, fcmp_eq, rcmp_eq]
        by_cases c : 0 ≤ cmpF l[k - 1].Flight m.Flight
        · rw [decide_eq_true c]
          exact ⟨_, rfl, rfl, .inr rfl⟩
        · rw [decide_eq_false c, cond_false, cond_false]
          refine validate_L2 l hs h3 rest (k + 1) (by omega) hd' t1 (pair_next hk h2 (fun q _ hq' => ?_))
          rw [hq] at hq'
          cases hq'
          rcases cmpF_cases l[k - 1].Flight m.Flight with e | e | e
          · exact e
          · omega
          · omega
      · rw [decide_eq_false a, cond_false, cond_false]
        exact validate_L2 l hs h3 rest (k + 1) (by omega) hd' t1 (pair_next hk h2 (fun q h => by omega))
    · rw [v1, v2]
      exact ⟨_, rfl, rfl, .inl rfl⟩
theorem validate_any (l : List Manifest) (hs : smallL l) : ∃ e : Int, boarding_Validate l = some e ∧ ref25_Validate l = some e ∧ (e = 0 → okL l) := by
  unfold boarding_Validate ref25_Validate
  by_cases c : (24 : Int) < l.length
  · rw [decide_eq_true c]
    exact ⟨2, rfl, rfl, fun h => by cases h⟩
  · rw [decide_eq_false c, cond_false, cond_false]
    obtain ⟨r, r1, r2, r3⟩ := validate_L2 l hs (by omega) l 0 (Nat.zero_le _) rfl (fun m hm => by simp at hm) (by simp [sortedM])
    rw [r1, r2]
    cases r with
    | ret e => exact ⟨e, rfl, rfl, fun h => by rcases r3 with r3 | r3 <;> omega⟩
    | brk s => exact ⟨0, rfl, rfl, fun _ => r3⟩

/-- the first manifest of a flight -/
def idxM (f : Flight) : List Manifest → Option Nat
  | [] => none
  | m :: l => if m.Flight = f then some 0 else (idxM f l).map (· + 1)
theorem idxM_some {f : Flight} : ∀ {l : List Manifest} {i : Nat}, idxM f l = some i → ∃ m, l[i]? = some m ∧ m.Flight = f
  | m :: l, i, h => by
    simp only [idxM] at h
    split at h
    · rename_i hs; cases h; exact ⟨m, rfl, hs⟩
    · cases hi : idxM f l with
      | none => rw [hi] at h; cases h
      | some j =>
        rw [hi] at h
        cases h
        obtain ⟨s', h1, h2⟩ := idxM_some hi
        exact ⟨s', by simpa using h1, h2⟩
theorem idxM_none {f : Flight} : ∀ {l : List Manifest}, idxM f l = none ↔ ∀ m ∈ l, m.Flight ≠ f
  | [] => by simp [idxM]
  | m :: l => by
    simp only [idxM, List.mem_cons, forall_eq_or_imp]
    by_cases h : m.Flight = f
    · simp [h]
    · rw [if_neg h]
      simp [h, ← idxM_none (l := l)]
theorem rfind_L (f : Flight) : ∀ (l : List Manifest) (k : Nat), ref25_find_L1 f l k = some (match idxM f l with | some i => .ret ((k + i : Nat) : Int) | none => .brk ())
  | [], k => rfl
  | m :: l, k => by
    rw [ref25_find_L1, flight_beq]
    simp only [idxM]
    by_cases h : m.Flight = f
    · rw [if_pos h, decide_eq_true h]; rfl
    · rw [if_neg h, decide_eq_false h, cond_false, rfind_L f l (k + 1)]
      cases idxM f l with
      | none => rfl
      | some i => simp only [Option.map_some]; rw [show k + 1 + i = k + (i + 1) by omega]
theorem rfind_eq (l : List Manifest) (f : Flight) : ref25_find l f = some (match idxM f l with | some i => (i : Int) | none => -1) := by
  unfold ref25_find
  rw [rfind_L]
  cases idxM f l with
  | none => rfl
  | some i => simp [Ctl.fin]

def statM (n st : Int) (m : Manifest) : Int := if n ∈ m.Boarded then 4 else if n ∈ m.Ever then 5 else st
theorem bstat_L (f : Flight) (n st : Int) : ∀ (l : List Manifest) (k : Nat), boarding_Status_L1 f n st l k = some (match l.find? (fun m => decide (m.Flight = f)) with | some m => .ret (statM n st m) | none => .brk ())
  | [], k => rfl
  | m :: l, k => by
    rw [boarding_Status_L1, flight_beq]
    by_cases h : m.Flight = f
    · rw [decide_eq_true h, Bool.not_true, cond_false, contains_eq, contains_eq]
      rw [List.find?_cons_of_pos (by simpa using h)]
      simp only [Option.bind_some, cond_ite, decide_eq_true_eq, statM]
      (repeat' split) <;> rfl
    · rw [decide_eq_false h, Bool.not_false, cond_true, bstat_L f n st l (k + 1), List.find?_cons_of_neg (by simpa using h)]
theorem find_idxM (f : Flight) : ∀ (l : List Manifest), (match idxM f l with | some i => ∃ m, l[i]? = some m ∧ l.find? (fun m => decide (m.Flight = f)) = some m | none => l.find? (fun m => decide (m.Flight = f)) = none)
  | [] => rfl
  | m :: l => by
    simp only [idxM]
    by_cases h : m.Flight = f
    · rw [if_pos h]
      exact ⟨m, rfl, List.find?_cons_of_pos (by simpa using h)⟩
    · rw [if_neg h, List.find?_cons_of_neg (by simpa using h)]
      have ih := find_idxM f l
      cases hi : idxM f l with
      | none => rw [hi] at ih; exact ih
      | some i =>
        rw [hi] at ih
        obtain ⟨m', h1, h2⟩ := ih
        exact ⟨m', by simpa using h1, h2⟩
theorem status_any (l : List Manifest) (f : Flight) (n st : Int) : ∃ e, boarding_Status l f n st = some e ∧ ref25_Status l f n st = some e := by
  unfold boarding_Status ref25_Status
  rw [bstat_L, rfind_eq]
  have h := find_idxM f l
  cases hi : idxM f l with
  | none =>
    rw [hi] at h
    rw [h]
    exact ⟨st, rfl, rfl⟩
  | some i =>
    rw [hi] at h
    obtain ⟨m, h1, h2⟩ := h
    rw [h2]
    refine ⟨statM n st m, rfl, ?_⟩
    simp only [Option.bind_some]
    rw [decide_eq_false (by omega), cond_false, ixL_at' i rfl h1]
    simp only [Option.bind_some]
    rw [in_eq, in_eq]
    simp only [Option.bind_some, cond_ite, decide_eq_true_eq, statM]
    (repeat' split) <;> rfl

/-! the law's manifests -/
def tiny (l : List Manifest) : Prop := l.length ≤ 30 ∧ ∀ m ∈ l, m.Boarded.length ≤ 1000 ∧ m.Ever.length ≤ 1000
theorem tiny.small {l : List Manifest} (h : tiny l) : smallL l := fun m hm => by
  have := h.2 m hm
  exact ⟨by omega, by omega⟩
theorem few_L : ∀ (l : List Manifest) (k : Nat), ∃ c, law25_few_L1 l k = some c ∧ (match c with | .ret b => b = false | .brk _ => ∀ m ∈ l, m.Boarded.length ≤ 1000 ∧ m.Ever.length ≤ 1000)
  | [], k => ⟨_, rfl, fun m hm => by simp at hm⟩
  | m :: l, k => by
    rw [law25_few_L1]
    by_cases c1 : (40 : Int) < m.Boarded.length
    · rw [decide_eq_true c1]; exact ⟨_, rfl, rfl⟩
    rw [decide_eq_false c1, cond_false]
    by_cases c2 : (40 : Int) < m.Ever.length
    · rw [decide_eq_true c2]; exact ⟨_, rfl, rfl⟩
    rw [decide_eq_false c2, cond_false]
    obtain ⟨c, h1, h2⟩ := few_L l (k + 1)
    refine ⟨c, h1, ?_⟩
    cases c with
    | ret b => exact h2
    | brk s =>
      intro x hx
      rcases List.mem_cons.1 hx with rfl | hx
      · omega
      · exact h2 x hx
theorem few_any (l : List Manifest) : ∃ b, law25_few l = some b ∧ (b = true → tiny l) := by
  unfold law25_few
  obtain ⟨c, h1, h2⟩ := few_L l 0
  rw [h1]
  cases c with
  | ret b => subst h2; exact ⟨false, rfl, fun h => by cases h⟩
  | brk s => exact ⟨_, rfl, fun h => ⟨by have := of_decide_eq_true h; omega, h2⟩⟩
theorem rcopy2_eq (m : Manifest) (h : smallM m) : ref25_Copy_v2 m = some m := by
  unfold ref25_Copy_v2
  rw [apL_eq (by simp; have := h.1; omega)]
  simp only [Option.bind_some]
  rw [apL_eq (by simp; have := h.2; omega)]
  rfl
theorem spoilt_L : ∀ (l : List Manifest) (k : Nat) (a : List Manifest), smallL l → a.length + l.length ≤ 1000 → law25_spoilt_L1 l k a = some (.brk (a ++ l))
  | [], k, a, _, _ => by simp [law25_spoilt_L1]
  | m :: l, k, a, hs, hl => by
    simp only [List.length_cons] at hl
    rw [law25_spoilt_L1, rcopy2_eq m (hs m (by simp))]
    simp only [Option.bind_some]
    rw [apL_eq (by simp; omega)]
    simp only [Option.bind_some]
    rw [spoilt_L l (k + 1) (a ++ [m]) (fun x hx => hs x (by simp [hx])) (by simp; omega)]
    simp
theorem tiny_set {l : List Manifest} {i : Nat} {m : Manifest} (h : tiny l) (hm : m.Boarded.length ≤ 1000 ∧ m.Ever.length ≤ 1000) : tiny (l.set i m) := by
  refine ⟨by simpa using h.1, fun x hx => ?_⟩
  rcases List.mem_or_eq_of_mem_set hx with hx | rfl
  · exact h.2 x hx
  · exact hm
theorem spoilt_t (s : Src) (hs : SrcOk s) (l : List Manifest) (hl : l.length ≤ 29) (hk : ∀ m ∈ l, m.Boarded.length ≤ 999 ∧ m.Ever.length ≤ 999) : okP (law25_spoilt s l) (fun r => tiny r.1 ∧ SrcOk r.2) := by
  have ht : tiny l := ⟨by omega, fun m hm => by have := hk m hm; omega⟩
  unfold law25_spoilt
  rw [spoilt_L l 0 [] ht.small (by simp; omega)]
  simp only [Ctl.fin, List.nil_append]
  refine okP_cond (fun h => ?_) fun h => ?_
  · refine okP_bindE (apL_eq (by simp; omega)) (okP_some ⟨⟨by simp; omega, fun m hm => ?_⟩, hs⟩)
    rcases List.mem_append.1 hm with hm | hm
    · exact ht.2 m hm
    · simp at hm; subst hm; simp
  have hne : l.length ≠ 0 := fun e => by rw [e] at h; simp at h
  refine okP_bind (N_ok s _ hs (by omega) (by omega)) fun r10 h10 => okP_bind (N_ok r10.2 6 h10.2.2 (by omega) (by omega)) fun r11 h11 => ?_
  have hix : ∀ {l' : List Manifest} {i : Int}, l'.length = l.length → 0 ≤ i → i < l.length → okP (ixL l' i) (fun x => x ∈ l') := fun {l'} {i} e h0 h1 => okP_ixL h0 (by omega) (fun x hx _ => hx)
  have pk : ∀ (x : List Int), 1 ≤ x.length → x.length ≤ 100 → okP (keep_Src_Pick r11.2 x) (fun r => SrcOk r.2) := fun x h1 h2 => okP_mono (Pick_ok r11.2 x h11.2.2 h1 (by omega)) (fun r hr => hr.2)
  refine okP_cond (fun _ => ?_) fun _ => okP_cond (fun _ => ?_) fun _ => okP_cond (fun _ => ?_) fun _ => okP_cond (fun _ => ?_) fun _ => okP_cond (fun _ => ?_) fun _ => ?_
  · refine okP_bind (pk _ (by simp) (by simp)) fun r12 h12 => okP_bind (hix rfl h10.1 h10.2.1) fun e he => okP_some ⟨tiny_set ht (ht.2 e he), h12⟩
  · refine okP_bind (hix rfl h10.1 h10.2.1) fun e he => okP_bind (pk _ (by simp) (by simp)) fun r12 h12 => okP_bindE (apL_eq (by have := (hk e he).1; simp; omega)) (okP_bind (hix rfl h10.1 h10.2.1) fun e' he' => okP_some ⟨tiny_set ht ?_, h12⟩)
    have := (hk e he).1
    exact ⟨by simp; omega, (ht.2 e' he').2⟩
  · refine okP_bind (hix rfl h10.1 h10.2.1) fun e he => okP_bind (pk _ (by simp) (by simp)) fun r12 h12 => okP_bindE (apL_eq (by have := (hk e he).2; simp; omega)) (okP_bind (hix rfl h10.1 h10.2.1) fun e' he' => okP_some ⟨tiny_set ht ?_, h12⟩)
    have := (hk e he).2
    exact ⟨(ht.2 e' he').1, by simp; omega⟩
  · refine okP_bind (hix rfl (by omega) (by omega)) fun e he => okP_bind (hix rfl h10.1 h10.2.1) fun e' he' => okP_some ⟨tiny_set ht (ht.2 e' he'), h11.2.2⟩
  · refine okP_bind (hix rfl (by omega) (by omega)) fun e he => okP_bind (hix rfl h10.1 h10.2.1) fun e' he' => okP_bind (hix rfl h10.1 h10.2.1) fun e2 he2 => okP_bind (hix (by simp) (by omega) (by omega)) fun e3 he3 => okP_some ⟨tiny_set (tiny_set ht (ht.2 e he)) (ht.2 e' he'), h11.2.2⟩
  · refine okP_bind (hix rfl h10.1 h10.2.1) fun e he => okP_some ⟨tiny_set ht (ht.2 e he), h11.2.2⟩

theorem val_L3 (st : Int) (x : List Manifest) (n : Int) : ∀ (l : List Flight) (k : Nat), law25_BoardingValidates_L3 st x n l k = some (.brk ())
  | [], k => rfl
  | f :: l, k => by
    rw [law25_BoardingValidates_L3]
    obtain ⟨e, h1, h2⟩ := status_any x f n st
    rw [h1, h2]
    simp only [Option.bind_some, bne_self_eq_false, cond_false]
    exact val_L3 st x n l (k + 1)
theorem val_L2 (f : Flight) (st : Int) (x : List Manifest) : ∀ (l : List Int) (k : Nat) (s : Src), SrcOk s → okP (law25_BoardingValidates_L2 f st x l k s.L s.At) (ctlQ (fun _ => False) (fun z => SrcOk ⟨z.1, z.2⟩))
  | [], k, s, hs => okP_some hs
  | n :: l, k, s, hs => by
    rw [law25_BoardingValidates_L2]
    refine okP_bind (N_ok s 5 hs (by omega) (by omega)) fun r hr => ?_
    have hf := fl_eq (f := r.1.toNat) (by have := hr.1; have := hr.2.1; omega)
    rw [show ((r.1.toNat : Nat) : Int) = r.1 by have := hr.1; omega] at hf
    rw [hf]
    simp only [Option.bind_some]
    rw [val_L3]
    exact val_L2 f st x l (k + 1) r.2 hr.2.2
theorem val_L1 (f : Flight) (sq st : Int) : ∀ (l : List (List Manifest)) (k : Nat) (s : Src), (∀ x ∈ l, smallL x) → SrcOk s → okP (law25_BoardingValidates_L1 f sq st l k s.L s.At) (ctlQ (fun _ => False) (fun _ => True))
  | [], k, s, _, _ => okP_some trivial
  | x :: l, k, s, hx, hs => by
    rw [law25_BoardingValidates_L1]
    obtain ⟨e, h1, h2, _⟩ := validate_any x (hx x (by simp))
    rw [h1, h2]
    simp only [Option.bind_some, bne_self_eq_false, cond_false]
    refine okP_bind (N_ok s 13 hs (by omega) (by omega)) fun r hr => okP_sub (R := fun _ => False) (val_L2 f st x _ 0 r.2 hr.2.2) fun z hz => ?_
    exact val_L1 f sq st l (k + 1) ⟨z.1, z.2⟩ (fun y hy => hx y (by simp [hy])) hz
theorem okL.tiny {l : List Manifest} (h : okL l) (hb : ∀ m ∈ l, m.Boarded.length ≤ 1000 ∧ m.Ever.length ≤ 1000) : Ex.tiny l := ⟨by have := h.2.2; omega, hb⟩
theorem asc_len {l : List Int} (h : asc l) : l.length ≤ 999 := by
  have key : ∀ (l : List Int) (lo : Int), l.Pairwise (· < ·) → (∀ n ∈ l, lo ≤ n ∧ n ≤ 999) → lo ≤ 1000 → (l.length : Int) ≤ 1000 - lo := by
    intro l
    induction l with
    | nil => intro lo _ _ h; simp; omega
    | cons x l ih =>
      intro lo hp hb hlo
      rw [List.pairwise_cons] at hp
      have hx := hb x (by simp)
      have := ih (x + 1) hp.2 (fun n hn => ⟨by have := hp.1 n hn; omega, (hb n (by simp [hn])).2⟩) (by omega)
      simp only [List.length_cons]
      omega
  have := key l 1 h.2 h.1 (by omega)
  omega
theorem okM_len {m : Manifest} (h : okM m) : m.Boarded.length ≤ 999 ∧ m.Ever.length ≤ 999 := ⟨asc_len h.2.2.2.1, asc_len h.2.2.2.2.1⟩

theorem validates_ok (raw : List Manifest) (l : List Int) (f : Flight) (sq st : Int) (_ : ∀ x ∈ raw, Q_Manifest x) (_ : Q_Flight f) : law25_BoardingValidates raw l f sq st = some true := by
  refine okP_eq ?_
  unfold law25_BoardingValidates
  obtain ⟨b, hb, hbt⟩ := few_any raw
  rw [hb]
  cases b with
  | false => exact okP_some rfl
  | true =>
    simp only [Option.bind_some, Bool.not_true, cond_false]
    refine okP_bind (New_ok l) fun r2 h2 => okP_bind (man_ok r2 h2) fun r3 h3 => okP_bind (spoilt_t r3.2 h3.2 r3.1 (by have := h3.1.2; omega) (fun m hm => okM_len (h3.1.1.1 m hm))) fun r4 h4 => ?_
    refine okP_finB (val_L1 f sq st _ 0 r4.2 (fun x hx => ?_) h4.2) fun _ _ => ?_
    · simp only [List.mem_cons, List.not_mem_nil, or_false] at hx
      rcases hx with rfl | rfl | rfl
      · exact (hbt rfl).small
      · exact fun m hm => (h3.1.1.1 m hm).small
      · exact h4.1.small
    · rw [awake_ok]
      exact okP_some rfl
end Go.Proofs.Ytajmhegkkbnkcaa.Ex
