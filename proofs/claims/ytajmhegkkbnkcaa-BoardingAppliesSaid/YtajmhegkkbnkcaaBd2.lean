/- Boarding: unions, the reference's Validate, equality of manifests, joining in blocks. Plain Lean over the printed functions. -/
import Derived.Test.YtajmhegkkbnkcaaBd1
namespace Go.Proofs.Ytajmhegkkbnkcaa.Ex
open Go.RowKit Go.Proofs.Ytajmhegkkbnkcaa.Ax
set_option linter.unusedVariables false
set_option linter.unusedSimpArgs false

theorem uni_mem : ∀ (k : Nat) (a b : List Int) (n : Int), a.length + b.length ≤ k → (n ∈ uniF k a b ↔ n ∈ a ∨ n ∈ b)
  | 0, [], [], n, _ => by simp [uniF]
  | 0, _ :: _, _, n, h => by simp at h
  | 0, [], _ :: _, n, h => by simp at h
  | k + 1, [], [], n, _ => by simp [uniF]
  | k + 1, x :: a, [], n, h => by
    simp only [uniF, List.mem_cons, uni_mem k a [] n (by simpa using h), List.not_mem_nil, or_false]
  | k + 1, [], y :: b, n, h => by
    simp only [uniF, List.mem_cons, uni_mem k [] b n (by simpa using h), List.not_mem_nil, false_or]
  | k + 1, x :: a, y :: b, n, h => by
    simp only [List.length_cons] at h
    simp only [uniF, cond_ite, decide_eq_true_eq]
    by_cases h1 : x < y
    · rw [if_pos h1]
      simp only [List.mem_cons, uni_mem k a (y :: b) n (by simp only [List.length_cons]; omega), or_assoc]
    · rw [if_neg h1]
      by_cases h2 : y < x
      · rw [if_pos h2]
        simp only [List.mem_cons, uni_mem k (x :: a) b n (by simp only [List.length_cons]; omega)]
        constructor
        · rintro (h | (h | h) | h) <;> simp [h]
        · rintro ((h | h) | h | h) <;> simp [h]
      · rw [if_neg h2]
        have : x = y := by omega
        subst this
        simp only [List.mem_cons, uni_mem k a b n (by omega)]
        constructor
        · rintro (h | h | h) <;> simp [h]
        · rintro ((h | h) | h | h) <;> simp [h]
theorem uni_sorted : ∀ (k : Nat) (a b : List Int), a.length + b.length ≤ k → a.Pairwise (· < ·) → b.Pairwise (· < ·) → (uniF k a b).Pairwise (· < ·)
  | 0, _, _, _, _, _ => by simp [uniF]
  | k + 1, [], [], _, _, _ => by simp [uniF]
  | k + 1, x :: a, [], h, ha, hb => by
    obtain ⟨h1, h2⟩ := List.pairwise_cons.1 ha
    simp only [uniF]
    refine List.pairwise_cons.2 ⟨fun n hn => ?_, uni_sorted k a [] (by simpa using h) h2 hb⟩
    rcases (uni_mem k a [] n (by simpa using h)).1 hn with h | h
    · exact h1 n h
    · simp at h
  | k + 1, [], y :: b, h, ha, hb => by
    obtain ⟨h1, h2⟩ := List.pairwise_cons.1 hb
    simp only [uniF]
    refine List.pairwise_cons.2 ⟨fun n hn => ?_, uni_sorted k [] b (by simpa using h) ha h2⟩
    rcases (uni_mem k [] b n (by simpa using h)).1 hn with h | h
    · simp at h
    · exact h1 n h
  | k + 1, x :: a, y :: b, h, ha, hb => by
    obtain ⟨h1, h2⟩ := List.pairwise_cons.1 ha
    obtain ⟨h3, h4⟩ := List.pairwise_cons.1 hb
    simp only [List.length_cons] at h
    simp only [uniF, cond_ite, decide_eq_true_eq]
    by_cases c1 : x < y
    · rw [if_pos c1]
      have hl : a.length + (y :: b).length ≤ k := by simp only [List.length_cons]; omega
      refine List.pairwise_cons.2 ⟨fun n hn => ?_, uni_sorted k a (y :: b) hl h2 hb⟩
      rcases (uni_mem k a (y :: b) n hl).1 hn with h | h
      · exact h1 n h
      · rcases List.mem_cons.1 h with rfl | h
        · exact c1
        · have := h3 n h; omega
    · rw [if_neg c1]
      by_cases c2 : y < x
      · rw [if_pos c2]
        have hl : (x :: a).length + b.length ≤ k := by simp only [List.length_cons]; omega
        refine List.pairwise_cons.2 ⟨fun n hn => ?_, uni_sorted k (x :: a) b hl ha h4⟩
        rcases (uni_mem k (x :: a) b n hl).1 hn with h | h
        · rcases List.mem_cons.1 h with rfl | h
          · exact c2
          · have := h1 n h; omega
        · exact h3 n h
      · rw [if_neg c2]
        have e : x = y := by omega
        subst e
        refine List.pairwise_cons.2 ⟨fun n hn => ?_, uni_sorted k a b (by omega) h2 h4⟩
        rcases (uni_mem k a b n (by omega)).1 hn with h | h
        · exact h1 n h
        · exact h3 n h
theorem asc_ext : ∀ {a b : List Int}, a.Pairwise (· < ·) → b.Pairwise (· < ·) → (∀ n, n ∈ a ↔ n ∈ b) → a = b
  | [], [], _, _, _ => rfl
  | [], y :: b, _, _, h => by have := (h y).2 (List.mem_cons_self ..); simp at this
  | x :: a, [], _, _, h => by have := (h x).1 (List.mem_cons_self ..); simp at this
  | x :: a, y :: b, ha, hb, h => by
    obtain ⟨h1, h2⟩ := List.pairwise_cons.1 ha
    obtain ⟨h3, h4⟩ := List.pairwise_cons.1 hb
    have e : x = y := by
      rcases List.mem_cons.1 ((h x).1 (List.mem_cons_self ..)) with e | e
      · exact e
      · rcases List.mem_cons.1 ((h y).2 (List.mem_cons_self ..)) with e' | e'
        · exact e'.symm
        · have := h3 x e
          have := h1 y e'
          omega
    subst e
    congr 1
    refine asc_ext h2 h4 (fun n => ⟨fun hn => ?_, fun hn => ?_⟩)
    · rcases List.mem_cons.1 ((h n).1 (List.mem_cons_of_mem _ hn)) with e | e
      · have := h1 n hn; omega
      · exact e
    · rcases List.mem_cons.1 ((h n).2 (List.mem_cons_of_mem _ hn)) with e | e
      · have := h3 n hn; omega
      · exact e

/-! the reference's side -/
theorem rasc_L (x : List Int) : ∀ (l : List Int) (k : Nat), ref25_ascending_L1 x l k = boarding_ascending_L1 x l k
  | [], k => rfl
  | n :: l, k => by
    rw [ref25_ascending_L1, boarding_ascending_L1]
    simp only [rasc_L x l]
theorem rasc_eq (l : List Int) (hl : l.length ≤ 1000000000) : ref25_ascending l = some (decide (asc l)) := by
  rw [← asc_eq l hl]
  unfold ref25_ascending boarding_ascending
  rw [rasc_L]
theorem in_L (x : Int) : ∀ (l : List Int) (k : Nat), ref25_in_L1 x l k = some (if x ∈ l then .ret true else .brk ())
  | [], k => by simp [ref25_in_L1]
  | y :: l, k => by
    rw [ref25_in_L1, in_L x l (k + 1)]
    simp only [cond_ite, beq_iff_eq]
    by_cases e : y = x
    · subst e; simp
    · rw [if_neg e]
      simp [Ne.symm e]
theorem in_eq (l : List Int) (x : Int) : ref25_in l x = some (decide (x ∈ l)) := by
  unfold ref25_in
  rw [in_L x l 0]
  by_cases h : x ∈ l
  · rw [if_pos h, decide_eq_true h]; rfl
  · rw [if_neg h, decide_eq_false h]; rfl
theorem rvalid_L (m : Manifest) : ∀ (l : List Int) (k : Nat), ref25_Valid_L1 m l k = some (if ∀ n ∈ l, n ∈ m.Ever then .brk () else .ret false)
  | [], k => by simp [ref25_Valid_L1]
  | n :: l, k => by
    rw [ref25_Valid_L1, in_eq, rvalid_L m l (k + 1)]
    simp only [Option.bind_some]
    by_cases h : n ∈ m.Ever
    · rw [decide_eq_true h, Bool.not_true, cond_false]; simp [h]
    · rw [decide_eq_false h, Bool.not_false, cond_true, if_neg (fun e => h (e n (List.mem_cons_self ..)))]
theorem rvalid_ok {m : Manifest} (h : okM m) (hf : ref02_Valid m.Flight = some true) : ref25_Valid m = some true := by
  obtain ⟨h1, h2, h3, h4, h5, h6, h7, h8⟩ := h
  unfold ref25_Valid
  rw [hf, rasc_eq _ (by omega), rasc_eq _ (by omega), decide_eq_true h4, decide_eq_true h5, rvalid_L m, if_pos h6, decide_eq_false (show ¬ m.Version < 1 by omega), decide_eq_false (show ¬ 9999 < m.Version by omega)]
  rfl
theorem cmpS_of {a b : ByteArray} (h : ¬ a.toList = b.toList) : cmpS a b = if Op.bytesLess a.toList b.toList = true then -1 else 1 := by
  unfold cmpS
  by_cases h1 : Op.bytesLess a.toList b.toList = true
  · rw [if_pos h1, if_pos h1]
  · have h1' : Op.bytesLess a.toList b.toList = false := by simpa using h1
    have := less_flip _ _ h1'
    rw [if_neg h1, if_neg h1, this, if_pos (by simpa using h)]
theorem rcmp_eq (f g : Flight) : ref02_Compare f g = some (cmpF f g) := by
  unfold ref02_Compare
  rw [flight_beq]
  simp only [cond_ite, decide_eq_true_eq, Bool.not_eq_true', beq_eq_false_iff_ne, ne_eq, bne_iff_ne]
  by_cases e : f = g
  · rw [if_pos e, cmpF_zero.2 e]
  rw [if_neg e]
  unfold cmpF
  by_cases e1 : f.Carrier.toList = g.Carrier.toList
  · rw [if_neg (by simpa using e1), cmpS_zero.2 (toList_inj e1), orI, if_pos rfl]
    by_cases e2 : f.Number = g.Number
    · rw [if_neg (by simpa using e2), cmpI_zero.2 e2, orI, if_pos rfl]
      by_cases e3 : f.Suffix.toList = g.Suffix.toList
      · rw [if_neg (by simpa using e3), cmpS_zero.2 (toList_inj e3), orI, if_pos rfl]
        have e4 : f.Day ≠ g.Day := fun e4 => e (by
          cases f
          cases g
          simp only [Flight.mk.injEq]
          exact ⟨toList_inj e1, e2, toList_inj e3, e4⟩)
        unfold cmpI
        by_cases h : f.Day < g.Day
        · rw [if_pos h, if_pos h]
        · rw [if_neg h, if_neg h, if_pos (by omega)]
      · rw [if_pos e3, cmpS_of e3]
        by_cases h : Op.bytesLess f.Suffix.toList g.Suffix.toList = true
        · simp [h, orI]
        · simp [h, orI]
    · rw [if_pos e2]
      unfold cmpI
      by_cases h : f.Number < g.Number
      · simp [h, orI]
      · rw [if_neg h, if_neg h, if_pos (by omega)]; simp [orI]
  · rw [if_pos e1, cmpS_of e1]
    by_cases h : Op.bytesLess f.Carrier.toList g.Carrier.toList = true
    · simp [h, orI]
    · simp [h, orI]
theorem rvalidate_L (l : List Manifest) (h1 : ∀ m ∈ l, okM m) (hf : ∀ m ∈ l, ref02_Valid m.Flight = some true) (h2 : sortedM l) (h3 : l.length ≤ 24) : ∀ (rest : List Manifest) (k : Nat), l.drop k = rest → ref25_Validate_L1 l rest k = some (.brk ())
  | [], k, _ => rfl
  | m :: rest, k, hd => by
    have hk : l[k]? = some m := by rw [← List.head?_drop, hd]; rfl
    have hkl := (List.getElem?_eq_some_iff.1 hk).1
    have hd' : l.drop (k + 1) = rest := by rw [← List.tail_drop, hd]; rfl
    have ih := rvalidate_L l h1 hf h2 h3 rest (k + 1) hd'
    rw [ref25_Validate_L1, rvalid_ok (h1 m (List.mem_of_getElem? hk)) (hf m (List.mem_of_getElem? hk)), ih]
    simp only [Option.bind_some, Bool.not_true, cond_false]
    by_cases a : (0 : Int) < k
    · have hlt : k - 1 < l.length := by omega
      have hq := List.getElem?_eq_getElem hlt
      rw [decide_eq_true a, cond_true, w64_id (z := (k : Int) - 1) (by omega) (by omega), ixL_at' (k - 1) (by omega) hq]
      simp only [Option.bind_some, rcmp_eq]
      have hp := List.pairwise_iff_getElem.1 h2 (k - 1) k hlt hkl (by omega)
      rw [(List.getElem?_eq_some_iff.1 hk).2] at hp
      rw [show cmpF l[k - 1].Flight m.Flight = -1 from hp]
      rfl
    · rw [decide_eq_false a, cond_false]
theorem rvalidate_ok {l : List Manifest} (h : okL l) (hf : ∀ m ∈ l, ref02_Valid m.Flight = some true) : ref25_Validate l = some 0 := by
  unfold ref25_Validate
  have := h.2.2
  rw [decide_eq_false (show ¬ (24 : Int) < l.length by omega), cond_false, fin_brkE (rvalidate_L l h.1 hf h.2.1 h.2.2 l 0 rfl)]

theorem same_L (b : List Int) : ∀ (a : List Int) (k : Nat), k + a.length = b.length → ref25_Same_L1 b a k = some (if a = b.drop k then .brk () else .ret false)
  | [], k, h => by
    rw [ref25_Same_L1, if_pos]
    exact (List.drop_of_length_le (by simp at h; omega)).symm
  | x :: a, k, h => by
    have hlt : k < b.length := by simp at h; omega
    have hb := List.getElem?_eq_getElem hlt
    have ih := same_L b a (k + 1) (by simp at h; omega)
    rw [ref25_Same_L1, ixL_at' k rfl hb, ih]
    simp only [Option.bind_some, cond_ite, bne_iff_ne, ne_eq]
    have key := drop_iff x a hlt
    by_cases e : x = b[k]
    · rw [if_neg (by simpa using e)]
      by_cases e2 : a = b.drop (k + 1)
      · rw [if_pos e2, if_pos (key.2 ⟨e, e2⟩)]
      · rw [if_neg e2, if_neg (fun h => e2 (key.1 h).2)]
    · rw [if_pos e, if_neg (fun h => e (key.1 h).1)]
theorem same_eq (a b : List Int) : ref25_Same a b = some (decide (a = b)) := by
  unfold ref25_Same
  by_cases h : a.length = b.length
  · rw [show ((a.length : Int) != (b.length : Int)) = false by simp [h], cond_false, same_L b a 0 (by omega), List.drop_zero]
    by_cases e : a = b
    · rw [if_pos e, decide_eq_true e]; rfl
    · rw [if_neg e, decide_eq_false e]; rfl
  · rw [show ((a.length : Int) != (b.length : Int)) = true by simp; omega, cond_true, decide_eq_false (fun e => h (by rw [e]))]
theorem man_ext {a b : Manifest} (h1 : a.Flight = b.Flight) (h2 : a.Version = b.Version) (h3 : a.Boarded = b.Boarded) (h4 : a.Ever = b.Ever) : a = b := by
  cases a
  cases b
  simp only [Manifest.mk.injEq]
  exact ⟨h1, h2, h3, h4⟩
theorem sameAll_L (b : List Manifest) : ∀ (a : List Manifest) (k : Nat), k + a.length = b.length → ref25_SameAll_L1 b a k = some (if a = b.drop k then .brk () else .ret false)
  | [], k, h => by
    rw [ref25_SameAll_L1, if_pos]
    exact (List.drop_of_length_le (by simp at h; omega)).symm
  | x :: a, k, h => by
    have hlt : k < b.length := by simp at h; omega
    have hb := List.getElem?_eq_getElem hlt
    have ih := sameAll_L b a (k + 1) (by simp at h; omega)
    rw [ref25_SameAll_L1, ixL_at' k rfl hb, ih]
    simp only [Option.bind_some, flight_beq, same_eq, cond_ite, Bool.not_eq_true', decide_eq_false_iff_not, bne_iff_ne, ne_eq]
    have key := drop_iff x a hlt
    by_cases e1 : x.Flight = b[k].Flight
    · rw [if_neg (by simpa using e1)]
      by_cases e2 : x.Version = b[k].Version
      · rw [if_neg (by simpa using e2)]
        by_cases e3 : x.Boarded = b[k].Boarded
        · rw [if_neg (by simpa using e3)]
          by_cases e4 : x.Ever = b[k].Ever
          · rw [if_neg (by simpa using e4)]
            have e : x = b[k] := man_ext e1 e2 e3 e4
            by_cases e2 : a = b.drop (k + 1)
            · rw [if_pos e2, if_pos (key.2 ⟨e, e2⟩)]
            · rw [if_neg e2, if_neg (fun h => e2 (key.1 h).2)]
          · rw [if_pos e4, if_neg (fun h => e4 (by rw [(key.1 h).1]))]
        · rw [if_pos e3, if_neg (fun h => e3 (by rw [(key.1 h).1]))]
      · rw [if_pos e2, if_neg (fun h => e2 (by rw [(key.1 h).1]))]
    · rw [if_pos e1, if_neg (fun h => e1 (by rw [(key.1 h).1]))]
theorem sameAll_eq (a b : List Manifest) : ref25_SameAll a b = some (decide (a = b)) := by
  unfold ref25_SameAll
  by_cases h : a.length = b.length
  · rw [show ((a.length : Int) != (b.length : Int)) = false by simp [h], cond_false, sameAll_L b a 0 (by omega), List.drop_zero]
    by_cases e : a = b
    · rw [if_pos e, decide_eq_true e]; rfl
    · rw [if_neg e, decide_eq_false e]; rfl
  · rw [show ((a.length : Int) != (b.length : Int)) = true by simp; omega, cond_true, decide_eq_false (fun e => h (by rw [e]))]

/-! joining -/
theorem joinS_app : ∀ (n : Nat) (a1 b1 a2 b2 : List Manifest), a1.length + b1.length ≤ n → (∀ x ∈ a1, ∀ y ∈ b2, flt x.Flight y.Flight) → (∀ x ∈ b1, ∀ y ∈ a2, flt x.Flight y.Flight) → joinS (a1 ++ a2) (b1 ++ b2) = (joinS a1 b1).bind (fun r => (joinS a2 b2).map (r ++ ·))
  | n, [], [], a2, b2, _, _, _ => by simp [joinS_nil]
  | 0, _ :: _, _, a2, b2, h, _, _ => by simp at h
  | 0, [], _ :: _, a2, b2, h, _, _ => by simp at h
  | n + 1, x :: a1, [], a2, b2, h, h1, h2 => by
    have ih := joinS_app n a1 [] a2 b2 (by simpa using h) (fun x hx => h1 x (List.mem_cons_of_mem _ hx)) (fun x hx => by simp at hx)
    rw [joinS_nil_r] at ih ⊢
    simp only [List.nil_append, List.cons_append, Option.bind_some] at ih ⊢
    cases b2 with
    | nil => rw [joinS_nil_r] at ih ⊢; simp [joinS_nil_r]
    | cons y b2 =>
      have : cmpF x.Flight y.Flight = -1 := h1 x (List.mem_cons_self ..) y (List.mem_cons_self ..)
      rw [joinS, if_pos this, ih]
      cases joinS a2 (y :: b2) <;> simp
  | n + 1, [], y :: b1, a2, b2, h, h1, h2 => by
    have ih := joinS_app n [] b1 a2 b2 (by simpa using h) (fun x hx => by simp at hx) (fun x hx => h2 x (List.mem_cons_of_mem _ hx))
    rw [joinS_nil] at ih ⊢
    simp only [List.nil_append, List.cons_append, Option.bind_some] at ih ⊢
    cases a2 with
    | nil => rw [joinS_nil] at ih ⊢; simp [joinS_nil]
    | cons x a2 =>
      have : cmpF x.Flight y.Flight = 1 := flt_gt.2 (h2 y (List.mem_cons_self ..) x (List.mem_cons_self ..))
      rw [joinS, if_neg (by omega), if_pos this, ih]
      cases joinS (x :: a2) b2 <;> simp
  | n + 1, x :: a1, y :: b1, a2, b2, h, h1, h2 => by
    simp only [List.length_cons] at h
    simp only [List.cons_append]
    rw [joinS, joinS]
    by_cases e1 : cmpF x.Flight y.Flight = -1
    · rw [if_pos e1, if_pos e1]
      have ih := joinS_app n a1 (y :: b1) a2 b2 (by simp only [List.length_cons]; omega) (fun x hx => h1 x (List.mem_cons_of_mem _ hx)) h2
      rw [List.cons_append] at ih
      rw [ih]
      cases joinS a1 (y :: b1) <;> simp
      cases joinS a2 b2 <;> simp
    rw [if_neg e1, if_neg e1]
    by_cases e2 : cmpF x.Flight y.Flight = 1
    · rw [if_pos e2, if_pos e2]
      have ih := joinS_app n (x :: a1) b1 a2 b2 (by simp only [List.length_cons]; omega) h1 (fun x hx => h2 x (List.mem_cons_of_mem _ hx))
      rw [List.cons_append] at ih
      rw [ih]
      cases joinS (x :: a1) b1 <;> simp
      cases joinS a2 b2 <;> simp
    rw [if_neg e2, if_neg e2]
    cases mrg x y with
    | none => rfl
    | some m =>
      have ih := joinS_app n a1 b1 a2 b2 (by omega) (fun x hx => h1 x (List.mem_cons_of_mem _ hx)) (fun x hx => h2 x (List.mem_cons_of_mem _ hx))
      simp only [ih]
      cases joinS a1 b1 <;> simp
      cases joinS a2 b2 <;> simp

theorem mrg_none (x y : Manifest) : (mrg x y).isSome = (mrg y x).isSome := by
  unfold mrg
  by_cases h : x.Version = y.Version ∧ x.Boarded ≠ y.Boarded
  · rw [if_pos h, if_pos ⟨h.1.symm, h.2.symm⟩]
  · rw [if_neg h, if_neg (show ¬ (y.Version = x.Version ∧ y.Boarded ≠ x.Boarded) from fun e => h ⟨e.1.symm, e.2.symm⟩)]
    rfl
theorem joinS_flip : ∀ (n : Nat) (a b : List Manifest), a.length + b.length ≤ n → (joinS a b).map List.length = (joinS b a).map List.length
  | _, [], b, _ => by rw [joinS_nil, joinS_nil_r]
  | _, x :: a, [], _ => by rw [joinS_nil, joinS_nil_r]
  | 0, x :: a, y :: b, h => by simp at h
  | n + 1, x :: a, y :: b, h => by
    simp only [List.length_cons] at h
    rw [joinS, joinS, cmpF_flip x.Flight y.Flight]
    have i1 := joinS_flip n a (y :: b) (by simp only [List.length_cons]; omega)
    have i2 := joinS_flip n (x :: a) b (by simp only [List.length_cons]; omega)
    have i3 := joinS_flip n a b (by omega)
    have hm := mrg_none x y
    rcases cmpF_cases x.Flight y.Flight with e | e | e <;> rw [e]
    · rw [if_pos rfl, if_neg (by decide), if_pos (by decide)]
      cases h1 : joinS a (y :: b) <;> cases h2 : joinS (y :: b) a <;> simp_all
    · rw [if_neg (by decide), if_neg (by decide), if_neg (by decide), if_neg (by decide)]
      cases h1 : mrg x y <;> cases h2 : mrg y x <;> simp_all
      cases h3 : joinS a b <;> cases h4 : joinS b a <;> simp_all
    · rw [if_neg (by decide), if_pos rfl, if_pos (by decide)]
      cases h1 : joinS (x :: a) b <;> cases h2 : joinS b (x :: a) <;> simp_all
theorem joinR_flip (a b : List Manifest) : (joinR (joinS a b)).2 = (joinR (joinS b a)).2 := by
  have h := joinS_flip (a.length + b.length) a b (Nat.le_refl _)
  unfold joinR
  cases h1 : joinS a b <;> cases h2 : joinS b a <;> simp_all
  split <;> rfl
end Go.Proofs.Ytajmhegkkbnkcaa.Ex
