/- Plain laws on schedules: flights rise, a flight is found at its place, cancelling and restoring. -/
import Derived.Test.YtmigkmdhenkpmaaDepU
namespace Go.Proofs.Ytmigkmdhenkpmaa
open Go.RowKit

theorem less_trans : ∀ (x y z : List UInt8), Op.bytesLess x y = true → Op.bytesLess y z = true → Op.bytesLess x z = true
  | _, _, [], _, h => by cases ‹List UInt8› <;> simp [Op.bytesLess] at h
  | _, [], _ :: _, h, _ => by cases ‹List UInt8› <;> simp [Op.bytesLess] at h
  | [], _ :: _, _ :: _, _, _ => by simp [Op.bytesLess]
  | a :: x, b :: y, c :: z, h1, h2 => by
    simp only [Op.bytesLess, Bool.or_eq_true, decide_eq_true_eq, Bool.and_eq_true, beq_iff_eq] at h1 h2 ⊢
    rcases h1 with h1 | ⟨rfl, h1⟩
    · rcases h2 with h2 | ⟨rfl, h2⟩
      · exact .inl (UInt8.lt_trans h1 h2)
      · exact .inl h1
    · rcases h2 with h2 | ⟨rfl, h2⟩
      · exact .inl h2
      · exact .inr ⟨rfl, less_trans x y z h1 h2⟩

theorem cmpS_neg {a b : ByteArray} (h : cmpS a b = -1) : Op.bytesLess a.toList b.toList = true := by
  unfold cmpS at h
  split at h
  · assumption
  · split at h <;> omega

theorem cmpS_zero {a b : ByteArray} (h : cmpS a b = 0) : a = b := by
  unfold cmpS at h
  split at h
  · omega
  · rename_i h1
    split at h
    · omega
    · rename_i h2
      have h1' : Op.bytesLess a.toList b.toList = false := by simpa using h1
      have := less_flip _ _ h1'
      rw [this] at h2
      exact bytes_eq (by simpa using h2)

theorem cmpS_trans {a b c : ByteArray} (h1 : cmpS a b = -1) (h2 : cmpS b c = -1) : cmpS a c = -1 := cmpS_lt (less_trans _ _ _ (cmpS_neg h1) (cmpS_neg h2))

theorem cmpI_neg {a b : Int} (h : cmpI a b = -1) : a < b := by
  unfold cmpI at h
  split at h
  · assumption
  · split at h <;> omega

theorem cmpI_zero {a b : Int} (h : cmpI a b = 0) : a = b := by
  unfold cmpI at h
  split at h
  · omega
  · split at h <;> omega

theorem orI_neg {x y : Int} (h : orI x y = -1) : x = -1 ∨ (x = 0 ∧ y = -1) := by
  unfold orI at h
  split at h
  · exact .inr ⟨by assumption, h⟩
  · exact .inl h

theorem orI_of {x y : Int} (h : x = -1 ∨ (x = 0 ∧ y = -1)) : orI x y = -1 := by
  unfold orI
  rcases h with rfl | ⟨rfl, rfl⟩ <;> rfl

theorem cmpF_trans {a b c : Flt} (h1 : cmpF a b = -1) (h2 : cmpF b c = -1) : cmpF a c = -1 := by
  obtain ⟨c1, n1, s1, d1⟩ := a
  obtain ⟨c2, n2, s2, d2⟩ := b
  obtain ⟨c3, n3, s3, d3⟩ := c
  simp only [cmpF] at h1 h2 ⊢
  apply orI_of
  rcases orI_neg h1 with a1 | ⟨e1, a1⟩
  · rcases orI_neg h2 with a2 | ⟨e2, _⟩
    · exact .inl (cmpS_trans a1 a2)
    · rw [cmpS_zero e2] at a1; exact .inl a1
  · clear h1
    obtain rfl := cmpS_zero e1
    clear e1
    rcases orI_neg h2 with a2 | ⟨e2, a2⟩
    · exact .inl a2
    · clear h2
      refine .inr ⟨e2, orI_of ?_⟩
      clear e2
      rcases orI_neg a1 with b1 | ⟨e1, b1⟩
      · rcases orI_neg a2 with b2 | ⟨e2, _⟩
        · exact .inl (cmpI_lt (Int.lt_trans (cmpI_neg b1) (cmpI_neg b2)))
        · rw [cmpI_zero e2] at b1; exact .inl b1
      · clear a1
        obtain rfl := cmpI_zero e1
        clear e1
        rcases orI_neg a2 with b2 | ⟨e2, b2⟩
        · exact .inl b2
        · clear a2
          refine .inr ⟨e2, orI_of ?_⟩
          clear e2
          rcases orI_neg b1 with c1 | ⟨e1, c1⟩
          · rcases orI_neg b2 with c2 | ⟨e2, _⟩
            · exact .inl (cmpS_trans c1 c2)
            · rw [cmpS_zero e2] at c1; exact .inl c1
          · clear b1
            obtain rfl := cmpS_zero e1
            clear e1
            rcases orI_neg b2 with c2 | ⟨e2, c2⟩
            · exact .inl c2
            · exact .inr ⟨e2, cmpI_lt (Int.lt_trans (cmpI_neg c1) (cmpI_neg c2))⟩

theorem cmpF_self (a : Flt) : cmpF a a = 0 := by
  unfold cmpF
  rw [cmpS_eq rfl, cmpI_self, cmpS_eq rfl, cmpI_self]
  rfl

/-- the first of a list that is right comes behind p, and every later one too -/
theorem vErr_above : ∀ (l : List Dep) (p : Flt), vErr (some p) l = 0 → ∀ x ∈ l, cmpF p x.flt = -1
  | [], _, _, x, hx => by cases hx
  | d :: l, p, h, x, hx => by
    simp only [vErr] at h
    split at h
    · split at h
      · omega
      · rename_i h1
        split at h
        · omega
        · rename_i h2
          have hpd : cmpF p d.flt = -1 := by rcases cmpF_bd p d.flt with h3 | h3 | h3 <;> first | exact h3 | exact absurd h3 h1 | exact absurd h3 h2
          rcases List.mem_cons.1 hx with rfl | hx
          · exact hpd
          · exact cmpF_trans hpd (vErr_above l d.flt h x hx)
    · omega

theorem vErr_tail {p : Option Flt} {d : Dep} {l : List Dep} (h : vErr p (d :: l) = 0) : vErr (some d.flt) l = 0 := by
  cases p with
  | none =>
    simp only [vErr] at h
    split at h
    · exact h
    · omega
  | some p =>
    simp only [vErr] at h
    split at h
    · split at h
      · omega
      · split at h
        · omega
        · exact h
    · omega

/-- a flight is found at its place -/
theorem find_at : ∀ (l : List Dep) (p : Option Flt) (i k : Nat) (d : Dep), vErr p l = 0 → l[k]? = some d → findD d.flt l i = ((i + k : Nat) : Int)
  | [], _, _, _, _, _, h => by simp at h
  | x :: l, p, i, 0, d, _, h => by
    simp at h
    subst h
    rw [findD, if_pos rfl]
    rfl
  | x :: l, p, i, k + 1, d, hv, h => by
    have h' : l[k]? = some d := by simpa using h
    have hne : ¬ x.flt = d.flt := fun e => by
      have := vErr_above l x.flt (vErr_tail hv) d (List.mem_of_getElem? h')
      rw [e, cmpF_self] at this
      omega
    rw [findD, if_neg hne, find_at l (some x.flt) (i + 1) k d (vErr_tail hv) h']
    congr 1
    omega

/-- another departure of the same flight that is right -/
theorem vErr_set : ∀ (l : List Dep) (p : Option Flt) (k : Nat) (d y : Dep), vErr p l = 0 → l[k]? = some d → validD y = true → y.flt = d.flt → vErr p (l.set k y) = 0
  | [], _, _, _, _, _, h, _, _ => by simp at h
  | x :: l, none, 0, d, y, hv, h, hy, hf => by
    simp at h
    subst h
    rw [List.set_cons_zero]
    simp only [vErr, hy, if_true]
    rw [hf]
    exact vErr_tail hv
  | x :: l, some p, 0, d, y, hv, h, hy, hf => by
    simp at h
    subst h
    rw [List.set_cons_zero]
    have := vErr_above (x :: l) p hv x (by simp)
    simp only [vErr, hy, if_true]
    rw [hf, this]
    simp only [if_neg (show ¬ (-1 : Int) = 0 by omega), if_neg (show ¬ (-1 : Int) = 1 by omega)]
    exact vErr_tail hv
  | x :: l, none, k + 1, d, y, hv, h, hy, hf => by
    rw [List.set_cons_succ]
    have hx := vErr_all (x :: l) none hv x (by simp)
    simp only [vErr, hx, if_true]
    exact vErr_set l _ k d y (vErr_tail hv) (by simpa using h) hy hf
  | x :: l, some p, k + 1, d, y, hv, h, hy, hf => by
    rw [List.set_cons_succ]
    have hx := vErr_all (x :: l) (some p) hv x (by simp)
    have := vErr_above (x :: l) p hv x (by simp)
    simp only [vErr, hx, if_true]
    rw [this]
    simp only [if_neg (show ¬ (-1 : Int) = 0 by omega), if_neg (show ¬ (-1 : Int) = 1 by omega)]
    exact vErr_set l _ k d y (vErr_tail hv) (by simpa using h) hy hf

theorem valE_of {l : List Dep} (h : vErr none l = 0) (hl : l.length ≤ 24) : valE l = 0 := by
  unfold valE
  rw [if_neg (by omega)]
  exact h

theorem vErr_of {l : List Dep} (h : valE l = 0) : vErr none l = 0 := by
  have := valE_le h
  unfold valE at h
  rwa [if_neg (by omega)] at h

/-- what a revision does at the place of its flight -/
theorem apply_at {l : List Dep} {k : Nat} {d : Dep} (hv : valE l = 0) (hd : l[k]? = some d) (kd m now : Int) (hk : 1 ≤ kd ∧ kd ≤ 5) :
    applyF l ⟨kd, m, d.flt⟩ now = applyAt l k ⟨kd, m, d.flt⟩ now := by
  have hf := find_at l none 0 k d (vErr_of hv) hd
  rw [Nat.zero_add] at hf
  unfold applyF
  rw [if_pos hv, if_pos hk]
  simp only
  rw [hf, if_neg (by omega), Int.toNat_natCast]

theorem valid_state {d : Dep} (h : validD d = true) (s : Int) (hs : 0 ≤ s ∧ s ≤ 2) : validD { d with state := s } = true := by
  simp only [validD, Bool.and_eq_true, decide_eq_true_eq] at h ⊢
  exact ⟨⟨h.1.1, hs.1⟩, hs.2⟩

theorem cancel_at {l : List Dep} {k : Nat} {d : Dep} (hv : valE l = 0) (hd : l[k]? = some d) (now : Int) :
    applyF l ⟨4, 0, d.flt⟩ now = if d.state = 0 then (0, l.set k { d with state := 1 }) else (7, []) := by
  rw [apply_at hv hd 4 0 now (by omega)]
  unfold applyAt
  rw [hd]
  have h1 := valid_state (valE_all hv d (List.mem_of_getElem? hd)) 1 (by omega)
  by_cases hs : d.state = 0
  · simp [wantS, amtF, revis, hs, h1]
  · simp [wantS, hs]

theorem restore_at {l : List Dep} {k : Nat} {d : Dep} (hv : valE l = 0) (hd : l[k]? = some d) (hs : d.state = 0) (now : Int) :
    applyF (l.set k { d with state := 1 }) ⟨5, 0, d.flt⟩ now = (0, l) := by
  have hk : k < l.length := (List.getElem?_eq_some_iff.1 hd).1
  have hvd := valE_all hv d (List.mem_of_getElem? hd)
  have hl := valE_le hv
  have hv2 : valE (l.set k { d with state := 1 }) = 0 := valE_of (vErr_set l none k d _ (vErr_of hv) hd (valid_state hvd 1 (by omega)) rfl) (by simpa using hl)
  have hd2 : (l.set k { d with state := 1 })[k]? = some { d with state := 1 } := by simp [hk]
  have := apply_at hv2 hd2 5 0 now (by omega)
  rw [show ({ d with state := 1 } : Dep).flt = d.flt from rfl] at this
  rw [this]
  unfold applyAt
  rw [hd2]
  have h0 := valid_state hvd 0 (by omega)
  have he : ({ d with state := 0 } : Dep) = d := by rw [← hs]
  have hset : (l.set k { d with state := 1 }).set k d = l := by
    rw [List.set_set]
    exact List.ext_getElem? (fun i => by
      by_cases e : i = k
      · subst e; simp [hk]; rw [List.getElem?_eq_getElem hk] at hd; exact (Option.some.inj hd).symm
      · rw [List.getElem?_set_ne (fun h => e h.symm)])
  simp [wantS, amtF, revis, he, hset, hvd]
end Go.Proofs.Ytmigkmdhenkpmaa
