/- Boarding: a passenger's state follows from the lists alone. -/
import Derived.Test.YtajmhegkkbnkcaaBd4
namespace Go.Proofs.Ytajmhegkkbnkcaa.Ex
open Go.RowKit Go.Proofs.Ytajmhegkkbnkcaa.Ax
set_option linter.unusedVariables false
set_option linter.unusedSimpArgs false

theorem keepin_L (x : Int) : ∀ (l : List Int) (k : Nat), keep_In_L1 x l k = some (if x ∈ l then .ret true else .brk ())
  | [], k => by simp [keep_In_L1]
  | y :: l, k => by
    rw [keep_In_L1, keepin_L x l (k + 1)]
    simp only [cond_ite, beq_iff_eq]
    by_cases e : y = x
    · subst e; simp
    · rw [if_neg e]
      simp [Ne.symm e]
theorem keepin_eq (l : List Int) (x : Int) : keep_In l x = some (decide (x ∈ l)) := by
  unfold keep_In
  rw [keepin_L x l 0]
  by_cases h : x ∈ l
  · rw [if_pos h, decide_eq_true h]; rfl
  · rw [if_neg h, decide_eq_false h]; rfl
theorem fl_inj {f g : Nat} (hf : f < 5) (hg : g < 5) : fl f = fl g ↔ f = g := by
  constructor
  · intro e
    rcases Nat.lt_trichotomy f g with h | h | h
    · exact absurd e (flt_ne (fl_lt h hg))
    · exact h
    · exact absurd e.symm (flt_ne (fl_lt h hf))
  · rintro rfl; rfl

/-- the versions of a flight that have been seen -/
def comp (S : Msk) (g : Nat) : Nat := if g = 0 then S.1 else if g = 1 then S.2.1 else if g = 2 then S.2.2 else 0
def nw (T : Nat) : Nat := if T = 0 then 0 else maxv T
def onB (g T : Nat) (n : Int) : Bool := decide (T ≠ 0) && decide (n ∈ bitsL (msgX g (maxv T)))
def evB (g T : Nat) (n : Int) : Bool := decide (n ∈ bitsL (everX g T))
theorem comp_or (S T : Msk) (g : Nat) : comp (orM S T) g = comp S g ||| comp T g := by
  unfold comp orM
  (repeat' split) <;> simp
theorem comp_bit {f v g : Nat} (hg : g < 4) (hf : f < 3) : comp (bitv (f, v)) g = if f = g then 2 ^ (v - 1) else 0 := by
  unfold comp bitv
  simp only
  have : g = 0 ∨ g = 1 ∨ g = 2 ∨ g = 3 := by omega
  rcases this with rfl | rfl | rfl | rfl
  · simp
  · simp
  · simp
  · simp; omega
theorem comp_lt {S : Msk} (h : okS S) (g : Nat) : comp S g < 64 := by
  obtain ⟨h1, h2, h3⟩ := h
  unfold comp
  (repeat' split) <;> omega
theorem step_check : (List.range 3).all (fun f => (List.range 64).all fun T => (List.range 6).all fun v => nw (T ||| 2 ^ v) == (if nw T < v + 1 then v + 1 else nw T) && (everX f (T ||| 2 ^ v) == (everX f T ||| msgX f (v + 1)) && (T ||| 2 ^ v) != 0)) = true := by kernel_rfl
theorem step_at {f T v : Nat} (hf : f < 3) (hT : T < 64) (hv : 1 ≤ v ∧ v ≤ 6) : nw (T ||| 2 ^ (v - 1)) = (if nw T < v then v else nw T) ∧ everX f (T ||| 2 ^ (v - 1)) = (everX f T ||| msgX f v) ∧ T ||| 2 ^ (v - 1) ≠ 0 := by
  have h := List.all_eq_true.1 (List.all_eq_true.1 (List.all_eq_true.1 step_check f (List.mem_range.2 hf)) T (List.mem_range.2 hT)) (v - 1) (List.mem_range.2 (by omega))
  rw [show v - 1 + 1 = v by omega, Bool.and_eq_true, Bool.and_eq_true] at h
  exact ⟨eq_of_beq h.1, eq_of_beq h.2.1, bne_iff_ne.1 h.2.2⟩
theorem on_step {g T v : Nat} (n : Int) (hg : g < 3) (hT : T < 64) (hv : 1 ≤ v ∧ v ≤ 6) : onB g (T ||| 2 ^ (v - 1)) n = if nw T < v then decide (n ∈ bitsL (msgX g v)) else onB g T n := by
  obtain ⟨h1, _, h3⟩ := step_at hg hT hv
  unfold onB
  rw [decide_eq_true h3, Bool.true_and]
  have e1 : maxv (T ||| 2 ^ (v - 1)) = if nw T < v then v else nw T := by rw [← h1, nw, if_neg h3]
  rw [e1]
  by_cases h : nw T < v
  · rw [if_pos h, if_pos h]
  · rw [if_neg h, if_neg h]
    have h0 : T ≠ 0 := fun e => by rw [e] at h; simp [nw] at h; omega
    rw [decide_eq_true h0, Bool.true_and, nw, if_neg h0]
theorem ev_step {g T v : Nat} (n : Int) (hg : g < 3) (hT : T < 64) (hv : 1 ≤ v ∧ v ≤ 6) : evB g (T ||| 2 ^ (v - 1)) n = (evB g T n || decide (n ∈ bitsL (msgX g v))) := by
  unfold evB
  rw [(step_at hg hT hv).2.1, Bool.eq_iff_iff]
  simp only [decide_eq_true_eq, Bool.or_eq_true, mem_or]

theorem st4 (n : Int) (g : Nat) (hg : g < 4) : ∀ (ps : List (Nat × Nat)) (k : Nat) (T : Nat), T < 64 → (∀ p ∈ ps, okFV p) → (g = 3 → T = 0) →
    law25_BoardingStates_L4 n (g : Int) (msgs ps) k (nw T : Int) (onB g T n) (evB g T n) = some (.brk (onB g (T ||| comp (maskOf ps) g) n, evB g (T ||| comp (maskOf ps) g) n))
  | [], k, T, _, _, _ => by
    have : comp (maskOf []) g = 0 := by unfold comp maskOf; (repeat' split) <;> rfl
    rw [this, Nat.or_zero]
    rfl
  | p :: ps, k, T, hT, hp, h3 => by
    obtain ⟨f, v⟩ := p
    have hfv := hp (f, v) (List.mem_cons_self ..)
    obtain ⟨hf, hv⟩ := hfv
    simp only at hf hv
    have hp' : ∀ q ∈ ps, okFV q := fun q hq => hp q (List.mem_cons_of_mem _ hq)
    rw [show msgs ((f, v) :: ps) = msg f v :: msgs ps from rfl, law25_BoardingStates_L4, fl_eq (by omega), Option.bind_some, flight_beq]
    rw [show (msg f v).Out.Flight = fl f from rfl, show (msg f v).List = bitsL (msgX f v) from rfl, show (msg f v).Number = (v : Int) from rfl]
    rw [mask_cons, comp_or, comp_bit hg hf, ← Nat.or_assoc]
    by_cases e : f = g
    · subst e
      rw [decide_eq_true rfl, Bool.not_true, cond_false, keepin_eq, Option.bind_some, if_pos rfl]
      have hb : 2 ^ (v - 1) < 64 := Nat.pow_lt_pow_right (a := 2) (n := 6) (by omega) (by omega)
      have ih := fun k => st4 n f hg ps k (T ||| 2 ^ (v - 1)) (or64 hT hb) hp' (fun h => by omega)
      rw [(step_at hf hT hv).1, on_step n hf hT hv, ev_step n hf hT hv] at ih
      by_cases hlt : nw T < v
      · have hlt' : (nw T : Int) < v := by omega
        rw [if_pos hlt, if_pos hlt] at ih
        rw [decide_eq_true hlt', cond_true, cond_true]
        cases hev : evB f T n
        · rw [cond_false]
          rw [hev, Bool.false_or] at ih
          exact ih _
        · rw [cond_true]
          rw [hev, Bool.true_or] at ih
          exact ih _
      · have hlt' : ¬ (nw T : Int) < v := by omega
        rw [if_neg hlt, if_neg hlt] at ih
        rw [decide_eq_false hlt', cond_false, cond_false]
        cases hev : evB f T n
        · rw [cond_false]
          rw [hev, Bool.false_or] at ih
          exact ih _
        · rw [cond_true]
          rw [hev, Bool.true_or] at ih
          exact ih _
    · rw [decide_eq_false (fun h => e ((fl_inj (by omega) (by omega)).1 h)), Bool.not_false, cond_true, if_neg e, Nat.or_zero]
      exact st4 n g hg ps (k + 1) T hT hp' h3

/-- the state that Status gives -/
def stat (g T : Nat) (n st : Int) : Int := if onB g T n = true then 4 else if evB g T n = true then 5 else st
theorem status_opt (g : Nat) (hg : g < 4) (n st : Int) (f S : Nat) (hf : f < 3) (l : List Manifest) (k : Nat) : boarding_Status_L1 (fl g) n st (opt f S ++ l) k = if f = g ∧ S ≠ 0 then some (.ret (stat g S n st)) else boarding_Status_L1 (fl g) n st l (k + (opt f S).length) := by
  unfold opt
  by_cases h0 : S = 0
  · rw [if_pos h0, if_neg (fun h => h.2 h0)]; rfl
  · rw [if_neg h0]
    rw [show [mani f S] ++ l = mani f S :: l from rfl, boarding_Status_L1, flight_beq, show (mani f S).Flight = fl f from rfl]
    by_cases e : f = g
    · subst e
      rw [decide_eq_true rfl, Bool.not_true, cond_false, if_pos ⟨rfl, h0⟩, contains_eq, contains_eq, Option.bind_some, Option.bind_some]
      rw [show (mani f S).Boarded = bitsL (msgX f (maxv S)) from rfl, show (mani f S).Ever = bitsL (everX f S) from rfl]
      unfold stat onB evB
      rw [decide_eq_true h0, Bool.true_and]
      simp only [cond_ite]
      (repeat' split) <;> rfl
    · rw [decide_eq_false (fun h => e ((fl_inj (by omega) (by omega)).1 h)), Bool.not_false, cond_true, if_neg (fun h => e h.1)]
      rfl
theorem ev_zero (g : Nat) (n : Int) : evB g 0 n = false := by
  unfold evB
  have : everX g 0 = 0 := by unfold everX; rfl
  rw [this]
  rfl
theorem stat_zero (g : Nat) (n st : Int) : stat g 0 n st = st := by
  unfold stat
  rw [ev_zero, show onB g 0 n = false from rfl]
  rfl
theorem status_cano (S : Msk) (g : Nat) (hg : g < 4) (n st : Int) : boarding_Status (cano S) (fl g) n st = some (stat g (comp S g) n st) := by
  unfold boarding_Status cano
  rw [status_opt g hg n st 0 S.1 (by omega)]
  by_cases h1 : 0 = g ∧ S.1 ≠ 0
  · obtain ⟨h1, h2⟩ := h1; subst h1; rw [if_pos ⟨rfl, h2⟩]; rfl
  rw [if_neg h1, status_opt g hg n st 1 S.2.1 (by omega)]
  by_cases h2 : 1 = g ∧ S.2.1 ≠ 0
  · obtain ⟨h3, h4⟩ := h2; subst h3; rw [if_pos ⟨rfl, h4⟩]; rfl
  rw [if_neg h2, ← List.append_nil (opt 2 S.2.2), status_opt g hg n st 2 S.2.2 (by omega)]
  by_cases h3 : 2 = g ∧ S.2.2 ≠ 0
  · obtain ⟨h4, h5⟩ := h3; subst h4; rw [if_pos ⟨rfl, h5⟩]; rfl
  rw [if_neg h3]
  have : comp S g = 0 := by
    unfold comp
    split
    · rename_i e; exact Decidable.byContradiction fun h => h1 ⟨e.symm, h⟩
    · split
      · rename_i e; exact Decidable.byContradiction fun h => h2 ⟨e.symm, h⟩
      · split
        · rename_i e; exact Decidable.byContradiction fun h => h3 ⟨e.symm, h⟩
        · rfl
  rw [this, stat_zero]
  rfl

theorem st1 : ∀ (n : Nat) (s : Src) (ps : List (Nat × Nat)) (i : Int), SrcOk s → (∀ p ∈ ps, okFV p) → 0 ≤ i → ps.length + i ≤ 1000 → i < n → okP (law25_BoardingStates_L1 n s.L s.At (msgs ps) (cano (maskOf ps)) i) (ctlQ (fun _ => False) (fun z => SrcOk ⟨z.1, z.2.1⟩ ∧ ∃ qs, (∀ p ∈ qs, okFV p) ∧ z.2.2.1 = msgs qs ∧ z.2.2.2 = cano (maskOf qs)))
  | 0, s, ps, i, _, _, _, _, h => by omega
  | n + 1, s, ps, i, hs, hp, h0, h1, h2 => by
    rw [law25_BoardingStates_L1]
    refine okP_cond (fun h => ?_) (fun h => okP_some ⟨hs, ps, hp, rfl, rfl⟩)
    have h := of_decide_eq_true h
    refine okP_bind (list_ok s hs) (fun r ⟨⟨f, v, hfv, hm⟩, hr⟩ => ?_)
    rw [hm, apL_eq (by rw [msgs_len]; simp; omega), Option.bind_some, msgs_app ps (f, v), w64_id (by omega) (by omega), cano_apply (mask_ok hp) hfv, Option.bind_some, show ((0 : Int) != 0) = false from rfl, cond_false]
    have e : orM (maskOf ps) (bitv (f, v)) = maskOf (ps ++ [(f, v)]) := by rw [mask_app, mask_cons, show maskOf [] = (0, 0, 0) from rfl, orM_zero_r]
    rw [e]
    refine st1 n r.2 (ps ++ [(f, v)]) (i - 1) hr (fun p hp' => ?_) (by omega) (by simp; omega) (by omega)
    rcases List.mem_append.1 hp' with h | h
    · exact hp p h
    · simp at h; subst h; exact hfv
theorem st3 (st : Int) (z : List Int × Int × List Message × List Manifest) (ps : List (Nat × Nat)) (hp : ∀ p ∈ ps, okFV p) (h1 : z.2.2.1 = msgs ps) (h2 : z.2.2.2 = cano (maskOf ps)) (e : Int) : ∀ (n g : Nat), g ≤ 4 → 4 < n + g → law25_BoardingStates_L3 st z e n (g : Int) = some (.brk ())
  | 0, g, h, h' => by omega
  | n + 1, g, hg, hn => by
    rw [law25_BoardingStates_L3]
    by_cases h : (g : Int) < 4
    · have hg4 : g < 4 := by omega
      have h4 := st4 e g hg4 ps 0 0 (by omega) hp (fun _ => rfl)
      rw [show onB g 0 e = false from rfl, ev_zero, show ((nw 0 : Nat) : Int) = 0 from rfl, Nat.zero_or] at h4
      rw [decide_eq_true h, cond_true, h1, sub_brkE h4, fl_eq (by omega), h2]
      simp only [Option.bind_some, status_cano _ _ hg4]
      have ih := st3 st z ps hp h1 h2 e n (g + 1) (by omega) (by omega)
      rw [w64_id (z := (g : Int) + 1) (by omega) (by omega), show (g : Int) + 1 = ((g + 1 : Nat) : Int) by omega, ih]
      unfold stat
      cases onB g (comp (maskOf ps) g) e
      · cases evB g (comp (maskOf ps) g) e
        · simp
        · simp
      · simp
    · rw [decide_eq_false h, cond_false]
theorem states_ok (l : List Int) (sq st : Int) : law25_BoardingStates l sq st = some true := by
  refine okP_eq ?_
  unfold law25_BoardingStates
  refine okP_bind (New_ok l) (fun s hs => ?_)
  refine okP_bind (N_ok s 12 hs (by omega) (by omega)) (fun r ⟨r1, r2, r3⟩ => ?_)
  refine okP_finB (st1 9223372036854775807 r.2 [] r.1 r3 (fun p hp => by simp at hp) r1 (by simp; omega) (by omega)) (fun z ⟨hs2, ps, hp, h1, h2⟩ => ?_)
  refine okP_bind (N_ok ⟨z.1, z.2.1⟩ 12 hs2 (by omega) (by omega)) (fun q ⟨q1, q2, q3⟩ => ?_)
  refine okP_bind (N_ok q.2 12 q3 (by omega) (by omega)) (fun p ⟨p1, p2, p3⟩ => ?_)
  have h3 := fun e => st3 st z ps hp h1 h2 e 9223372036854775807 0 (by omega) (by omega)
  have hL : ∀ (xs : List Int) (k : Nat), law25_BoardingStates_L2 st z xs k = some (.brk ()) := fun xs => by
    induction xs with
    | nil => intro k; rfl
    | cons x xs ih =>
      intro k
      rw [law25_BoardingStates_L2]
      have := h3 x
      rw [show ((0 : Nat) : Int) = 0 from rfl] at this
      rw [sub_brkE this]
      exact ih _
  rw [fin_brkE (hL _ _), awake_ok]
  exact okP_some rfl
end Go.Proofs.Ytajmhegkkbnkcaa.Ex
