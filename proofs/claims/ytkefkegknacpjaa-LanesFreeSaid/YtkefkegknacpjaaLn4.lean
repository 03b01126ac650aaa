/- Lanes: the number of lanes, and storing in that many (LanesFree). -/
import Derived.Test.YtkefkegknacpjaaLn3
namespace Go.Proofs.Ytkefkegknacpjaa.Ex
open Go.RowKit Go.Proofs.Ytkefkegknacpjaa.Ax
set_option linter.unusedVariables false
set_option linter.unusedSimpArgs false

def laF (la : List Int) (j : Nat) : Int := (la[j]?).getD 0
def duF (due : List Int) (i : Int) : Int := (due[i.toNat]?).getD 0
/-- the due time of the last bag of lane j -/
def endA (due la : List Int) (j : Nat) : Int := duF due (laF la j)
/-- the lane for a due time among the first k -/
def aB (due la : List Int) (d : Int) : Nat → Int
  | 0 => -1
  | k + 1 => if endA due la k ≤ d ∧ (aB due la d k < 0 ∨ endA due la (aB due la d k).toNat < endA due la k) then (k : Int) else aB due la d k
def laStep (due la : List Int) (k : Nat) (d : Int) : List Int :=
  if aB due la d la.length < 0 then la ++ [(k : Int)] else la.set (aB due la d la.length).toNat (k : Int)
def laRun (due : List Int) : Nat → List Int
  | 0 => []
  | k + 1 => laStep due (laRun due k) k (duF due k)

theorem aB_in (due la : List Int) (d : Int) : ∀ k, -1 ≤ aB due la d k ∧ aB due la d k < k
  | 0 => by simp [aB]
  | k + 1 => by
    have := aB_in due la d k
    rw [aB]
    split <;> omega
theorem laRun_len (due : List Int) (k : Nat) : (laRun due k).length ≤ (laRun due (k + 1)).length := by
  rw [laRun]
  unfold laStep
  split <;> simp
theorem laRun_mono (due : List Int) : ∀ (n k : Nat), k ≤ n → (laRun due k).length ≤ (laRun due n).length
  | 0, k, h => by
    obtain rfl : k = 0 := by omega
    exact Nat.le_refl _
  | n + 1, k, h => by
    by_cases e : k = n + 1
    · subst e; exact Nat.le_refl _
    · exact Nat.le_trans (laRun_mono due n k (by omega)) (laRun_len due n)

/-- the list names bags before k -/
structure LaOk (la : List Int) (k : Nat) : Prop where
  len : la.length ≤ k
  at_ : ∀ x ∈ la, ∃ q : Nat, x = q ∧ q < k
theorem laRun_ok (due : List Int) : ∀ k, LaOk (laRun due k) k
  | 0 => ⟨by simp [laRun], fun x h => by simp [laRun] at h⟩
  | k + 1 => by
    obtain ⟨h1, h2⟩ := laRun_ok due k
    rw [laRun]
    unfold laStep
    split
    · refine ⟨by simp; omega, fun x hx => ?_⟩
      rcases List.mem_append.1 hx with hx | hx
      · obtain ⟨q, e, hq⟩ := h2 x hx
        exact ⟨q, e, by omega⟩
      · simp at hx
        exact ⟨k, hx, by omega⟩
    · refine ⟨by simp; omega, fun x hx => ?_⟩
      rcases List.mem_or_eq_of_mem_set hx with hx | hx
      · obtain ⟨q, e, hq⟩ := h2 x hx
        exact ⟨q, e, by omega⟩
      · exact ⟨k, hx, by omega⟩

theorem end_ix {due la : List Int} {k j : Nat} (h : LaOk la k) (hk : k ≤ due.length) (hj : j < la.length) : ixL la (j : Int) = some (laF la j) ∧ ixL due (laF la j) = some (endA due la j) := by
  have h1 : la[j]? = some la[j] := List.getElem?_eq_getElem hj
  have e : laF la j = la[j] := by unfold laF; rw [h1]; rfl
  obtain ⟨q, hq, hqk⟩ := h.at_ la[j] (List.getElem_mem hj)
  refine ⟨by rw [e]; exact ixL_at' j rfl h1, ?_⟩
  unfold endA duF
  rw [e, hq]
  have h2 : due[q]? = some due[q] := List.getElem?_eq_getElem (by omega)
  rw [ixL_at' q rfl h2, show ((q : Int)).toNat = q by omega, h2]
  rfl

theorem assigned_L2 {due la : List Int} {k0 : Nat} (h : LaOk la k0) (hk0 : k0 ≤ due.length) (d : Int) : ∀ (rest : List Int) (k : Nat), k ≤ la.length → la.drop k = rest → lanes_assigned_L2 rest k due la (aB due la d k) d = some (.brk (due, la, aB due la d la.length))
  | [], k, hk, hd => by
    obtain rfl := drop_end hk hd
    rw [lanes_assigned_L2]
  | x :: rest, k, hk, hd => by
    obtain ⟨h1, h2⟩ := hd_get hd
    have hkl := (List.getElem?_eq_some_iff.1 h1).1
    have ih := assigned_L2 h hk0 d rest (k + 1) hkl h2
    rw [aB] at ih
    obtain ⟨e1, e2⟩ := end_ix h hk0 hkl
    have hb := aB_in due la d k
    rw [lanes_assigned_L2]
    unfold lanes_assigned_f1
    rw [e1]
    simp only [Option.bind_some]
    rw [e2]
    simp only [Option.bind_some]
    by_cases c1 : endA due la k ≤ d
    · rw [decide_eq_true c1, cond_true]
      by_cases c2 : aB due la d k < 0
      · rw [decide_eq_true c2, cond_true]
        simp only [Option.bind_some]
        rwa [if_pos ⟨c1, .inl c2⟩] at ih
      · rw [decide_eq_false c2, cond_false]
        obtain ⟨e3, e4⟩ := end_ix h hk0 (j := (aB due la d k).toNat) (by omega)
        rw [show (((aB due la d k).toNat : Nat) : Int) = aB due la d k by omega] at e3
        rw [e3]
        simp only [Option.bind_some]
        rw [e4]
        simp only [Option.bind_some]
        by_cases c3 : endA due la (aB due la d k).toNat < endA due la k
        · rw [decide_eq_true c3, cond_true]
          simp only [Option.bind_some]
          rwa [if_pos ⟨c1, .inr c3⟩] at ih
        · rw [decide_eq_false c3, cond_false]
          simp only [Option.bind_some]
          rwa [if_neg (by rintro ⟨_, h | h⟩; exact c2 h; exact c3 h)] at ih
    · rw [decide_eq_false c1, cond_false]
      simp only [Option.bind_some]
      rwa [if_neg (fun h => c1 h.1)] at ih

theorem duF_at {due : List Int} {k : Nat} {d : Int} (h : due[k]? = some d) : duF due (k : Int) = d := by
  unfold duF
  rw [show ((k : Int)).toNat = k by omega, h]
  rfl
theorem assigned_L1 (due : List Int) (hdue : due.length ≤ 1000) : ∀ (rest : List Int) (k : Nat) (a3 a4 : List Int), k ≤ due.length → due.drop k = rest → a3.length = k → a4.length = k →
    ∃ z1 z2, lanes_assigned_L1 rest k a3 a4 (laRun due k) due = some (.brk (z1, z2, laRun due due.length))
  | [], k, a3, a4, hk, hd, _, _ => by
    obtain rfl := drop_end hk hd
    exact ⟨a3, a4, by rw [lanes_assigned_L1]⟩
  | d :: rest, k, a3, a4, hk, hd, l3, l4 => by
    obtain ⟨h1, h2⟩ := hd_get hd
    have hkl := (List.getElem?_eq_some_iff.1 h1).1
    have hla := laRun_ok due k
    have ih := fun a3 a4 e3 e4 => assigned_L1 due hdue rest (k + 1) a3 a4 hkl h2 e3 e4
    rw [laRun] at ih
    unfold laStep at ih
    rw [duF_at h1] at ih
    rw [lanes_assigned_L1]
    have h0 := assigned_L2 hla (by omega) d (laRun due k) 0 (Nat.zero_le _) rfl
    rw [aB] at h0
    rw [h0]
    simp only [Ctl.sub]
    obtain ⟨la, ela⟩ : ∃ la, la = laRun due k := ⟨_, rfl⟩
    rw [← ela] at hla ih ⊢
    have hll := hla.len
    have hb := aB_in due la d la.length
    have l21 : (a4 ++ [(-1 : Int)])[k]? = some (-1) := by rw [List.getElem?_append_right (by omega), l4]; simp
    by_cases c : aB due la d la.length < 0
    · rw [decide_eq_true c, cond_true, apL_eq (by simp; omega)]
      rw [if_pos c] at ih
      simp only [Option.bind_some]
      have hx : (la ++ [(k : Int)])[la.length]? = some (k : Int) := by simp
      rw [ixL_at' la.length rfl hx]
      simp only [Option.bind_some]
      rw [apL_eq (by simp; omega)]
      simp only [Option.bind_some]
      rw [apL_eq (by simp; omega)]
      simp only [Option.bind_some]
      have hs : (la ++ [(k : Int)]).set ((la.length : Int)).toNat (k : Int) = la ++ [(k : Int)] := by simp
      rw [hs]
      by_cases c2 : (0 : Int) < (la.length : Int)
      · rw [decide_eq_true c2, cond_true, w64_id (by omega) (by omega)]
        have hy : (la ++ [(k : Int)])[la.length - 1]? = some (la[la.length - 1]'(by omega)) := by
          rw [List.getElem?_append_left (by omega)]
          exact List.getElem?_eq_getElem _
        rw [ixL_at' (la.length - 1) (by omega) hy]
        simp only [Option.bind_some]
        rw [ixL_at' k rfl l21]
        simp only [Option.bind_some]
        exact ih _ _ (by simp; omega) (by simp; omega)
      · rw [decide_eq_false c2, cond_false]
        exact ih _ _ (by simp; omega) (by simp; omega)
    · rw [decide_eq_false c, cond_false]
      rw [if_neg c] at ih
      have hx : la[(aB due la d la.length).toNat]? = some (la[(aB due la d la.length).toNat]'(by omega)) := List.getElem?_eq_getElem _
      rw [ixL_at' _ (by omega) hx]
      simp only [Option.bind_some]
      rw [apL_eq (by simp; omega)]
      simp only [Option.bind_some]
      rw [apL_eq (by simp; omega)]
      simp only [Option.bind_some]
      by_cases c2 : (0 : Int) < aB due la d la.length
      · rw [decide_eq_true c2, cond_true, w64_id (by omega) (by omega)]
        have hy : (la.set (aB due la d la.length).toNat (k : Int))[(aB due la d la.length).toNat - 1]? = some ((la.set (aB due la d la.length).toNat (k : Int))[(aB due la d la.length).toNat - 1]'(by rw [List.length_set]; omega)) := List.getElem?_eq_getElem _
        rw [ixL_at' _ (by omega) hy]
        simp only [Option.bind_some]
        rw [ixL_at' k rfl l21]
        simp only [Option.bind_some]
        exact ih _ _ (by simp; omega) (by simp; omega)
      · rw [decide_eq_false c2, cond_false]
        exact ih _ _ (by simp; omega) (by simp; omega)

theorem checked_L : ∀ (l : List Int) (k : Nat), (∀ x ∈ l, 0 ≤ x ∧ x ≤ 1048576) → lanes_checked_L1 l k = some (.brk ())
  | [], k, _ => rfl
  | x :: l, k, h => by
    have hx := h x (by simp)
    rw [lanes_checked_L1, decide_eq_false (by omega), cond_false, decide_eq_false (by omega), cond_false]
    exact checked_L l (k + 1) (fun y hy => h y (by simp [hy]))
theorem count_eq (due : List Int) (hl : due.length ≤ 200) (h : ∀ x ∈ due, 0 ≤ x ∧ x ≤ 1048576) : lanes_Count due = some ((laRun due due.length).length : Int) := by
  unfold lanes_Count lanes_checked
  rw [decide_eq_false (by omega), cond_false, checked_L due 0 h]
  simp only [Ctl.fin, Option.bind_some, bne_self_eq_false, cond_false]
  unfold lanes_assigned
  obtain ⟨z1, z2, hz⟩ := assigned_L1 due (by omega) due 0 [] [] (Nat.zero_le _) rfl rfl rfl
  rw [laRun] at hz
  rw [hz]
  rfl

theorem times_L : ∀ (fuel : Nat) (a : List Int) (at_ : Int) (out : List Int) (i : Nat), i < fuel → SrcOk ⟨a, at_⟩ → i + out.length ≤ 40 → (∀ x ∈ out, 0 ≤ x ∧ x < 12) → okP (law17_times_L1 fuel a at_ out (i : Int)) (ctlQ (fun _ => False) (fun r => r.length ≤ 40 ∧ ∀ x ∈ r, 0 ≤ x ∧ x < 12))
  | 0, a, at_, out, i, h, _, _, _ => by omega
  | fuel + 1, a, at_, out, i, hf, hs, hl, ho => by
    rw [law17_times_L1]
    refine okP_cond (fun h => ?_) (fun h => okP_some ⟨by omega, ho⟩)
    have h := of_decide_eq_true h
    refine okP_bind (N_ok _ 12 hs (by omega) (by omega)) fun r hr => ?_
    refine okP_bindE (apL_eq (by simp; omega)) ?_
    rw [w64_id (by omega) (by omega), show (i : Int) - 1 = ((i - 1 : Nat) : Int) by omega]
    refine times_L fuel r.2.L r.2.At _ (i - 1) (by omega) hr.2.2 (by simp; omega) (fun x hx => ?_)
    rcases List.mem_append.1 hx with hx | hx
    · exact ho x hx
    · simp at hx
      subst hx
      exact ⟨hr.1, hr.2.1⟩
theorem times_ok (l : List Int) : okP (law17_times l) (fun r => r.length ≤ 40 ∧ ∀ x ∈ r, 0 ≤ x ∧ x < 12) := by
  unfold law17_times
  refine okP_bind (New_ok l) fun r1 h1 => okP_bind (N_ok r1 30 h1 (by omega) (by omega)) fun r2 h2 => ?_
  have := times_L 9223372036854775807 r2.2.L r2.2.At [] r2.1.toNat (by omega) h2.2.2 (by simp; omega) (fun x hx => by simp at hx)
  rw [show ((r2.1.toNat : Nat) : Int) = r2.1 by omega] at this
  exact okP_finB this fun z hz => okP_some hz
end Go.Proofs.Ytkefkegknacpjaa.Ex
