/- Lanes: LanesFree, the bags come out. -/
import Derived.Test.YtkefkegknacpjaaLn5
namespace Go.Proofs.Ytkefkegknacpjaa.Ex
open Go.RowKit Go.Proofs.Ytkefkegknacpjaa.Ax
set_option linter.unusedVariables false
set_option linter.unusedSimpArgs false

/-- the first of the least among those that are left, of the first k -/
def Best (due : List Int) (dn : List Bool) (k : Nat) (i : Int) : Prop :=
  (i = -1 ∧ ∀ j, j < k → dn[j]? ≠ some false) ∨ ∃ (m : Nat) (v : Int), i = m ∧ m < k ∧ dn[m]? = some false ∧ due[m]? = some v ∧ ∀ (j : Nat) (u : Int), j < k → dn[j]? = some false → due[j]? = some u → v ≤ u ∧ (u = v → m ≤ j)

theorem best_L (due : List Int) (dn : List Bool) (hl : dn.length = due.length) : ∀ (rest : List Int) (k : Nat) (i : Int), k ≤ due.length → due.drop k = rest → Best due dn k i → okP (law17_LanesFree_L9 due dn rest k i) (ctlQ (fun _ => False) (Best due dn due.length))
  | [], k, i, hk, hd, h => by
    obtain rfl := drop_end hk hd
    exact okP_some h
  | d :: rest, k, i, hk, hd, h => by
    obtain ⟨h1, h2⟩ := hd_get hd
    have hkl := (List.getElem?_eq_some_iff.1 h1).1
    have ih := fun i hi => best_L due dn hl rest (k + 1) i hkl h2 hi
    have hk1 : dn[k]? = some dn[k] := List.getElem?_eq_getElem (by omega)
    rw [law17_LanesFree_L9, ixL_at' k rfl hk1]
    simp only [Option.bind_some]
    cases hb : dn[k] with
    | true =>
      rw [hb] at hk1
      refine ih i ?_
      rcases h with ⟨e, h⟩ | ⟨m, v, e, hm, h3, h4, h5⟩
      · refine .inl ⟨e, fun j hj => ?_⟩
        by_cases ej : j = k
        · subst ej; rw [hk1]; simp
        · exact h j (by omega)
      · refine .inr ⟨m, v, e, by omega, h3, h4, fun j u hj hj2 hj3 => ?_⟩
        by_cases ej : j = k
        · subst ej; rw [hk1] at hj2; cases hj2
        · exact h5 j u (by omega) hj2 hj3
    | false =>
      rw [hb] at hk1
      simp only [Bool.not_false, cond_true]
      rcases h with ⟨rfl, h⟩ | ⟨m, v, rfl, hm, h3, h4, h5⟩
      · rw [decide_eq_true (by omega), cond_true]
        refine ih _ (.inr ⟨k, d, rfl, by omega, hk1, h1, fun j u hj hj2 hj3 => ?_⟩)
        by_cases ej : j = k
        · subst ej; rw [h1] at hj3; cases hj3; exact ⟨Int.le_refl _, fun _ => Nat.le_refl _⟩
        · exact absurd hj2 (h j (by omega))
      · rw [decide_eq_false (by omega), cond_false, ixL_at' m rfl h4]
        simp only [Option.bind_some]
        by_cases c : d < v
        · rw [decide_eq_true c, cond_true]
          refine ih _ (.inr ⟨k, d, rfl, by omega, hk1, h1, fun j u hj hj2 hj3 => ?_⟩)
          by_cases ej : j = k
          · subst ej; rw [h1] at hj3; cases hj3; exact ⟨Int.le_refl _, fun _ => Nat.le_refl _⟩
          · have := (h5 j u (by omega) hj2 hj3).1
            exact ⟨by omega, fun e => by omega⟩
        · rw [decide_eq_false c, cond_false]
          refine ih _ (.inr ⟨m, v, rfl, by omega, h3, h4, fun j u hj hj2 hj3 => ?_⟩)
          by_cases ej : j = k
          · subst ej; rw [h1] at hj3; cases hj3; exact ⟨by omega, fun _ => by omega⟩
          · exact h5 j u (by omega) hj2 hj3

structure TOk (due : List Int) (dn : List Bool) (L : List (List Stored)) (t : Nat) : Prop where
  ok : LOk ⟨20, L⟩
  dl : dn.length = due.length
  sort : ∀ l ∈ L, l.Pairwise sle
  bag : ∀ l ∈ L, ∀ s ∈ l, ∃ j : Nat, s.Bag = (j : Int) + 1 ∧ due[j]? = some s.Due
  nd : (bagsL L).Nodup
  mem : ∀ b : Int, b ∈ bagsL L ↔ ∃ j : Nat, b = (j : Int) + 1 ∧ dn[j]? = some false
  len : (bagsL L).length + t = due.length

theorem free_take {due : List Int} {dn : List Bool} {L : List (List Stored)} {t : Nat} (h : TOk due dn L t) {m : Nat} {v : Int} (hm : dn[m]? = some false) (hv : due[m]? = some v) (hb : ∀ (j : Nat) (u : Int), j < due.length → dn[j]? = some false → due[j]? = some u → v ≤ u ∧ (u = v → m ≤ j)) :
    (takeR ⟨20, L⟩ ((m : Int) + 1)).2 = ([], 0) ∧ (takeR ⟨20, L⟩ ((m : Int) + 1)).1.Depth = 20 ∧ TOk due (dn.set m true) (takeR ⟨20, L⟩ ((m : Int) + 1)).1.L (t + 1) := by
  obtain ⟨hx, hdl, hsort, hbag, hnd, hmem, hlen⟩ := h
  have hbm : ((m : Int) + 1) ∈ bagsL L := (hmem _).2 ⟨m, rfl, hm⟩
  obtain ⟨la, hla, s, hs, hsb⟩ := mem_bags.1 hbm
  obtain ⟨n, hn⟩ := List.getElem?_of_mem hla
  obtain ⟨i, hi⟩ := List.getElem?_of_mem hs
  have hfind : findL ((m : Int) + 1) L = some (n, i) := by rw [← hsb]; exact findL_at hnd hn hi
  have hil := (List.getElem?_eq_some_iff.1 hi).1
  have hsd : s.Due = v := by
    obtain ⟨j, j1, j2⟩ := hbag la hla s hs
    obtain rfl : j = m := by omega
    rw [hv] at j2
    exact (Option.some.inj j2).symm
  have hi0 : i = 0 := by
    by_cases e : i = 0
    · exact e
    · exfalso
      have h0 : la[0]? = some (la[0]'(by omega)) := List.getElem?_eq_getElem _
      have hle := List.pairwise_iff_getElem.1 (hsort la hla) 0 i (by omega) hil (by omega)
      rw [(List.getElem?_eq_some_iff.1 hi).2] at hle
      obtain ⟨j, j1, j2⟩ := hbag la hla _ (List.getElem_mem (by omega : 0 < la.length))
      have hj : dn[j]? = some false := by
        obtain ⟨j', e1, e2⟩ := (hmem (la[0]'(by omega)).Bag).1 (mem_bags.2 ⟨la, hla, _, List.getElem_mem (by omega : 0 < la.length), rfl⟩)
        obtain rfl : j' = j := by omega
        exact e2
      have hjl := (List.getElem?_eq_some_iff.1 j2).1
      have := hb j _ hjl hj j2
      have g1 := hle.1
      have g2 := hle.2
      have g3 := this.2 (by omega)
      omega
  subst hi0
  have ht : takeR ⟨20, L⟩ ((m : Int) + 1) = (⟨20, L.set n (la.drop 1)⟩, [], 0) := by
    unfold takeR
    rw [hfind]
    simp only [lane_get hn]
    simp
  have hok := take_ok hx ((m : Int) + 1) (by rw [ht])
  have hp := take_bags (i := 0) (s := s) hn hi
  rw [hsb, List.take_zero, List.append_nil, show 0 + 1 = 1 from rfl] at hp
  rw [ht] at hok ⊢
  refine ⟨rfl, rfl, hok, by simpa using hdl, fun l hl => ?_, fun l hl s' hs' => ?_, ?_, fun b => ?_, ?_⟩
  · rcases List.mem_or_eq_of_mem_set hl with hl | rfl
    · exact hsort l hl
    · exact (hsort la hla).drop
  · rcases List.mem_or_eq_of_mem_set hl with hl | rfl
    · exact hbag l hl s' hs'
    · exact hbag la hla s' (List.mem_of_mem_drop hs')
  · exact (List.nodup_cons.1 (hp.nodup_iff.2 hnd)).2
  · have hnot := (List.nodup_cons.1 (hp.nodup_iff.2 hnd)).1
    have hml := (List.getElem?_eq_some_iff.1 hm).1
    constructor
    · intro hb'
      have h1 : b ∈ bagsL L := hp.mem_iff.1 (List.mem_cons_of_mem _ hb')
      obtain ⟨j, e1, e2⟩ := (hmem b).1 h1
      refine ⟨j, e1, ?_⟩
      rw [List.getElem?_set_ne]
      · exact e2
      · rintro rfl
        rw [e1] at hb'
        exact hnot hb'
    · rintro ⟨j, e1, e2⟩
      by_cases e : m = j
      · subst e
        rw [List.getElem?_set_self hml] at e2
        cases e2
      · rw [List.getElem?_set_ne e] at e2
        have h1 : b ∈ ((m : Int) + 1) :: bagsL (L.set n (la.drop 1)) := hp.mem_iff.2 ((hmem b).2 ⟨j, e1, e2⟩)
        rcases List.mem_cons.1 h1 with h1 | h1
        · omega
        · exact h1
  · have := hp.length_eq
    rw [List.length_cons] at this
    show (bagsL (L.set n (la.drop 1))).length + (t + 1) = due.length
    omega

theorem free_L8 (due : List Int) (hdue : due.length ≤ 20) : ∀ (rest : List Int) (k : Nat) (L : List (List Stored)) (dn : List Bool), k + rest.length = due.length → TOk due dn L k → law17_LanesFree_L8 due rest k 20 L dn = some (.brk ())
  | [], k, L, dn, _, _ => by rw [law17_LanesFree_L8]
  | x :: rest, k, L, dn, hk, h => by
    simp only [List.length_cons] at hk
    rw [law17_LanesFree_L8]
    obtain ⟨c, hc, hq⟩ := best_L due dn h.dl due 0 (-1) (Nat.zero_le _) rfl (.inl ⟨rfl, fun j hj => by omega⟩)
    rw [hc]
    cases c with
    | ret r => exact hq.elim
    | brk z =>
      simp only [Ctl.sub]
      rcases hq with ⟨_, hall⟩ | ⟨m, v, rfl, hm, h3, h4, h5⟩
      · exfalso
        have hl := h.len
        obtain ⟨b, hb⟩ : ∃ b, b ∈ bagsL L := by
          cases e : bagsL L with
          | nil => rw [e] at hl; simp at hl; omega
          | cons b l => exact ⟨b, by simp⟩
        obtain ⟨j, j1, j2⟩ := (h.mem b).1 hb
        have := (List.getElem?_eq_some_iff.1 j2).1
        have := h.dl
        exact hall j (by omega) j2
      · obtain ⟨t1, t2, t3⟩ := free_take h h3 h4 h5
        rw [w64_id (by omega) (by omega), show (1 : Int) + (m : Int) = (m : Int) + 1 by omega, take_eq h.ok]
        simp only [Option.bind_some]
        rw [t1]
        simp only [bne_self_eq_false, cond_false, List.length_nil]
        rw [decide_eq_false (by omega), cond_false, ixL_at' m rfl h3]
        simp only [Option.bind_some]
        rw [t2, show ((m : Int)).toNat = m by omega]
        exact free_L8 due hdue rest (k + 1) _ _ (by omega) t3

theorem free_const : ((lanes_Count ([(3 : Int), (1 : Int), (2 : Int)] : List Int)).bind fun r_2 =>
    cond (decide (r_2 < (1 : Int)))
    (some false)
    (cond (decide ((20 : Int) < r_2))
    (some false)
    ((lanes_New r_2 (20 : Int)).bind fun r_3 =>
    cond (r_3.2 != (0 : Int))
    (some false)
    (Ctl.fin (law17_LanesFree_L1 ([(3 : Int), (1 : Int), (2 : Int)] : List Int) 0 r_3.1.Depth r_3.1.L) fun z_11 =>
    (mkL (([(3 : Int), (1 : Int), (2 : Int)] : List Int).length : Int) false).bind fun l_12 =>
    Ctl.fin (law17_LanesFree_L2 ([(3 : Int), (1 : Int), (2 : Int)] : List Int) 0 z_11.1 z_11.2 l_12) fun z_30 =>
    (law17_awake).bind fun r_31 =>
    some r_31)))) = some true := by kernel_rfl

theorem free_ok (l : List Int) : law17_LanesFree l = some true := by
  refine okP_eq ?_
  unfold law17_LanesFree
  refine okP_bind (times_ok l) fun due hd => ?_
  refine okP_cond (fun _ => ?_) fun h1 => okP_cond (fun _ => ?_) fun h2 => ?_
  · rw [free_const]; exact okP_some rfl
  · rw [free_const]; exact okP_some rfl
  have h1 := of_decide_eq_false h1
  have hne : due.length ≠ 0 := fun e => by rw [e] at h2; simp at h2
  have hdb : ∀ x ∈ due, 0 ≤ x ∧ x ≤ 1048576 := fun x hx => by have := hd.2 x hx; omega
  have hlen : due.length ≤ 20 := by omega
  obtain ⟨n, hn⟩ : ∃ n, n = (laRun due due.length).length := ⟨_, rfl⟩
  have hn1 : 1 ≤ n := by
    have hmono0 := laRun_mono due due.length 1 (by omega)
    rw [laRun] at hmono0
    unfold laStep at hmono0
    rw [laRun] at hmono0
    simp [aB] at hmono0
    omega
  have hn2 : n ≤ 20 := by have := (laRun_ok due due.length).len; omega
  rw [count_eq due (by omega) hdb, ← hn]
  simp only [Option.bind_some]
  rw [decide_eq_false (by omega), cond_false, decide_eq_false (by omega), cond_false, new_eq (by omega) (by omega) (by omega) (by omega)]
  simp only [Option.bind_some, bne_self_eq_false, cond_false]
  have hok := new_ok (a := (n : Int)) (b := 20) (by omega) (by omega) (by omega) (by omega)
  rw [show ((n : Int)).toNat = n by omega] at hok ⊢
  have hrep : ∀ k, bagsL (List.replicate k ([] : List Stored)) = [] := fun k => by
    induction k with
    | zero => rfl
    | succ k ih => rw [List.replicate_succ, bags_cons, ih]; rfl
  have hF0 : FOk due (laRun due 0) n 0 (List.replicate n []) := by
    refine ⟨by simp, by simp [laRun], fun j hj => by simp [laRun] at hj, fun j _ => ?_, fun l hl => ?_, fun l hl s hs => ?_, ?_, fun b => ?_, ?_⟩
    · unfold laneF
      rw [show ((j : Int)).toNat = j by omega, List.getElem?_replicate]
      split <;> rfl
    · rw [(List.mem_replicate.1 hl).2]; exact List.Pairwise.nil
    · rw [(List.mem_replicate.1 hl).2] at hs; simp at hs
    · rw [hrep]; exact List.nodup_nil
    · rw [hrep]; simp; omega
    · rw [hrep]; rfl
  obtain ⟨L', e1, e2, e3⟩ := free_L1 due hlen hdb n hn due 0 (List.replicate n []) (Nat.zero_le _) rfl hok hF0
  rw [e1]
  simp only [Ctl.fin]
  rw [mkL_eq (by omega) (by omega)]
  simp only [Option.bind_some]
  have hT : TOk due (List.replicate due.length false) L' 0 := by
    refine ⟨e2, by simp, e3.sort, fun l hl s hs => ?_, e3.nd, fun b => ?_, by rw [e3.len]; rfl⟩
    · obtain ⟨j, _, j2, j3⟩ := e3.bag l hl s hs
      exact ⟨j, j2, j3⟩
    · rw [e3.mem]
      constructor
      · intro h
        refine ⟨(b - 1).toNat, by omega, ?_⟩
        rw [List.getElem?_replicate, if_pos (by omega)]
      · rintro ⟨j, j1, j2⟩
        rw [List.getElem?_replicate] at j2
        split at j2
        · omega
        · cases j2
  rw [show ((due.length : Int)).toNat = due.length by omega, free_L8 due hlen due 0 L' _ (by omega) hT]
  simp only [awake17, Option.bind_some]
  exact okP_some rfl
end Go.Proofs.Ytkefkegknacpjaa.Ex
