/- Lanes: storing in as many lanes as Count (LanesFree). -/
import Derived.Test.YtkefkegknacpjaaLn4
namespace Go.Proofs.Ytkefkegknacpjaa.Ex
open Go.RowKit Go.Proofs.Ytkefkegknacpjaa.Ax
set_option linter.unusedVariables false
set_option linter.unusedSimpArgs false

/-- the order in a lane -/
def sle (s t : Stored) : Prop := s.Due ≤ t.Due ∧ s.Bag < t.Bag
/-- the store after k bags -/
structure FOk (due la : List Int) (n k : Nat) (L : List (List Stored)) : Prop where
  cnt : L.length = n
  m : la.length ≤ n
  full : ∀ j, j < la.length → (laneF L (j : Int)).length ≠ 0 ∧ lastD (laneF L (j : Int)) = endA due la j
  empty : ∀ j, la.length ≤ j → laneF L (j : Int) = []
  sort : ∀ l ∈ L, l.Pairwise sle
  bag : ∀ l ∈ L, ∀ s ∈ l, ∃ j : Nat, j < k ∧ s.Bag = (j : Int) + 1 ∧ due[j]? = some s.Due
  nd : (bagsL L).Nodup
  mem : ∀ b : Int, b ∈ bagsL L ↔ 1 ≤ b ∧ b ≤ k
  len : (bagsL L).length = k

theorem lane_le : ∀ {L : List (List Stored)} {l : List Stored}, l ∈ L → l.length ≤ (bagsL L).length
  | l0 :: L, l, h => by
    rw [bags_cons, List.length_append, List.length_map]
    rcases List.mem_cons.1 h with rfl | h
    · omega
    · have := lane_le h
      omega

theorem lane_ge {L : List (List Stored)} {i : Int} (h : ¬ (0 ≤ i ∧ i < L.length)) (h0 : 0 ≤ i) : laneF L i = [] := by
  unfold laneF
  rw [List.getElem?_eq_none (by omega)]
  rfl

/-- the three numbers, where the first m lanes are not empty and the others are -/
theorem chS_free {due la : List Int} {n k : Nat} {L : List (List Stored)} (h : FOk due la n k L) (hk : k < 20) (d : Int) : ∀ j, j ≤ n →
    (chS 20 d L j).1 = aB due la d (min j la.length) ∧ (chS 20 d L j).2.1 = if la.length < j then (la.length : Int) else -1
  | 0, _ => by simp [chS, aB]
  | j + 1, hj => by
    obtain ⟨h1, h2⟩ := chS_free h hk d j (by omega)
    have hlen : (laneF L (j : Int)).length < 20 := by
      have ha := lane_at (L := L) (i := (j : Int)) (by omega) (by have := h.cnt; omega)
      have := lane_le (List.mem_of_getElem? ha)
      have := h.len
      omega
    have hin := aB_in due la d (min j la.length)
    rw [chS]
    generalize chS 20 d L j = c0 at h1 h2 ⊢
    obtain ⟨f, e, m⟩ := c0
    simp only at h1 h2
    unfold chStep
    rw [if_neg (by omega)]
    by_cases c : j < la.length
    · obtain ⟨g1, g2⟩ := h.full j c
      rw [if_neg g1]
      simp only
      rw [if_neg (by omega)] at h2
      rw [Nat.min_eq_left (show j ≤ la.length by omega)] at h1 hin
      rw [Nat.min_eq_left (show j + 1 ≤ la.length by omega), if_neg (show ¬ la.length < j + 1 by omega), h2, h1, g2]
      refine ⟨?_, rfl⟩
      rw [aB]
      by_cases c2 : aB due la d j < 0
      · by_cases c3 : endA due la j ≤ d
        · rw [if_pos ⟨c3, .inl c2⟩, if_pos ⟨c3, .inl c2⟩]
        · rw [if_neg (fun h => c3 h.1), if_neg (fun h => c3 h.1)]
      · have g3 := (h.full (aB due la d j).toNat (by omega)).2
        rw [show (((aB due la d j).toNat : Nat) : Int) = aB due la d j by omega] at g3
        rw [g3]
    · rw [h.empty j (by omega)]
      rw [Nat.min_eq_right (show la.length ≤ j by omega)] at h1
      simp only [List.length_nil, if_true]
      rw [Nat.min_eq_right (show la.length ≤ j + 1 by omega), if_pos (show la.length < j + 1 by omega)]
      refine ⟨h1, ?_⟩
      by_cases c2 : la.length < j
      · rw [if_pos c2] at h2
        rw [if_neg (by omega)]
        exact h2
      · rw [if_neg c2] at h2
        rw [if_pos (by omega)]
        omega

/-- the lane that the next bag gets -/
theorem best_free {due la : List Int} {n k : Nat} {L : List (List Stored)} (h : FOk due la n k L) (hk : k < 20) (d : Int) (hm : aB due la d la.length < 0 → la.length < n) :
    bestL 20 d L L.length = if aB due la d la.length < 0 then (la.length : Int) else aB due la d la.length := by
  have hn := h.cnt
  obtain ⟨h1, h2⟩ := chS_free h hk d n (Nat.le_refl _)
  rw [best_pick, hn]
  rw [Nat.min_eq_right h.m] at h1
  unfold pick
  rw [h1, h2]
  by_cases c : aB due la d la.length < 0
  · rw [if_neg (by omega), if_pos c, if_pos (hm c), if_pos (by omega)]
  · rw [if_pos (by omega), if_neg c]

theorem lane_set {L : List (List Stored)} {p : Nat} {l : List Stored} (hp : p < L.length) (j : Nat) : laneF (L.set p l) (j : Int) = if j = p then l else laneF L (j : Int) := by
  unfold laneF
  rw [show ((j : Int)).toNat = j by omega, List.getElem?_set]
  by_cases e : p = j
  · subst e
    simp [hp]
  · have e' : ¬ j = p := fun h => e h.symm
    simp [e, e']
theorem lastD_app (l : List Stored) (s : Stored) : lastD (l ++ [s]) = s.Due := by
  unfold lastD
  simp
theorem last_ge {l : List Stored} (h : l.Pairwise sle) : ∀ s ∈ l, s.Due ≤ lastD l := fun s hs => by
  obtain ⟨i, hi⟩ := List.getElem?_of_mem hs
  have hil := (List.getElem?_eq_some_iff.1 hi).1
  unfold lastD
  have hlast : l[l.length - 1]? = some (l[l.length - 1]'(by omega)) := List.getElem?_eq_getElem _
  rw [hlast]
  simp only
  by_cases e : i = l.length - 1
  · have : s = l[l.length - 1]'(by omega) := by
      rw [e] at hi
      rw [hi] at hlast
      exact Option.some.inj hlast
    rw [this]
    exact Int.le_refl _
  · have := List.pairwise_iff_getElem.1 h i (l.length - 1) hil (by omega) (by omega)
    rw [(List.getElem?_eq_some_iff.1 hi).2] at this
    exact this.1

theorem endA_set {due la : List Int} {k p : Nat} {d : Int} (hp : p < la.length) (hd : due[k]? = some d) (j : Nat) : endA due (la.set p (k : Int)) j = if j = p then d else endA due la j := by
  unfold endA laF
  rw [List.getElem?_set]
  by_cases e : p = j
  · subst e
    simp [hp, duF_at hd]
  · have e' : ¬ j = p := fun h => e h.symm
    simp [e, e']
theorem endA_app {due la : List Int} {k : Nat} {d : Int} (hd : due[k]? = some d) (j : Nat) (hj : j ≤ la.length) : endA due (la ++ [(k : Int)]) j = if j = la.length then d else endA due la j := by
  unfold endA laF
  by_cases e : j = la.length
  · subst e
    simp [duF_at hd]
  · rw [List.getElem?_append_left (by omega), if_neg e]

theorem free_put {due la : List Int} {n k : Nat} {L : List (List Stored)} (h : FOk due la n k L) (hx : LOk ⟨20, L⟩) (hk : k < 20) {d : Int} (hd : due[k]? = some d) (h0 : 0 ≤ d) (h1 : d ≤ 1048576) (hn1 : 1 ≤ n) (hm : aB due la d la.length < 0 → la.length < n) :
    (putR ⟨20, L⟩ ⟨(k : Int) + 1, d⟩).2.2 = 0 ∧ (putR ⟨20, L⟩ ⟨(k : Int) + 1, d⟩).1.Depth = 20 ∧ FOk due (laStep due la k d) n (k + 1) (putR ⟨20, L⟩ ⟨(k : Int) + 1, d⟩).1.L := by
  have hb := best_free h hk d hm
  have hin := aB_in due la d la.length
  have hnone : ¬ (findL ((k : Int) + 1) L).isSome = true := by
    rw [find_bags, decide_eq_true_eq, h.mem]
    omega
  obtain ⟨p, hp⟩ : ∃ p : Nat, bestL 20 d L L.length = p := ⟨(bestL 20 d L L.length).toNat, by rw [hb]; split <;> omega⟩
  have hpn : p < L.length := by
    have := h.cnt
    have := h.m
    rw [hp] at hb
    split at hb
    · rename_i c; have := hm c; omega
    · omega
  have he : putR ⟨20, L⟩ ⟨(k : Int) + 1, d⟩ = (⟨20, L.set p (laneF L p ++ [⟨(k : Int) + 1, d⟩])⟩, (p : Int), 0) := by
    unfold putR
    have hc : ¬ ((k : Int) + 1 < 1 ∨ 40 < (k : Int) + 1 ∨ d < 0 ∨ 1048576 < d) := by omega
    have e1 : ¬ bestL 20 d L L.length < 0 := by omega
    refine (if_neg hc).trans ((if_neg hnone).trans ((if_neg e1).trans ?_))
    show ((⟨20, L.set (bestL 20 d L L.length).toNat (laneF L (bestL 20 d L L.length) ++ [⟨(k : Int) + 1, d⟩])⟩ : Lanes), bestL 20 d L L.length, (0 : Int)) = _
    rw [hp, show ((p : Int)).toNat = p by omega]
  rw [he]
  refine ⟨rfl, rfl, ?_⟩
  have ha := lane_at (L := L) (i := (p : Int)) (by omega) (by omega)
  rw [show ((p : Int)).toNat = p by omega] at ha
  have hpm := put_bags ⟨(k : Int) + 1, d⟩ ha
  have hpm' : (bagsL (L.set p (laneF L p ++ [⟨(k : Int) + 1, d⟩]))).Perm (((k : Int) + 1) :: bagsL L) := hpm
  have hlmem := List.mem_of_getElem? ha
  have hfit : (laneF L (p : Int)).length ≠ 0 → lastD (laneF L (p : Int)) ≤ d := fun hne => by
    have hci := chS_inv 20 d L L.length
    by_cases c : aB due la d la.length < 0
    · rw [if_pos c, hp] at hb
      obtain rfl : p = la.length := by omega
      rw [h.empty _ (Nat.le_refl _)] at hne
      simp at hne
    · rw [if_neg c, hp] at hb
      have h1' := (chS_free h hk d n (Nat.le_refl _)).1
      rw [Nat.min_eq_right h.m, ← hb, ← h.cnt] at h1'
      have := (hci.f0 (by rw [h1']; omega)).2
      rwa [h1'] at this
  refine ⟨by simpa using h.cnt, ?_, fun j hj => ?_, fun j hj => ?_, fun l hl => ?_, fun l hl s hs => ?_, ?_, fun b => ?_, ?_⟩
  · unfold laStep
    split
    · rename_i c; simp; have := hm c; omega
    · simpa using h.m
  · rw [lane_set hpn]
    unfold laStep at hj ⊢
    by_cases c : aB due la d la.length < 0
    · rw [if_pos c] at hj ⊢
      rw [if_pos c, hp] at hb
      obtain rfl : p = la.length := by omega
      simp at hj
      rw [endA_app hd j (by omega)]
      by_cases e : j = la.length
      · rw [if_pos e, if_pos e]
        exact ⟨by simp, lastD_app _ _⟩
      · rw [if_neg e, if_neg e]
        exact h.full j (by omega)
    · rw [if_neg c] at hj ⊢
      rw [if_neg c, hp] at hb
      rw [List.length_set] at hj
      rw [show (aB due la d la.length).toNat = p by omega, endA_set (by omega) hd]
      by_cases e : j = p
      · rw [if_pos e, if_pos e]
        exact ⟨by simp, lastD_app _ _⟩
      · rw [if_neg e, if_neg e]
        exact h.full j hj
  · rw [lane_set hpn]
    unfold laStep at hj
    by_cases c : aB due la d la.length < 0
    · rw [if_pos c] at hj
      rw [if_pos c, hp] at hb
      simp at hj
      rw [if_neg (by omega)]
      exact h.empty j (by omega)
    · rw [if_neg c] at hj
      rw [if_neg c, hp] at hb
      rw [List.length_set] at hj
      rw [if_neg (by omega)]
      exact h.empty j hj
  · rcases List.mem_or_eq_of_mem_set hl with hl | rfl
    · exact h.sort l hl
    · rw [List.pairwise_append]
      refine ⟨h.sort _ hlmem, List.pairwise_singleton _ _, fun s hs t ht => ?_⟩
      simp at ht
      subst ht
      obtain ⟨j, j1, j2, j3⟩ := h.bag _ hlmem s hs
      have g1 := last_ge (h.sort _ hlmem) s hs
      have g2 := hfit (fun e => by rw [List.length_eq_zero_iff.1 e] at hs; simp at hs)
      exact ⟨by show s.Due ≤ d; omega, by show s.Bag < (k : Int) + 1; omega⟩
  · rcases List.mem_or_eq_of_mem_set hl with hl | rfl
    · obtain ⟨j, j1, j2⟩ := h.bag l hl s hs
      exact ⟨j, by omega, j2⟩
    · rcases List.mem_append.1 hs with hs | hs
      · obtain ⟨j, j1, j2⟩ := h.bag _ hlmem s hs
        exact ⟨j, by omega, j2⟩
      · simp at hs
        subst hs
        exact ⟨k, by omega, rfl, hd⟩
  · exact hpm'.nodup_iff.2 (List.nodup_cons.2 ⟨fun hi' => absurd ((h.mem _).1 hi').2 (by omega), h.nd⟩)
  · rw [hpm'.mem_iff, List.mem_cons, h.mem]
    constructor
    · rintro (h | h) <;> omega
    · intro h
      by_cases e : b = (k : Int) + 1
      · exact .inl e
      · exact .inr (by omega)
  · rw [hpm'.length_eq, List.length_cons, h.len]

theorem free_L1 (due : List Int) (hdue : due.length ≤ 20) (hd : ∀ x ∈ due, 0 ≤ x ∧ x ≤ 1048576) (n : Nat) (hn : n = (laRun due due.length).length) : ∀ (rest : List Int) (k : Nat) (L : List (List Stored)), k ≤ due.length → due.drop k = rest → LOk ⟨20, L⟩ → FOk due (laRun due k) n k L →
    ∃ L', law17_LanesFree_L1 rest k 20 L = some (.brk (20, L')) ∧ LOk ⟨20, L'⟩ ∧ FOk due (laRun due due.length) n due.length L'
  | [], k, L, hk, hr, hx, h => by
    obtain rfl := drop_end hk hr
    exact ⟨L, by rw [law17_LanesFree_L1], hx, h⟩
  | d :: rest, k, L, hk, hr, hx, h => by
    obtain ⟨h1, h2⟩ := hd_get hr
    have hkl := (List.getElem?_eq_some_iff.1 h1).1
    have hdm := hd d (List.mem_of_getElem? h1)
    have hmono := laRun_mono due due.length (k + 1) (by omega)
    have hmono0 := laRun_mono due due.length 1 (by omega)
    have hrun : laRun due (k + 1) = laStep due (laRun due k) k d := by rw [laRun, duF_at h1]
    have hm : aB due (laRun due k) d (laRun due k).length < 0 → (laRun due k).length < n := fun c => by
      rw [hrun] at hmono
      unfold laStep at hmono
      rw [if_pos c] at hmono
      simp at hmono
      omega
    have hn1 : 1 ≤ n := by
      rw [laRun] at hmono0
      unfold laStep at hmono0
      rw [laRun] at hmono0
      simp [aB] at hmono0
      omega
    have hp := free_put h hx (by omega) h1 hdm.1 hdm.2 hn1 hm
    have hok := put_ok hx ⟨(k : Int) + 1, d⟩ hp.1
    rw [law17_LanesFree_L1, w64_id (by omega) (by omega), show (1 : Int) + (k : Int) = (k : Int) + 1 by omega, put_eq hx]
    simp only [Option.bind_some]
    rw [hp.1]
    simp only [bne_self_eq_false, cond_false]
    rw [hp.2.1]
    have hD := hp.2.1
    have hF := hp.2.2
    generalize (putR ⟨20, L⟩ ⟨(k : Int) + 1, d⟩).1 = y at hok hD hF ⊢
    obtain ⟨yd, yl⟩ := y
    simp only at hD hF ⊢
    subst hD
    rw [← hrun] at hF
    exact free_L1 due hdue hd n hn rest (k + 1) yl hkl h2 hok hF
end Go.Proofs.Ytkefkegknacpjaa.Ex
