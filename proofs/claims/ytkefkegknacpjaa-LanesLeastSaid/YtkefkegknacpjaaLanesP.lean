/- The assignment is good, the chain is a chain: plain laws, no program in sight. -/
import Derived.Test.YtkefkegknacpjaaLanesK
namespace Go.Proofs.Ytkefkegknacpjaa
open Go.RowKit Go.Maps

/-- the best lane of k: it fits, and no other that fits ends later -/
theorem bestS_fits (e : Nat → Int) (n : Int) (k : Nat) (h : 0 ≤ bestS e n k) : e (bestS e n k).toNat ≤ n := by
  induction k with
  | zero => simp [bestS] at h
  | succ k ih =>
    have hs : bestS e n (k + 1) = bstep e n (bestS e n k) k := rfl
    rw [hs] at h ⊢
    unfold bstep at h ⊢
    split
    · rename_i c; simpa using c.1
    · rename_i c; rw [if_neg c] at h; exact ih h

theorem bestS_max (e : Nat → Int) (n : Int) (k : Nat) : ∀ j, j < k → e j ≤ n → 0 ≤ bestS e n k ∧ e j ≤ e (bestS e n k).toNat := by
  induction k with
  | zero => intro j hj; omega
  | succ k ih =>
    intro j hj hjn
    have hs : bestS e n (k + 1) = bstep e n (bestS e n k) k := rfl
    rw [hs]
    have hb := bestS_bd e n k
    unfold bstep
    by_cases c : e k ≤ n ∧ (bestS e n k < 0 ∨ e (bestS e n k).toNat < e k)
    · rw [if_pos c]
      refine ⟨by omega, ?_⟩
      rw [Int.toNat_natCast]
      by_cases hjk : j = k
      · rw [hjk]; exact Int.le_refl _
      · have := ih j (by omega) hjn
        rcases c.2 with c2 | c2 <;> omega
    · rw [if_neg c]
      by_cases hjk : j = k
      · subst hjk
        have : ¬ (bestS e n j < 0 ∨ e (bestS e n j).toNat < e j) := fun h => c ⟨hjn, h⟩
        omega
      · exact ih j (by omega) hjn

/-- the ends of the lanes fall strictly; every bag is due no later than its lane's end -/
structure AsgInv (due : List Int) (i : Nat) (st : LSt) : Prop where
  desc : ∀ a b, a < b → b < st.1.length → endF due st.1 b < endF due st.1 a
  ends : ∀ j, j < i → ∃ k : Nat, atF st.2.1 j = k ∧ k < st.1.length ∧ atF due j ≤ endF due st.1 k

/-- one step: the lane, its end before, its end behind -/
theorem step_facts (due : List Int) (i : Nat) (_hi : i < due.length) (hinv : AsgInv due i (asg due i)) :
    (∀ a, a < laneA due i (asg due i) → atF due i < endF due (asg due i).1 a ∧ a < (asg due i).1.length) ∧
    (laneA due i (asg due i) < (asg due i).1.length → endF due (asg due i).1 (laneA due i (asg due i)) ≤ atF due i) ∧
    (∀ b, laneA due i (asg due i) < b → b < (asg due i).1.length → endF due (asg due i).1 b < atF due i) := by
  have hbd := bestS_bd (endF due (asg due i).1) (atF due i) (asg due i).1.length
  have hfit := bestS_fits (endF due (asg due i).1) (atF due i) (asg due i).1.length
  have hmax := bestS_max (endF due (asg due i).1) (atF due i) (asg due i).1.length
  have hlA : laneA due i (asg due i) = if bestS (endF due (asg due i).1) (atF due i) (asg due i).1.length < 0 then (asg due i).1.length else (bestS (endF due (asg due i).1) (atF due i) (asg due i).1.length).toNat := rfl
  generalize bestS (endF due (asg due i).1) (atF due i) (asg due i).1.length = b at *
  by_cases hb : b < 0
  · rw [if_pos hb] at hlA
    rw [hlA]
    refine ⟨fun a ha => ⟨?_, ha⟩, fun h => absurd h (Nat.lt_irrefl _), fun b h1 h2 => by omega⟩
    by_cases c : endF due (asg due i).1 a ≤ atF due i
    · have := (hmax a ha c).1; omega
    · omega
  · rw [if_neg hb] at hlA
    rw [hlA]
    refine ⟨fun a ha => ⟨?_, by omega⟩, fun _ => hfit (by omega), fun b' h1 h2 => ?_⟩
    · by_cases c : endF due (asg due i).1 a ≤ atF due i
      · have h1 := (hmax a (by omega) c).2
        have h2 := hinv.desc a b.toNat ha (by omega)
        omega
      · omega
    · have h1 := hinv.desc b.toNat b' h1 h2
      have h2 := hfit (by omega)
      omega

theorem end_next (due : List Int) (i : Nat) (a : Nat) (ha : a < (asg due (i + 1)).1.length) :
    endF due (asg due (i + 1)).1 a = if a = laneA due i (asg due i) then atF due i else endF due (asg due i).1 a := by
  have e2 : (asg due (i + 1)).1 = (last1 due i (asg due i)).set (laneA due i (asg due i)) i := rfl
  rw [e2] at ha ⊢
  rw [List.length_set] at ha
  unfold endF
  split
  · rename_i h
    rw [h, atF_set_same (lane_lt due i (asg due i)), Int.toNat_natCast]
  · rename_i h
    rw [atF_set_other (fun x => h x.symm)]
    have hlA : laneA due i (asg due i) = if bestA due i (asg due i) < 0 then (asg due i).1.length else (bestA due i (asg due i)).toNat := rfl
    unfold last1 at ha ⊢
    split
    · rename_i hb
      rw [if_pos hb] at ha hlA
      simp at ha
      rw [atF_append_left (by omega)]
    · rfl

theorem asg_inv (due : List Int) (i : Nat) (hi : i ≤ due.length) : AsgInv due i (asg due i) := by
  induction i with
  | zero => exact ⟨fun a b _ hb => by simp [asg] at hb, fun j hj => by omega⟩
  | succ i ih =>
    have ih := ih (by omega)
    obtain ⟨f1, f2, f3⟩ := step_facts due i (by omega) ih
    have hla := laneA_le due i (asg due i)
    have hgr := asg_grow due i
    have hlane := (asg_ok due i (by omega)).lanes
    constructor
    · intro a b hab hb
      rw [end_next due i b hb, end_next due i a (by omega)]
      by_cases h1 : a = laneA due i (asg due i)
      · rw [if_pos h1, if_neg (by omega)]
        exact f3 b (by omega) (by omega)
      · rw [if_neg h1]
        by_cases h2 : b = laneA due i (asg due i)
        · rw [if_pos h2]
          exact (f1 a (by omega)).1
        · rw [if_neg h2]
          exact ih.desc a b hab (by omega)
    · intro j hj
      have e1 : (asg due (i + 1)).2.1 = (asg due i).2.1 ++ [(laneA due i (asg due i) : Int)] := rfl
      rw [e1]
      by_cases hji : j = i
      · subst hji
        refine ⟨laneA due j (asg due j), atF_append_end hlane.symm, by omega, ?_⟩
        rw [end_next due j _ (by omega), if_pos rfl]
        exact Int.le_refl _
      · obtain ⟨k, k1, k2, k3⟩ := ih.ends j (by omega)
        rw [atF_append_left (by omega)]
        refine ⟨k, k1, by omega, ?_⟩
        rw [end_next due i k (by omega)]
        split
        · rename_i h
          rw [h] at k3 k2
          exact Int.le_trans k3 (f2 k2)
        · exact k3

/-- the assignment is good -/
theorem asg_pairs (due : List Int) (i k : Nat) (hi : i < due.length) (hk : k < i) : pairOK due (asg due due.length).2.1 i k := by
  intro e
  have p1 := (asg_pre due i due.length hi (Nat.le_refl _)).1
  have p2 := (asg_pre due k due.length (by omega) (Nat.le_refl _)).1
  have p3 := (asg_pre due k i hk (by omega)).1
  have hinv := asg_inv due i (by omega)
  obtain ⟨q, q1, q2, q3⟩ := hinv.ends k hk
  have hq : q = laneA due i (asg due i) := by omega
  rw [hq] at q2 q3
  exact Int.le_trans q3 ((step_facts due i hi hinv).2.1 q2)

/-- the bag before is due later -/
theorem before_later (due : List Int) (k : Nat) (hk : k < due.length) (h0 : 0 < atF (asg due due.length).2.1 k) :
    atF due k < atF due (atF (asg due due.length).2.2 k).toNat := by
  obtain ⟨p1, p2⟩ := asg_pre due k due.length hk (Nat.le_refl _)
  rw [p1] at h0
  rw [p2, if_pos (by omega)]
  have hinv := asg_inv due k (by omega)
  obtain ⟨f1, f2⟩ := (step_facts due k hk hinv).1 (laneA due k (asg due k) - 1) (by omega)
  have hgr := asg_grow due k
  have he := end_next due k (laneA due k (asg due k) - 1) (by omega)
  rw [if_neg (by omega)] at he
  unfold endF at he f1
  omega

/-- a falling chain of places whose due times rise -/
def Chained (due : List Int) (N : Nat) (d : List Int) : Prop :=
  (∀ x ∈ d, 0 ≤ x ∧ x < N) ∧ ∀ t, t + 1 < d.length → atF d (t + 1) < atF d t ∧ atF due (atF d t).toNat < atF due (atF d (t + 1)).toNat

theorem downC_chain (due : List Int) (bf l : List Int) (n x0 N : Nat) (hC : ChainOK l bf n x0 N) (hlat : ∀ k, k < N → 0 < atF l k → atF due k < atF due (atF bf k).toNat) :
    ∀ (f j : Nat), j < N → j < f → (downC bf f j).length = (atF l j).toNat + 1 ∧ Chained due N (downC bf f j) ∧ atF (downC bf f j) 0 = j := by
  intro f
  induction f with
  | zero => intro j _ h; omega
  | succ f ih =>
    intro j hj hf
    rw [downC_step _ _ _ (by omega), Nat.add_sub_cancel]
    have hb := hC.bd j hj
    by_cases h0 : 0 < atF l j
    · obtain ⟨q, q1, q2, q3, q4⟩ := hC.prev j hj h0
      have hl := hlat j hj h0
      rw [q3] at hl ⊢
      obtain ⟨i1, ⟨i2, i3⟩, i4⟩ := ih q (by omega) (by omega)
      refine ⟨by simp only [List.length_cons, i1]; omega, ⟨?_, ?_⟩, by simp [atF]⟩
      · intro x hx
        rcases List.mem_cons.1 hx with rfl | hx
        · omega
        · exact i2 x hx
      · intro t ht
        cases t with
        | zero =>
          have e1 : atF ((j : Int) :: downC bf f q) (0 + 1) = atF (downC bf f q) 0 := by simp [atF]
          have e0 : atF ((j : Int) :: downC bf f q) 0 = j := by simp [atF]
          rw [e1, e0, i4]
          simp only [Int.toNat_natCast] at hl ⊢
          omega
        | succ t =>
          have e : ∀ t, atF ((j : Int) :: downC bf f q) (t + 1) = atF (downC bf f q) t := fun t => by simp [atF]
          rw [e, e]
          exact i3 t (by simpa using ht)
    · have hs := hC.stop j hj (by omega)
      rw [hs, downC_end]
      refine ⟨by simp; omega, ⟨?_, ?_⟩, by simp [atF]⟩
      · intro x hx
        obtain rfl := List.mem_singleton.1 hx
        omega
      · intro t ht
        simp at ht

/-- what the law asks of the chain -/
theorem chain_facts (due : List Int) (h : dueErr due = 0) : (chainF due).length = asgN due ∧ (∀ x ∈ chainF due, 0 ≤ x ∧ x < due.length) ∧
    ∀ t, t + 1 < (chainF due).length → atF (chainF due) t < atF (chainF due) (t + 1) ∧ atF due (atF (chainF due) (t + 1)).toNat < atF due (atF (chainF due) t).toNat := by
  by_cases h0 : 0 < asgN due
  · obtain ⟨x0, bf, hC, hF⟩ := chain_ok due h0
    have hL : asgL due = (asg due due.length).2.1 := by unfold asgL; rw [if_pos h]
    have hlat : ∀ k, k < due.length → 0 < atF (asgL due) k → atF due k < atF due (atF bf k).toNat := by
      intro k hk hk0
      obtain ⟨q, q1, q2, q3, q4⟩ := hC.prev k hk hk0
      rw [hL] at hk0 q2
      have hb := (asg_before due k hk hk0).1
      have := before_later due k hk hk0
      rw [q3, ← q2, ← hb]
      exact this
    obtain ⟨d1, ⟨d2, d3⟩, _⟩ := downC_chain due bf (asgL due) (asgN due) x0 due.length hC hlat (due.length + 1) x0 hC.top.1 (by have := hC.top.1; omega)
    have ht := hC.top.2
    rw [hF]
    refine ⟨?_, ?_, ?_⟩
    · rw [List.length_reverse, d1]; omega
    · intro x hx
      exact d2 x (List.mem_reverse.1 hx)
    · intro t ht2
      rw [List.length_reverse] at ht2
      have hr : ∀ t, t < (downC bf (due.length + 1) x0).length → atF (downC bf (due.length + 1) x0).reverse t = atF (downC bf (due.length + 1) x0) ((downC bf (due.length + 1) x0).length - 1 - t) := by
        intro t ht
        simp only [atF]
        rw [List.getElem?_reverse ht]
      rw [hr t (by omega), hr (t + 1) ht2]
      have := d3 ((downC bf (due.length + 1) x0).length - 1 - (t + 1)) (by omega)
      rw [show (downC bf (due.length + 1) x0).length - 1 - (t + 1) + 1 = (downC bf (due.length + 1) x0).length - 1 - t by omega] at this
      exact this
  · have hd : due = [] := by
      by_cases e : due = []
      · exact e
      · exact absurd ((asgN_pos due).2 (fun x => x.elim e (fun y => y h))) h0
    subst hd
    have : asgN [] = 0 := by omega
    rw [this]
    simp [chainF]

theorem times_err {due : List Int} (hl : due.length ≤ 29) (h : ∀ x ∈ due, 0 ≤ x ∧ x < 12) : dueErr due = 0 := by
  unfold dueErr
  rw [if_neg (by omega), if_pos]
  rw [List.all_eq_true]
  intro x hx
  have := h x hx
  simp [okDue]
  omega

theorem asgL_ok {due : List Int} (h : dueErr due = 0) : checkF due (asgL due) = 0 := by
  have hl := asgL_len due
  rw [if_pos h] at hl
  refine check_ok h hl ?_ ?_
  · rw [List.any_eq_false]
    intro x hx
    have := asgL_bd due x hx
    simp
    omega
  · intro i hi k hk
    unfold asgL
    rw [if_pos h]
    exact asg_pairs due i k hi hk

theorem asgL_lt {due : List Int} (k : Nat) (hk : k < (asgL due).length) : 0 ≤ atF (asgL due) k ∧ atF (asgL due) k < asgN due := by
  obtain ⟨h, h1, h2⟩ := asgL_at due k hk
  have hu : ∀ i, k < i → i ≤ due.length → (laneA due k (asg due k) : Nat) < (asg due i).1.length := by
    intro i hki hi
    induction i with
    | zero => omega
    | succ i ih =>
      have hg := asg_grow due i
      by_cases e : k = i
      · subst e; omega
      · have := ih (by omega) (by omega); omega
  have := hu due.length h1 (Nat.le_refl _)
  unfold asgN
  rw [if_pos h]
  omega
end Go.Proofs.Ytkefkegknacpjaa
