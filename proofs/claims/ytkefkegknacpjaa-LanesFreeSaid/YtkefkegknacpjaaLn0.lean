/- Lanes: which lane a bag gets: the plain law that both ways of choosing agree. -/
import Derived.Test.YtkefkegknacpjaaKp0
namespace Go.Proofs.Ytkefkegknacpjaa.Ex
open Go.RowKit Go.Proofs.Ytkefkegknacpjaa.Ax
set_option linter.unusedVariables false
set_option linter.unusedSimpArgs false

theorem Range_ok (s : Src) (lo hi : Int) (h : SrcOk s) (h0 : lo ≤ hi) (h1 : -1000000000 ≤ lo) (h2 : hi ≤ 1000000000) : okP (keep_Src_Range s lo hi) (fun r => lo ≤ r.1 ∧ r.1 ≤ hi ∧ SrcOk r.2) := by
  unfold keep_Src_Range
  rw [w64_id (z := hi - lo) (by omega) (by omega), w64_id (z := hi - lo + 1) (by omega) (by omega)]
  refine okP_bind (N_ok s _ h (by omega) (by omega)) (fun r ⟨r1, r2, r3⟩ => okP_some ?_)
  rw [w64_id (by omega) (by omega)]
  exact ⟨by omega, by omega, r3⟩

def lastD (l : List Stored) : Int := match l[l.length - 1]? with
  | some s => s.Due
  | none => 0

def laneF (L : List (List Stored)) (i : Int) : List Stored := (L[i.toNat]?).getD []

def chStep (d due : Int) (L : List (List Stored)) (k : Nat) (c : Int × Int × Int) : Int × Int × Int :=
  if d ≤ ((laneF L k).length : Int) then c
  else if (laneF L k).length = 0 then (c.1, if c.2.1 < 0 then (k : Int) else c.2.1, c.2.2)
  else (if lastD (laneF L k) ≤ due ∧ (c.1 < 0 ∨ lastD (laneF L c.1) < lastD (laneF L k)) then (k : Int) else c.1, c.2.1, if c.2.2 < 0 ∨ lastD (laneF L k) < lastD (laneF L c.2.2) then (k : Int) else c.2.2)

def chS (d due : Int) (L : List (List Stored)) : Nat → Int × Int × Int
  | 0 => (-1, -1, -1)
  | k + 1 => chStep d due L k (chS d due L k)

def pick (c : Int × Int × Int) : Int := if 0 ≤ c.1 then c.1 else if 0 ≤ c.2.1 then c.2.1 else c.2.2

def rankF (l : List Stored) (due : Int) : Int := if l.length = 0 then 1 else if lastD l ≤ due then 0 else 2

def betF (a b : List Stored) (due : Int) : Bool :=
  if rankF a due ≠ rankF b due ∨ rankF a due = 1 then decide (rankF a due < rankF b due)
  else if rankF a due = 0 then decide (lastD b < lastD a) else decide (lastD a < lastD b)

def bestL (d due : Int) (L : List (List Stored)) : Nat → Int
  | 0 => -1
  | k + 1 => if ((laneF L k).length : Int) < d ∧ (bestL d due L k < 0 ∨ betF (laneF L k) (laneF L (bestL d due L k)) due = true) then (k : Int) else bestL d due L k

/-- what the three numbers are -/
structure ChI (due : Int) (L : List (List Stored)) (k : Nat) (c : Int × Int × Int) : Prop where
  f : -1 ≤ c.1 ∧ c.1 < k
  e : -1 ≤ c.2.1 ∧ c.2.1 < k
  m : -1 ≤ c.2.2 ∧ c.2.2 < k
  f0 : 0 ≤ c.1 → (laneF L c.1).length ≠ 0 ∧ lastD (laneF L c.1) ≤ due
  e0 : 0 ≤ c.2.1 → (laneF L c.2.1).length = 0
  m0 : 0 ≤ c.2.2 → (laneF L c.2.2).length ≠ 0 ∧ (c.1 < 0 → due < lastD (laneF L c.2.2))

theorem ChI.start (due : Int) (L : List (List Stored)) : ChI due L 0 (-1, -1, -1) := by
  constructor <;> simp

theorem ChI.step {d due : Int} {L : List (List Stored)} {k : Nat} {c : Int × Int × Int} (h : ChI due L k c) : ChI due L (k + 1) (chStep d due L k c) := by
  obtain ⟨f, e, m⟩ := c
  obtain ⟨h1, h2, h3, h4, h5, h6⟩ := h
  simp only at h1 h2 h3 h4 h5 h6
  unfold chStep
  by_cases hd : d ≤ ((laneF L k).length : Int)
  · rw [if_pos hd]
    exact ⟨⟨h1.1, by have := h1.2; simp only; omega⟩, ⟨h2.1, by have := h2.2; simp only; omega⟩, ⟨h3.1, by have := h3.2; simp only; omega⟩, h4, h5, h6⟩
  · rw [if_neg hd]
    by_cases hz : (laneF L k).length = 0
    · rw [if_pos hz]
      refine ⟨⟨h1.1, by have := h1.2; simp only; omega⟩, ?_, ⟨h3.1, by have := h3.2; simp only; omega⟩, h4, ?_, h6⟩
      · simp only
        split <;> omega
      · simp only
        intro h0
        split
        · exact hz
        · rename_i he
          exact h5 (by omega)
    · rw [if_neg hz]
      simp only
      refine ⟨?_, ⟨h2.1, by have := h2.2; simp only; omega⟩, ?_, ?_, h5, ?_⟩
      · simp only
        split <;> omega
      · simp only
        split <;> omega
      · simp only
        intro h0
        split
        · rename_i hc
          exact ⟨hz, hc.1⟩
        · rename_i hc
          rw [if_neg hc] at h0
          exact h4 h0
      · simp only
        intro h0
        by_cases hm : m < 0 ∨ lastD (laneF L k) < lastD (laneF L m)
        · rw [if_pos hm]
          refine ⟨hz, fun hf => ?_⟩
          by_cases hc : lastD (laneF L k) ≤ due ∧ (f < 0 ∨ lastD (laneF L f) < lastD (laneF L k))
          · rw [if_pos hc] at hf
            omega
          · rw [if_neg hc] at hf
            omega
        · rw [if_neg hm] at h0 ⊢
          refine ⟨(h6 h0).1, fun hf => (h6 h0).2 ?_⟩
          by_cases hc : lastD (laneF L k) ≤ due ∧ (f < 0 ∨ lastD (laneF L f) < lastD (laneF L k))
          · rw [if_pos hc] at hf
            omega
          · rw [if_neg hc] at hf
            exact hf

theorem chS_inv (d due : Int) (L : List (List Stored)) : ∀ k, ChI due L k (chS d due L k)
  | 0 => ChI.start due L
  | k + 1 => (chS_inv d due L k).step

theorem rank_fit {l : List Stored} {due : Int} (h : l.length ≠ 0) (h2 : lastD l ≤ due) : rankF l due = 0 := by
  unfold rankF
  rw [if_neg h, if_pos h2]
theorem rank_empty {l : List Stored} {due : Int} (h : l.length = 0) : rankF l due = 1 := by
  unfold rankF
  rw [if_pos h]
theorem rank_late {l : List Stored} {due : Int} (h : l.length ≠ 0) (h2 : due < lastD l) : rankF l due = 2 := by
  unfold rankF
  rw [if_neg h, if_neg (by omega)]

theorem best_pick (d due : Int) (L : List (List Stored)) : ∀ k, bestL d due L k = pick (chS d due L k)
  | 0 => rfl
  | k + 1 => by
    have ih := best_pick d due L k
    have hi := chS_inv d due L k
    rw [bestL, chS, ih]
    generalize chS d due L k = c at *
    obtain ⟨f, e, m⟩ := c
    obtain ⟨h1, h2, h3, h4, h5, h6⟩ := hi
    simp only at h1 h2 h3 h4 h5 h6
    unfold chStep
    by_cases hd : d ≤ ((laneF L k).length : Int)
    · rw [if_pos hd, if_neg (by omega)]
    · rw [if_neg hd]
      have hd' : ((laneF L k).length : Int) < d := by omega
      simp only [hd', true_and]
      by_cases hz : (laneF L k).length = 0
      · rw [if_pos hz]
        have hr : rankF (laneF L k) due = 1 := rank_empty hz
        by_cases hf : 0 ≤ f
        · have hp : pick (f, e, m) = f := by unfold pick; rw [if_pos hf]
          have hb : betF (laneF L k) (laneF L f) due = false := by
            unfold betF
            rw [hr, rank_fit (h4 hf).1 (h4 hf).2]
            rfl
          rw [hp, hb, if_neg (by simp; omega)]
          unfold pick
          rw [if_pos hf]
        · by_cases he : 0 ≤ e
          · have hp : pick (f, e, m) = e := by unfold pick; rw [if_neg hf, if_pos he]
            have hb : betF (laneF L k) (laneF L e) due = false := by
              unfold betF
              rw [hr, rank_empty (h5 he)]
              rfl
            rw [hp, hb, if_neg (by simp; omega)]
            unfold pick
            simp only
            rw [if_neg hf, if_neg (show ¬ e < 0 by omega), if_pos he]
          · have hp : pick (f, e, m) = m := by unfold pick; rw [if_neg hf, if_neg he]
            have hq : m < 0 ∨ betF (laneF L k) (laneF L m) due = true := by
              by_cases hm : 0 ≤ m
              · right
                unfold betF
                rw [hr, rank_late (h6 hm).1 ((h6 hm).2 (by omega))]
                rfl
              · left
                omega
            rw [hp, if_pos hq]
            unfold pick
            simp only
            rw [if_neg hf, if_pos (show e < 0 by omega), if_pos (by omega)]
      · rw [if_neg hz]
        by_cases hl : lastD (laneF L k) ≤ due
        · have hr : rankF (laneF L k) due = 0 := rank_fit hz hl
          by_cases hf : 0 ≤ f
          · have hp : pick (f, e, m) = f := by unfold pick; rw [if_pos hf]
            have hb : betF (laneF L k) (laneF L f) due = decide (lastD (laneF L f) < lastD (laneF L k)) := by
              unfold betF
              rw [hr, rank_fit (h4 hf).1 (h4 hf).2]
              simp
            rw [hp, hb]
            unfold pick
            simp only
            by_cases hc : lastD (laneF L f) < lastD (laneF L k)
            · have hcp : lastD (laneF L k) ≤ due ∧ (f < 0 ∨ lastD (laneF L f) < lastD (laneF L k)) := ⟨hl, .inr hc⟩
              simp only [if_pos hcp]
              rw [if_pos (.inr (by simpa using hc)), if_pos (show (0 : Int) ≤ (k : Int) by omega)]
            · have hcn : ¬ (lastD (laneF L k) ≤ due ∧ (f < 0 ∨ lastD (laneF L f) < lastD (laneF L k))) := fun h => by
                rcases h.2 with h | h
                · omega
                · exact hc h
              simp only [if_neg hcn]
              rw [if_neg (by simp; omega), if_pos hf]
          · have hq : pick (f, e, m) < 0 ∨ betF (laneF L k) (laneF L (pick (f, e, m))) due = true := by
              unfold pick
              simp only
              rw [if_neg hf]
              by_cases he : 0 ≤ e
              · rw [if_pos he]
                right
                unfold betF
                rw [hr, rank_empty (h5 he)]
                rfl
              · rw [if_neg he]
                by_cases hm : 0 ≤ m
                · right
                  unfold betF
                  rw [hr, rank_late (h6 hm).1 ((h6 hm).2 (by omega))]
                  rfl
                · left
                  omega
            rw [if_pos hq]
            unfold pick
            have hcp : lastD (laneF L k) ≤ due ∧ (f < 0 ∨ lastD (laneF L f) < lastD (laneF L k)) := ⟨hl, .inl (by omega)⟩
            simp only [if_pos hcp]
            rw [if_pos (show (0 : Int) ≤ (k : Int) by omega)]
        · have hr : rankF (laneF L k) due = 2 := rank_late hz (by omega)
          have hnf : ¬ (lastD (laneF L k) ≤ due ∧ (f < 0 ∨ lastD (laneF L f) < lastD (laneF L k))) := fun h => hl h.1
          simp only [if_neg hnf]
          by_cases hf : 0 ≤ f
          · have hp : pick (f, e, m) = f := by unfold pick; rw [if_pos hf]
            have hb : betF (laneF L k) (laneF L f) due = false := by
              unfold betF
              rw [hr, rank_fit (h4 hf).1 (h4 hf).2]
              rfl
            rw [hp, hb, if_neg (by simp; omega)]
            unfold pick
            rw [if_pos hf]
          · by_cases he : 0 ≤ e
            · have hp : pick (f, e, m) = e := by unfold pick; rw [if_neg hf, if_pos he]
              have hb : betF (laneF L k) (laneF L e) due = false := by
                unfold betF
                rw [hr, rank_empty (h5 he)]
                rfl
              rw [hp, hb, if_neg (by simp; omega)]
              unfold pick
              simp only
              rw [if_neg hf, if_pos he]
            · have hp : pick (f, e, m) = m := by unfold pick; rw [if_neg hf, if_neg he]
              rw [hp]
              unfold pick
              simp only
              rw [if_neg hf, if_neg he]
              by_cases hm : 0 ≤ m
              · have hb : betF (laneF L k) (laneF L m) due = decide (lastD (laneF L k) < lastD (laneF L m)) := by
                  unfold betF
                  rw [hr, rank_late (h6 hm).1 ((h6 hm).2 (by omega))]
                  simp
                rw [hb]
                simp only [decide_eq_true_eq]
              · rw [if_pos (.inl (by omega)), if_pos (.inl (by omega))]
end Go.Proofs.Ytkefkegknacpjaa.Ex
