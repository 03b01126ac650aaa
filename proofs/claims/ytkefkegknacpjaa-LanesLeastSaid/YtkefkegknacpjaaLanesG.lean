/- what the assignment's three lists have to do with each other; the reference's last. -/
import Derived.Test.YtkefkegknacpjaaLanesF
namespace Go.Proofs.Ytkefkegknacpjaa
open Go.RowKit Go.Maps

theorem atF_append_left {l m : List Int} {k : Nat} (h : k < l.length) : atF (l ++ m) k = atF l k := by simp [atF, List.getElem?_append_left h]
theorem atF_append_end {l : List Int} {x : Int} {k : Nat} (h : k = l.length) : atF (l ++ [x]) k = x := by subst h; simp [atF]
theorem atF_set_same {l : List Int} {x : Int} {k : Nat} (h : k < l.length) : atF (l.set k x) k = x := by simp [atF, h]
theorem atF_set_other {l : List Int} {x : Int} {j k : Nat} (h : j ≠ k) : atF (l.set j x) k = atF l k := by simp [atF, List.getElem?_set_ne h]

theorem lastI_append (l : List Int) (y x : Int) (n : Nat) (hn : n ≤ l.length) : lastI (l ++ [y]) x n = lastI l x n := by
  induction n with
  | zero => rfl
  | succ n ih => simp only [lastI]; rw [atF_append_left (by omega), ih (by omega)]

theorem lastI_hit (l : List Int) (x : Int) (n : Nat) (h : 0 ≤ lastI l x n) : atF l (lastI l x n).toNat = x := by
  induction n with
  | zero => simp [lastI] at h
  | succ n ih =>
    simp only [lastI] at h ⊢
    split
    · rename_i e; simpa using e
    · rename_i e; rw [if_neg e] at h; exact ih h

/-- a lane's last bag is its end -/
theorem asg_last (due : List Int) (i : Nat) (hi : i ≤ due.length) : ∀ k, k < (asg due i).1.length → lastI (asg due i).2.1 k i = atF (asg due i).1 k := by
  induction i with
  | zero => intro k hk; simp [asg] at hk
  | succ i ih =>
    have ih := ih (by omega)
    obtain ⟨s1, s2, s3, s4⟩ := asg_ok due i (by omega)
    intro k hk
    have hB := lane_lt due i (asg due i)
    have e1 : (asg due (i + 1)).2.1 = (asg due i).2.1 ++ [(laneA due i (asg due i) : Int)] := rfl
    have e2 : (asg due (i + 1)).1 = (last1 due i (asg due i)).set (laneA due i (asg due i)) i := rfl
    rw [e2] at hk ⊢
    rw [e1]
    rw [List.length_set] at hk
    simp only [lastI]
    rw [atF_append_end s1.symm, lastI_append _ _ _ _ (by omega)]
    by_cases hkB : k = laneA due i (asg due i)
    · rw [if_pos (by rw [hkB]), hkB, atF_set_same hB]
    · rw [if_neg (by omega), atF_set_other (fun h => hkB h.symm)]
      have hl : laneA due i (asg due i) = if bestA due i (asg due i) < 0 then (asg due i).1.length else (bestA due i (asg due i)).toNat := rfl
      unfold last1 at hk ⊢
      split
      · rename_i hb
        rw [if_pos hb] at hk hl
        simp at hk
        rw [atF_append_left (by omega)]
        exact ih k (by omega)
      · rename_i hb
        rw [if_neg hb] at hk
        exact ih k hk

/-- what was said of a bag stays -/
theorem asg_pre (due : List Int) (k : Nat) (i : Nat) (hk : k < i) (hi : i ≤ due.length) :
    atF (asg due i).2.1 k = laneA due k (asg due k) ∧ atF (asg due i).2.2 k = (if 0 < laneA due k (asg due k) then atF (asg due (k + 1)).1 (laneA due k (asg due k) - 1) else -1) := by
  induction i with
  | zero => omega
  | succ i ih =>
    obtain ⟨s1, s2, s3, s4⟩ := asg_ok due i (by omega)
    have e1 : (asg due (i + 1)).2.1 = (asg due i).2.1 ++ [(laneA due i (asg due i) : Int)] := rfl
    have e2 : (asg due (i + 1)).2.2 = (asg due i).2.2 ++ [if 0 < laneA due i (asg due i) then atF (asg due (i + 1)).1 (laneA due i (asg due i) - 1) else -1] := rfl
    rw [e1, e2]
    by_cases h : k = i
    · subst h
      rw [atF_append_end s1.symm, atF_append_end s2.symm]
      exact ⟨rfl, rfl⟩
    · rw [atF_append_left (by omega), atF_append_left (by omega)]
      exact ih (by omega) (by omega)

theorem lastI_agree (l m : List Int) (x : Int) (n : Nat) (h : ∀ j, j < n → atF l j = atF m j) : lastI l x n = lastI m x n := by
  induction n with
  | zero => rfl
  | succ n ih => simp only [lastI]; rw [h n (by omega), ih (fun j hj => h j (by omega))]

/-- the bag before: the last one in the lane before, and it is there -/
theorem asg_before (due : List Int) (k : Nat) (hk : k < due.length) (h0 : 0 < atF (asg due due.length).2.1 k) :
    atF (asg due due.length).2.2 k = lastI (asg due due.length).2.1 (atF (asg due due.length).2.1 k - 1) k ∧ 0 ≤ atF (asg due due.length).2.2 k := by
  obtain ⟨p1, p2⟩ := asg_pre due k due.length hk (Nat.le_refl _)
  obtain ⟨s1, s2, s3, s4⟩ := asg_ok due k (by omega)
  rw [p1] at h0 ⊢
  rw [p2, if_pos (by omega)]
  have e2 : (asg due (k + 1)).1 = (last1 due k (asg due k)).set (laneA due k (asg due k)) k := rfl
  have hla := laneA_le due k (asg due k)
  have e3 : atF (asg due (k + 1)).1 (laneA due k (asg due k) - 1) = atF (asg due k).1 (laneA due k (asg due k) - 1) := by
    rw [e2, atF_set_other (by omega)]
    unfold last1
    split
    · rw [atF_append_left (by omega)]
    · rfl
  rw [e3]
  have hlt : laneA due k (asg due k) - 1 < (asg due k).1.length := by omega
  refine ⟨?_, (s4 _ (atF_mem hlt)).1⟩
  rw [← asg_last due k (by omega) _ hlt, show ((laneA due k (asg due k) - 1 : Nat) : Int) = (laneA due k (asg due k) : Int) - 1 by omega]
  refine lastI_agree _ _ _ _ (fun j hj => ?_)
  rw [(asg_pre due j k hj (by omega)).1, (asg_pre due j due.length (by omega) (Nat.le_refl _)).1]

theorem asg_before0 (due : List Int) (k : Nat) (hk : k < due.length) (h0 : atF (asg due due.length).2.1 k = 0) : atF (asg due due.length).2.2 k = -1 := by
  obtain ⟨p1, p2⟩ := asg_pre due k due.length hk (Nat.le_refl _)
  rw [p1] at h0
  rw [p2, if_neg (by omega)]

/-- every lane has a bag -/
theorem asg_used (due : List Int) (i : Nat) (hi : i ≤ due.length) (k : Nat) (hk : k < (asg due i).1.length) : 0 ≤ lastI (asg due i).2.1 k i := by
  rw [asg_last due i hi k hk]
  exact ((asg_ok due i hi).mem _ (atF_mem hk)).1

def LastPost (x : Int) (w : World) (e : Ending) (w' : World) : Prop := e = .returned (.int .i64 x) ∧ w = w'

theorem last_any (v : Value) (l : List Int) (n : Nat) (x : Int) (w : World) (hv : IntsV w v l) (hn : n ≤ l.length) :
    Calls Try.prog 37 #[v, .int .i64 n, .int .i64 x] w (LastPost (lastI l x n) w) := by
  obtain ⟨a, c, rfl, la, _, ca⟩ := hv.open
  clear hv
  go_enter Try.func37, Try.ntmps37
  go_wp2
  go_loop [7] (fun i => ∃ k : Nat, k ≤ n ∧ i = .int .i64 ((k : Int) - 1) ∧ lastI l x n = lastI l x k) (fun i => (intOf i + 1).toNat)
  case atStart => exact ⟨n, Nat.le_refl _, rfl, rfl⟩
  case round =>
    obtain ⟨k, hk, rfl, hall⟩ := hrel
    cases k with
    | zero =>
      have HA := Lib.hid hall
      clear hall
      rw [show ((0 : Nat) : Int) - 1 = -1 by rfl]
      go_wp2
      go_ret
      exact ⟨ret_int (by rw [HA.out]; rfl), rfl⟩
    | succ k =>
      obtain ⟨b, o, rfl, hb, cc⟩ := ca (by omega)
      have d : w.cell? ⟨b, o + k, none⟩ = some (.int .i64 (atF l k)) := cc k (by omega)
      have hst : lastI l x n = if atF l k = x then (k : Int) else lastI l x k := hall
      rw [show ((k + 1 : Nat) : Int) - 1 = (k : Int) by omega]
      have hkl : (k : Int) < (l.length : Int) := by omega
      generalize atF l k = y at *
      have HST := Lib.hid hst
      clear hst hall cc ca
      by_cases h0 : y = x
      · subst h0
        go_wp2
        go_ret
        exact ⟨ret_int (by rw [HST.out]; simp), rfl⟩
      · go_wp2
        go_round
        case rel => exact ⟨k, by omega, rfl, by rw [HST.out, if_neg h0]⟩
        case measure => simp [intOf]
end Go.Proofs.Ytkefkegknacpjaa
