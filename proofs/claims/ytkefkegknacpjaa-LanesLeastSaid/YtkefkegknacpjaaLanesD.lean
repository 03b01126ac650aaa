/- lanes.Chain. -/
import Derived.Test.YtkefkegknacpjaaLanesC
namespace Go.Proofs.Ytkefkegknacpjaa
open Go.RowKit

theorem own_sep {B B' : Nat} {w w' : World} {v v' : Value} {l l' : List Int} (h : OwnI B w v l) (h' : OwnI B' w' v' l') (hB : w.heap.size ≤ B') : v.ownBlock = none ∨ v.ownBlock ≠ v'.ownBlock := by
  cases e : v'.ownBlock with
  | none =>
    cases e2 : v.ownBlock with
    | none => exact .inl rfl
    | some b => right; simp
  | some b => exact .inr (own_apart h h' hB b e)

/-- the chain from place i downwards: i, before[i], .. (descending) -/
def downC (b : List Int) : Nat → Int → List Int
  | 0, _ => []
  | f + 1, i => if i < 0 then [] else i :: downC b f (atF b i.toNat)

/-- the places before of each place lie in front of it -/
def Falls (b : List Int) : Prop := ∀ k, k < b.length → -1 ≤ atF b k ∧ atF b k < k

theorem asg_falls (due : List Int) (i : Nat) (hi : i ≤ due.length) : Falls (asg due i).2.2 ∧ (∀ x ∈ (asg due i).1, x < i) := by
  induction i with
  | zero => exact ⟨fun k hk => by simp [asg] at hk, by simp [asg]⟩
  | succ i ih =>
    obtain ⟨h1, h2⟩ := ih (by omega)
    obtain ⟨s1, s2, s3, s4⟩ := asg_ok due i (by omega)
    have hlast : ∀ x ∈ lastA due i (asg due i), x < ((i + 1 : Nat) : Int) := by
      intro x hx
      simp only [lastA] at hx
      rcases List.mem_or_eq_of_mem_set hx with hx | rfl
      · split at hx
        · rcases List.mem_append.1 hx with hx | hx
          · have := h2 x hx; omega
          · obtain rfl : x = (i : Int) := by simpa using hx
            omega
        · have := h2 x hx; omega
      · omega
    refine ⟨?_, by simpa [asg, stepA] using hlast⟩
    intro k hk
    simp only [asg, stepA] at hk ⊢
    have hk' : k < i + 1 := by simpa [s2] using hk
    by_cases hki : k < i
    · have := h1 k (by omega)
      simp only [atF] at this ⊢
      rw [List.getElem?_append_left (by omega)]
      exact this
    · obtain rfl : k = i := by omega
      have e : atF ((asg due k).2.2 ++ [if 0 < laneA due k (asg due k) then atF (lastA due k (asg due k)) (laneA due k (asg due k) - 1) else -1]) k = if 0 < laneA due k (asg due k) then atF (lastA due k (asg due k)) (laneA due k (asg due k) - 1) else -1 := by
        simp only [atF]
        rw [List.getElem?_append_right (by omega), s2, Nat.sub_self]
        simp
      rw [e]
      split
      · rename_i hl
        have hll := lane_lt due k (asg due k)
        have hlen : (lastA due k (asg due k)).length = (last1 due k (asg due k)).length := by simp [lastA, last1]
        have hm : (lastA due k (asg due k))[laneA due k (asg due k) - 1]?.getD 0 ∈ (asg due k).1 := by
          have hne : laneA due k (asg due k) ≠ laneA due k (asg due k) - 1 := by omega
          simp only [lastA]
          rw [List.getElem?_set_ne hne]
          have hla := laneA_le due k (asg due k)
          split
          · rw [List.getElem?_append_left (by omega)]
            exact atF_mem (l := (asg due k).1) (by omega)
          · exact atF_mem (l := (asg due k).1) (by omega)
        have a1 := s4 _ hm
        have a2 := h2 _ hm
        have e2 : atF (lastA due k (asg due k)) (laneA due k (asg due k) - 1) = (lastA due k (asg due k))[laneA due k (asg due k) - 1]?.getD 0 := rfl
        rw [e2]
        omega
      · omega

def chainF (due : List Int) : List Int :=
  if due = [] ∨ dueErr due ≠ 0 then []
  else (downC (asg due due.length).2.2 (due.length + 1) (idxF (asg due due.length).2.1 ((asg due due.length).1.length - 1))).reverse

theorem idx_bd (l : List Int) (x : Int) : -1 ≤ idxF l x ∧ idxF l x < l.length ∨ l = [] ∧ idxF l x = -1 := by
  unfold idxF
  split
  · rename_i k h
    have := List.findIdx?_eq_some_iff_getElem.1 h
    obtain ⟨h1, _⟩ := this
    left; omega
  · cases l
    · right; exact ⟨rfl, rfl⟩
    · left; simp; omega

theorem Chain_any (v : Value) (due : List Int) (w : World) (hv : IntsV w v due) :
    Calls Try.prog 16 #[v] w (OwnOne (chainF due) w) := by
  have Q := checked_any v due w hv
  obtain ⟨a, c, rfl, la, _, _⟩ := hv.open
  by_cases h0 : due = []
  · subst h0
    unfold chainF
    rw [if_pos (Or.inl rfl)]
    go_enter Try.func16, Try.ntmps16
    go_wp2
    go_ret
    exact ⟨_, rfl, OwnI.nil _ _, Below.refl _ _⟩
  have hlen : 0 < due.length := List.length_pos_iff.2 h0
  have hdl : (0 : Int) < (due.length : Int) := by omega
  have hdb : ((due.length : Int) == 0) = false := by simp [h0]
  by_cases h : dueErr due = 0
  · have hl := due_le h
    have QA := assigned_any _ due w hv hl
    obtain ⟨hF, _⟩ := asg_falls due due.length (Nat.le_refl _)
    obtain ⟨s1, s2, s3, s4⟩ := asg_ok due due.length (Nat.le_refl _)
    unfold chainF
    rw [if_neg (by simp [h0, h])]
    rw [h] at Q
    clear h h0
    have hS := idx_bd (asg due due.length).2.1 ((asg due due.length).1.length - 1)
    generalize asg due due.length = st at *
    obtain ⟨la0, ln, bf⟩ := st
    simp only at *
    have hcnt : (la0.length : Int) ≤ 200 := by omega
    have HS := Lib.hid hS
    have HS2 := Lib.hid s2
    have HS1 := Lib.hid s1
    clear s1 s2 hS s4 s3
    generalize hx : idxF ln ((la0.length : Int) - 1) = x0 at *
    have HX := Lib.hid hx
    clear hx
    go_enter Try.func16, Try.ntmps16
    go_wp2_with (first
      | (go_at_call 34; refine Q.mono ?_; rintro e w5 ⟨rfl, rfl⟩)
      | (go_at_call 35; refine QA.mono ?_; rintro e w5 ⟨v2, v3, rfl, h2, h3, hB⟩)
      | (go_at_call 38; refine (Index_any _ ln _ w5 h2.ints).mono ?_; rintro e w6 ⟨rfl, rfl⟩; rw [HX.out]))
    have hO3 := h3
    have hB1 := hB
    clear QA Q hv h2
    have hw5 := hB.size
    go_loopw [6, 7] (fun out i wr => ∃ (p : List Int) (j : Int), i = .int .i64 j ∧ -1 ≤ j ∧ (p.length : Int) + (j + 1) ≤ due.length ∧ OwnI w5.heap.size wr out p ∧ Below w5.heap.size w5 wr ∧ downC bf (due.length + 1) x0 = p ++ downC bf (due.length + 1 - p.length) j)
      (fun _ i _ => (intOf i + 1).toNat)
    case atStart =>
      refine ⟨[], x0, rfl, ?_, ?_, OwnI.nil _ _, Below.refl _ _, by simp⟩
      · have := HS.out; omega
      · have := HS.out; have := HS1.out; simp; omega
    case round =>
      obtain ⟨p, j, rfl, hj1, hj2, hO, hBr, hd⟩ := hrel
      by_cases hj : 0 ≤ j
      · obtain ⟨k, rfl⟩ : ∃ k : Nat, j = k := ⟨j.toNat, by omega⟩
        have hkl : k < bf.length := by have := HS2.out; omega
        have hFk := hF k hkl
        obtain ⟨g3, c3, rfl, _⟩ := h3.open (by omega)
        have hstep : downC bf (due.length + 1 - p.length) k = (k : Int) :: downC bf (due.length + 1 - (p.length + 1)) (atF bf k) := by
          rw [show due.length + 1 - p.length = (due.length + 1 - (p.length + 1)) + 1 by omega]
          simp [downC]
        rw [hstep] at hd
        have HD := Lib.hid hd
        have hO3' := h3.keep hBr
        clear hd hstep
        go_wp2_with (at_builtin; refine wpList_append1I rfl _ _ rfl w5.heap.size _ p k _ rfl rfl rfl hO (small_wf _ (by omega) (by omega)) (by omega) hBr.size ?_; intro v' wA hOA hgA; have hBA := own_app hO hBr hBr.size hgA; have c3A : OwnI w.heap.size wA (.slice (some ⟨g3, 0, none⟩) bf.length c3) bf := (hO3'.keep ((Below.refl _ _).alloc (Nat.le_refl _) _)).other hgA (own_sep h3 hO (Nat.le_refl _)); have cA := own_cell_at c3A k hkl k rfl)
        go_roundw
        case rel => exact ⟨p ++ [(k : Int)], atF bf k, rfl, hFk.1, by simp; omega, hOA, hBA, by rw [HD.out]; simp⟩
        case measure => simp [intOf]; omega
      · obtain rfl : j = -1 := by omega
        have hend : ∀ f, downC bf f (-1) = [] := fun f => by cases f <;> simp [downC]
        rw [hend, List.append_nil] at hd
        have HD := Lib.hid hd
        clear hd hend
        go_wp2_with (go_at_call 39; refine (Reverse_any _ p w5.heap.size wr hO).mono ?_; rintro e w8 ⟨rfl, hO8, hg8⟩)
        go_ret
        rw [HD.out]
        exact ⟨_, rfl, hO8.below hw5, hB1.trans ((hBr.grown hg8 hBr.size (fun k hk => (hO.1.lt k hk).1)).mono hw5)⟩
  · unfold chainF
    rw [if_pos (Or.inr h)]
    generalize dueErr due = d at *
    have hdd : (d != 0) = true := by simp [h]
    clear h0
    go_enter Try.func16, Try.ntmps16
    go_wp2_with (go_at_call 34; refine Q.mono ?_; rintro e w5 ⟨rfl, rfl⟩)
    go_ret
    exact ⟨_, rfl, OwnI.nil _ _, Below.refl _ _⟩
end Go.Proofs.Ytkefkegknacpjaa
