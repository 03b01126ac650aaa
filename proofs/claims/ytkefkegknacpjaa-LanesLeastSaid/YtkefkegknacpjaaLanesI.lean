/- the reference's Count and Chain. -/
import Derived.Test.YtkefkegknacpjaaLanesH
namespace Go.Proofs.Ytkefkegknacpjaa
open Go.RowKit Go.Maps

def maxP (l : List Int) : Nat → Int
  | 0 => 0
  | k + 1 => max (maxP l k) (atF l k + 1)

theorem maxP_bd (l : List Int) (B : Int) (hB : 0 ≤ B) (h : ∀ x ∈ l, 0 ≤ x ∧ x ≤ B) (k : Nat) (hk : k ≤ l.length) : 0 ≤ maxP l k ∧ maxP l k ≤ B + 1 := by
  induction k with
  | zero => simp only [maxP]; omega
  | succ k ih =>
    have := ih (by omega)
    have := h _ (atF_mem (show k < l.length by omega))
    simp only [maxP]
    omega

theorem asgL_len (due : List Int) : (asgL due).length = if dueErr due = 0 then due.length else 0 := by
  unfold asgL
  split
  · exact (asg_ok due due.length (Nat.le_refl _)).lanes
  · rfl

theorem asgL_at (due : List Int) (k : Nat) (hk : k < (asgL due).length) : dueErr due = 0 ∧ k < due.length ∧ atF (asgL due) k = laneA due k (asg due k) := by
  have hl := asgL_len due
  split at hl
  · rename_i h
    refine ⟨h, by omega, ?_⟩
    unfold asgL
    rw [if_pos h]
    exact (asg_pre due k due.length (by omega) (Nat.le_refl _)).1
  · omega

theorem asgL_bd (due : List Int) : ∀ x ∈ asgL due, 0 ≤ x ∧ x ≤ 200 := by
  intro x hx
  obtain ⟨k, hk, rfl⟩ := List.mem_iff_getElem.1 hx
  obtain ⟨h1, h2, h3⟩ := asgL_at due k hk
  have := laneA_le due k (asg due k)
  have := (asg_ok due k (by omega)).last
  have := due_le h1
  have e : (asgL due)[k] = atF (asgL due) k := by simp [atF, hk]
  rw [e, h3]
  omega

theorem asg_grow (due : List Int) (k : Nat) : ((asg due (k + 1)).1.length : Int) = max ((asg due k).1.length : Int) ((laneA due k (asg due k) : Int) + 1) := by
  have h1 : (asg due (k + 1)).1.length = (last1 due k (asg due k)).length := by simp [asg, stepA, lastA, last1]
  have h2 := lane_lt due k (asg due k)
  have h3 := laneA_le due k (asg due k)
  rw [h1]
  unfold last1 at h2 ⊢
  have hlA : laneA due k (asg due k) = if bestA due k (asg due k) < 0 then (asg due k).1.length else (bestA due k (asg due k)).toNat := rfl
  split
  · rename_i hb
    rw [if_pos hb] at hlA
    simp
    omega
  · rename_i hb
    rw [if_neg hb] at h2
    omega

theorem maxP_asg (due : List Int) : maxP (asgL due) (asgL due).length = asgN due := by
  by_cases h : dueErr due = 0
  · have hl := asgL_len due
    rw [if_pos h] at hl
    have : ∀ k, k ≤ due.length → maxP (asgL due) k = ((asg due k).1.length : Int) := by
      intro k hk
      induction k with
      | zero => simp [maxP, asg]
      | succ k ih =>
        rw [asg_grow, ← ih (by omega), ← (asgL_at due k (by omega)).2.2]
        rfl
    rw [hl, this _ (Nat.le_refl _)]
    unfold asgN
    rw [if_pos h]
  · unfold asgL asgN
    rw [if_neg h, if_neg h]
    rfl

theorem RCount_any (v : Value) (due : List Int) (w : World) (hv : IntsV w v due) :
    Calls Try.prog 15 #[v] w fun e w' => e = .returned (.int .i64 (asgN due)) ∧ Below w.heap.size w w' := by
  have Q := RAssign_any v due w hv
  have hbd := asgL_bd due
  have hmx := fun k hk => maxP_bd (asgL due) 200 (by omega) hbd k hk
  have hln := asgL_len due
  have hl2 : (asgL due).length ≤ 200 := by
    split at hln
    · rename_i h; have := due_le h; omega
    · omega
  have hend := maxP_asg due
  have HEND := Lib.hid hend
  have HMX := Lib.hid hmx
  have HBD := Lib.hid hbd
  clear hln hend hmx hbd hv
  generalize asgL due = l at *
  go_enter Try.func15, Try.ntmps15
  go_wp2_with (go_at_call 12; refine Q.mono ?_; rintro e w5 ⟨v2, rfl, hO, hB⟩)
  obtain ⟨a2, c2, rfl, _, _, cc⟩ := hO.ints.open
  go_loop [5, 6] (fun n i => ∃ k : Nat, k ≤ l.length ∧ i = .int .i64 k ∧ n = .int .i64 (maxP l k)) (fun _ i => l.length - (intOf i).toNat)
  case atStart => exact ⟨0, Nat.zero_le _, rfl, rfl⟩
  case round =>
    obtain ⟨k, hk, rfl, rfl⟩ := hrel
    by_cases hlt : k < l.length
    · obtain ⟨b, o, rfl, hb, cc⟩ := cc (by omega)
      have d := cc k hlt
      have hx : l[k]?.getD 0 = atF l k := rfl
      rw [hx] at d
      obtain ⟨m1, m2⟩ := HMX.out k hk
      obtain ⟨b1, b2⟩ := HBD.out _ (atF_mem hlt)
      have hst : maxP l (k + 1) = max (maxP l k) (atF l k + 1) := rfl
      have hkl : (k : Int) < (l.length : Int) := by omega
      generalize maxP l k = m at *
      generalize atF l k = x at *
      have HST := Lib.hid hst
      clear cc hx hst
      go_wp2
      go_round
      case rel => exact ⟨k + 1, by omega, by go_num, by rw [HST.out]; congr 1; split <;> omega⟩
      case measure => simp [intOf]; omega
    · obtain rfl : k = l.length := by omega
      clear cc
      go_wp2
      go_ret
      exact ⟨ret_int HEND.out, hB⟩

theorem downC_end (b : List Int) (f : Nat) : downC b f (-1) = [] := by cases f <;> simp [downC]
theorem downC_step (b : List Int) (f j : Nat) (hf : 0 < f) : downC b f (j : Int) = (j : Int) :: downC b (f - 1) (atF b j) := by
  cases f with
  | zero => omega
  | succ f =>
    simp only [downC, Nat.add_sub_cancel, Int.toNat_natCast]
    rw [if_neg (by omega)]

theorem asgN_pos (due : List Int) : 0 < asgN due ↔ ¬ (due = [] ∨ dueErr due ≠ 0) := by
  unfold asgN
  by_cases h : dueErr due = 0
  · rw [if_pos h]
    cases hd : due.length with
    | zero =>
      have : due = [] := List.eq_nil_of_length_eq_zero hd
      simp [asg, this]
    | succ n =>
      have := asg_grow due n
      have h0 : due ≠ [] := fun e => by simp [e] at hd
      exact ⟨fun _ e => e.elim h0 (fun e => e h), fun _ => by omega⟩
  · rw [if_neg h]
    simp [h]

theorem least_nat (P : Nat → Prop) (q : Nat) (h : P q) : ∃ k, P k ∧ ∀ j, j < k → ¬ P j := by
  induction q using Nat.strongRecOn with
  | ind q ih =>
    by_cases e : ∃ j, j < q ∧ P j
    · obtain ⟨j, h1, h2⟩ := e
      exact ih j h1 h2
    · exact ⟨q, h, fun j hj hp => e ⟨j, hj, hp⟩⟩

/-- the top lane has a first bag -/
theorem top_lane (due : List Int) (h : 0 < asgN due) : ∃ q, q < (asgL due).length ∧ atF (asgL due) q = (asgN due : Int) - 1 := by
  have hn := (asgN_pos due).1 h
  have he : dueErr due = 0 := by
    by_cases e : dueErr due = 0
    · exact e
    · exact absurd (Or.inr e) hn
  unfold asgN at h ⊢
  unfold asgL
  rw [if_pos he] at h ⊢
  rw [if_pos he]
  have hu := asg_used due due.length (Nat.le_refl _) ((asg due due.length).1.length - 1) (by omega)
  have hh := lastI_hit _ _ _ hu
  have hb := lastI_bd (asg due due.length).2.1 (((asg due due.length).1.length - 1 : Nat) : Int) due.length
  have hl := (asg_ok due due.length (Nat.le_refl _)).lanes
  refine ⟨_, ?_, hh.trans (by omega)⟩
  omega

/-- all that the walk of Chain needs of the two lists -/
structure ChainOK (l bf : List Int) (n x0 : Nat) (N : Nat) : Prop where
  len : l.length = N
  top : x0 < N ∧ atF l x0 = (n : Int) - 1
  first : ∀ k : Nat, k < N → (∀ j, j < k → atF l j ≠ (n : Int) - 1) → atF l k = (n : Int) - 1 → k = x0
  bd : ∀ k, k < N → 0 ≤ atF l k ∧ atF l k ≤ 200
  prev : ∀ k, k < N → 0 < atF l k → ∃ j : Nat, j < k ∧ lastI l (atF l k - 1) k = j ∧ atF bf k = j ∧ atF l j = atF l k - 1
  stop : ∀ k, k < N → atF l k = 0 → atF bf k = -1

theorem chain_ok (due : List Int) (h : 0 < asgN due) : ∃ x0 bf, ChainOK (asgL due) bf (asgN due) x0 due.length ∧ chainF due = (downC bf (due.length + 1) x0).reverse := by
  have hn := (asgN_pos due).1 h
  have he : dueErr due = 0 := by
    by_cases e : dueErr due = 0
    · exact e
    · exact absurd (Or.inr e) hn
  obtain ⟨q, hq1, hq2⟩ := top_lane due h
  have hl := asgL_len due
  rw [if_pos he] at hl
  have hL : asgL due = (asg due due.length).2.1 := by unfold asgL; rw [if_pos he]
  have hN : asgN due = (asg due due.length).1.length := by unfold asgN; rw [if_pos he]
  have hi : ∃ x0 : Nat, idxF (asgL due) ((asgN due : Int) - 1) = x0 ∧ x0 < due.length ∧ atF (asgL due) x0 = (asgN due : Int) - 1 ∧ ∀ j, j < x0 → atF (asgL due) j ≠ (asgN due : Int) - 1 := by
    have : ∃ k, (k < (asgL due).length ∧ atF (asgL due) k = (asgN due : Int) - 1) ∧ ∀ j, j < k → ¬ (j < (asgL due).length ∧ atF (asgL due) j = (asgN due : Int) - 1) := by
      exact least_nat _ q ⟨hq1, hq2⟩
    obtain ⟨k, ⟨k1, k2⟩, k3⟩ := this
    have k4 : ∀ j, j < k → atF (asgL due) j ≠ (asgN due : Int) - 1 := fun j hj e => k3 j hj ⟨by omega, e⟩
    exact ⟨k, idx_hit k1 k2 k4, by omega, k2, k4⟩
  obtain ⟨x0, i1, i2, i3, i4⟩ := hi
  refine ⟨x0, (asg due due.length).2.2, ⟨hl, ⟨i2, i3⟩, ?_, ?_, ?_, ?_⟩, ?_⟩
  · intro k hk h1 h2
    rcases Nat.lt_trichotomy k x0 with c | c | c
    · exact absurd h2 (i4 k c)
    · exact c
    · exact absurd i3 (h1 x0 c)
  · intro k hk
    exact asgL_bd due _ (atF_mem (by omega))
  · intro k hk h0
    rw [hL] at h0 ⊢
    obtain ⟨b1, b2⟩ := asg_before due k hk h0
    rw [b1] at b2
    have hb := lastI_bd (asg due due.length).2.1 (atF (asg due due.length).2.1 k - 1) k
    have hh := lastI_hit _ _ _ b2
    refine ⟨(lastI (asg due due.length).2.1 (atF (asg due due.length).2.1 k - 1) k).toNat, by omega, by omega, by rw [b1]; omega, hh⟩
  · intro k hk h0
    rw [hL] at h0
    exact asg_before0 due k hk h0
  · unfold chainF
    rw [if_neg hn]
    rw [← hL, ← hN, i1]

theorem RChain_any (v : Value) (due : List Int) (w : World) (hv : IntsV w v due) :
    Calls Try.prog 17 #[v] w (OwnOne (chainF due) w) := by
  have Q := RAssign_any v due w hv
  by_cases h : 0 < asgN due
  · obtain ⟨x0, bf, hC, hF⟩ := chain_ok due h
    have QC : ∀ w5, Below w.heap.size w w5 → Calls Try.prog 15 #[v] w5 _ := fun w5 hB => RCount_any v due w5 (hv.below hB)
    have hNd : due.length ≤ 200 := by
      have hn := (asgN_pos due).1 h
      by_cases e : dueErr due = 0
      · exact due_le e
      · exact absurd (Or.inr e) hn
    have hn200 : (asgN due : Int) ≤ 201 := by have := hC.bd x0 hC.top.1; have := hC.top.2; omega
    rw [hF]
    clear hF hv
    generalize hgN : asgN due = n at *
    generalize asgL due = l at *
    generalize dueErr due = de at *
    generalize due.length = N at *
    have HC := Lib.hid hC
    have hlen := hC.len
    subst hlen
    clear hgN hC
    have hnb : ((n : Int) == 0) = false := by simp; omega
    go_enter Try.func17, Try.ntmps17
    go_wp2_with (first
      | (go_at_call 12; refine Q.mono ?_; rintro e w5 ⟨v2, rfl, hO, hB⟩)
      | (go_at_call 15; refine (QC w5 hB).mono ?_; rintro e w6 ⟨rfl, hB6⟩; have hO6 := hO.keep hB6; have hB06 := hB.trans (hB6.mono hB.size)))
    go_loop [6] (fun i => ∃ k : Nat, k ≤ x0 ∧ i = .int .i64 k ∧ ∀ j, j < k → atF l j ≠ (n : Int) - 1) (fun i => x0 - (intOf i).toNat)
    case atStart => exact ⟨0, Nat.zero_le _, rfl, fun j hj => by omega⟩
    case round =>
      obtain ⟨k, hk, rfl, hall⟩ := hrel
      have htop := HC.out.top
      have hfst := HC.out.first k (by omega) hall
      obtain ⟨g, cap, rfl, _, _, _, cc⟩ := hO6.open (by omega)
      have d := cc k (by omega)
      have hx : l[k]?.getD 0 = atF l k := rfl
      rw [hx] at d
      have hkl : (k : Int) < (l.length : Int) := by omega
      have HALL := Lib.hid hall
      have HF := Lib.hid hfst
      have HT := Lib.hid htop
      obtain ⟨y, hy⟩ : ∃ y, atF l k = y := ⟨_, rfl⟩
      rw [hy] at d
      have HY := Lib.hid hy
      clear cc hx hy hall hfst htop
      by_cases hyn : y = (n : Int) - 1
      · have hkx := HF.out (by rw [HY.out, hyn])
        have hyb : (y != (n : Int) - 1) = false := by simp [hyn]
        have HKX := Lib.hid hkx
        clear hkx hyn
        have hk200 : (k : Int) ≤ 200 := by omega
        go_wp2
        obtain ⟨wo, hwo⟩ : ∃ wo : World, wo = w6 := ⟨_, rfl⟩
        subst hwo
        have hlit := own_lit1 (k : Int) wo (small_wf _ (by omega) (by omega))
        have hB1 : Below wo.heap.size wo (wo.alloc (.cells #[.int .i64 (k : Int)] 3)) := (Below.refl _ _).alloc (Nat.le_refl _) _
        go_loopw [6, 7, 8] (fun i o ln wr => ∃ (j : Nat) (p : List Int), i = .int .i64 j ∧ ln = .int .i64 (atF l j - 1) ∧ j < l.length ∧ p.length + j ≤ l.length ∧ OwnI wo.heap.size wr o p.reverse ∧ Below wo.heap.size wo wr ∧ downC bf (l.length + 1) x0 = p ++ downC bf (l.length + 1 - p.length) (atF bf j))
          (fun _ _ ln _ => (intOf ln + 1).toNat)
        case atStart =>
          have hkx := HKX.out
          subst hkx
          have htop := HT.out
          refine ⟨k, [(k : Int)], rfl, ?_, htop.1, ?_, hlit, hB1, ?_⟩
          · rw [htop.2]; congr 1; omega
          · have := htop.1; simp; omega
          · rw [downC_step _ _ _ (by omega)]; simp
        case round =>
          obtain ⟨j, p, rfl, rfl, hj, hpj, hOp, hBr, hd⟩ := hrel
          have hbd := HC.out.bd j hj
          have hpv := HC.out.prev j hj
          have hsp := HC.out.stop j hj
          have hjl : (j : Int) < (l.length : Int) := by omega
          have hl6 := hO6.keep hBr
          have QL := fun x => last_any _ l j x wr hl6.ints (by omega)
          have HQL := Lib.hid QL
          have HD := Lib.hid hd
          have HPV := Lib.hid hpv
          have HSP := Lib.hid hsp
          obtain ⟨y2, hy2⟩ : ∃ y2, atF l j = y2 := ⟨_, rfl⟩
          rw [hy2] at hbd ⊢
          have HY2 := Lib.hid hy2
          clear QL hd hpv hsp hy2 QC Q
          by_cases h0 : 0 < y2
          · obtain ⟨j', e1, e2, e3, e4⟩ := HPV.out (by rw [HY2.out]; exact h0)
            rw [HY2.out] at e2 e4
            have QL := HQL.out (y2 - 1)
            rw [e2] at QL
            have HE3 := Lib.hid e3
            have HE4 := Lib.hid e4
            clear e2 e3 e4
            have hj2 : (j' : Int) ≤ 200 := by omega
            go_wp2_with (first
              | (go_at_call 37; refine QL.mono ?_; rintro e w7 ⟨rfl, rfl⟩)
              | (at_builtin; refine wpList_appendV rfl _ _ rfl wo.heap.size _ [(j' : Int)] _ p.reverse rfl rfl ((own_lit1 (j' : Int) wr (small_wf _ (by omega) (by omega))).below hBr.size) (hOp.ints.alloc _) (by simp; omega) (by simp; exact Nat.le_succ_of_le hBr.size) ?_; intro v' wA hOA hgA))
            go_roundw
            case rel =>
              refine ⟨j', p ++ [(j' : Int)], rfl, by rw [HE4.out], by omega, by simp; omega, by simpa using hOA, (hBr.alloc hBr.size _).grown hgA (by simp; exact Nat.le_succ_of_le hBr.size) (fun g hg => by cases hg; exact hBr.size), ?_⟩
              rw [HD.out, HE3.out, downC_step _ _ _ (by omega)]
              simp
              congr 1
              omega
            case measure => simp [intOf]; omega
          · obtain rfl : y2 = 0 := by omega
            have hz := HSP.out HY2.out
            have hd := HD.out
            rw [hz, downC_end, List.append_nil] at hd
            have HD2 := Lib.hid hd
            clear hz hd
            go_wp2
            go_ret
            rw [HD2.out]
            exact ⟨_, rfl, hOp.below hB06.size, hB06.trans (hBr.mono hB06.size)⟩
      · have hyb : (y != (n : Int) - 1) = true := by simp [hyn]
        have hne : k ≠ x0 := fun e => hyn (by rw [← HY.out, e, HT.out.2])
        have HYN := Lib.hid hyn
        clear hyn
        have hk200 : (k : Int) ≤ 200 := by omega
        go_wp2
        go_round
        case rel =>
          refine ⟨k + 1, by omega, by go_num, fun j hj => ?_⟩
          by_cases e : j = k
          · rw [e, HY.out]; exact HYN.out
          · exact HALL.out j (by omega)
        case measure => simp [intOf]; omega
  · have hc : chainF due = [] := by
      unfold chainF
      rw [if_pos]
      by_cases e : due = [] ∨ dueErr due ≠ 0
      · exact e
      · exact absurd ((asgN_pos due).2 e) h
    rw [hc]
    have QC : ∀ w5, Below w.heap.size w w5 → Calls Try.prog 15 #[v] w5 _ := fun w5 hB => RCount_any v due w5 (hv.below hB)
    have h0 : asgN due = 0 := by omega
    rw [h0] at QC
    clear hc h h0
    go_enter Try.func17, Try.ntmps17
    go_wp2_with (first
      | (go_at_call 12; refine Q.mono ?_; rintro e w5 ⟨v2, rfl, hO, hB⟩)
      | (go_at_call 15; refine (QC w5 hB).mono ?_; rintro e w6 ⟨rfl, hB6⟩))
    go_ret
    exact ⟨_, rfl, OwnI.nil _ _, hB.trans (hB6.mono hB.size)⟩
end Go.Proofs.Ytkefkegknacpjaa
