/- the reference's Assign. -/
import Derived.Test.YtkefkegknacpjaaLanesG
namespace Go.Proofs.Ytkefkegknacpjaa
open Go.RowKit Go.Maps

def encB (b : Int) (n : Nat) : Int := if b < 0 then (n : Int) else b

theorem encB_nat (p n : Nat) : encB (p : Int) n = p := by
  unfold encB
  rw [if_neg (by omega)]
theorem encB_neg {b : Int} (n : Nat) (h : b < 0) : encB b n = n := by
  unfold encB
  rw [if_pos h]
theorem bstep_yes {e : Nat → Int} {n best : Int} {k : Nat} (h1 : e k ≤ n) (h2 : best < 0 ∨ e best.toNat < e k) : bstep e n best k = k := if_pos ⟨h1, h2⟩
theorem bstep_no {e : Nat → Int} {n best : Int} {k : Nat} (h : ¬ (e k ≤ n ∧ (best < 0 ∨ e best.toNat < e k))) : bstep e n best k = best := if_neg h

set_option maxHeartbeats 2000000 in
theorem RAssign_any (v : Value) (due : List Int) (w : World) (hv : IntsV w v due) :
    Calls Try.prog 12 #[v] w (OwnRet (asgL due) (dueErr due) w) := by
  have Q := valid_any v due w hv
  obtain ⟨a, c, rfl, la, _, ca⟩ := hv.open
  by_cases h : dueErr due = 0
  · have hl := due_le h
    unfold asgL
    rw [if_pos h]
    rw [h] at Q ⊢
    clear h
    go_enter Try.func12, Try.ntmps12
    go_wp2_with (first
      | (go_at_call 36; refine Q.mono ?_; rintro e w5 ⟨rfl, rfl⟩))
    go_loopw [5, 6, 7] (fun o n i wr => ∃ k : Nat, k ≤ due.length ∧ i = .int .i64 k ∧ n = .int .i64 (asg due k).1.length ∧ OwnI w.heap.size wr o (asg due k).2.1 ∧ Below w.heap.size w wr)
      (fun _ _ i _ => due.length - (intOf i).toNat)
    case atStart => exact ⟨0, Nat.zero_le _, rfl, rfl, OwnI.nil _ _, Below.refl _ _⟩
    case round =>
      obtain ⟨wo, hwo⟩ : ∃ wo : World, wo = wr := ⟨_, rfl⟩
      obtain ⟨k, hk, rfl, rfl, hO, hB⟩ := hrel
      subst hwo
      obtain ⟨s1, s2, s3, s4⟩ := asg_ok due k hk
      have hla := asg_last due k hk
      have hlaneB := lane_lt due k (asg due k)
      have hb0 := bestS_bd (endF due (asg due k).1) (atF due k) (asg due k).1.length
      have hbA : bestA due k (asg due k) = bestS (endF due (asg due k).1) (atF due k) (asg due k).1.length := rfl
      have hlA : laneA due k (asg due k) = if bestA due k (asg due k) < 0 then (asg due k).1.length else (bestA due k (asg due k)).toNat := rfl
      rw [hbA] at hlA
      have hlen1 : (asg due (k + 1)).1.length = (last1 due k (asg due k)).length := by simp [asg, stepA, lastA, last1]
      have hl1 : last1 due k (asg due k) = if bestA due k (asg due k) < 0 then (asg due k).1 ++ [(k : Int)] else (asg due k).1 := rfl
      rw [hbA] at hl1
      have hnx : (asg due (k + 1)).2.1 = (asg due k).2.1 ++ [(laneA due k (asg due k) : Int)] := rfl
      have HLA := Lib.hid hlA
      have HL1 := Lib.hid hl1
      have HLEN1 := Lib.hid hlen1
      have HNX := Lib.hid hnx
      have HS1 := Lib.hid s1
      clear hbA hlA hl1 hlen1 hnx
      generalize hst0 : asg due k = st at *
      obtain ⟨ls, lanes, bf⟩ := st
      simp only at *
      have HST0 := Lib.hid hst0
      clear hst0
      by_cases hlt : k < due.length
      · obtain ⟨b, o, rfl, hb, cc⟩ := ca (by omega)
        have d3 : ∀ j, j < due.length → wo.cell? ⟨b, o + j, none⟩ = some (.int .i64 (atF due j)) := fun j hj => (hB.cell hb).trans (cc j hj)
        have d2 := d3 k hlt
        have hkd : (k : Int) < (due.length : Int) := by omega
        have hn200 : (ls.length : Int) ≤ 200 := by omega
        have hO2 := hO
        clear ca cc Q hv s1
        have HD3 := Lib.hid d3
        have HLAS := Lib.hid hla
        have HS4 := Lib.hid s4
        clear d3 hla s4
        go_wp2
        go_loop [8, 9] (fun bs i => ∃ j : Nat, j ≤ ls.length ∧ i = .int .i64 j ∧ bs = .int .i64 (encB (bestS (endF due ls) (atF due k) j) ls.length)) (fun _ i => ls.length - (intOf i).toNat)
        case atStart => exact ⟨0, Nat.zero_le _, rfl, rfl⟩
        case round =>
          obtain ⟨j, hj, rfl, rfl⟩ := hrel
          have d3 := HD3.out
          have hla := HLAS.out
          have s4 := HS4.out
          by_cases hjl : j < ls.length
          · have hbd := bestS_bd (endF due ls) (atF due k) j
            have hst : bestS (endF due ls) (atF due k) (j + 1) = bstep (endF due ls) (atF due k) (bestS (endF due ls) (atF due k) j) j := rfl
            have hj1 : endF due ls j = atF due (atF ls j).toNat := rfl
            have hm1 := s4 _ (atF_mem hjl)
            have hls1 := hla j hjl
            have hmB : ∀ p, bestS (endF due ls) (atF due k) j = (p : Nat) → endF due ls p = atF due (atF ls p).toNat ∧ 0 ≤ atF ls p ∧ atF ls p < due.length ∧ lastI lanes p k = atF ls p := fun p hp => ⟨rfl, (s4 _ (atF_mem (by omega))).1, (s4 _ (atF_mem (by omega))).2, hla p (by omega)⟩
            have QL1 := last_any _ lanes k j wo hO.ints (by have := HS1.out; omega)
            have QL2 := fun p : Nat => last_any _ lanes k p wo hO.ints (by have := HS1.out; omega)
            rw [hls1] at QL1
            generalize bestS (endF due ls) (atF due k) j = bst at *
            obtain ⟨p1, hp1⟩ : ∃ p1 : Nat, atF ls j = p1 := ⟨(atF ls j).toNat, by omega⟩
            rw [hp1] at QL1 hm1 hj1
            have c1 := d3 p1 (by omega)
            have hpd : (p1 : Int) < (due.length : Int) := by omega
            simp only [Int.toNat_natCast] at hj1
            have HJ1 := Lib.hid hj1
            clear hls1 hp1 hj1
            generalize atF due k = x at *
            generalize atF due p1 = z at *
            have HST := Lib.hid hst
            clear hst
            by_cases hzx : z ≤ x
            · have hzxb : decide (z ≤ x) = true := decide_eq_true hzx
              by_cases hbn : bst < 0
              · have he := encB_neg ls.length hbn
                rw [he]
                clear he hmB d3 hla s4 QL2
                go_wp2_with (go_at_call 37; refine QL1.mono ?_; rintro e w6 ⟨rfl, rfl⟩)
                go_round
                case rel => exact ⟨j + 1, by omega, by go_num, by rw [HST.out, bstep_yes (by rw [HJ1.out]; exact hzx) (Or.inl hbn), encB_nat]⟩
                case measure => simp [intOf]; omega
              · obtain ⟨p, rfl⟩ : ∃ p : Nat, bst = p := ⟨bst.toNat, by omega⟩
                obtain ⟨m1, m2, m3, m4⟩ := hmB p rfl
                have he := encB_nat p ls.length
                rw [he]
                have hpl : (p : Int) < (ls.length : Int) := by omega
                have hpe : ((p : Int) == (ls.length : Int)) = false := by simp; omega
                have hQ2 := QL2 p
                rw [m4] at hQ2
                obtain ⟨p2, hp2⟩ : ∃ p2 : Nat, atF ls p = p2 := ⟨(atF ls p).toNat, by omega⟩
                rw [hp2] at hQ2 m1 m2 m3
                simp only [Int.toNat_natCast] at m1
                have c2 := d3 p2 (by omega)
                have hp2d : (p2 : Int) < (due.length : Int) := by omega
                generalize atF due p2 = z2 at *
                have HM1 := Lib.hid m1
                clear m1 hp2 m4 hmB he d3 hla s4 QL2
                have tok1 : True := trivial
                by_cases hz2 : z2 < z
                · have hzb : decide (z2 < z) = true := decide_eq_true hz2
                  go_wp2_with (first
                    | (go_at_call 37; have _t := tok1; refine QL1.mono ?_; clear tok1 _t; rintro e w6 ⟨rfl, rfl⟩)
                    | (go_at_call 37; refine hQ2.mono ?_; rintro e w6 ⟨rfl, rfl⟩))
                  go_round
                  case rel => exact ⟨j + 1, by omega, by go_num, by rw [HST.out, bstep_yes (by rw [HJ1.out]; exact hzx) (Or.inr (by rw [HJ1.out, Int.toNat_natCast, HM1.out]; exact hz2)), encB_nat]⟩
                  case measure => simp [intOf]; omega
                · have hzb : decide (z2 < z) = false := decide_eq_false hz2
                  go_wp2_with (first
                    | (go_at_call 37; have _t := tok1; refine QL1.mono ?_; clear tok1 _t; rintro e w6 ⟨rfl, rfl⟩)
                    | (go_at_call 37; refine hQ2.mono ?_; rintro e w6 ⟨rfl, rfl⟩))
                  go_round
                  case rel => exact ⟨j + 1, by omega, by go_num, by rw [HST.out, bstep_no (by rw [HJ1.out, Int.toNat_natCast, HM1.out]; omega), encB_nat]⟩
                  case measure => simp [intOf]; omega
            · have hzxb : decide (z ≤ x) = false := decide_eq_false hzx
              clear hmB d3 hla s4 QL2
              go_wp2_with (go_at_call 37; refine QL1.mono ?_; rintro e w6 ⟨rfl, rfl⟩)
              go_round
              case rel => exact ⟨j + 1, by omega, by go_num, by rw [HST.out, bstep_no (by rw [HJ1.out]; omega)]⟩
              case measure => simp [intOf]; omega
          · obtain rfl : j = ls.length := by omega
            generalize bestS (endF due ls) (atF due k) ls.length = bst at *
            have hlane200 : laneA due k (ls, lanes, bf) ≤ 200 := by
              have := HLA.out
              split at this <;> omega
            by_cases hbn : bst < 0
            · have he := encB_neg ls.length hbn
              have hlA := HLA.out
              rw [if_pos hbn] at hlA
              have hl1 := HLEN1.out
              rw [HL1.out, if_pos hbn] at hl1
              rw [he]
              have HLA2 := Lib.hid hlA
              have HL12 := Lib.hid hl1
              clear he hlA hl1 d3 hla s4
              have hOx := hO2
              go_wp2_with (at_builtin; refine wpList_append1I rfl _ _ rfl w.heap.size _ lanes (ls.length : Nat) _ rfl rfl rfl hO2 (small_wf _ (by omega) (by omega)) (by have := HS1.out; omega) hB.size ?_; intro v' wA hOA hgA; have hBA := own_app hO2 hB hB.size hgA)
              go_roundw
              case rel => exact ⟨k + 1, by omega, by go_num, by rw [HL12.out]; simp, by rw [HNX.out, HLA2.out]; exact hOA, hBA⟩
              case measure => simp [intOf]; omega
            · obtain ⟨p, rfl⟩ : ∃ p : Nat, bst = p := ⟨bst.toNat, by omega⟩
              have he := encB_nat p ls.length
              have hlA := HLA.out
              rw [if_neg hbn] at hlA
              have hl1 := HLEN1.out
              rw [HL1.out, if_neg hbn] at hl1
              rw [he]
              simp only [Int.toNat_natCast] at hlA
              have hpl : (p : Int) < (ls.length : Int) := by omega
              have HLA2 := Lib.hid hlA
              have HL12 := Lib.hid hl1
              clear he hlA hl1 d3 hla s4
              have hOx := hO2
              go_wp2_with (at_builtin; refine wpList_append1I rfl _ _ rfl w.heap.size _ lanes (p : Nat) _ rfl rfl rfl hO2 (small_wf _ (by omega) (by omega)) (by have := HS1.out; omega) hB.size ?_; intro v' wA hOA hgA; have hBA := own_app hO2 hB hB.size hgA)
              go_roundw
              case rel => exact ⟨k + 1, by omega, by go_num, by rw [HL12.out], by rw [HNX.out, HLA2.out]; exact hOA, hBA⟩
              case measure => simp [intOf]; omega
      · obtain rfl : k = due.length := by omega
        go_wp2
        go_ret2
        rw [HST0.out]
        exact ⟨u5, rfl, hO, hB⟩
  · unfold asgL
    rw [if_neg h]
    generalize dueErr due = d at *
    go_enter Try.func12, Try.ntmps12
    go_wp2_with (go_at_call 36; refine Q.mono ?_; rintro e w5 ⟨rfl, rfl⟩)
    go_ret2
    exact ⟨_, rfl, OwnI.nil _ _, Below.refl _ _⟩
end Go.Proofs.Ytkefkegknacpjaa
