/- The functions of the program compute what was printed; walks printed by a program. -/
import Derived.Test.YtkefkegknacpjaaExF
import Derived.Test.YtkefkegknacpjaaExP1
namespace Go.Proofs.Ytkefkegknacpjaa.Ex
open Go.RowKit Go.Proofs.Ytkefkegknacpjaa.Ax
set_option linter.unusedVariables false
set_option linter.unusedSimpArgs false
set_option maxRecDepth 100000 in
set_option maxHeartbeats 40000000 in
theorem lanes_assigned_ac (x_0 : (List Int)) (r : (List Int) × (List Int) × Int) (hF : lanes_assigned x_0 = some r) : AC Try.prog 35 [.lst 1 (x_0.map iA)] [] (.tup [.lst 1 (r.1.map iA), .lst 1 (r.2.1.map iA), .int .i64 r.2.2]) [] := by
  refine ac_of tab_ok follows_ok Try.func35 rfl Try.ntmps35 rfl ?_
  unfold lanes_assigned at hF
  conv => whnf
  refine len_q (enc := iA) (l := x_0) rfl ?_
  conv => whnf
  obtain ⟨c_1, hc_1, hF⟩ := fin_some hF
  refine sw_bv 0 (v := .lst 1 (x_0.map iA)) (by (conv => lhs; whnf); all_goals rfl) (fun hb => ?_)
  have hbd_k_6 : x_0.length ≤ 9223372036854775807 := bnd_len (enc := iA) (hb)
  refine sw_loop tab_ok follows_ok (fun y : Nat × (List Int) × (List Int) × (List Int) × (List Int) => y.1 ≤ x_0.length ∧ lanes_assigned_L1 (x_0.drop y.1) y.1 y.2.1 y.2.2.1 y.2.2.2.1 y.2.2.2.2 = some c_1) (fun y => ⟨eL [(1, .ptr 0 0), (2, .osl 3), (3, .osl 4), (5, .ptr 1 0), (11, .lst 1 (x_0.map iA)), (12, .int .i64 (x_0.length : Int)), (13, .int .i64 (y.1 : Int))], hL [(0, .box [.lst 1 (y.2.2.2.2.map iA)]), (1, .box [.osl 2]), (2, .row 1 (y.2.2.2.1.map iA)), (3, .row 1 (y.2.1.map iA)), (4, .row 1 (y.2.2.1.map iA))], 5⟩) (fun y => x_0.length - y.1) (0, ([] : List Int), ([] : List Int), ([] : List Int), x_0) ⟨Nat.zero_le _, hc_1⟩ (wk_mk [0, 1] [2, 3, 4] [] rfl ⟨argP (id := 0) (by (conv => lhs; whnf); all_goals rfl) rfl, argZ (by (conv => lhs; whnf); all_goals rfl) rfl, argZ (by (conv => lhs; whnf); all_goals rfl) rfl, argP (id := 1) (by (conv => lhs; whnf); all_goals rfl) rfl, argE (by (conv => lhs; whnf); all_goals rfl) rfl, argE (by (conv => lhs; whnf); all_goals rfl) rfl, argE (by (conv => lhs; whnf); all_goals rfl) rfl, trivial⟩ ⟨boxL rfl rfl rfl ⟨(.ni _ rfl), trivial⟩, boxL rfl rfl rfl ⟨(.nilz 2 (by simp)), trivial⟩, blkZ rfl, blkZ rfl, blkZ rfl, trivial⟩) ?_
  rintro ⟨k_6, a_3, a_4, a_2, a_1⟩ ⟨hk_k_6, hL1⟩
  try dsimp only at hk_k_6 hL1
  show awp _ _ _ _ _ _ ⟨eL [(1, .ptr 0 0), (2, .osl 3), (3, .osl 4), (5, .ptr 1 0), (11, .lst 1 (x_0.map iA)), (12, .int .i64 (x_0.length : Int)), (13, .int .i64 (k_6 : Int))], hL [(0, .box [.lst 1 (a_1.map iA)]), (1, .box [.osl 2]), (2, .row 1 (a_2.map iA)), (3, .row 1 (a_3.map iA)), (4, .row 1 (a_4.map iA))], 5⟩
  conv => whnf
  refine ⟨fun h => ?_, fun h => ?_⟩
  · have hlt_k_6 : k_6 < x_0.length := by have h := of_decide_eq_true h; omega
    obtain ⟨e_7, h_e_7⟩ : ∃ y, x_0[k_6]? = some y := ⟨_, List.getElem?_eq_getElem hlt_k_6⟩
    rw [drop_cons h_e_7, lanes_assigned_L1.eq_2] at hL1
    conv => whnf
    refine ⟨k_6, _, rfl, ix_map h_e_7, ?_⟩
    conv => whnf
    refine len_q (enc := iA) (l := a_2) rfl ?_
    conv => whnf
    obtain ⟨c_2, hc_2, hL1⟩ := sub_some hL1
    refine sw_br 2 (sz := 1) (xs := a_2.map iA) (by (conv => lhs; whnf); all_goals rfl) (fun hb => ?_)
    have hbd_k_13 : a_2.length ≤ 9223372036854775807 := bnd_len (enc := iA) (hb)
    refine sw_loop tab_ok follows_ok (fun y : Nat × (List Int) × (List Int) × Int × Int => y.1 ≤ a_2.length ∧ lanes_assigned_L2 (a_2.drop y.1) y.1 y.2.1 y.2.2.1 y.2.2.2.1 y.2.2.2.2 = some c_2) (fun y => ⟨eL [(1, .ptr 0 0), (2, .osl 1), (3, .osl 2), (5, .ptr 3 0), (6, .int .i64 (k_6 : Int)), (8, .ptr 5 0), (9, .fn 50 [.ptr 0 0, .ptr 3 0, .ptr 6 0, .ptr 5 0]), (11, .lst 1 (x_0.map iA)), (12, .int .i64 (x_0.length : Int)), (13, .int .i64 (k_6 : Int)), (20, .int .i64 (a_2.length : Int)), (21, .int .i64 (y.1 : Int))], hL [(0, .box [.lst 1 (y.2.1.map iA)]), (1, .row 1 (a_3.map iA)), (2, .row 1 (a_4.map iA)), (3, .box [.osl 4]), (4, .row 1 (y.2.2.1.map iA)), (5, .box [.int .i64 y.2.2.2.1]), (6, .box [.int .i64 y.2.2.2.2])], 7⟩) (fun y => a_2.length - y.1) (0, a_1, a_2, (-1 : Int), e_7) ⟨Nat.zero_le _, hc_2⟩ (wk_mk [0, 3, 4, 1, 2, 6, 5] [] [] rfl ⟨argP (id := 0) (by (conv => lhs; whnf); all_goals rfl) rfl, argO (id := 3) (by (conv => lhs; whnf); all_goals rfl) rfl, argO (id := 4) (by (conv => lhs; whnf); all_goals rfl) rfl, argP (id := 1) (by (conv => lhs; whnf); all_goals rfl) rfl, argE (by (conv => lhs; whnf); all_goals rfl) rfl, argP (id := 6) (by (conv => lhs; whnf); all_goals rfl) rfl, argFn (c := [.ptr 0 0, .ptr 1 0, .ptr 5 0, .ptr 6 0]) (by (conv => lhs; whnf); all_goals rfl) rfl ⟨(.ptr 0 0 0 rfl), (.ptr 1 0 3 rfl), (.ptr 5 0 6 rfl), (.ptr 6 0 5 rfl), trivial⟩, argE (by (conv => lhs; whnf); all_goals rfl) rfl, argE (by (conv => lhs; whnf); all_goals rfl) rfl, argE (by (conv => lhs; whnf); all_goals rfl) rfl, argE (by (conv => lhs; whnf); all_goals rfl) rfl, argE (by (conv => lhs; whnf); all_goals rfl) rfl, trivial⟩ ⟨boxL rfl rfl rfl ⟨(.ni _ rfl), trivial⟩, blkR (fun _ => ⟨rfl, rfl⟩) rfl rfl, blkR (fun _ => ⟨rfl, rfl⟩) rfl rfl, boxL rfl rfl rfl ⟨(.oslg 2 4 rfl), trivial⟩, blkR (fun _ => ⟨rfl, rfl⟩) rfl rfl, boxL rfl rfl rfl ⟨(.ni _ rfl), trivial⟩, boxL rfl rfl rfl ⟨(.ni _ rfl), trivial⟩, trivial⟩) ?_
    rintro ⟨k_13, a_8, a_9, i_10, i_11⟩ ⟨hk_k_13, hL2⟩
    try dsimp only at hk_k_13 hL2
    show awp _ _ _ _ _ _ ⟨eL [(1, .ptr 0 0), (2, .osl 1), (3, .osl 2), (5, .ptr 3 0), (6, .int .i64 (k_6 : Int)), (8, .ptr 5 0), (9, .fn 50 [.ptr 0 0, .ptr 3 0, .ptr 6 0, .ptr 5 0]), (11, .lst 1 (x_0.map iA)), (12, .int .i64 (x_0.length : Int)), (13, .int .i64 (k_6 : Int)), (20, .int .i64 (a_2.length : Int)), (21, .int .i64 (k_13 : Int))], hL [(0, .box [.lst 1 (a_8.map iA)]), (1, .row 1 (a_3.map iA)), (2, .row 1 (a_4.map iA)), (3, .box [.osl 4]), (4, .row 1 (a_9.map iA)), (5, .box [.int .i64 i_10]), (6, .box [.int .i64 i_11])], 7⟩
    conv => whnf
    refine ⟨fun h => ?_, fun h => ?_⟩
    · have hlt_k_13 : k_13 < a_2.length := by have h := of_decide_eq_true h; omega
      obtain ⟨e_14, h_e_14⟩ : ∃ y, a_2[k_13]? = some y := ⟨_, List.getElem?_eq_getElem hlt_k_13⟩
      rw [drop_cons h_e_14, lanes_assigned_L2.eq_2] at hL2
      conv => whnf
      obtain ⟨r_15, h_r_15, hL2⟩ := bind_some hL2
      refine ⟨_, _, _, _, _, _, _, _, _, callY false [.box [.lst 1 (r_15.1.map iA)], .box [.osl 7], .dead, .box [.int .i64 r_15.2.2.1], .box [.int .i64 r_15.2.2.2], .row 1 (r_15.2.1.map iA)] [0, 3, 4, 6, 5] [] 1 Try.func50 (by decide) rfl (lanes_assigned_f1_ac (k_13 : Int) a_8 a_9 i_11 i_10 r_15 h_r_15) rfl ⟨(argE (by (conv => lhs; whnf); all_goals rfl) rfl), (argP (id := 0) (by (conv => lhs; whnf); all_goals rfl) rfl), (argP (id := 3) (by (conv => lhs; whnf); all_goals rfl) rfl), (argP (id := 6) (by (conv => lhs; whnf); all_goals rfl) rfl), (argP (id := 5) (by (conv => lhs; whnf); all_goals rfl) rfl), trivial⟩ rfl ⟨rfl, rfl, (grR (fun _ => ⟨rfl, rfl⟩) rfl), rfl, rfl, trivial⟩ rfl rfl rfl lend0 rfl ⟨rfl, rfl, rfl, rfl, rfl, renR (fun _ => ⟨rfl, rfl⟩), trivial⟩ rfl, ?_⟩
      conv => whnf
      refine ⟨((k_13 + 1 : Nat) : Int), wrapE (by omega) (by omega) (by omega), ?_⟩
      conv => whnf
      exact ⟨(k_13 + 1, r_15.1, r_15.2.1, r_15.2.2.2, r_15.2.2.1), [0, 1, 2, 3, 7, 5, 6], [], [], ⟨hlt_k_13, hL2⟩, by show a_2.length - (k_13 + 1) < a_2.length - k_13; omega, wk_mk [0, 1, 2, 3, 7, 5, 6] [] [] rfl ⟨argP (id := 0) (by (conv => lhs; whnf); all_goals rfl) rfl, argO (id := 1) (by (conv => lhs; whnf); all_goals rfl) rfl, argO (id := 2) (by (conv => lhs; whnf); all_goals rfl) rfl, argP (id := 3) (by (conv => lhs; whnf); all_goals rfl) rfl, argE (by (conv => lhs; whnf); all_goals rfl) rfl, argP (id := 5) (by (conv => lhs; whnf); all_goals rfl) rfl, argFn (c := [.ptr 0 0, .ptr 3 0, .ptr 6 0, .ptr 5 0]) (by (conv => lhs; whnf); all_goals rfl) rfl ⟨(.ptr 0 0 0 rfl), (.ptr 3 0 3 rfl), (.ptr 6 0 6 rfl), (.ptr 5 0 5 rfl), trivial⟩, argE (by (conv => lhs; whnf); all_goals rfl) rfl, argE (by (conv => lhs; whnf); all_goals rfl) rfl, argE (by (conv => lhs; whnf); all_goals rfl) rfl, argE (by (conv => lhs; whnf); all_goals rfl) rfl, argE (by (conv => lhs; whnf); all_goals rfl) rfl, trivial⟩ ⟨boxL rfl rfl rfl ⟨(.ni _ rfl), trivial⟩, blkR (fun _ => ⟨rfl, rfl⟩) rfl rfl, blkR (fun _ => ⟨rfl, rfl⟩) rfl rfl, boxL rfl rfl rfl ⟨(.oslg 7 4 rfl), trivial⟩, blkR (fun _ => ⟨rfl, rfl⟩) rfl rfl, boxL rfl rfl rfl ⟨(.ni _ rfl), trivial⟩, boxL rfl rfl rfl ⟨(.ni _ rfl), trivial⟩, trivial⟩⟩
    · rw [drop_nil (show a_2.length ≤ k_13 by have h := of_decide_eq_false h; omega), lanes_assigned_L2.eq_1] at hL2
      conv => whnf
      obtain rfl := Option.some.inj hL2
      replace hL1 := sub_brk hL1
      try dsimp only at hL1
      refine ⟨fun hb_22 => ?_, fun hb_22 => ?_⟩
      · replace hL1 := cond_t hb_22 hL1
        conv => whnf
        refine len_q (enc := iA) (l := a_9) rfl ?_
        conv => whnf
        obtain ⟨l_18, h_l_18, hL1⟩ := bind_some hL1
        refine ap_q (enc := iA) (l := a_9) (y := ([(k_6 : Int)] : List Int)) h_l_18 rfl rfl (by decide) ?_
        conv => whnf
        obtain ⟨e_19, h_e_19, hL1⟩ := bind_some hL1
        refine ixo_q (enc := iA) (l := l_18) h_e_19 rfl (fun m_e_19 hm_e_19 hx_e_19 => ?_)
        conv => whnf
        refine st_q (enc := iA) (l := l_18) (x' := (k_6 : Int)) (i := (a_9.length : Int)) hm_e_19 hx_e_19 rfl (Nat.le_of_ble_eq_true rfl) rfl ?_
        conv => whnf
        obtain ⟨l_20, h_l_20, hL1⟩ := bind_some hL1
        refine ap_q (enc := iA) (l := a_3) (y := ([(a_9.length : Int)] : List Int)) h_l_20 rfl rfl (by decide) ?_
        conv => whnf
        obtain ⟨l_21, h_l_21, hL1⟩ := bind_some hL1
        refine ap_q (enc := iA) (l := a_4) (y := ([(-1 : Int)] : List Int)) h_l_21 rfl rfl (by decide) ?_
        conv => whnf
        refine ⟨fun hb_23 => ?_, fun hb_23 => ?_⟩
        · replace hL1 := cond_t hb_23 hL1
          conv => whnf
          refine ⟨_, rfl, ?_⟩
          conv => whnf
          obtain ⟨e_22, h_e_22, hL1⟩ := bind_some hL1
          refine ixo_q (enc := iA) (l := (l_18.set (a_9.length : Int).toNat (k_6 : Int))) h_e_22 rfl (fun m_e_22 hm_e_22 hx_e_22 => ?_)
          conv => whnf
          refine ⟨_, ix_map (enc := iA) hx_e_22, ?_⟩
          conv => whnf
          obtain ⟨e_23, h_e_23, hL1⟩ := bind_some hL1
          refine ixo_q (enc := iA) (l := l_21) h_e_23 rfl (fun m_e_23 hm_e_23 hx_e_23 => ?_)
          conv => whnf
          refine st_q (enc := iA) (l := l_21) (x' := e_22) (i := (k_6 : Int)) hm_e_23 hx_e_23 rfl (Nat.le_of_ble_eq_true rfl) rfl ?_
          conv => whnf
          refine ⟨((k_6 + 1 : Nat) : Int), wrapE (by omega) (by omega) (by omega), ?_⟩
          conv => whnf
          exact ⟨(k_6 + 1, l_20, (l_21.set (k_6 : Int).toNat e_22), (l_18.set (a_9.length : Int).toNat (k_6 : Int)), a_8), [0, 3, 8, 10, 12], [], [], ⟨hlt_k_6, hL1⟩, by show x_0.length - (k_6 + 1) < x_0.length - k_6; omega, wk_mk [0, 3, 8, 10, 12] [] [] rfl ⟨argP (id := 0) (by (conv => lhs; whnf); all_goals rfl) rfl, argO (id := 10) (by (conv => lhs; whnf); all_goals rfl) rfl, argO (id := 12) (by (conv => lhs; whnf); all_goals rfl) rfl, argP (id := 3) (by (conv => lhs; whnf); all_goals rfl) rfl, argE (by (conv => lhs; whnf); all_goals rfl) rfl, argE (by (conv => lhs; whnf); all_goals rfl) rfl, argE (by (conv => lhs; whnf); all_goals rfl) rfl, trivial⟩ ⟨boxL rfl rfl rfl ⟨(.ni _ rfl), trivial⟩, boxL rfl rfl rfl ⟨(.oslg 8 2 rfl), trivial⟩, blkR (fun _ => ⟨rfl, rfl⟩) rfl rfl, blkR (fun _ => ⟨rfl, rfl⟩) rfl rfl, blkR (fun _ => ⟨rfl, rfl⟩) rfl rfl, trivial⟩⟩
        · replace hL1 := cond_f hb_23 hL1
          conv => whnf
          refine ⟨((k_6 + 1 : Nat) : Int), wrapE (by omega) (by omega) (by omega), ?_⟩
          conv => whnf
          exact ⟨(k_6 + 1, l_20, l_21, (l_18.set (a_9.length : Int).toNat (k_6 : Int)), a_8), [0, 3, 8, 10, 12], [], [], ⟨hlt_k_6, hL1⟩, by show x_0.length - (k_6 + 1) < x_0.length - k_6; omega, wk_mk [0, 3, 8, 10, 12] [] [] rfl ⟨argP (id := 0) (by (conv => lhs; whnf); all_goals rfl) rfl, argO (id := 10) (by (conv => lhs; whnf); all_goals rfl) rfl, argO (id := 12) (by (conv => lhs; whnf); all_goals rfl) rfl, argP (id := 3) (by (conv => lhs; whnf); all_goals rfl) rfl, argE (by (conv => lhs; whnf); all_goals rfl) rfl, argE (by (conv => lhs; whnf); all_goals rfl) rfl, argE (by (conv => lhs; whnf); all_goals rfl) rfl, trivial⟩ ⟨boxL rfl rfl rfl ⟨(.ni _ rfl), trivial⟩, boxL rfl rfl rfl ⟨(.oslg 8 2 rfl), trivial⟩, blkR (fun _ => ⟨rfl, rfl⟩) rfl rfl, blkR (fun _ => ⟨rfl, rfl⟩) rfl rfl, blkR (fun _ => ⟨rfl, rfl⟩) rfl rfl, trivial⟩⟩
      · replace hL1 := cond_f hb_22 hL1
        conv => whnf
        obtain ⟨e_24, h_e_24, hL1⟩ := bind_some hL1
        refine ixo_q (enc := iA) (l := a_9) h_e_24 rfl (fun m_e_24 hm_e_24 hx_e_24 => ?_)
        conv => whnf
        refine st_q (enc := iA) (l := a_9) (x' := (k_6 : Int)) (i := i_10) hm_e_24 hx_e_24 rfl (Nat.le_of_ble_eq_true rfl) rfl ?_
        conv => whnf
        obtain ⟨l_25, h_l_25, hL1⟩ := bind_some hL1
        refine ap_q (enc := iA) (l := a_3) (y := ([i_10] : List Int)) h_l_25 rfl rfl (by decide) ?_
        conv => whnf
        obtain ⟨l_26, h_l_26, hL1⟩ := bind_some hL1
        refine ap_q (enc := iA) (l := a_4) (y := ([(-1 : Int)] : List Int)) h_l_26 rfl rfl (by decide) ?_
        conv => whnf
        refine ⟨fun hb_24 => ?_, fun hb_24 => ?_⟩
        · replace hL1 := cond_t hb_24 hL1
          conv => whnf
          refine ⟨_, rfl, ?_⟩
          conv => whnf
          obtain ⟨e_27, h_e_27, hL1⟩ := bind_some hL1
          refine ixo_q (enc := iA) (l := (a_9.set i_10.toNat (k_6 : Int))) h_e_27 rfl (fun m_e_27 hm_e_27 hx_e_27 => ?_)
          conv => whnf
          refine ⟨_, ix_map (enc := iA) hx_e_27, ?_⟩
          conv => whnf
          obtain ⟨e_28, h_e_28, hL1⟩ := bind_some hL1
          refine ixo_q (enc := iA) (l := l_26) h_e_28 rfl (fun m_e_28 hm_e_28 hx_e_28 => ?_)
          conv => whnf
          refine st_q (enc := iA) (l := l_26) (x' := e_27) (i := (k_6 : Int)) hm_e_28 hx_e_28 rfl (Nat.le_of_ble_eq_true rfl) rfl ?_
          conv => whnf
          refine ⟨((k_6 + 1 : Nat) : Int), wrapE (by omega) (by omega) (by omega), ?_⟩
          conv => whnf
          exact ⟨(k_6 + 1, l_25, (l_26.set (k_6 : Int).toNat e_27), (a_9.set i_10.toNat (k_6 : Int)), a_8), [0, 3, 4, 8, 10], [], [], ⟨hlt_k_6, hL1⟩, by show x_0.length - (k_6 + 1) < x_0.length - k_6; omega, wk_mk [0, 3, 4, 8, 10] [] [] rfl ⟨argP (id := 0) (by (conv => lhs; whnf); all_goals rfl) rfl, argO (id := 8) (by (conv => lhs; whnf); all_goals rfl) rfl, argO (id := 10) (by (conv => lhs; whnf); all_goals rfl) rfl, argP (id := 3) (by (conv => lhs; whnf); all_goals rfl) rfl, argE (by (conv => lhs; whnf); all_goals rfl) rfl, argE (by (conv => lhs; whnf); all_goals rfl) rfl, argE (by (conv => lhs; whnf); all_goals rfl) rfl, trivial⟩ ⟨boxL rfl rfl rfl ⟨(.ni _ rfl), trivial⟩, boxL rfl rfl rfl ⟨(.oslg 4 2 rfl), trivial⟩, blkR (fun _ => ⟨rfl, rfl⟩) rfl rfl, blkR (fun _ => ⟨rfl, rfl⟩) rfl rfl, blkR (fun _ => ⟨rfl, rfl⟩) rfl rfl, trivial⟩⟩
        · replace hL1 := cond_f hb_24 hL1
          conv => whnf
          refine ⟨((k_6 + 1 : Nat) : Int), wrapE (by omega) (by omega) (by omega), ?_⟩
          conv => whnf
          exact ⟨(k_6 + 1, l_25, l_26, (a_9.set i_10.toNat (k_6 : Int)), a_8), [0, 3, 4, 8, 10], [], [], ⟨hlt_k_6, hL1⟩, by show x_0.length - (k_6 + 1) < x_0.length - k_6; omega, wk_mk [0, 3, 4, 8, 10] [] [] rfl ⟨argP (id := 0) (by (conv => lhs; whnf); all_goals rfl) rfl, argO (id := 8) (by (conv => lhs; whnf); all_goals rfl) rfl, argO (id := 10) (by (conv => lhs; whnf); all_goals rfl) rfl, argP (id := 3) (by (conv => lhs; whnf); all_goals rfl) rfl, argE (by (conv => lhs; whnf); all_goals rfl) rfl, argE (by (conv => lhs; whnf); all_goals rfl) rfl, argE (by (conv => lhs; whnf); all_goals rfl) rfl, trivial⟩ ⟨boxL rfl rfl rfl ⟨(.ni _ rfl), trivial⟩, boxL rfl rfl rfl ⟨(.oslg 4 2 rfl), trivial⟩, blkR (fun _ => ⟨rfl, rfl⟩) rfl rfl, blkR (fun _ => ⟨rfl, rfl⟩) rfl rfl, blkR (fun _ => ⟨rfl, rfl⟩) rfl rfl, trivial⟩⟩
  · rw [drop_nil (show x_0.length ≤ k_6 by have h := of_decide_eq_false h; omega), lanes_assigned_L1.eq_1] at hL1
    conv => whnf
    obtain rfl := Option.some.inj hL1
    replace hF := fin_brk hF
    try dsimp only at hF
    refine len_q (enc := iA) (l := a_2) rfl ?_
    conv => whnf
    refine ⟨by kernel_rfl, ?_⟩
    conv => whnf
    obtain rfl := Option.some.inj hF
    exact ret_gz [] [] [3, 4] rfl (tupL rfl ⟨(argOL 3 (by (conv => lhs; whnf); all_goals rfl) rfl rfl (map_ni (fun _ => ⟨rfl, rfl⟩) _)), (argOL 4 (by (conv => lhs; whnf); all_goals rfl) rfl rfl (map_ni (fun _ => ⟨rfl, rfl⟩) _)), (argE (by (conv => lhs; whnf); all_goals rfl) rfl), trivial⟩) trivial

set_option maxRecDepth 100000 in
set_option maxHeartbeats 40000000 in
theorem lanes_Assign_ac (x_0 : (List Int)) (r : (List Int) × Int) (hF : lanes_Assign x_0 = some r) : AC Try.prog 11 [.lst 1 (x_0.map iA)] [] (.tup [.lst 1 (r.1.map iA), .int .i64 r.2]) [] := by
  refine ac_of tab_ok follows_ok Try.func11 rfl Try.ntmps11 rfl ?_
  unfold lanes_Assign at hF
  conv => whnf
  obtain ⟨r_1, h_r_1, hF⟩ := bind_some hF
  refine ⟨_, _, _, _, _, _, _, _, _, callX false [] [] 0 Try.func34 (by decide) rfl (lanes_checked_ac x_0 r_1 h_r_1) rfl ⟨(argE (by (conv => lhs; whnf); all_goals rfl) rfl), trivial⟩ rfl trivial rfl rfl rfl lend0 trivial rfl, ?_⟩
  conv => whnf
  refine ⟨fun hb_2 => ?_, fun hb_2 => ?_⟩
  · replace hF := cond_t hb_2 hF
    conv => whnf
    obtain rfl := Option.some.inj hF
    exact ret_gz [] [] [] rfl (tupL rfl ⟨(argN (by (conv => lhs; whnf); all_goals rfl)), (argE (by (conv => lhs; whnf); all_goals rfl) rfl), trivial⟩) trivial
  · replace hF := cond_f hb_2 hF
    conv => whnf
    obtain ⟨r_2, h_r_2, hF⟩ := bind_some hF
    refine ⟨_, _, _, _, _, _, _, _, _, callX false [] [] 0 Try.func35 (by decide) rfl (lanes_assigned_ac x_0 r_2 h_r_2) rfl ⟨(argE (by (conv => lhs; whnf); all_goals rfl) rfl), trivial⟩ rfl trivial rfl rfl rfl lend0 trivial rfl, ?_⟩
    conv => whnf
    obtain rfl := Option.some.inj hF
    exact ret_gz [] [] [] rfl (tupL rfl ⟨(argE (by (conv => lhs; whnf); all_goals rfl) rfl), (argE (by (conv => lhs; whnf); all_goals rfl) rfl), trivial⟩) trivial

set_option maxRecDepth 100000 in
set_option maxHeartbeats 40000000 in
theorem slices_Index_int_ac (x_0 : (List Int)) (x_1 : Int) (r : Int) (hF : slices_Index_int x_0 x_1 = some r) : AC Try.prog 38 [.lst 1 (x_0.map iA), .int .i64 x_1] [] (.int .i64 r) [] := by
  refine ac_of tab_ok follows_ok Try.func38 rfl Try.ntmps38 rfl ?_
  unfold slices_Index_int at hF
  conv => whnf
  refine len_q (enc := iA) (l := x_0) rfl ?_
  conv => whnf
  obtain ⟨c_1, hc_1, hF⟩ := fin_some hF
  refine sw_bv 0 (v := .lst 1 (x_0.map iA)) (by (conv => lhs; whnf); all_goals rfl) (fun hb => ?_)
  have hbd_k_2 : x_0.length ≤ 9223372036854775807 := bnd_len (enc := iA) (hb)
  refine sw_loop tab_ok follows_ok (fun y : Nat => y ≤ x_0.length ∧ slices_Index_int_L1 x_1 (x_0.drop y) y = some c_1) (fun y => ⟨eL [(0, .lst 1 (x_0.map iA)), (1, .int .i64 x_1), (7, .int .i64 (x_0.length : Int)), (8, .int .i64 (y : Int))], hL [], 0⟩) (fun y => x_0.length - y) 0 ⟨Nat.zero_le _, hc_1⟩ (wk_mk [] [] [] rfl ⟨argE (by (conv => lhs; whnf); all_goals rfl) rfl, argE (by (conv => lhs; whnf); all_goals rfl) rfl, argE (by (conv => lhs; whnf); all_goals rfl) rfl, argE (by (conv => lhs; whnf); all_goals rfl) rfl, trivial⟩ trivial) ?_
  rintro k_2 ⟨hk_k_2, hL1⟩
  try dsimp only at hk_k_2 hL1
  show awp _ _ _ _ _ _ ⟨eL [(0, .lst 1 (x_0.map iA)), (1, .int .i64 x_1), (7, .int .i64 (x_0.length : Int)), (8, .int .i64 (k_2 : Int))], hL [], 0⟩
  conv => whnf
  refine ⟨fun h => ?_, fun h => ?_⟩
  · have hlt_k_2 : k_2 < x_0.length := by have h := of_decide_eq_true h; omega
    obtain ⟨e_3, h_e_3⟩ : ∃ y, x_0[k_2]? = some y := ⟨_, List.getElem?_eq_getElem hlt_k_2⟩
    rw [drop_cons h_e_3, slices_Index_int_L1.eq_2] at hL1
    conv => whnf
    refine ⟨k_2, _, rfl, ix_map h_e_3, ?_⟩
    conv => whnf
    refine ⟨fun hb_7 => ?_, fun hb_7 => ?_⟩
    · replace hL1 := cond_t hb_7 hL1
      conv => whnf
      obtain rfl := Option.some.inj hL1
      replace hF := fin_ret hF
      obtain rfl := Option.some.inj hF
      exact ret_gz [] [] [] rfl (argE (by (conv => lhs; whnf); all_goals rfl) rfl) trivial
    · replace hL1 := cond_f hb_7 hL1
      conv => whnf
      refine ⟨((k_2 + 1 : Nat) : Int), wrapE (by omega) (by omega) (by omega), ?_⟩
      conv => whnf
      exact ⟨k_2 + 1, [], [], [], ⟨hlt_k_2, hL1⟩, by show x_0.length - (k_2 + 1) < x_0.length - k_2; omega, wk_mk [] [] [] rfl ⟨argE (by (conv => lhs; whnf); all_goals rfl) rfl, argE (by (conv => lhs; whnf); all_goals rfl) rfl, argE (by (conv => lhs; whnf); all_goals rfl) rfl, argE (by (conv => lhs; whnf); all_goals rfl) rfl, trivial⟩ trivial⟩
  · rw [drop_nil (show x_0.length ≤ k_2 by have h := of_decide_eq_false h; omega), slices_Index_int_L1.eq_1] at hL1
    conv => whnf
    obtain rfl := Option.some.inj hL1
    replace hF := fin_brk hF
    try dsimp only at hF
    obtain rfl := Option.some.inj hF
    exact ret_gz [] [] [] rfl (argE (by (conv => lhs; whnf); all_goals rfl) rfl) trivial

set_option maxRecDepth 100000 in
set_option maxHeartbeats 40000000 in
theorem slices_Reverse_int_ac (x_0 : (List Int)) (r : (List Int)) (hF : slices_Reverse_int x_0 = some r) : AC Try.prog 39 [.osl 0] [.row 1 (x_0.map iA)] (.tup []) [.row 1 (r.map iA)] := by
  refine ac_of tab_ok follows_ok Try.func39 rfl Try.ntmps39 rfl ?_
  unfold slices_Reverse_int at hF
  conv => whnf
  refine len_q (enc := iA) (l := x_0) rfl ?_
  conv => whnf
  refine ⟨_, rfl, ?_⟩
  conv => whnf
  obtain ⟨c_1, hc_1, hF⟩ := fin_some hF
  refine sw_loop tab_ok follows_ok (fun y : Nat × (List Int) × Int × Int => slices_Reverse_int_L1 y.1 y.2.1 y.2.2.1 y.2.2.2 = some c_1) (fun y => ⟨eL [(0, .osl 0), (2, .int .i64 y.2.2.1), (3, .int .i64 y.2.2.2)], hL [(0, .row 1 (y.2.1.map iA))], 1⟩) (fun y => y.1) (9223372036854775807, x_0, (0 : Int), (w64 ((x_0.length : Int) - (1 : Int)))) hc_1 (wk_mk [0] [] [] rfl ⟨argO (id := 0) (by (conv => lhs; whnf); all_goals rfl) rfl, argE (by (conv => lhs; whnf); all_goals rfl) rfl, argE (by (conv => lhs; whnf); all_goals rfl) rfl, trivial⟩ ⟨blkR (fun _ => ⟨rfl, rfl⟩) rfl rfl, trivial⟩) ?_
  rintro ⟨q_8, a_1, i_2, i_3⟩ hL1
  try dsimp only at hL1
  rcases q_8 with _ | q_8
  · rw [slices_Reverse_int_L1.eq_1] at hL1
    cases hL1
  rw [slices_Reverse_int_L1.eq_2] at hL1
  show awp _ _ _ _ _ _ ⟨eL [(0, .osl 0), (2, .int .i64 i_2), (3, .int .i64 i_3)], hL [(0, .row 1 (a_1.map iA))], 1⟩
  conv => whnf
  refine ⟨fun hb_5 => ?_, fun hb_5 => ?_⟩
  · replace hL1 := cond_t hb_5 hL1
    conv => whnf
    obtain ⟨e_4, h_e_4, hL1⟩ := bind_some hL1
    refine ixo_q (enc := iA) (l := a_1) h_e_4 rfl (fun m_e_4 hm_e_4 hx_e_4 => ?_)
    conv => whnf
    refine ⟨_, ix_map (enc := iA) hx_e_4, ?_⟩
    conv => whnf
    obtain ⟨e_5, h_e_5, hL1⟩ := bind_some hL1
    refine ixo_q (enc := iA) (l := a_1) h_e_5 rfl (fun m_e_5 hm_e_5 hx_e_5 => ?_)
    conv => whnf
    refine ⟨_, ix_map (enc := iA) hx_e_5, ?_⟩
    conv => whnf
    obtain ⟨e_6, h_e_6, hL1⟩ := bind_some hL1
    refine ixo_q (enc := iA) (l := a_1) h_e_6 rfl (fun m_e_6 hm_e_6 hx_e_6 => ?_)
    conv => whnf
    refine st_q (enc := iA) (l := a_1) (x' := e_4) (i := i_2) hm_e_6 hx_e_6 rfl (Nat.le_of_ble_eq_true rfl) rfl ?_
    conv => whnf
    obtain ⟨e_7, h_e_7, hL1⟩ := bind_some hL1
    refine ixo_q (enc := iA) (l := (a_1.set i_2.toNat e_4)) h_e_7 rfl (fun m_e_7 hm_e_7 hx_e_7 => ?_)
    conv => whnf
    refine st_q (enc := iA) (l := (a_1.set i_2.toNat e_4)) (x' := e_5) (i := i_3) hm_e_7 hx_e_7 rfl (Nat.le_of_ble_eq_true rfl) rfl ?_
    conv => whnf
    refine ⟨by kernel_rfl, ?_⟩
    conv => whnf
    refine ⟨_, rfl, ?_⟩
    conv => whnf
    refine ⟨_, rfl, ?_⟩
    conv => whnf
    exact ⟨(q_8, ((a_1.set i_2.toNat e_4).set i_3.toNat e_5), (w64 (i_2 + (1 : Int))), (w64 (i_3 - (1 : Int)))), [0], [], [], hL1, Nat.lt_succ_self _, wk_mk [0] [] [] rfl ⟨argO (id := 0) (by (conv => lhs; whnf); all_goals rfl) rfl, argE (by (conv => lhs; whnf); all_goals rfl) rfl, argE (by (conv => lhs; whnf); all_goals rfl) rfl, trivial⟩ ⟨blkR (fun _ => ⟨rfl, rfl⟩) rfl rfl, trivial⟩⟩
  · replace hL1 := cond_f hb_5 hL1
    conv => whnf
    obtain rfl := Option.some.inj hL1
    replace hF := fin_brk hF
    try dsimp only at hF
    obtain rfl := Option.some.inj hF
    exact ret_gz [0] [] [] rfl (.ni _ rfl) ⟨blkR (fun _ => ⟨rfl, rfl⟩) rfl rfl, trivial⟩

set_option maxRecDepth 100000 in
set_option maxHeartbeats 40000000 in
theorem lanes_Chain_ac (x_0 : (List Int)) (r : (List Int)) (hF : lanes_Chain x_0 = some r) : AC Try.prog 16 [.lst 1 (x_0.map iA)] [] (.lst 1 (r.map iA)) [] := by
  refine ac_of tab_ok follows_ok Try.func16 rfl Try.ntmps16 rfl ?_
  unfold lanes_Chain at hF
  conv => whnf
  refine len_q (enc := iA) (l := x_0) rfl ?_
  conv => whnf
  refine ⟨fun hb_7 => ?_, fun hb_7 => ?_⟩
  · replace hF := cond_f hb_7 hF
    conv => whnf
    obtain ⟨r_1, h_r_1, hF⟩ := bind_some hF
    refine ⟨_, _, _, _, _, _, _, _, _, callX false [] [] 0 Try.func34 (by decide) rfl (lanes_checked_ac x_0 r_1 h_r_1) rfl ⟨(argE (by (conv => lhs; whnf); all_goals rfl) rfl), trivial⟩ rfl trivial rfl rfl rfl lend0 trivial rfl, ?_⟩
    conv => whnf
    refine ⟨fun hb_8 => ?_, fun hb_8 => ?_⟩
    · replace hF := cond_t hb_8 hF
      conv => whnf
      obtain rfl := Option.some.inj hF
      exact ret_gz [] [] [] rfl (argN (by (conv => lhs; whnf); all_goals rfl)) trivial
    · replace hF := cond_f hb_8 hF
      conv => whnf
      obtain ⟨r_2, h_r_2, hF⟩ := bind_some hF
      refine ⟨_, _, _, _, _, _, _, _, _, callX false [] [] 0 Try.func35 (by decide) rfl (lanes_assigned_ac x_0 r_2 h_r_2) rfl ⟨(argE (by (conv => lhs; whnf); all_goals rfl) rfl), trivial⟩ rfl trivial rfl rfl rfl lend0 trivial rfl, ?_⟩
      conv => whnf
      refine ⟨_, rfl, ?_⟩
      conv => whnf
      obtain ⟨r_3, h_r_3, hF⟩ := bind_some hF
      refine ⟨_, _, _, _, _, _, _, _, _, callX false [] [] 0 Try.func38 (by decide) rfl (slices_Index_int_ac r_2.1 (w64 (r_2.2.2 - (1 : Int))) r_3 h_r_3) rfl ⟨(argE (by (conv => lhs; whnf); all_goals rfl) rfl), (argE (by (conv => lhs; whnf); all_goals rfl) rfl), trivial⟩ rfl trivial rfl rfl rfl lend0 trivial rfl, ?_⟩
      conv => whnf
      obtain ⟨c_1, hc_1, hF⟩ := fin_some hF
      refine sw_loop tab_ok follows_ok (fun y : Nat × (List Int) × Int => lanes_Chain_L1 r_2 y.1 y.2.1 y.2.2 = some c_1) (fun y => ⟨eL [(4, .lst 1 (r_2.2.1.map iA)), (6, .osl 0), (7, .int .i64 y.2.2)], hL [(0, .row 1 (y.2.1.map iA))], 1⟩) (fun y => y.1) (9223372036854775807, ([] : List Int), r_3) hc_1 (wk_mk [] [0] [] rfl ⟨argE (by (conv => lhs; whnf); all_goals rfl) rfl, argZ (by (conv => lhs; whnf); all_goals rfl) rfl, argE (by (conv => lhs; whnf); all_goals rfl) rfl, trivial⟩ ⟨blkZ rfl, trivial⟩) ?_
      rintro ⟨q_8, a_4, i_5⟩ hL1
      try dsimp only at hL1
      rcases q_8 with _ | q_8
      · rw [lanes_Chain_L1.eq_1] at hL1
        cases hL1
      rw [lanes_Chain_L1.eq_2] at hL1
      show awp _ _ _ _ _ _ ⟨eL [(4, .lst 1 (r_2.2.1.map iA)), (6, .osl 0), (7, .int .i64 i_5)], hL [(0, .row 1 (a_4.map iA))], 1⟩
      conv => whnf
      refine ⟨fun hb_9 => ?_, fun hb_9 => ?_⟩
      · replace hL1 := cond_t hb_9 hL1
        conv => whnf
        obtain ⟨l_6, h_l_6, hL1⟩ := bind_some hL1
        refine ap_q (enc := iA) (l := a_4) (y := ([i_5] : List Int)) h_l_6 rfl rfl (by decide) ?_
        conv => whnf
        obtain ⟨e_7, h_e_7, hL1⟩ := bind_some hL1
        refine ix_q (enc := iA) (l := r_2.2.1) h_e_7 rfl (fun m_e_7 hm_e_7 hx_e_7 => ?_)
        conv => whnf
        exact ⟨(q_8, l_6, e_7), [2], [], [], hL1, Nat.lt_succ_self _, wk_mk [2] [] [] rfl ⟨argE (by (conv => lhs; whnf); all_goals rfl) rfl, argO (id := 2) (by (conv => lhs; whnf); all_goals rfl) rfl, argE (by (conv => lhs; whnf); all_goals rfl) rfl, trivial⟩ ⟨blkR (fun _ => ⟨rfl, rfl⟩) rfl rfl, trivial⟩⟩
      · replace hL1 := cond_f hb_9 hL1
        conv => whnf
        obtain rfl := Option.some.inj hL1
        replace hF := fin_brk hF
        try dsimp only at hF
        obtain ⟨r_10, h_r_10, hF⟩ := bind_some hF
        refine ⟨_, _, _, _, _, _, _, _, _, callX false [0] [] 0 Try.func39 (by decide) rfl (slices_Reverse_int_ac a_4 r_10 h_r_10) rfl ⟨(argO (id := 0) (by (conv => lhs; whnf); all_goals rfl) rfl), trivial⟩ rfl ⟨(grR (fun _ => ⟨rfl, rfl⟩) rfl), trivial⟩ rfl rfl rfl lend0 ⟨renR (fun _ => ⟨rfl, rfl⟩), trivial⟩ rfl, ?_⟩
        conv => whnf
        obtain rfl := Option.some.inj hF
        exact ret_gz [] [] [0] rfl (argOL 0 (by (conv => lhs; whnf); all_goals rfl) rfl rfl (map_ni (fun _ => ⟨rfl, rfl⟩) _)) trivial
  · replace hF := cond_t hb_7 hF
    conv => whnf
    obtain rfl := Option.some.inj hF
    exact ret_gz [] [] [] rfl (argN (by (conv => lhs; whnf); all_goals rfl)) trivial

set_option maxRecDepth 100000 in
set_option maxHeartbeats 40000000 in
theorem lanes_Count_ac (x_0 : (List Int)) (r : Int) (hF : lanes_Count x_0 = some r) : AC Try.prog 14 [.lst 1 (x_0.map iA)] [] (.int .i64 r) [] := by
  refine ac_of tab_ok follows_ok Try.func14 rfl Try.ntmps14 rfl ?_
  unfold lanes_Count at hF
  conv => whnf
  obtain ⟨r_1, h_r_1, hF⟩ := bind_some hF
  refine ⟨_, _, _, _, _, _, _, _, _, callX false [] [] 0 Try.func34 (by decide) rfl (lanes_checked_ac x_0 r_1 h_r_1) rfl ⟨(argE (by (conv => lhs; whnf); all_goals rfl) rfl), trivial⟩ rfl trivial rfl rfl rfl lend0 trivial rfl, ?_⟩
  conv => whnf
  refine ⟨fun hb_2 => ?_, fun hb_2 => ?_⟩
  · replace hF := cond_t hb_2 hF
    conv => whnf
    obtain rfl := Option.some.inj hF
    exact ret_gz [] [] [] rfl (argE (by (conv => lhs; whnf); all_goals rfl) rfl) trivial
  · replace hF := cond_f hb_2 hF
    conv => whnf
    obtain ⟨r_2, h_r_2, hF⟩ := bind_some hF
    refine ⟨_, _, _, _, _, _, _, _, _, callX false [] [] 0 Try.func35 (by decide) rfl (lanes_assigned_ac x_0 r_2 h_r_2) rfl ⟨(argE (by (conv => lhs; whnf); all_goals rfl) rfl), trivial⟩ rfl trivial rfl rfl rfl lend0 trivial rfl, ?_⟩
    conv => whnf
    obtain rfl := Option.some.inj hF
    exact ret_gz [] [] [] rfl (argE (by (conv => lhs; whnf); all_goals rfl) rfl) trivial

set_option maxRecDepth 100000 in
set_option maxHeartbeats 40000000 in
theorem law17_awake_ac (r : Bool) (hF : law17_awake = some r) : AC Try.prog 9 [] [] (.bool r) [] := by
  refine ac_of tab_ok follows_ok Try.func9 rfl Try.ntmps9 rfl ?_
  unfold law17_awake at hF
  conv => whnf
  obtain ⟨r_1, h_r_1, hF⟩ := bind_some hF
  refine ⟨_, _, _, _, _, _, _, _, _, callX true [] [0] 0 Try.func11 (by decide) rfl (lanes_Assign_ac ([(5 : Int), (3 : Int), (4 : Int), (1 : Int)] : List Int) r_1 h_r_1) rfl ⟨(argOL 0 (by (conv => lhs; whnf); all_goals rfl) rfl rfl (map_ni (fun _ => ⟨rfl, rfl⟩) _)), trivial⟩ rfl trivial rfl rfl rfl giveU trivial rfl, ?_⟩
  conv => whnf
  refine ⟨fun hb_4 => ?_, fun hb_4 => ?_⟩
  · replace hF := cond_t hb_4 hF
    conv => whnf
    obtain ⟨r_2, h_r_2, hF⟩ := bind_some hF
    refine ⟨_, _, _, _, _, _, _, _, _, callX false [] [2] 0 Try.func13 (by decide) rfl (keep_Ints_ac r_1.1 ([(0 : Int), (1 : Int), (1 : Int), (2 : Int)] : List Int) r_2 h_r_2) rfl ⟨(argE (by (conv => lhs; whnf); all_goals rfl) rfl), (argOL 2 (by (conv => lhs; whnf); all_goals rfl) rfl rfl (map_ni (fun _ => ⟨rfl, rfl⟩) _)), trivial⟩ rfl trivial rfl rfl rfl (lendF rfl) trivial rfl, ?_⟩
    conv => whnf
    refine ⟨fun hb_5 => ?_, fun hb_5 => ?_⟩
    · replace hF := cond_t hb_5 hF
      conv => whnf
      obtain ⟨r_3, h_r_3, hF⟩ := bind_some hF
      refine ⟨_, _, _, _, _, _, _, _, _, callX true [] [4] 0 Try.func16 (by decide) rfl (lanes_Chain_ac ([(5 : Int), (3 : Int), (4 : Int), (1 : Int)] : List Int) r_3 h_r_3) rfl ⟨(argOL 4 (by (conv => lhs; whnf); all_goals rfl) rfl rfl (map_ni (fun _ => ⟨rfl, rfl⟩) _)), trivial⟩ rfl trivial rfl rfl rfl giveU trivial rfl, ?_⟩
      conv => whnf
      obtain ⟨r_4, h_r_4, hF⟩ := bind_some hF
      refine ⟨_, _, _, _, _, _, _, _, _, callX false [] [6] 0 Try.func13 (by decide) rfl (keep_Ints_ac r_3 ([(0 : Int), (2 : Int), (3 : Int)] : List Int) r_4 h_r_4) rfl ⟨(argE (by (conv => lhs; whnf); all_goals rfl) rfl), (argOL 6 (by (conv => lhs; whnf); all_goals rfl) rfl rfl (map_ni (fun _ => ⟨rfl, rfl⟩) _)), trivial⟩ rfl trivial rfl rfl rfl (lendF rfl) trivial rfl, ?_⟩
      conv => whnf
      refine ⟨fun hb_6 => ?_, fun hb_6 => ?_⟩
      · replace hF := cond_t hb_6 hF
        conv => whnf
        obtain ⟨r_5, h_r_5, hF⟩ := bind_some hF
        refine ⟨_, _, _, _, _, _, _, _, _, callX false [] [8] 0 Try.func14 (by decide) rfl (lanes_Count_ac ([(5 : Int), (3 : Int), (4 : Int), (1 : Int)] : List Int) r_5 h_r_5) rfl ⟨(argOL 8 (by (conv => lhs; whnf); all_goals rfl) rfl rfl (map_ni (fun _ => ⟨rfl, rfl⟩) _)), trivial⟩ rfl trivial rfl rfl rfl (lendF rfl) trivial rfl, ?_⟩
        conv => whnf
        obtain rfl := Option.some.inj hF
        exact ret_gz [] [] [] rfl (argE (by (conv => lhs; whnf); all_goals rfl) rfl) trivial
      · replace hF := cond_f hb_6 hF
        conv => whnf
        obtain rfl := Option.some.inj hF
        exact ret_gz [] [] [] rfl (argFl (by (conv => lhs; whnf); all_goals rfl)) trivial
    · replace hF := cond_f hb_5 hF
      conv => whnf
      obtain rfl := Option.some.inj hF
      exact ret_gz [] [] [] rfl (argFl (by (conv => lhs; whnf); all_goals rfl)) trivial
  · replace hF := cond_f hb_4 hF
    conv => whnf
    obtain rfl := Option.some.inj hF
    exact ret_gz [] [] [] rfl (argFl (by (conv => lhs; whnf); all_goals rfl)) trivial

set_option maxRecDepth 100000 in
set_option maxHeartbeats 40000000 in
theorem law17_times_ac (x_0 : (List Int)) (r : (List Int)) (hF : law17_times x_0 = some r) : AC Try.prog 10 [.lst 1 (x_0.map iA)] [] (.lst 1 (r.map iA)) [] := by
  refine ac_of tab_ok follows_ok Try.func10 rfl Try.ntmps10 rfl ?_
  unfold law17_times at hF
  conv => whnf
  obtain ⟨r_1, h_r_1, hF⟩ := bind_some hF
  refine ⟨_, _, _, _, _, _, _, _, _, callX false [] [] 1 Try.func21 (by decide) rfl (keep_New_ac x_0 r_1 h_r_1) rfl ⟨(argE (by (conv => lhs; whnf); all_goals rfl) rfl), trivial⟩ rfl trivial rfl rfl rfl lend0 ⟨rfl, trivial⟩ rfl, ?_⟩
  conv => whnf
  obtain ⟨r_2, h_r_2, hF⟩ := bind_some hF
  refine ⟨_, _, _, _, _, _, _, _, _, callX false [0] [] 0 Try.func22 (by decide) rfl (keep_Src_N_ac r_1 (30 : Int) r_2 h_r_2) rfl ⟨(argP (id := 0) (by (conv => lhs; whnf); all_goals rfl) rfl), (argE (by (conv => lhs; whnf); all_goals rfl) rfl), trivial⟩ rfl ⟨rfl, trivial⟩ rfl rfl rfl lend0 ⟨rfl, trivial⟩ rfl, ?_⟩
  conv => whnf
  obtain ⟨c_1, hc_1, hF⟩ := fin_some hF
  refine sw_loop tab_ok follows_ok (fun y : Nat × (List Int) × Int × (List Int) × Int => law17_times_L1 y.1 y.2.1 y.2.2.1 y.2.2.2.1 y.2.2.2.2 = some c_1) (fun y => ⟨eL [(3, .ptr 0 0), (4, .osl 1), (5, .int .i64 y.2.2.2.2)], hL [(0, .box [.lst 1 (y.2.1.map iA), .int .i64 y.2.2.1]), (1, .row 1 (y.2.2.2.1.map iA))], 2⟩) (fun y => y.1) (9223372036854775807, r_2.2.L, r_2.2.At, ([] : List Int), r_2.1) hc_1 (wk_mk [0] [1] [] rfl ⟨argP (id := 0) (by (conv => lhs; whnf); all_goals rfl) rfl, argZ (by (conv => lhs; whnf); all_goals rfl) rfl, argE (by (conv => lhs; whnf); all_goals rfl) rfl, trivial⟩ ⟨boxL rfl rfl rfl ⟨(.ni _ rfl), (.ni _ rfl), trivial⟩, blkZ rfl, trivial⟩) ?_
  rintro ⟨q_9, a_3, i_4, a_5, i_6⟩ hL1
  try dsimp only at hL1
  rcases q_9 with _ | q_9
  · rw [law17_times_L1.eq_1] at hL1
    cases hL1
  rw [law17_times_L1.eq_2] at hL1
  show awp _ _ _ _ _ _ ⟨eL [(3, .ptr 0 0), (4, .osl 1), (5, .int .i64 i_6)], hL [(0, .box [.lst 1 (a_3.map iA), .int .i64 i_4]), (1, .row 1 (a_5.map iA))], 2⟩
  conv => whnf
  refine ⟨fun hb_5 => ?_, fun hb_5 => ?_⟩
  · replace hL1 := cond_t hb_5 hL1
    conv => whnf
    obtain ⟨r_7, h_r_7, hL1⟩ := bind_some hL1
    refine ⟨_, _, _, _, _, _, _, _, _, callX false [0] [] 0 Try.func22 (by decide) rfl (keep_Src_N_ac (⟨a_3, i_4⟩ : Src) (12 : Int) r_7 h_r_7) rfl ⟨(argP (id := 0) (by (conv => lhs; whnf); all_goals rfl) rfl), (argE (by (conv => lhs; whnf); all_goals rfl) rfl), trivial⟩ rfl ⟨rfl, trivial⟩ rfl rfl rfl lend0 ⟨rfl, trivial⟩ rfl, ?_⟩
    conv => whnf
    obtain ⟨l_8, h_l_8, hL1⟩ := bind_some hL1
    refine ap_q (enc := iA) (l := a_5) (y := ([r_7.1] : List Int)) h_l_8 rfl rfl (by decide) ?_
    conv => whnf
    refine ⟨_, rfl, ?_⟩
    conv => whnf
    exact ⟨(q_9, r_7.2.L, r_7.2.At, l_8, (w64 (i_6 - (1 : Int)))), [0, 4], [], [], hL1, Nat.lt_succ_self _, wk_mk [0, 4] [] [] rfl ⟨argP (id := 0) (by (conv => lhs; whnf); all_goals rfl) rfl, argO (id := 4) (by (conv => lhs; whnf); all_goals rfl) rfl, argE (by (conv => lhs; whnf); all_goals rfl) rfl, trivial⟩ ⟨boxL rfl rfl rfl ⟨(.ni _ rfl), (.ni _ rfl), trivial⟩, blkR (fun _ => ⟨rfl, rfl⟩) rfl rfl, trivial⟩⟩
  · replace hL1 := cond_f hb_5 hL1
    conv => whnf
    obtain rfl := Option.some.inj hL1
    replace hF := fin_brk hF
    try dsimp only at hF
    obtain rfl := Option.some.inj hF
    exact ret_gz [] [] [1] rfl (argOL 1 (by (conv => lhs; whnf); all_goals rfl) rfl rfl (map_ni (fun _ => ⟨rfl, rfl⟩) _)) trivial

set_option maxRecDepth 100000 in
set_option maxHeartbeats 40000000 in
theorem ref17_In_ac (x_0 : Lanes) (x_1 : Int) (r : Bool) (hF : ref17_In x_0 x_1 = some r) : AC Try.prog 32 [.agg (encLanes x_0), .int .i64 x_1] [] (.bool r) [] := by
  refine ac_of tab_ok follows_ok Try.func32 rfl Try.ntmps32 rfl ?_
  unfold ref17_In at hF
  conv => whnf
  obtain ⟨r_1, h_r_1, hF⟩ := bind_some hF
  refine ⟨_, _, _, _, _, _, _, _, _, callX false [] [] 0 Try.func46 (by decide) rfl (ref17_find_ac x_0 x_1 r_1 h_r_1) rfl ⟨(argE (by (conv => lhs; whnf); all_goals rfl) rfl), (argE (by (conv => lhs; whnf); all_goals rfl) rfl), trivial⟩ rfl trivial rfl rfl rfl lend0 trivial rfl, ?_⟩
  conv => whnf
  obtain rfl := Option.some.inj hF
  exact ret_gz [] [] [] rfl (argE (by (conv => lhs; whnf); all_goals rfl) rfl) trivial

set_option maxRecDepth 100000 in
set_option maxHeartbeats 40000000 in
theorem keep_In_ac (x_0 : (List Int)) (x_1 : Int) (r : Bool) (hF : keep_In x_0 x_1 = some r) : AC Try.prog 33 [.lst 1 (x_0.map iA), .int .i64 x_1] [] (.bool r) [] := by
  refine ac_of tab_ok follows_ok Try.func33 rfl Try.ntmps33 rfl ?_
  unfold keep_In at hF
  conv => whnf
  obtain ⟨c_1, hc_1, hF⟩ := fin_some hF
  refine sw_bv 0 (v := .lst 1 (x_0.map iA)) (by (conv => lhs; whnf); all_goals rfl) (fun hb => ?_)
  have hbd_k_2 : x_0.length ≤ 9223372036854775807 := bnd_len (enc := iA) (hb)
  refine sw_loop tab_ok follows_ok (fun y : Nat => y ≤ x_0.length ∧ keep_In_L1 x_1 (x_0.drop y) y = some c_1) (fun y => ⟨eL [(0, .lst 1 (x_0.map iA)), (1, .int .i64 x_1), (5, .int .i64 (y : Int))], hL [], 0⟩) (fun y => x_0.length - y) 0 ⟨Nat.zero_le _, hc_1⟩ (wk_mk [] [] [] rfl ⟨argE (by (conv => lhs; whnf); all_goals rfl) rfl, argE (by (conv => lhs; whnf); all_goals rfl) rfl, argE (by (conv => lhs; whnf); all_goals rfl) rfl, trivial⟩ trivial) ?_
  rintro k_2 ⟨hk_k_2, hL1⟩
  try dsimp only at hk_k_2 hL1
  show awp _ _ _ _ _ _ ⟨eL [(0, .lst 1 (x_0.map iA)), (1, .int .i64 x_1), (5, .int .i64 (k_2 : Int))], hL [], 0⟩
  conv => whnf
  refine len_q (enc := iA) (l := x_0) rfl ?_
  conv => whnf
  refine ⟨fun h => ?_, fun h => ?_⟩
  · have hlt_k_2 : k_2 < x_0.length := by have h := of_decide_eq_true h; omega
    obtain ⟨e_3, h_e_3⟩ : ∃ y, x_0[k_2]? = some y := ⟨_, List.getElem?_eq_getElem hlt_k_2⟩
    rw [drop_cons h_e_3, keep_In_L1.eq_2] at hL1
    conv => whnf
    refine ⟨k_2, _, rfl, ix_map h_e_3, ?_⟩
    conv => whnf
    refine ⟨fun hb_7 => ?_, fun hb_7 => ?_⟩
    · replace hL1 := cond_t hb_7 hL1
      conv => whnf
      obtain rfl := Option.some.inj hL1
      replace hF := fin_ret hF
      obtain rfl := Option.some.inj hF
      exact ret_gz [] [] [] rfl (argT (by (conv => lhs; whnf); all_goals rfl)) trivial
    · replace hL1 := cond_f hb_7 hL1
      conv => whnf
      refine ⟨((k_2 + 1 : Nat) : Int), wrapE (by omega) (by omega) (by omega), ?_⟩
      conv => whnf
      exact ⟨k_2 + 1, [], [], [], ⟨hlt_k_2, hL1⟩, by show x_0.length - (k_2 + 1) < x_0.length - k_2; omega, wk_mk [] [] [] rfl ⟨argE (by (conv => lhs; whnf); all_goals rfl) rfl, argE (by (conv => lhs; whnf); all_goals rfl) rfl, argE (by (conv => lhs; whnf); all_goals rfl) rfl, trivial⟩ trivial⟩
  · rw [drop_nil (show x_0.length ≤ k_2 by have h := of_decide_eq_false h; omega), keep_In_L1.eq_1] at hL1
    conv => whnf
    obtain rfl := Option.some.inj hL1
    replace hF := fin_brk hF
    try dsimp only at hF
    obtain rfl := Option.some.inj hF
    exact ret_gz [] [] [] rfl (argFl (by (conv => lhs; whnf); all_goals rfl)) trivial
end Go.Proofs.Ytkefkegknacpjaa.Ex
