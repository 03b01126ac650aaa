/- The functions of the program compute what was printed; walks printed by a program. -/
import Derived.Test.YtkajegjghfbgaaaExF
import Derived.Test.YtkajegjghfbgaaaExP1
import Derived.Test.YtkajegjghfbgaaaExP2
namespace Go.Proofs.Ytkajegjghfbgaaa.Ex
open Go.RowKit Go.Proofs.Ytkajegjghfbgaaa.Ax
set_option linter.unusedVariables false
set_option linter.unusedSimpArgs false
set_option maxRecDepth 100000 in
set_option maxHeartbeats 40000000 in
theorem law24_ConnectWays_ac (x_0 : (List Int)) (x_1 : (List Int)) (r : Bool) (hF : law24_ConnectWays x_0 x_1 = some r) : AC Try.prog 4 [.lst 1 (x_0.map iA), .lst 1 (x_1.map iA)] [] (.bool r) [] := by
  refine ac_of tab_ok follows_ok Try.func4 rfl Try.ntmps4 rfl ?_
  unfold law24_ConnectWays at hF
  conv => whnf
  obtain ⟨r_1, h_r_1, hF⟩ := bind_some hF
  refine ⟨_, _, _, _, _, _, _, _, _, callX false [] [] 1 Try.func11 (by decide) rfl (keep_New_ac x_0 r_1 h_r_1) rfl ⟨(argE (by (conv => lhs; whnf); all_goals rfl) rfl), trivial⟩ rfl trivial rfl rfl rfl lend0 ⟨rfl, trivial⟩ rfl, ?_⟩
  conv => whnf
  obtain ⟨r_2, h_r_2, hF⟩ := bind_some hF
  refine ⟨_, _, _, _, _, _, _, _, _, callX false [0] [] 0 Try.func12 (by decide) rfl (keep_Src_Minimums_ac r_1 r_2 h_r_2) rfl ⟨(argP (id := 0) (by (conv => lhs; whnf); all_goals rfl) rfl), trivial⟩ rfl ⟨rfl, trivial⟩ rfl rfl rfl lend0 ⟨rfl, trivial⟩ rfl, ?_⟩
  conv => whnf
  obtain ⟨l_3, h_l_3, hF⟩ := bind_some hF
  refine .inl (al_q (enc := iA) h_l_3 rfl rfl (by decide) (Nat.le_of_ble_eq_true rfl) (by kernel_rfl) ?_)
  conv => whnf
  obtain ⟨l_4, h_l_4, hF⟩ := bind_some hF
  refine .inl (al_q (enc := bA) h_l_4 rfl rfl (by decide) (Nat.le_of_ble_eq_true rfl) (by kernel_rfl) ?_)
  conv => whnf
  obtain ⟨c_1, hc_1, hF⟩ := fin_some hF
  refine sw_loop tab_ok follows_ok (fun y : Nat × (List Int) × (List Bool) × Int => law24_ConnectWays_L1 r_2 y.1 y.2.1 y.2.2.1 y.2.2.2 = some c_1) (fun y => ⟨eL [(1, .lst 1 (x_1.map iA)), (6, .lst 3 (r_2.1.map encMinimum)), (7, .ptr 0 0), (8, .ptr 1 0), (28, .int .i64 y.2.2.2)], hL [(0, .row 1 (y.2.1.map iA)), (1, .row 1 (y.2.2.1.map bA))], 2⟩) (fun y => y.1) (9223372036854775807, l_3, l_4, (0 : Int)) hc_1 (wk_mk [3, 4] [] [] rfl ⟨argE (by (conv => lhs; whnf); all_goals rfl) rfl, argE (by (conv => lhs; whnf); all_goals rfl) rfl, argP (id := 3) (by (conv => lhs; whnf); all_goals rfl) rfl, argP (id := 4) (by (conv => lhs; whnf); all_goals rfl) rfl, argE (by (conv => lhs; whnf); all_goals rfl) rfl, trivial⟩ ⟨blkR (fun _ => ⟨rfl, rfl⟩) rfl rfl, blkR (fun _ => ⟨rfl, rfl⟩) rfl rfl, trivial⟩) ?_
  rintro ⟨q_20, a_5, a_6, i_7⟩ hL1
  try dsimp only at hL1
  rcases q_20 with _ | q_20
  · rw [law24_ConnectWays_L1.eq_1] at hL1
    cases hL1
  rw [law24_ConnectWays_L1.eq_2] at hL1
  show awp _ _ _ _ _ _ ⟨eL [(1, .lst 1 (x_1.map iA)), (6, .lst 3 (r_2.1.map encMinimum)), (7, .ptr 0 0), (8, .ptr 1 0), (28, .int .i64 i_7)], hL [(0, .row 1 (a_5.map iA)), (1, .row 1 (a_6.map bA))], 2⟩
  conv => whnf
  refine ⟨fun hb_468 => ?_, fun hb_468 => ?_⟩
  · replace hL1 := cond_t hb_468 hL1
    conv => whnf
    obtain ⟨c_2, hc_2, hL1⟩ := sub_some hL1
    refine sw_loop tab_ok follows_ok (fun y : Nat × (List Int) × (List Bool) × Int => law24_ConnectWays_L2 r_2 i_7 y.1 y.2.1 y.2.2.1 y.2.2.2 = some c_2) (fun y => ⟨eL [(1, .lst 1 (x_1.map iA)), (6, .lst 3 (r_2.1.map encMinimum)), (7, .ptr 0 0), (8, .ptr 1 0), (9, .int .i64 i_7), (28, .int .i64 i_7), (31, .int .i64 y.2.2.2)], hL [(0, .row 1 (y.2.1.map iA)), (1, .row 1 (y.2.2.1.map bA))], 2⟩) (fun y => y.1) (9223372036854775807, a_5, a_6, (0 : Int)) hc_2 (wk_mk [0, 1] [] [] rfl ⟨argE (by (conv => lhs; whnf); all_goals rfl) rfl, argE (by (conv => lhs; whnf); all_goals rfl) rfl, argP (id := 0) (by (conv => lhs; whnf); all_goals rfl) rfl, argP (id := 1) (by (conv => lhs; whnf); all_goals rfl) rfl, argE (by (conv => lhs; whnf); all_goals rfl) rfl, argE (by (conv => lhs; whnf); all_goals rfl) rfl, argE (by (conv => lhs; whnf); all_goals rfl) rfl, trivial⟩ ⟨blkR (fun _ => ⟨rfl, rfl⟩) rfl rfl, blkR (fun _ => ⟨rfl, rfl⟩) rfl rfl, trivial⟩) ?_
    rintro ⟨q_18, a_8, a_9, i_10⟩ hL2
    try dsimp only at hL2
    rcases q_18 with _ | q_18
    · rw [law24_ConnectWays_L2.eq_1] at hL2
      cases hL2
    rw [law24_ConnectWays_L2.eq_2] at hL2
    show awp _ _ _ _ _ _ ⟨eL [(1, .lst 1 (x_1.map iA)), (6, .lst 3 (r_2.1.map encMinimum)), (7, .ptr 0 0), (8, .ptr 1 0), (9, .int .i64 i_7), (28, .int .i64 i_7), (31, .int .i64 i_10)], hL [(0, .row 1 (a_8.map iA)), (1, .row 1 (a_9.map bA))], 2⟩
    conv => whnf
    refine ⟨fun hb_469 => ?_, fun hb_469 => ?_⟩
    · replace hL2 := cond_t hb_469 hL2
      conv => whnf
      obtain ⟨r_11, h_r_11, hL2⟩ := bind_some hL2
      refine ⟨_, _, _, _, _, _, _, _, _, callX false [] [] 0 Try.func16 (by decide) rfl (connect_Least_ac r_2.1 i_7 i_10 r_11 h_r_11) rfl ⟨(argE (by (conv => lhs; whnf); all_goals rfl) rfl), (argE (by (conv => lhs; whnf); all_goals rfl) rfl), (argE (by (conv => lhs; whnf); all_goals rfl) rfl), trivial⟩ rfl trivial rfl rfl rfl lend0 trivial rfl, ?_⟩
      conv => whnf
      obtain ⟨u_12, h_u_12, hL2⟩ := bind_some hL2
      refine ixa_q 6 h_u_12 rfl (fun m_u_12 hm_u_12 => ?_)
      conv => whnf
      obtain ⟨u_13, h_u_13, hL2⟩ := bind_some hL2
      refine ixb_q h_u_13 (fun m_u_13 hm_u_13 => ?_)
      conv => whnf
      obtain ⟨v_14, h_v_14, hL2⟩ := bind_some hL2
      refine st_q (enc := iA) (l := a_8) (x' := r_11.1) (i := ((i_7 * (6 : Int)) + i_10)) (ixad (ixm 6 hm_u_12) hm_u_13) (ixL_at h_v_14 (ixad (ixm 6 hm_u_12) hm_u_13)) rfl (Nat.le_of_ble_eq_true rfl) rfl ?_
      conv => whnf
      obtain ⟨u_15, h_u_15, hL2⟩ := bind_some hL2
      refine ixa_q 6 h_u_15 rfl (fun m_u_15 hm_u_15 => ?_)
      conv => whnf
      obtain ⟨u_16, h_u_16, hL2⟩ := bind_some hL2
      refine ixb_q h_u_16 (fun m_u_16 hm_u_16 => ?_)
      conv => whnf
      obtain ⟨v_17, h_v_17, hL2⟩ := bind_some hL2
      refine st_q (enc := bA) (l := a_9) (x' := r_11.2) (i := ((i_7 * (6 : Int)) + i_10)) (ixad (ixm 6 hm_u_15) hm_u_16) (ixL_at h_v_17 (ixad (ixm 6 hm_u_15) hm_u_16)) rfl (Nat.le_of_ble_eq_true rfl) rfl ?_
      conv => whnf
      refine ⟨by kernel_rfl, ?_⟩
      conv => whnf
      refine ⟨_, rfl, ?_⟩
      conv => whnf
      exact ⟨(q_18, (a_8.set ((i_7 * (6 : Int)) + i_10).toNat r_11.1), (a_9.set ((i_7 * (6 : Int)) + i_10).toNat r_11.2), (w64 (i_10 + (1 : Int)))), [0, 1], [], [], hL2, Nat.lt_succ_self _, wk_mk [0, 1] [] [] rfl ⟨argE (by (conv => lhs; whnf); all_goals rfl) rfl, argE (by (conv => lhs; whnf); all_goals rfl) rfl, argP (id := 0) (by (conv => lhs; whnf); all_goals rfl) rfl, argP (id := 1) (by (conv => lhs; whnf); all_goals rfl) rfl, argE (by (conv => lhs; whnf); all_goals rfl) rfl, argE (by (conv => lhs; whnf); all_goals rfl) rfl, argE (by (conv => lhs; whnf); all_goals rfl) rfl, trivial⟩ ⟨blkR (fun _ => ⟨rfl, rfl⟩) rfl rfl, blkR (fun _ => ⟨rfl, rfl⟩) rfl rfl, trivial⟩⟩
    · replace hL2 := cond_f hb_469 hL2
      conv => whnf
      obtain rfl := Option.some.inj hL2
      replace hL1 := sub_brk hL1
      try dsimp only at hL1
      refine ⟨_, rfl, ?_⟩
      conv => whnf
      exact ⟨(q_20, a_8, a_9, (w64 (i_7 + (1 : Int)))), [0, 1], [], [], hL1, Nat.lt_succ_self _, wk_mk [0, 1] [] [] rfl ⟨argE (by (conv => lhs; whnf); all_goals rfl) rfl, argE (by (conv => lhs; whnf); all_goals rfl) rfl, argP (id := 0) (by (conv => lhs; whnf); all_goals rfl) rfl, argP (id := 1) (by (conv => lhs; whnf); all_goals rfl) rfl, argE (by (conv => lhs; whnf); all_goals rfl) rfl, trivial⟩ ⟨blkR (fun _ => ⟨rfl, rfl⟩) rfl rfl, blkR (fun _ => ⟨rfl, rfl⟩) rfl rfl, trivial⟩⟩
  · replace hL1 := cond_f hb_468 hL1
    conv => whnf
    obtain rfl := Option.some.inj hL1
    replace hF := fin_brk hF
    try dsimp only at hF
    obtain ⟨c_3, hc_3, hF⟩ := fin_some hF
    refine sw_loop tab_ok follows_ok (fun y : Nat × Int => law24_ConnectWays_L3 x_1 r_2 (a_5, a_6) y.1 y.2 = some c_3) (fun y => ⟨eL [(1, .lst 1 (x_1.map iA)), (6, .lst 3 (r_2.1.map encMinimum)), (7, .ptr 0 0), (8, .ptr 1 0), (51, .int .i64 y.2)], hL [(0, .row 1 (a_5.map iA)), (1, .row 1 (a_6.map bA))], 2⟩) (fun y => y.1) (9223372036854775807, (0 : Int)) hc_3 (wk_mk [0, 1] [] [] rfl ⟨argE (by (conv => lhs; whnf); all_goals rfl) rfl, argE (by (conv => lhs; whnf); all_goals rfl) rfl, argP (id := 0) (by (conv => lhs; whnf); all_goals rfl) rfl, argP (id := 1) (by (conv => lhs; whnf); all_goals rfl) rfl, argE (by (conv => lhs; whnf); all_goals rfl) rfl, trivial⟩ ⟨blkR (fun _ => ⟨rfl, rfl⟩) rfl rfl, blkR (fun _ => ⟨rfl, rfl⟩) rfl rfl, trivial⟩) ?_
    rintro ⟨q_45, i_22⟩ hL1
    try dsimp only at hL1
    rcases q_45 with _ | q_45
    · rw [law24_ConnectWays_L3.eq_1] at hL1
      cases hL1
    rw [law24_ConnectWays_L3.eq_2] at hL1
    show awp _ _ _ _ _ _ ⟨eL [(1, .lst 1 (x_1.map iA)), (6, .lst 3 (r_2.1.map encMinimum)), (7, .ptr 0 0), (8, .ptr 1 0), (51, .int .i64 i_22)], hL [(0, .row 1 (a_5.map iA)), (1, .row 1 (a_6.map bA))], 2⟩
    conv => whnf
    refine ⟨fun hb_470 => ?_, fun hb_470 => ?_⟩
    · replace hL1 := cond_t hb_470 hL1
      conv => whnf
      obtain ⟨c_4, hc_4, hL1⟩ := sub_some hL1
      refine sw_bv 1 (v := .lst 1 (x_1.map iA)) (by (conv => lhs; whnf); all_goals rfl) (fun hb => ?_)
      have hbd_k_26 : x_1.length ≤ 9223372036854775807 := bnd_len (enc := iA) (hb)
      refine sw_loop tab_ok follows_ok (fun y : Nat × Int × Int => y.1 ≤ x_1.length ∧ law24_ConnectWays_L4 r_2 (a_5, a_6) i_22 (x_1.drop y.1) y.1 y.2.1 y.2.2 = some c_4) (fun y => ⟨eL [(1, .lst 1 (x_1.map iA)), (6, .lst 3 (r_2.1.map encMinimum)), (7, .ptr 0 0), (8, .ptr 1 0), (11, .int .i64 i_22), (12, .int .i64 y.2.1), (13, .int .i64 y.2.2), (14, .int .i64 (y.1 : Int)), (51, .int .i64 i_22)], hL [(0, .row 1 (a_5.map iA)), (1, .row 1 (a_6.map bA))], 2⟩) (fun y => x_1.length - y.1) (0, i_22, (0 : Int)) ⟨Nat.zero_le _, hc_4⟩ (wk_mk [0, 1] [] [] rfl ⟨argE (by (conv => lhs; whnf); all_goals rfl) rfl, argE (by (conv => lhs; whnf); all_goals rfl) rfl, argP (id := 0) (by (conv => lhs; whnf); all_goals rfl) rfl, argP (id := 1) (by (conv => lhs; whnf); all_goals rfl) rfl, argE (by (conv => lhs; whnf); all_goals rfl) rfl, argE (by (conv => lhs; whnf); all_goals rfl) rfl, argE (by (conv => lhs; whnf); all_goals rfl) rfl, argE (by (conv => lhs; whnf); all_goals rfl) rfl, argE (by (conv => lhs; whnf); all_goals rfl) rfl, trivial⟩ ⟨blkR (fun _ => ⟨rfl, rfl⟩) rfl rfl, blkR (fun _ => ⟨rfl, rfl⟩) rfl rfl, trivial⟩) ?_
      rintro ⟨k_26, i_23, i_24⟩ ⟨hk_k_26, hL2⟩
      try dsimp only at hk_k_26 hL2
      show awp _ _ _ _ _ _ ⟨eL [(1, .lst 1 (x_1.map iA)), (6, .lst 3 (r_2.1.map encMinimum)), (7, .ptr 0 0), (8, .ptr 1 0), (11, .int .i64 i_22), (12, .int .i64 i_23), (13, .int .i64 i_24), (14, .int .i64 (k_26 : Int)), (51, .int .i64 i_22)], hL [(0, .row 1 (a_5.map iA)), (1, .row 1 (a_6.map bA))], 2⟩
      conv => whnf
      refine len_q (enc := iA) (l := x_1) rfl ?_
      conv => whnf
      refine ⟨fun h => ?_, fun h => ?_⟩
      · have hlt_k_26 : k_26 < x_1.length := by have h := of_decide_eq_true h; omega
        obtain ⟨e_27, h_e_27⟩ : ∃ y, x_1[k_26]? = some y := ⟨_, List.getElem?_eq_getElem hlt_k_26⟩
        rw [drop_cons h_e_27, law24_ConnectWays_L4.eq_2] at hL2
        conv => whnf
        refine ⟨fun hb_471 => ?_, fun hb_471 => ?_⟩
        · replace hL2 := cond_t hb_471 hL2
          conv => whnf
          refine len_q (enc := encMinimum) (l := r_2.1) rfl ?_
          conv => whnf
          obtain ⟨c_5, hc_5, hL2⟩ := sub_some hL2
          refine sw_bv 6 (v := .lst 3 (r_2.1.map encMinimum)) (by (conv => lhs; whnf); all_goals rfl) (fun hb => ?_)
          have hbd_k_30 : r_2.1.length ≤ 9223372036854775807 := bnd_len (enc := encMinimum) (hb)
          refine sw_loop tab_ok follows_ok (fun y : Nat × (List Minimum) => y.1 ≤ r_2.1.length ∧ law24_ConnectWays_L5 i_23 (r_2.1.drop y.1) y.1 y.2 = some c_5) (fun y => ⟨eL [(1, .lst 1 (x_1.map iA)), (6, .lst 3 (r_2.1.map encMinimum)), (7, .ptr 0 0), (8, .ptr 1 0), (11, .int .i64 i_22), (12, .int .i64 i_23), (13, .int .i64 i_24), (14, .int .i64 (k_26 : Int)), (15, .osl 2), (51, .int .i64 i_22), (65, .lst 3 (r_2.1.map encMinimum)), (66, .int .i64 (r_2.1.length : Int)), (67, .int .i64 (y.1 : Int))], hL [(0, .row 1 (a_5.map iA)), (1, .row 1 (a_6.map bA)), (2, .row 3 (y.2.map encMinimum))], 3⟩) (fun y => r_2.1.length - y.1) (0, ([] : List Minimum)) ⟨Nat.zero_le _, hc_5⟩ (wk_mk [0, 1] [2] [] rfl ⟨argE (by (conv => lhs; whnf); all_goals rfl) rfl, argE (by (conv => lhs; whnf); all_goals rfl) rfl, argP (id := 0) (by (conv => lhs; whnf); all_goals rfl) rfl, argP (id := 1) (by (conv => lhs; whnf); all_goals rfl) rfl, argE (by (conv => lhs; whnf); all_goals rfl) rfl, argE (by (conv => lhs; whnf); all_goals rfl) rfl, argE (by (conv => lhs; whnf); all_goals rfl) rfl, argE (by (conv => lhs; whnf); all_goals rfl) rfl, argZ (by (conv => lhs; whnf); all_goals rfl) rfl, argE (by (conv => lhs; whnf); all_goals rfl) rfl, argE (by (conv => lhs; whnf); all_goals rfl) rfl, argE (by (conv => lhs; whnf); all_goals rfl) rfl, argE (by (conv => lhs; whnf); all_goals rfl) rfl, trivial⟩ ⟨blkR (fun _ => ⟨rfl, rfl⟩) rfl rfl, blkR (fun _ => ⟨rfl, rfl⟩) rfl rfl, blkZ rfl, trivial⟩) ?_
          rintro ⟨k_30, a_28⟩ ⟨hk_k_30, hL3⟩
          try dsimp only at hk_k_30 hL3
          show awp _ _ _ _ _ _ ⟨eL [(1, .lst 1 (x_1.map iA)), (6, .lst 3 (r_2.1.map encMinimum)), (7, .ptr 0 0), (8, .ptr 1 0), (11, .int .i64 i_22), (12, .int .i64 i_23), (13, .int .i64 i_24), (14, .int .i64 (k_26 : Int)), (15, .osl 2), (51, .int .i64 i_22), (65, .lst 3 (r_2.1.map encMinimum)), (66, .int .i64 (r_2.1.length : Int)), (67, .int .i64 (k_30 : Int))], hL [(0, .row 1 (a_5.map iA)), (1, .row 1 (a_6.map bA)), (2, .row 3 (a_28.map encMinimum))], 3⟩
          conv => whnf
          refine ⟨fun h => ?_, fun h => ?_⟩
          · have hlt_k_30 : k_30 < r_2.1.length := by have h := of_decide_eq_true h; omega
            obtain ⟨e_31, h_e_31⟩ : ∃ y, r_2.1[k_30]? = some y := ⟨_, List.getElem?_eq_getElem hlt_k_30⟩
            rw [drop_cons h_e_31, law24_ConnectWays_L5.eq_2] at hL3
            conv => whnf
            refine ⟨k_30, _, rfl, ix_map h_e_31, ?_⟩
            conv => whnf
            refine ⟨fun hb_472 => ?_, fun hb_472 => ?_⟩
            · replace hL3 := cond_t hb_472 hL3
              conv => whnf
              obtain ⟨l_32, h_l_32, hL3⟩ := bind_some hL3
              refine ap_q (enc := encMinimum) (l := a_28) (y := ([e_31] : List Minimum)) h_l_32 rfl rfl (by decide) ?_
              conv => whnf
              refine ⟨((k_30 + 1 : Nat) : Int), wrapE (by omega) (by omega) (by omega), ?_⟩
              conv => whnf
              exact ⟨(k_30 + 1, l_32), [0, 1, 5], [], [], ⟨hlt_k_30, hL3⟩, by show r_2.1.length - (k_30 + 1) < r_2.1.length - k_30; omega, wk_mk [0, 1, 5] [] [] rfl ⟨argE (by (conv => lhs; whnf); all_goals rfl) rfl, argE (by (conv => lhs; whnf); all_goals rfl) rfl, argP (id := 0) (by (conv => lhs; whnf); all_goals rfl) rfl, argP (id := 1) (by (conv => lhs; whnf); all_goals rfl) rfl, argE (by (conv => lhs; whnf); all_goals rfl) rfl, argE (by (conv => lhs; whnf); all_goals rfl) rfl, argE (by (conv => lhs; whnf); all_goals rfl) rfl, argE (by (conv => lhs; whnf); all_goals rfl) rfl, argO (id := 5) (by (conv => lhs; whnf); all_goals rfl) rfl, argE (by (conv => lhs; whnf); all_goals rfl) rfl, argE (by (conv => lhs; whnf); all_goals rfl) rfl, argE (by (conv => lhs; whnf); all_goals rfl) rfl, argE (by (conv => lhs; whnf); all_goals rfl) rfl, trivial⟩ ⟨blkR (fun _ => ⟨rfl, rfl⟩) rfl rfl, blkR (fun _ => ⟨rfl, rfl⟩) rfl rfl, blkR (fun _ => ⟨rfl, rfl⟩) rfl rfl, trivial⟩⟩
            · replace hL3 := cond_f hb_472 hL3
              conv => whnf
              refine ⟨((k_30 + 1 : Nat) : Int), wrapE (by omega) (by omega) (by omega), ?_⟩
              conv => whnf
              exact ⟨(k_30 + 1, a_28), [0, 1, 2], [], [], ⟨hlt_k_30, hL3⟩, by show r_2.1.length - (k_30 + 1) < r_2.1.length - k_30; omega, wk_mk [0, 1, 2] [] [] rfl ⟨argE (by (conv => lhs; whnf); all_goals rfl) rfl, argE (by (conv => lhs; whnf); all_goals rfl) rfl, argP (id := 0) (by (conv => lhs; whnf); all_goals rfl) rfl, argP (id := 1) (by (conv => lhs; whnf); all_goals rfl) rfl, argE (by (conv => lhs; whnf); all_goals rfl) rfl, argE (by (conv => lhs; whnf); all_goals rfl) rfl, argE (by (conv => lhs; whnf); all_goals rfl) rfl, argE (by (conv => lhs; whnf); all_goals rfl) rfl, argO (id := 2) (by (conv => lhs; whnf); all_goals rfl) rfl, argE (by (conv => lhs; whnf); all_goals rfl) rfl, argE (by (conv => lhs; whnf); all_goals rfl) rfl, argE (by (conv => lhs; whnf); all_goals rfl) rfl, argE (by (conv => lhs; whnf); all_goals rfl) rfl, trivial⟩ ⟨blkR (fun _ => ⟨rfl, rfl⟩) rfl rfl, blkR (fun _ => ⟨rfl, rfl⟩) rfl rfl, blkR (fun _ => ⟨rfl, rfl⟩) rfl rfl, trivial⟩⟩
          · rw [drop_nil (show r_2.1.length ≤ k_30 by have h := of_decide_eq_false h; omega), law24_ConnectWays_L5.eq_1] at hL3
            conv => whnf
            obtain rfl := Option.some.inj hL3
            replace hL2 := sub_brk hL2
            try dsimp only at hL2
            refine len_q (enc := encMinimum) (l := a_28) rfl ?_
            conv => whnf
            refine ⟨fun hb_473 => ?_, fun hb_473 => ?_⟩
            · replace hL2 := cond_t hb_473 hL2
              conv => whnf
              obtain rfl := Option.some.inj hL2
              replace hL1 := sub_brk hL1
              try dsimp only at hL1
              refine ⟨_, rfl, ?_⟩
              conv => whnf
              exact ⟨(q_45, (w64 (i_22 + (1 : Int)))), [0, 1], [], [], hL1, Nat.lt_succ_self _, wk_mk [0, 1] [] [] rfl ⟨argE (by (conv => lhs; whnf); all_goals rfl) rfl, argE (by (conv => lhs; whnf); all_goals rfl) rfl, argP (id := 0) (by (conv => lhs; whnf); all_goals rfl) rfl, argP (id := 1) (by (conv => lhs; whnf); all_goals rfl) rfl, argE (by (conv => lhs; whnf); all_goals rfl) rfl, trivial⟩ ⟨blkR (fun _ => ⟨rfl, rfl⟩) rfl rfl, blkR (fun _ => ⟨rfl, rfl⟩) rfl rfl, trivial⟩⟩
            · replace hL2 := cond_f hb_473 hL2
              conv => whnf
              refine ⟨k_26, _, rfl, ix_map h_e_27, ?_⟩
              conv => whnf
              refine len_q (enc := encMinimum) (l := a_28) rfl ?_
              conv => whnf
              obtain ⟨r_35, h_r_35, hL2⟩ := bind_some hL2
              refine ⟨_, _, _, _, _, _, _, _, _, callX false [] [] 0 Try.func19 (by decide) rfl (keep_Mod_ac e_27 (a_28.length : Int) r_35 h_r_35) rfl ⟨(argE (by (conv => lhs; whnf); all_goals rfl) rfl), (argE (by (conv => lhs; whnf); all_goals rfl) rfl), trivial⟩ rfl trivial rfl rfl rfl lend0 trivial rfl, ?_⟩
              conv => whnf
              obtain ⟨e_36, h_e_36, hL2⟩ := bind_some hL2
              refine ixo_q (enc := encMinimum) (l := a_28) h_e_36 rfl (fun m_e_36 hm_e_36 hx_e_36 => ?_)
              conv => whnf
              refine ⟨_, ix_map (enc := encMinimum) hx_e_36, ?_⟩
              conv => whnf
              refine ⟨_, rfl, ?_⟩
              conv => whnf
              refine ⟨by kernel_rfl, ?_⟩
              conv => whnf
              obtain ⟨u_37, h_u_37, hL2⟩ := bind_some hL2
              refine ixa_q 6 h_u_37 rfl (fun m_u_37 hm_u_37 => ?_)
              conv => whnf
              obtain ⟨u_38, h_u_38, hL2⟩ := bind_some hL2
              refine ixb_q h_u_38 (fun m_u_38 hm_u_38 => ?_)
              conv => whnf
              obtain ⟨v_39, h_v_39, hL2⟩ := bind_some hL2
              refine ⟨_, ix_map (enc := bA) (ixL_at h_v_39 (ixad (ixm 6 hm_u_37) hm_u_38)), ?_⟩
              conv => whnf
              refine ⟨fun hb_474 => ?_, fun hb_474 => ?_⟩
              · replace hL2 := cond_f hb_474 hL2
                conv => whnf
                obtain ⟨u_40, h_u_40, hL2⟩ := bind_some hL2
                refine ixa_q 6 h_u_40 rfl (fun m_u_40 hm_u_40 => ?_)
                conv => whnf
                obtain ⟨u_41, h_u_41, hL2⟩ := bind_some hL2
                refine ixb_q h_u_41 (fun m_u_41 hm_u_41 => ?_)
                conv => whnf
                obtain ⟨v_42, h_v_42, hL2⟩ := bind_some hL2
                refine ⟨_, ix_map (enc := iA) (ixL_at h_v_42 (ixad (ixm 6 hm_u_40) hm_u_41)), ?_⟩
                conv => whnf
                refine ⟨fun hb_475 => ?_, fun hb_475 => ?_⟩
                · replace hL2 := cond_t hb_475 hL2
                  conv => whnf
                  obtain rfl := Option.some.inj hL2
                  replace hL1 := sub_ret hL1
                  obtain rfl := Option.some.inj hL1
                  replace hF := fin_ret hF
                  obtain rfl := Option.some.inj hF
                  exact ret_gz [] [] [] rfl (argFl (by (conv => lhs; whnf); all_goals rfl)) trivial
                · replace hL2 := cond_f hb_475 hL2
                  conv => whnf
                  refine ⟨((k_26 + 1 : Nat) : Int), wrapE (by omega) (by omega) (by omega), ?_⟩
                  conv => whnf
                  exact ⟨(k_26 + 1, e_36.To, (w64 (i_24 + e_36.Ticks))), [0, 1], [], [], ⟨hlt_k_26, hL2⟩, by show x_1.length - (k_26 + 1) < x_1.length - k_26; omega, wk_mk [0, 1] [] [] rfl ⟨argE (by (conv => lhs; whnf); all_goals rfl) rfl, argE (by (conv => lhs; whnf); all_goals rfl) rfl, argP (id := 0) (by (conv => lhs; whnf); all_goals rfl) rfl, argP (id := 1) (by (conv => lhs; whnf); all_goals rfl) rfl, argE (by (conv => lhs; whnf); all_goals rfl) rfl, argE (by (conv => lhs; whnf); all_goals rfl) rfl, argE (by (conv => lhs; whnf); all_goals rfl) rfl, argE (by (conv => lhs; whnf); all_goals rfl) rfl, argE (by (conv => lhs; whnf); all_goals rfl) rfl, trivial⟩ ⟨blkR (fun _ => ⟨rfl, rfl⟩) rfl rfl, blkR (fun _ => ⟨rfl, rfl⟩) rfl rfl, trivial⟩⟩
              · replace hL2 := cond_t hb_474 hL2
                conv => whnf
                obtain rfl := Option.some.inj hL2
                replace hL1 := sub_ret hL1
                obtain rfl := Option.some.inj hL1
                replace hF := fin_ret hF
                obtain rfl := Option.some.inj hF
                exact ret_gz [] [] [] rfl (argFl (by (conv => lhs; whnf); all_goals rfl)) trivial
        · replace hL2 := cond_f hb_471 hL2
          conv => whnf
          obtain rfl := Option.some.inj hL2
          replace hL1 := sub_brk hL1
          try dsimp only at hL1
          refine ⟨_, rfl, ?_⟩
          conv => whnf
          exact ⟨(q_45, (w64 (i_22 + (1 : Int)))), [0, 1], [], [], hL1, Nat.lt_succ_self _, wk_mk [0, 1] [] [] rfl ⟨argE (by (conv => lhs; whnf); all_goals rfl) rfl, argE (by (conv => lhs; whnf); all_goals rfl) rfl, argP (id := 0) (by (conv => lhs; whnf); all_goals rfl) rfl, argP (id := 1) (by (conv => lhs; whnf); all_goals rfl) rfl, argE (by (conv => lhs; whnf); all_goals rfl) rfl, trivial⟩ ⟨blkR (fun _ => ⟨rfl, rfl⟩) rfl rfl, blkR (fun _ => ⟨rfl, rfl⟩) rfl rfl, trivial⟩⟩
      · rw [drop_nil (show x_1.length ≤ k_26 by have h := of_decide_eq_false h; omega), law24_ConnectWays_L4.eq_1] at hL2
        conv => whnf
        obtain rfl := Option.some.inj hL2
        replace hL1 := sub_brk hL1
        try dsimp only at hL1
        refine ⟨_, rfl, ?_⟩
        conv => whnf
        exact ⟨(q_45, (w64 (i_22 + (1 : Int)))), [0, 1], [], [], hL1, Nat.lt_succ_self _, wk_mk [0, 1] [] [] rfl ⟨argE (by (conv => lhs; whnf); all_goals rfl) rfl, argE (by (conv => lhs; whnf); all_goals rfl) rfl, argP (id := 0) (by (conv => lhs; whnf); all_goals rfl) rfl, argP (id := 1) (by (conv => lhs; whnf); all_goals rfl) rfl, argE (by (conv => lhs; whnf); all_goals rfl) rfl, trivial⟩ ⟨blkR (fun _ => ⟨rfl, rfl⟩) rfl rfl, blkR (fun _ => ⟨rfl, rfl⟩) rfl rfl, trivial⟩⟩
    · replace hL1 := cond_f hb_470 hL1
      conv => whnf
      obtain rfl := Option.some.inj hL1
      replace hF := fin_brk hF
      try dsimp only at hF
      obtain ⟨c_6, hc_6, hF⟩ := fin_some hF
      refine sw_loop tab_ok follows_ok (fun y : Nat × Int => law24_ConnectWays_L6 r_2 (a_5, a_6) y.1 y.2 = some c_6) (fun y => ⟨eL [(6, .lst 3 (r_2.1.map encMinimum)), (7, .ptr 0 0), (8, .ptr 1 0), (115, .int .i64 y.2)], hL [(0, .row 1 (a_5.map iA)), (1, .row 1 (a_6.map bA))], 2⟩) (fun y => y.1) (9223372036854775807, (0 : Int)) hc_6 (wk_mk [0, 1] [] [] rfl ⟨argE (by (conv => lhs; whnf); all_goals rfl) rfl, argP (id := 0) (by (conv => lhs; whnf); all_goals rfl) rfl, argP (id := 1) (by (conv => lhs; whnf); all_goals rfl) rfl, argE (by (conv => lhs; whnf); all_goals rfl) rfl, trivial⟩ ⟨blkR (fun _ => ⟨rfl, rfl⟩) rfl rfl, blkR (fun _ => ⟨rfl, rfl⟩) rfl rfl, trivial⟩) ?_
      rintro ⟨q_81, i_47⟩ hL1
      try dsimp only at hL1
      rcases q_81 with _ | q_81
      · rw [law24_ConnectWays_L6.eq_1] at hL1
        cases hL1
      rw [law24_ConnectWays_L6.eq_2] at hL1
      show awp _ _ _ _ _ _ ⟨eL [(6, .lst 3 (r_2.1.map encMinimum)), (7, .ptr 0 0), (8, .ptr 1 0), (115, .int .i64 i_47)], hL [(0, .row 1 (a_5.map iA)), (1, .row 1 (a_6.map bA))], 2⟩
      conv => whnf
      refine ⟨fun hb_476 => ?_, fun hb_476 => ?_⟩
      · replace hL1 := cond_t hb_476 hL1
        conv => whnf
        obtain ⟨c_7, hc_7, hL1⟩ := sub_some hL1
        refine sw_loop tab_ok follows_ok (fun y : Nat × Int => law24_ConnectWays_L7 r_2 (a_5, a_6) i_47 y.1 y.2 = some c_7) (fun y => ⟨eL [(6, .lst 3 (r_2.1.map encMinimum)), (7, .ptr 0 0), (8, .ptr 1 0), (19, .int .i64 i_47), (115, .int .i64 i_47), (118, .int .i64 y.2)], hL [(0, .row 1 (a_5.map iA)), (1, .row 1 (a_6.map bA))], 2⟩) (fun y => y.1) (9223372036854775807, (0 : Int)) hc_7 (wk_mk [0, 1] [] [] rfl ⟨argE (by (conv => lhs; whnf); all_goals rfl) rfl, argP (id := 0) (by (conv => lhs; whnf); all_goals rfl) rfl, argP (id := 1) (by (conv => lhs; whnf); all_goals rfl) rfl, argE (by (conv => lhs; whnf); all_goals rfl) rfl, argE (by (conv => lhs; whnf); all_goals rfl) rfl, argE (by (conv => lhs; whnf); all_goals rfl) rfl, trivial⟩ ⟨blkR (fun _ => ⟨rfl, rfl⟩) rfl rfl, blkR (fun _ => ⟨rfl, rfl⟩) rfl rfl, trivial⟩) ?_
        rintro ⟨q_79, i_48⟩ hL2
        try dsimp only at hL2
        rcases q_79 with _ | q_79
        · rw [law24_ConnectWays_L7.eq_1] at hL2
          cases hL2
        rw [law24_ConnectWays_L7.eq_2] at hL2
        show awp _ _ _ _ _ _ ⟨eL [(6, .lst 3 (r_2.1.map encMinimum)), (7, .ptr 0 0), (8, .ptr 1 0), (19, .int .i64 i_47), (115, .int .i64 i_47), (118, .int .i64 i_48)], hL [(0, .row 1 (a_5.map iA)), (1, .row 1 (a_6.map bA))], 2⟩
        conv => whnf
        refine ⟨fun hb_477 => ?_, fun hb_477 => ?_⟩
        · replace hL2 := cond_t hb_477 hL2
          conv => whnf
          obtain ⟨u_49, h_u_49, hL2⟩ := bind_some hL2
          refine ixa_q 6 h_u_49 rfl (fun m_u_49 hm_u_49 => ?_)
          conv => whnf
          obtain ⟨u_50, h_u_50, hL2⟩ := bind_some hL2
          refine ixb_q h_u_50 (fun m_u_50 hm_u_50 => ?_)
          conv => whnf
          obtain ⟨v_51, h_v_51, hL2⟩ := bind_some hL2
          refine ⟨_, ix_map (enc := bA) (ixL_at h_v_51 (ixad (ixm 6 hm_u_49) hm_u_50)), ?_⟩
          conv => whnf
          refine ⟨fun hb_478 => ?_, fun hb_478 => ?_⟩
          · replace hL2 := cond_t hb_478 hL2
            conv => whnf
            refine ⟨_, rfl, ?_⟩
            conv => whnf
            exact ⟨(q_79, (w64 (i_48 + (1 : Int)))), [0, 1], [], [], hL2, Nat.lt_succ_self _, wk_mk [0, 1] [] [] rfl ⟨argE (by (conv => lhs; whnf); all_goals rfl) rfl, argP (id := 0) (by (conv => lhs; whnf); all_goals rfl) rfl, argP (id := 1) (by (conv => lhs; whnf); all_goals rfl) rfl, argE (by (conv => lhs; whnf); all_goals rfl) rfl, argE (by (conv => lhs; whnf); all_goals rfl) rfl, argE (by (conv => lhs; whnf); all_goals rfl) rfl, trivial⟩ ⟨blkR (fun _ => ⟨rfl, rfl⟩) rfl rfl, blkR (fun _ => ⟨rfl, rfl⟩) rfl rfl, trivial⟩⟩
          · replace hL2 := cond_f hb_478 hL2
            conv => whnf
            refine len_q (enc := encMinimum) (l := r_2.1) rfl ?_
            conv => whnf
            obtain ⟨c_8, hc_8, hL2⟩ := sub_some hL2
            refine sw_bv 6 (v := .lst 3 (r_2.1.map encMinimum)) (by (conv => lhs; whnf); all_goals rfl) (fun hb => ?_)
            have hbd_k_54 : r_2.1.length ≤ 9223372036854775807 := bnd_len (enc := encMinimum) (hb)
            refine sw_loop tab_ok follows_ok (fun y : Nat × Bool => y.1 ≤ r_2.1.length ∧ law24_ConnectWays_L8 (a_5, a_6) i_47 i_48 (r_2.1.drop y.1) y.1 y.2 = some c_8) (fun y => ⟨eL [(6, .lst 3 (r_2.1.map encMinimum)), (7, .ptr 0 0), (8, .ptr 1 0), (19, .int .i64 i_47), (20, .int .i64 i_48), (21, .bool y.2), (115, .int .i64 i_47), (118, .int .i64 i_48), (127, .lst 3 (r_2.1.map encMinimum)), (128, .int .i64 (r_2.1.length : Int)), (129, .int .i64 (y.1 : Int))], hL [(0, .row 1 (a_5.map iA)), (1, .row 1 (a_6.map bA))], 2⟩) (fun y => r_2.1.length - y.1) (0, false) ⟨Nat.zero_le _, hc_8⟩ (wk_mk [0, 1] [] [] rfl ⟨argE (by (conv => lhs; whnf); all_goals rfl) rfl, argP (id := 0) (by (conv => lhs; whnf); all_goals rfl) rfl, argP (id := 1) (by (conv => lhs; whnf); all_goals rfl) rfl, argE (by (conv => lhs; whnf); all_goals rfl) rfl, argE (by (conv => lhs; whnf); all_goals rfl) rfl, argFl (by (conv => lhs; whnf); all_goals rfl), argE (by (conv => lhs; whnf); all_goals rfl) rfl, argE (by (conv => lhs; whnf); all_goals rfl) rfl, argE (by (conv => lhs; whnf); all_goals rfl) rfl, argE (by (conv => lhs; whnf); all_goals rfl) rfl, argE (by (conv => lhs; whnf); all_goals rfl) rfl, trivial⟩ ⟨blkR (fun _ => ⟨rfl, rfl⟩) rfl rfl, blkR (fun _ => ⟨rfl, rfl⟩) rfl rfl, trivial⟩) ?_
            rintro ⟨k_54, b_52⟩ ⟨hk_k_54, hL3⟩
            try dsimp only at hk_k_54 hL3
            show awp _ _ _ _ _ _ ⟨eL [(6, .lst 3 (r_2.1.map encMinimum)), (7, .ptr 0 0), (8, .ptr 1 0), (19, .int .i64 i_47), (20, .int .i64 i_48), (21, .bool b_52), (115, .int .i64 i_47), (118, .int .i64 i_48), (127, .lst 3 (r_2.1.map encMinimum)), (128, .int .i64 (r_2.1.length : Int)), (129, .int .i64 (k_54 : Int))], hL [(0, .row 1 (a_5.map iA)), (1, .row 1 (a_6.map bA))], 2⟩
            conv => whnf
            refine ⟨fun h => ?_, fun h => ?_⟩
            · have hlt_k_54 : k_54 < r_2.1.length := by have h := of_decide_eq_true h; omega
              obtain ⟨e_55, h_e_55⟩ : ∃ y, r_2.1[k_54]? = some y := ⟨_, List.getElem?_eq_getElem hlt_k_54⟩
              rw [drop_cons h_e_55, law24_ConnectWays_L8.eq_2] at hL3
              conv => whnf
              refine ⟨k_54, _, rfl, ix_map h_e_55, ?_⟩
              conv => whnf
              refine ⟨fun hb_479 => ?_, fun hb_479 => ?_⟩
              · replace hL3 := cond_f hb_479 hL3
                conv => whnf
                refine ⟨fun hb_480 => ?_, fun hb_480 => ?_⟩
                · replace hL3 := cond_t hb_480 hL3
                  conv => whnf
                  refine ⟨fun hb_481 => ?_, fun hb_481 => ?_⟩
                  · replace hL3 := cond_t hb_481 hL3
                    conv => whnf
                    obtain ⟨u_56, h_u_56, hL3⟩ := bind_some hL3
                    refine ixa_q 6 h_u_56 rfl (fun m_u_56 hm_u_56 => ?_)
                    conv => whnf
                    obtain ⟨u_57, h_u_57, hL3⟩ := bind_some hL3
                    refine ixb_q h_u_57 (fun m_u_57 hm_u_57 => ?_)
                    conv => whnf
                    obtain ⟨v_58, h_v_58, hL3⟩ := bind_some hL3
                    refine ⟨_, ix_map (enc := iA) (ixL_at h_v_58 (ixad (ixm 6 hm_u_56) hm_u_57)), ?_⟩
                    conv => whnf
                    refine ⟨fun hb_482 => ?_, fun hb_482 => ?_⟩
                    · replace hL3 := cond_f hb_482 hL3
                      conv => whnf
                      obtain ⟨u_59, h_u_59, hL3⟩ := bind_some hL3
                      refine ixa_q 6 h_u_59 rfl (fun m_u_59 hm_u_59 => ?_)
                      conv => whnf
                      obtain ⟨u_60, h_u_60, hL3⟩ := bind_some hL3
                      refine ixb_q h_u_60 (fun m_u_60 hm_u_60 => ?_)
                      conv => whnf
                      obtain ⟨v_61, h_v_61, hL3⟩ := bind_some hL3
                      refine ⟨_, ix_map (enc := bA) (ixL_at h_v_61 (ixad (ixm 6 hm_u_59) hm_u_60)), ?_⟩
                      conv => whnf
                      refine ⟨fun hb_483 => ?_, fun hb_483 => ?_⟩
                      · replace hL3 := cond_t hb_483 hL3
                        conv => whnf
                        obtain ⟨u_62, h_u_62, hL3⟩ := bind_some hL3
                        refine ixa_q 6 h_u_62 rfl (fun m_u_62 hm_u_62 => ?_)
                        conv => whnf
                        obtain ⟨u_63, h_u_63, hL3⟩ := bind_some hL3
                        refine ixb_q h_u_63 (fun m_u_63 hm_u_63 => ?_)
                        conv => whnf
                        obtain ⟨v_64, h_v_64, hL3⟩ := bind_some hL3
                        refine ⟨_, ix_map (enc := iA) (ixL_at h_v_64 (ixad (ixm 6 hm_u_62) hm_u_63)), ?_⟩
                        conv => whnf
                        refine ⟨_, rfl, ?_⟩
                        conv => whnf
                        obtain ⟨u_65, h_u_65, hL3⟩ := bind_some hL3
                        refine ixa_q 6 h_u_65 rfl (fun m_u_65 hm_u_65 => ?_)
                        conv => whnf
                        obtain ⟨u_66, h_u_66, hL3⟩ := bind_some hL3
                        refine ixb_q h_u_66 (fun m_u_66 hm_u_66 => ?_)
                        conv => whnf
                        obtain ⟨v_67, h_v_67, hL3⟩ := bind_some hL3
                        refine ⟨_, ix_map (enc := iA) (ixL_at h_v_67 (ixad (ixm 6 hm_u_65) hm_u_66)), ?_⟩
                        conv => whnf
                        refine ⟨by kernel_rfl, ?_⟩
                        conv => whnf
                        refine ⟨((k_54 + 1 : Nat) : Int), wrapE (by omega) (by omega) (by omega), ?_⟩
                        conv => whnf
                        exact ⟨(k_54 + 1, ((w64 (v_64 + e_55.Ticks)) == v_67)), [0, 1], [], [], ⟨hlt_k_54, hL3⟩, by show r_2.1.length - (k_54 + 1) < r_2.1.length - k_54; omega, wk_mk [0, 1] [] [] rfl ⟨argE (by (conv => lhs; whnf); all_goals rfl) rfl, argP (id := 0) (by (conv => lhs; whnf); all_goals rfl) rfl, argP (id := 1) (by (conv => lhs; whnf); all_goals rfl) rfl, argE (by (conv => lhs; whnf); all_goals rfl) rfl, argE (by (conv => lhs; whnf); all_goals rfl) rfl, argE (by (conv => lhs; whnf); all_goals rfl) rfl, argE (by (conv => lhs; whnf); all_goals rfl) rfl, argE (by (conv => lhs; whnf); all_goals rfl) rfl, argE (by (conv => lhs; whnf); all_goals rfl) rfl, argE (by (conv => lhs; whnf); all_goals rfl) rfl, argE (by (conv => lhs; whnf); all_goals rfl) rfl, trivial⟩ ⟨blkR (fun _ => ⟨rfl, rfl⟩) rfl rfl, blkR (fun _ => ⟨rfl, rfl⟩) rfl rfl, trivial⟩⟩
                      · replace hL3 := cond_f hb_483 hL3
                        conv => whnf
                        refine ⟨by kernel_rfl, ?_⟩
                        conv => whnf
                        refine ⟨((k_54 + 1 : Nat) : Int), wrapE (by omega) (by omega) (by omega), ?_⟩
                        conv => whnf
                        exact ⟨(k_54 + 1, false), [0, 1], [], [], ⟨hlt_k_54, hL3⟩, by show r_2.1.length - (k_54 + 1) < r_2.1.length - k_54; omega, wk_mk [0, 1] [] [] rfl ⟨argE (by (conv => lhs; whnf); all_goals rfl) rfl, argP (id := 0) (by (conv => lhs; whnf); all_goals rfl) rfl, argP (id := 1) (by (conv => lhs; whnf); all_goals rfl) rfl, argE (by (conv => lhs; whnf); all_goals rfl) rfl, argE (by (conv => lhs; whnf); all_goals rfl) rfl, argFl (by (conv => lhs; whnf); all_goals rfl), argE (by (conv => lhs; whnf); all_goals rfl) rfl, argE (by (conv => lhs; whnf); all_goals rfl) rfl, argE (by (conv => lhs; whnf); all_goals rfl) rfl, argE (by (conv => lhs; whnf); all_goals rfl) rfl, argE (by (conv => lhs; whnf); all_goals rfl) rfl, trivial⟩ ⟨blkR (fun _ => ⟨rfl, rfl⟩) rfl rfl, blkR (fun _ => ⟨rfl, rfl⟩) rfl rfl, trivial⟩⟩
                    · replace hL3 := cond_t hb_482 hL3
                      conv => whnf
                      refine ⟨by kernel_rfl, ?_⟩
                      conv => whnf
                      refine ⟨((k_54 + 1 : Nat) : Int), wrapE (by omega) (by omega) (by omega), ?_⟩
                      conv => whnf
                      exact ⟨(k_54 + 1, true), [0, 1], [], [], ⟨hlt_k_54, hL3⟩, by show r_2.1.length - (k_54 + 1) < r_2.1.length - k_54; omega, wk_mk [0, 1] [] [] rfl ⟨argE (by (conv => lhs; whnf); all_goals rfl) rfl, argP (id := 0) (by (conv => lhs; whnf); all_goals rfl) rfl, argP (id := 1) (by (conv => lhs; whnf); all_goals rfl) rfl, argE (by (conv => lhs; whnf); all_goals rfl) rfl, argE (by (conv => lhs; whnf); all_goals rfl) rfl, argT (by (conv => lhs; whnf); all_goals rfl), argE (by (conv => lhs; whnf); all_goals rfl) rfl, argE (by (conv => lhs; whnf); all_goals rfl) rfl, argE (by (conv => lhs; whnf); all_goals rfl) rfl, argE (by (conv => lhs; whnf); all_goals rfl) rfl, argE (by (conv => lhs; whnf); all_goals rfl) rfl, trivial⟩ ⟨blkR (fun _ => ⟨rfl, rfl⟩) rfl rfl, blkR (fun _ => ⟨rfl, rfl⟩) rfl rfl, trivial⟩⟩
                  · replace hL3 := cond_f hb_481 hL3
                    conv => whnf
                    obtain ⟨u_68, h_u_68, hL3⟩ := bind_some hL3
                    refine ixa_q 6 h_u_68 rfl (fun m_u_68 hm_u_68 => ?_)
                    conv => whnf
                    obtain ⟨u_69, h_u_69, hL3⟩ := bind_some hL3
                    refine ixb_q h_u_69 (fun m_u_69 hm_u_69 => ?_)
                    conv => whnf
                    obtain ⟨v_70, h_v_70, hL3⟩ := bind_some hL3
                    refine ⟨_, ix_map (enc := bA) (ixL_at h_v_70 (ixad (ixm 6 hm_u_68) hm_u_69)), ?_⟩
                    conv => whnf
                    refine ⟨fun hb_484 => ?_, fun hb_484 => ?_⟩
                    · replace hL3 := cond_t hb_484 hL3
                      conv => whnf
                      obtain ⟨u_71, h_u_71, hL3⟩ := bind_some hL3
                      refine ixa_q 6 h_u_71 rfl (fun m_u_71 hm_u_71 => ?_)
                      conv => whnf
                      obtain ⟨u_72, h_u_72, hL3⟩ := bind_some hL3
                      refine ixb_q h_u_72 (fun m_u_72 hm_u_72 => ?_)
                      conv => whnf
                      obtain ⟨v_73, h_v_73, hL3⟩ := bind_some hL3
                      refine ⟨_, ix_map (enc := iA) (ixL_at h_v_73 (ixad (ixm 6 hm_u_71) hm_u_72)), ?_⟩
                      conv => whnf
                      refine ⟨_, rfl, ?_⟩
                      conv => whnf
                      obtain ⟨u_74, h_u_74, hL3⟩ := bind_some hL3
                      refine ixa_q 6 h_u_74 rfl (fun m_u_74 hm_u_74 => ?_)
                      conv => whnf
                      obtain ⟨u_75, h_u_75, hL3⟩ := bind_some hL3
                      refine ixb_q h_u_75 (fun m_u_75 hm_u_75 => ?_)
                      conv => whnf
                      obtain ⟨v_76, h_v_76, hL3⟩ := bind_some hL3
                      refine ⟨_, ix_map (enc := iA) (ixL_at h_v_76 (ixad (ixm 6 hm_u_74) hm_u_75)), ?_⟩
                      conv => whnf
                      refine ⟨by kernel_rfl, ?_⟩
                      conv => whnf
                      refine ⟨((k_54 + 1 : Nat) : Int), wrapE (by omega) (by omega) (by omega), ?_⟩
                      conv => whnf
                      exact ⟨(k_54 + 1, ((w64 (v_73 + e_55.Ticks)) == v_76)), [0, 1], [], [], ⟨hlt_k_54, hL3⟩, by show r_2.1.length - (k_54 + 1) < r_2.1.length - k_54; omega, wk_mk [0, 1] [] [] rfl ⟨argE (by (conv => lhs; whnf); all_goals rfl) rfl, argP (id := 0) (by (conv => lhs; whnf); all_goals rfl) rfl, argP (id := 1) (by (conv => lhs; whnf); all_goals rfl) rfl, argE (by (conv => lhs; whnf); all_goals rfl) rfl, argE (by (conv => lhs; whnf); all_goals rfl) rfl, argE (by (conv => lhs; whnf); all_goals rfl) rfl, argE (by (conv => lhs; whnf); all_goals rfl) rfl, argE (by (conv => lhs; whnf); all_goals rfl) rfl, argE (by (conv => lhs; whnf); all_goals rfl) rfl, argE (by (conv => lhs; whnf); all_goals rfl) rfl, argE (by (conv => lhs; whnf); all_goals rfl) rfl, trivial⟩ ⟨blkR (fun _ => ⟨rfl, rfl⟩) rfl rfl, blkR (fun _ => ⟨rfl, rfl⟩) rfl rfl, trivial⟩⟩
                    · replace hL3 := cond_f hb_484 hL3
                      conv => whnf
                      refine ⟨by kernel_rfl, ?_⟩
                      conv => whnf
                      refine ⟨((k_54 + 1 : Nat) : Int), wrapE (by omega) (by omega) (by omega), ?_⟩
                      conv => whnf
                      exact ⟨(k_54 + 1, false), [0, 1], [], [], ⟨hlt_k_54, hL3⟩, by show r_2.1.length - (k_54 + 1) < r_2.1.length - k_54; omega, wk_mk [0, 1] [] [] rfl ⟨argE (by (conv => lhs; whnf); all_goals rfl) rfl, argP (id := 0) (by (conv => lhs; whnf); all_goals rfl) rfl, argP (id := 1) (by (conv => lhs; whnf); all_goals rfl) rfl, argE (by (conv => lhs; whnf); all_goals rfl) rfl, argE (by (conv => lhs; whnf); all_goals rfl) rfl, argFl (by (conv => lhs; whnf); all_goals rfl), argE (by (conv => lhs; whnf); all_goals rfl) rfl, argE (by (conv => lhs; whnf); all_goals rfl) rfl, argE (by (conv => lhs; whnf); all_goals rfl) rfl, argE (by (conv => lhs; whnf); all_goals rfl) rfl, argE (by (conv => lhs; whnf); all_goals rfl) rfl, trivial⟩ ⟨blkR (fun _ => ⟨rfl, rfl⟩) rfl rfl, blkR (fun _ => ⟨rfl, rfl⟩) rfl rfl, trivial⟩⟩
                · replace hL3 := cond_f hb_480 hL3
                  conv => whnf
                  refine ⟨by kernel_rfl, ?_⟩
                  conv => whnf
                  refine ⟨((k_54 + 1 : Nat) : Int), wrapE (by omega) (by omega) (by omega), ?_⟩
                  conv => whnf
                  exact ⟨(k_54 + 1, false), [0, 1], [], [], ⟨hlt_k_54, hL3⟩, by show r_2.1.length - (k_54 + 1) < r_2.1.length - k_54; omega, wk_mk [0, 1] [] [] rfl ⟨argE (by (conv => lhs; whnf); all_goals rfl) rfl, argP (id := 0) (by (conv => lhs; whnf); all_goals rfl) rfl, argP (id := 1) (by (conv => lhs; whnf); all_goals rfl) rfl, argE (by (conv => lhs; whnf); all_goals rfl) rfl, argE (by (conv => lhs; whnf); all_goals rfl) rfl, argFl (by (conv => lhs; whnf); all_goals rfl), argE (by (conv => lhs; whnf); all_goals rfl) rfl, argE (by (conv => lhs; whnf); all_goals rfl) rfl, argE (by (conv => lhs; whnf); all_goals rfl) rfl, argE (by (conv => lhs; whnf); all_goals rfl) rfl, argE (by (conv => lhs; whnf); all_goals rfl) rfl, trivial⟩ ⟨blkR (fun _ => ⟨rfl, rfl⟩) rfl rfl, blkR (fun _ => ⟨rfl, rfl⟩) rfl rfl, trivial⟩⟩
              · replace hL3 := cond_t hb_479 hL3
                conv => whnf
                refine ⟨by kernel_rfl, ?_⟩
                conv => whnf
                refine ⟨((k_54 + 1 : Nat) : Int), wrapE (by omega) (by omega) (by omega), ?_⟩
                conv => whnf
                exact ⟨(k_54 + 1, true), [0, 1], [], [], ⟨hlt_k_54, hL3⟩, by show r_2.1.length - (k_54 + 1) < r_2.1.length - k_54; omega, wk_mk [0, 1] [] [] rfl ⟨argE (by (conv => lhs; whnf); all_goals rfl) rfl, argP (id := 0) (by (conv => lhs; whnf); all_goals rfl) rfl, argP (id := 1) (by (conv => lhs; whnf); all_goals rfl) rfl, argE (by (conv => lhs; whnf); all_goals rfl) rfl, argE (by (conv => lhs; whnf); all_goals rfl) rfl, argT (by (conv => lhs; whnf); all_goals rfl), argE (by (conv => lhs; whnf); all_goals rfl) rfl, argE (by (conv => lhs; whnf); all_goals rfl) rfl, argE (by (conv => lhs; whnf); all_goals rfl) rfl, argE (by (conv => lhs; whnf); all_goals rfl) rfl, argE (by (conv => lhs; whnf); all_goals rfl) rfl, trivial⟩ ⟨blkR (fun _ => ⟨rfl, rfl⟩) rfl rfl, blkR (fun _ => ⟨rfl, rfl⟩) rfl rfl, trivial⟩⟩
            · rw [drop_nil (show r_2.1.length ≤ k_54 by have h := of_decide_eq_false h; omega), law24_ConnectWays_L8.eq_1] at hL3
              conv => whnf
              obtain rfl := Option.some.inj hL3
              replace hL2 := sub_brk hL2
              try dsimp only at hL2
              refine ⟨fun hb_485 => ?_, fun hb_485 => ?_⟩
              · replace hL2 := cond_t hb_485 hL2
                conv => whnf
                obtain rfl := Option.some.inj hL2
                replace hL1 := sub_ret hL1
                obtain rfl := Option.some.inj hL1
                replace hF := fin_ret hF
                obtain rfl := Option.some.inj hF
                exact ret_gz [] [] [] rfl (argFl (by (conv => lhs; whnf); all_goals rfl)) trivial
              · replace hL2 := cond_f hb_485 hL2
                conv => whnf
                refine ⟨_, rfl, ?_⟩
                conv => whnf
                exact ⟨(q_79, (w64 (i_48 + (1 : Int)))), [0, 1], [], [], hL2, Nat.lt_succ_self _, wk_mk [0, 1] [] [] rfl ⟨argE (by (conv => lhs; whnf); all_goals rfl) rfl, argP (id := 0) (by (conv => lhs; whnf); all_goals rfl) rfl, argP (id := 1) (by (conv => lhs; whnf); all_goals rfl) rfl, argE (by (conv => lhs; whnf); all_goals rfl) rfl, argE (by (conv => lhs; whnf); all_goals rfl) rfl, argE (by (conv => lhs; whnf); all_goals rfl) rfl, trivial⟩ ⟨blkR (fun _ => ⟨rfl, rfl⟩) rfl rfl, blkR (fun _ => ⟨rfl, rfl⟩) rfl rfl, trivial⟩⟩
        · replace hL2 := cond_f hb_477 hL2
          conv => whnf
          obtain rfl := Option.some.inj hL2
          replace hL1 := sub_brk hL1
          try dsimp only at hL1
          refine ⟨_, rfl, ?_⟩
          conv => whnf
          exact ⟨(q_81, (w64 (i_47 + (1 : Int)))), [0, 1], [], [], hL1, Nat.lt_succ_self _, wk_mk [0, 1] [] [] rfl ⟨argE (by (conv => lhs; whnf); all_goals rfl) rfl, argP (id := 0) (by (conv => lhs; whnf); all_goals rfl) rfl, argP (id := 1) (by (conv => lhs; whnf); all_goals rfl) rfl, argE (by (conv => lhs; whnf); all_goals rfl) rfl, trivial⟩ ⟨blkR (fun _ => ⟨rfl, rfl⟩) rfl rfl, blkR (fun _ => ⟨rfl, rfl⟩) rfl rfl, trivial⟩⟩
      · replace hL1 := cond_f hb_476 hL1
        conv => whnf
        obtain rfl := Option.some.inj hL1
        replace hF := fin_brk hF
        try dsimp only at hF
        obtain ⟨r_83, h_r_83, hF⟩ := bind_some hF
        refine ⟨_, _, _, _, _, _, _, _, _, callX false [] [] 0 Try.func18 (by decide) rfl (law24_awake_ac r_83 h_r_83) rfl trivial rfl trivial rfl rfl rfl lend0 trivial rfl, ?_⟩
        conv => whnf
        obtain rfl := Option.some.inj hF
        exact ret_gz [] [] [] rfl (argE (by (conv => lhs; whnf); all_goals rfl) rfl) trivial
end Go.Proofs.Ytkajegjghfbgaaa.Ex
