/- The functions of the program compute what was printed; walks printed by a program. -/
import Derived.Test.YtkajegjghfbgaaaExF
import Derived.Test.YtkajegjghfbgaaaExP1
import Derived.Test.YtkajegjghfbgaaaExP2
namespace Go.Proofs.Ytkajegjghfbgaaa.Ex
open Go.RowKit Go.Proofs.Ytkajegjghfbgaaa.Ax
set_option linter.unusedVariables false
set_option linter.unusedSimpArgs false
set_option maxRecDepth 100000 in
set_option maxHeartbeats 40000000 in
theorem law24_ConnectWaits_ac (x_0 : (List Int)) (r : Bool) (hF : law24_ConnectWaits x_0 = some r) : AC Try.prog 8 [.lst 1 (x_0.map iA)] [] (.bool r) [] := by
  refine ac_of tab_ok follows_ok Try.func8 rfl Try.ntmps8 rfl ?_
  unfold law24_ConnectWaits at hF
  conv => whnf
  obtain ⟨r_1, h_r_1, hF⟩ := bind_some hF
  refine ⟨_, _, _, _, _, _, _, _, _, callX false [] [] 1 Try.func11 (by decide) rfl (keep_New_ac x_0 r_1 h_r_1) rfl ⟨(argE (by (conv => lhs; whnf); all_goals rfl) rfl), trivial⟩ rfl trivial rfl rfl rfl lend0 ⟨rfl, trivial⟩ rfl, ?_⟩
  conv => whnf
  obtain ⟨r_2, h_r_2, hF⟩ := bind_some hF
  refine ⟨_, _, _, _, _, _, _, _, _, callX false [0] [] 0 Try.func12 (by decide) rfl (keep_Src_Minimums_ac r_1 r_2 h_r_2) rfl ⟨(argP (id := 0) (by (conv => lhs; whnf); all_goals rfl) rfl), trivial⟩ rfl ⟨rfl, trivial⟩ rfl rfl rfl lend0 ⟨rfl, trivial⟩ rfl, ?_⟩
  conv => whnf
  obtain ⟨r_3, h_r_3, hF⟩ := bind_some hF
  refine ⟨_, _, _, _, _, _, _, _, _, callX false [0] [] 0 Try.func21 (by decide) rfl (keep_Src_Connections_v2_ac r_2.2 (25 : Int) r_3 h_r_3) rfl ⟨(argP (id := 0) (by (conv => lhs; whnf); all_goals rfl) rfl), (argE (by (conv => lhs; whnf); all_goals rfl) rfl), trivial⟩ rfl ⟨rfl, trivial⟩ rfl rfl rfl lend0 ⟨rfl, trivial⟩ rfl, ?_⟩
  conv => whnf
  obtain ⟨r_4, h_r_4, hF⟩ := bind_some hF
  refine ⟨_, _, _, _, _, _, _, _, _, callX false [0] [] 0 Try.func22 (by decide) rfl (keep_Src_N_ac r_3.2 (60 : Int) r_4 h_r_4) rfl ⟨(argP (id := 0) (by (conv => lhs; whnf); all_goals rfl) rfl), (argE (by (conv => lhs; whnf); all_goals rfl) rfl), trivial⟩ rfl ⟨rfl, trivial⟩ rfl rfl rfl lend0 ⟨rfl, trivial⟩ rfl, ?_⟩
  conv => whnf
  refine ⟨_, rfl, ?_⟩
  conv => whnf
  obtain ⟨r_5, h_r_5, hF⟩ := bind_some hF
  refine ⟨_, _, _, _, _, _, _, _, _, callX false [0] [] 0 Try.func20 (by decide) rfl (keep_Src_Holds_ac r_4.2 (1 : Int) r_5 h_r_5) rfl ⟨(argP (id := 0) (by (conv => lhs; whnf); all_goals rfl) rfl), (argE (by (conv => lhs; whnf); all_goals rfl) rfl), trivial⟩ rfl ⟨rfl, trivial⟩ rfl rfl rfl lend0 ⟨rfl, trivial⟩ rfl, ?_⟩
  conv => whnf
  obtain ⟨r_6, h_r_6, hF⟩ := bind_some hF
  refine ⟨_, _, _, _, _, _, _, _, _, callX false [] [] 0 Try.func23 (by decide) rfl (connect_Decide_ac r_2.1 r_5.1 r_3.1 (w64 ((40 : Int) + r_4.1)) r_6 h_r_6) rfl ⟨(argE (by (conv => lhs; whnf); all_goals rfl) rfl), (argE (by (conv => lhs; whnf); all_goals rfl) rfl), (argE (by (conv => lhs; whnf); all_goals rfl) rfl), (argE (by (conv => lhs; whnf); all_goals rfl) rfl), trivial⟩ rfl trivial rfl rfl rfl lend0 trivial rfl, ?_⟩
  conv => whnf
  obtain ⟨r_7, h_r_7, hF⟩ := bind_some hF
  refine ⟨_, _, _, _, _, _, _, _, _, callX false [] [] 0 Try.func23 (by decide) rfl (connect_Decide_ac r_2.1 ([] : (List HoldRule)) r_3.1 (w64 ((40 : Int) + r_4.1)) r_7 h_r_7) rfl ⟨(argE (by (conv => lhs; whnf); all_goals rfl) rfl), (argN (by (conv => lhs; whnf); all_goals rfl)), (argE (by (conv => lhs; whnf); all_goals rfl) rfl), (argE (by (conv => lhs; whnf); all_goals rfl) rfl), trivial⟩ rfl trivial rfl rfl rfl lend0 trivial rfl, ?_⟩
  conv => whnf
  refine ⟨fun hb_79 => ?_, fun hb_79 => ?_⟩
  · replace hF := cond_f hb_79 hF
    conv => whnf
    refine ⟨fun hb_80 => ?_, fun hb_80 => ?_⟩
    · replace hF := cond_t hb_80 hF
      conv => whnf
      obtain rfl := Option.some.inj hF
      exact ret_gz [] [] [] rfl (argFl (by (conv => lhs; whnf); all_goals rfl)) trivial
    · replace hF := cond_f hb_80 hF
      conv => whnf
      refine len_q (enc := encPlate) (l := r_6.1.Left) rfl ?_
      conv => whnf
      obtain ⟨c_1, hc_1, hF⟩ := fin_some hF
      refine sw_bv 35 (v := .tup [.agg [.int .i64 r_6.1.Wait, .int .i64 r_6.1.Rule, .lst 3 (r_6.1.Left.map encPlate)], .int .i64 r_6.2]) (by (conv => lhs; whnf); all_goals rfl) (fun hb => ?_)
      have hbd_k_9 : r_6.1.Left.length ≤ 9223372036854775807 := bnd_len (enc := encPlate) ((bnd_at (bnd_at hb.tcell 0 rfl).cell 2 rfl))
      refine sw_loop tab_ok follows_ok (fun y : Nat => y ≤ r_6.1.Left.length ∧ law24_ConnectWaits_L1 r_7 (r_6.1.Left.drop y) y = some c_1) (fun y => ⟨eL [(4, .lst 3 (r_2.1.map encMinimum)), (5, .lst 7 (r_3.1.map encConnecting)), (6, .int .i64 (w64 ((40 : Int) + r_4.1))), (7, .lst 3 (r_5.1.map encHoldRule)), (8, .ptr 0 0), (10, .ptr 1 0), (57, .lst 3 (r_6.1.Left.map encPlate)), (58, .int .i64 (r_6.1.Left.length : Int)), (59, .int .i64 (y : Int))], hL [(0, .box [.int .i64 r_6.1.Wait, .int .i64 r_6.1.Rule, .lst 3 (r_6.1.Left.map encPlate)]), (1, .box [.int .i64 r_7.1.Wait, .int .i64 r_7.1.Rule, .lst 3 (r_7.1.Left.map encPlate)])], 2⟩) (fun y => r_6.1.Left.length - y) 0 ⟨Nat.zero_le _, hc_1⟩ (wk_mk [7, 9] [] [] rfl ⟨argE (by (conv => lhs; whnf); all_goals rfl) rfl, argE (by (conv => lhs; whnf); all_goals rfl) rfl, argE (by (conv => lhs; whnf); all_goals rfl) rfl, argE (by (conv => lhs; whnf); all_goals rfl) rfl, argP (id := 7) (by (conv => lhs; whnf); all_goals rfl) rfl, argP (id := 9) (by (conv => lhs; whnf); all_goals rfl) rfl, argE (by (conv => lhs; whnf); all_goals rfl) rfl, argE (by (conv => lhs; whnf); all_goals rfl) rfl, argE (by (conv => lhs; whnf); all_goals rfl) rfl, trivial⟩ ⟨boxL rfl rfl rfl ⟨(.ni _ rfl), (.ni _ rfl), (.ni _ rfl), trivial⟩, boxL rfl rfl rfl ⟨(.ni _ rfl), (.ni _ rfl), (.ni _ rfl), trivial⟩, trivial⟩) ?_
      rintro k_9 ⟨hk_k_9, hL1⟩
      try dsimp only at hk_k_9 hL1
      show awp _ _ _ _ _ _ ⟨eL [(4, .lst 3 (r_2.1.map encMinimum)), (5, .lst 7 (r_3.1.map encConnecting)), (6, .int .i64 (w64 ((40 : Int) + r_4.1))), (7, .lst 3 (r_5.1.map encHoldRule)), (8, .ptr 0 0), (10, .ptr 1 0), (57, .lst 3 (r_6.1.Left.map encPlate)), (58, .int .i64 (r_6.1.Left.length : Int)), (59, .int .i64 (k_9 : Int))], hL [(0, .box [.int .i64 r_6.1.Wait, .int .i64 r_6.1.Rule, .lst 3 (r_6.1.Left.map encPlate)]), (1, .box [.int .i64 r_7.1.Wait, .int .i64 r_7.1.Rule, .lst 3 (r_7.1.Left.map encPlate)])], 2⟩
      conv => whnf
      refine ⟨fun h => ?_, fun h => ?_⟩
      · have hlt_k_9 : k_9 < r_6.1.Left.length := by have h := of_decide_eq_true h; omega
        obtain ⟨e_10, h_e_10⟩ : ∃ y, r_6.1.Left[k_9]? = some y := ⟨_, List.getElem?_eq_getElem hlt_k_9⟩
        rw [drop_cons h_e_10, law24_ConnectWaits_L1.eq_2] at hL1
        conv => whnf
        refine ⟨k_9, _, rfl, ix_map h_e_10, ?_⟩
        conv => whnf
        refine len_q (enc := encPlate) (l := r_7.1.Left) rfl ?_
        conv => whnf
        obtain ⟨c_2, hc_2, hL1⟩ := sub_some hL1
        refine sw_bv 64 (v := .lst 3 (r_7.1.Left.map encPlate)) (by (conv => lhs; whnf); all_goals rfl) (fun hb => ?_)
        have hbd_k_13 : r_7.1.Left.length ≤ 9223372036854775807 := bnd_len (enc := encPlate) (hb)
        refine sw_loop tab_ok follows_ok (fun y : Nat × Bool => y.1 ≤ r_7.1.Left.length ∧ law24_ConnectWaits_L2 e_10 (r_7.1.Left.drop y.1) y.1 y.2 = some c_2) (fun y => ⟨eL [(4, .lst 3 (r_2.1.map encMinimum)), (5, .lst 7 (r_3.1.map encConnecting)), (6, .int .i64 (w64 ((40 : Int) + r_4.1))), (7, .lst 3 (r_5.1.map encHoldRule)), (8, .ptr 0 0), (10, .ptr 1 0), (13, .ptr 2 0), (14, .bool y.2), (57, .lst 3 (r_6.1.Left.map encPlate)), (58, .int .i64 (r_6.1.Left.length : Int)), (59, .int .i64 (k_9 : Int)), (64, .lst 3 (r_7.1.Left.map encPlate)), (65, .int .i64 (r_7.1.Left.length : Int)), (66, .int .i64 (y.1 : Int))], hL [(0, .box [.int .i64 r_6.1.Wait, .int .i64 r_6.1.Rule, .lst 3 (r_6.1.Left.map encPlate)]), (1, .box [.int .i64 r_7.1.Wait, .int .i64 r_7.1.Rule, .lst 3 (r_7.1.Left.map encPlate)]), (2, .box [.int .i64 e_10.Lead, .int .i64 e_10.Airline, .int .i64 e_10.Serial])], 3⟩) (fun y => r_7.1.Left.length - y.1) (0, false) ⟨Nat.zero_le _, hc_2⟩ (wk_mk [0, 1, 2] [] [] rfl ⟨argE (by (conv => lhs; whnf); all_goals rfl) rfl, argE (by (conv => lhs; whnf); all_goals rfl) rfl, argE (by (conv => lhs; whnf); all_goals rfl) rfl, argE (by (conv => lhs; whnf); all_goals rfl) rfl, argP (id := 0) (by (conv => lhs; whnf); all_goals rfl) rfl, argP (id := 1) (by (conv => lhs; whnf); all_goals rfl) rfl, argP (id := 2) (by (conv => lhs; whnf); all_goals rfl) rfl, argFl (by (conv => lhs; whnf); all_goals rfl), argE (by (conv => lhs; whnf); all_goals rfl) rfl, argE (by (conv => lhs; whnf); all_goals rfl) rfl, argE (by (conv => lhs; whnf); all_goals rfl) rfl, argE (by (conv => lhs; whnf); all_goals rfl) rfl, argE (by (conv => lhs; whnf); all_goals rfl) rfl, argE (by (conv => lhs; whnf); all_goals rfl) rfl, trivial⟩ ⟨boxL rfl rfl rfl ⟨(.ni _ rfl), (.ni _ rfl), (.ni _ rfl), trivial⟩, boxL rfl rfl rfl ⟨(.ni _ rfl), (.ni _ rfl), (.ni _ rfl), trivial⟩, boxL rfl rfl rfl ⟨(.ni _ rfl), (.ni _ rfl), (.ni _ rfl), trivial⟩, trivial⟩) ?_
        rintro ⟨k_13, b_11⟩ ⟨hk_k_13, hL2⟩
        try dsimp only at hk_k_13 hL2
        show awp _ _ _ _ _ _ ⟨eL [(4, .lst 3 (r_2.1.map encMinimum)), (5, .lst 7 (r_3.1.map encConnecting)), (6, .int .i64 (w64 ((40 : Int) + r_4.1))), (7, .lst 3 (r_5.1.map encHoldRule)), (8, .ptr 0 0), (10, .ptr 1 0), (13, .ptr 2 0), (14, .bool b_11), (57, .lst 3 (r_6.1.Left.map encPlate)), (58, .int .i64 (r_6.1.Left.length : Int)), (59, .int .i64 (k_9 : Int)), (64, .lst 3 (r_7.1.Left.map encPlate)), (65, .int .i64 (r_7.1.Left.length : Int)), (66, .int .i64 (k_13 : Int))], hL [(0, .box [.int .i64 r_6.1.Wait, .int .i64 r_6.1.Rule, .lst 3 (r_6.1.Left.map encPlate)]), (1, .box [.int .i64 r_7.1.Wait, .int .i64 r_7.1.Rule, .lst 3 (r_7.1.Left.map encPlate)]), (2, .box [.int .i64 e_10.Lead, .int .i64 e_10.Airline, .int .i64 e_10.Serial])], 3⟩
        conv => whnf
        refine ⟨fun h => ?_, fun h => ?_⟩
        · have hlt_k_13 : k_13 < r_7.1.Left.length := by have h := of_decide_eq_true h; omega
          obtain ⟨e_14, h_e_14⟩ : ∃ y, r_7.1.Left[k_13]? = some y := ⟨_, List.getElem?_eq_getElem hlt_k_13⟩
          rw [drop_cons h_e_14, law24_ConnectWaits_L2.eq_2] at hL2
          conv => whnf
          refine ⟨k_13, _, rfl, ix_map h_e_14, ?_⟩
          conv => whnf
          refine ⟨fun hb_81 => ?_, fun hb_81 => ?_⟩
          · replace hL2 := cond_f hb_81 hL2
            conv => whnf
            refine ⟨((k_13 + 1 : Nat) : Int), wrapE (by omega) (by omega) (by omega), ?_⟩
            conv => whnf
            exact ⟨(k_13 + 1, ((e_10.Lead == e_14.Lead) && ((e_10.Airline == e_14.Airline) && ((e_10.Serial == e_14.Serial) && true)))), [0, 1, 2], [], [], ⟨hlt_k_13, hL2⟩, by show r_7.1.Left.length - (k_13 + 1) < r_7.1.Left.length - k_13; omega, wk_mk [0, 1, 2] [] [] rfl ⟨argE (by (conv => lhs; whnf); all_goals rfl) rfl, argE (by (conv => lhs; whnf); all_goals rfl) rfl, argE (by (conv => lhs; whnf); all_goals rfl) rfl, argE (by (conv => lhs; whnf); all_goals rfl) rfl, argP (id := 0) (by (conv => lhs; whnf); all_goals rfl) rfl, argP (id := 1) (by (conv => lhs; whnf); all_goals rfl) rfl, argP (id := 2) (by (conv => lhs; whnf); all_goals rfl) rfl, argE (by (conv => lhs; whnf); all_goals rfl) rfl, argE (by (conv => lhs; whnf); all_goals rfl) rfl, argE (by (conv => lhs; whnf); all_goals rfl) rfl, argE (by (conv => lhs; whnf); all_goals rfl) rfl, argE (by (conv => lhs; whnf); all_goals rfl) rfl, argE (by (conv => lhs; whnf); all_goals rfl) rfl, argE (by (conv => lhs; whnf); all_goals rfl) rfl, trivial⟩ ⟨boxL rfl rfl rfl ⟨(.ni _ rfl), (.ni _ rfl), (.ni _ rfl), trivial⟩, boxL rfl rfl rfl ⟨(.ni _ rfl), (.ni _ rfl), (.ni _ rfl), trivial⟩, boxL rfl rfl rfl ⟨(.ni _ rfl), (.ni _ rfl), (.ni _ rfl), trivial⟩, trivial⟩⟩
          · replace hL2 := cond_t hb_81 hL2
            conv => whnf
            refine ⟨((k_13 + 1 : Nat) : Int), wrapE (by omega) (by omega) (by omega), ?_⟩
            conv => whnf
            exact ⟨(k_13 + 1, true), [0, 1, 2], [], [], ⟨hlt_k_13, hL2⟩, by show r_7.1.Left.length - (k_13 + 1) < r_7.1.Left.length - k_13; omega, wk_mk [0, 1, 2] [] [] rfl ⟨argE (by (conv => lhs; whnf); all_goals rfl) rfl, argE (by (conv => lhs; whnf); all_goals rfl) rfl, argE (by (conv => lhs; whnf); all_goals rfl) rfl, argE (by (conv => lhs; whnf); all_goals rfl) rfl, argP (id := 0) (by (conv => lhs; whnf); all_goals rfl) rfl, argP (id := 1) (by (conv => lhs; whnf); all_goals rfl) rfl, argP (id := 2) (by (conv => lhs; whnf); all_goals rfl) rfl, argT (by (conv => lhs; whnf); all_goals rfl), argE (by (conv => lhs; whnf); all_goals rfl) rfl, argE (by (conv => lhs; whnf); all_goals rfl) rfl, argE (by (conv => lhs; whnf); all_goals rfl) rfl, argE (by (conv => lhs; whnf); all_goals rfl) rfl, argE (by (conv => lhs; whnf); all_goals rfl) rfl, argE (by (conv => lhs; whnf); all_goals rfl) rfl, trivial⟩ ⟨boxL rfl rfl rfl ⟨(.ni _ rfl), (.ni _ rfl), (.ni _ rfl), trivial⟩, boxL rfl rfl rfl ⟨(.ni _ rfl), (.ni _ rfl), (.ni _ rfl), trivial⟩, boxL rfl rfl rfl ⟨(.ni _ rfl), (.ni _ rfl), (.ni _ rfl), trivial⟩, trivial⟩⟩
        · rw [drop_nil (show r_7.1.Left.length ≤ k_13 by have h := of_decide_eq_false h; omega), law24_ConnectWaits_L2.eq_1] at hL2
          conv => whnf
          obtain rfl := Option.some.inj hL2
          replace hL1 := sub_brk hL1
          try dsimp only at hL1
          refine ⟨fun hb_82 => ?_, fun hb_82 => ?_⟩
          · replace hL1 := cond_t hb_82 hL1
            conv => whnf
            obtain rfl := Option.some.inj hL1
            replace hF := fin_ret hF
            obtain rfl := Option.some.inj hF
            exact ret_gz [] [] [] rfl (argFl (by (conv => lhs; whnf); all_goals rfl)) trivial
          · replace hL1 := cond_f hb_82 hL1
            conv => whnf
            refine ⟨((k_9 + 1 : Nat) : Int), wrapE (by omega) (by omega) (by omega), ?_⟩
            conv => whnf
            exact ⟨k_9 + 1, [0, 1], [], [], ⟨hlt_k_9, hL1⟩, by show r_6.1.Left.length - (k_9 + 1) < r_6.1.Left.length - k_9; omega, wk_mk [0, 1] [] [] rfl ⟨argE (by (conv => lhs; whnf); all_goals rfl) rfl, argE (by (conv => lhs; whnf); all_goals rfl) rfl, argE (by (conv => lhs; whnf); all_goals rfl) rfl, argE (by (conv => lhs; whnf); all_goals rfl) rfl, argP (id := 0) (by (conv => lhs; whnf); all_goals rfl) rfl, argP (id := 1) (by (conv => lhs; whnf); all_goals rfl) rfl, argE (by (conv => lhs; whnf); all_goals rfl) rfl, argE (by (conv => lhs; whnf); all_goals rfl) rfl, argE (by (conv => lhs; whnf); all_goals rfl) rfl, trivial⟩ ⟨boxL rfl rfl rfl ⟨(.ni _ rfl), (.ni _ rfl), (.ni _ rfl), trivial⟩, boxL rfl rfl rfl ⟨(.ni _ rfl), (.ni _ rfl), (.ni _ rfl), trivial⟩, trivial⟩⟩
      · rw [drop_nil (show r_6.1.Left.length ≤ k_9 by have h := of_decide_eq_false h; omega), law24_ConnectWaits_L1.eq_1] at hL1
        conv => whnf
        obtain rfl := Option.some.inj hL1
        replace hF := fin_brk hF
        try dsimp only at hF
        refine ⟨fun hb_83 => ?_, fun hb_83 => ?_⟩
        · replace hF := cond_f hb_83 hF
          conv => whnf
          refine ⟨fun hb_85 => ?_, fun hb_85 => ?_⟩
          · replace hF := cond_t hb_85 hF
            conv => whnf
            obtain ⟨r_21, h_r_21, hF⟩ := bind_some hF
            refine ⟨_, _, _, _, _, _, _, _, _, callX false [] [] 0 Try.func25 (by decide) rfl (ref23_SamePlates_ac r_6.1.Left r_7.1.Left r_21 h_r_21) rfl ⟨(argE (by (conv => lhs; whnf); all_goals rfl) rfl), (argE (by (conv => lhs; whnf); all_goals rfl) rfl), trivial⟩ rfl trivial rfl rfl rfl lend0 trivial rfl, ?_⟩
            conv => whnf
            refine ⟨fun hb_86 => ?_, fun hb_86 => ?_⟩
            · replace hF := cond_t hb_86 hF
              conv => whnf
              obtain ⟨r_22, h_r_22, hF⟩ := bind_some hF
              refine ⟨_, _, _, _, _, _, _, _, _, callX false [] [] 0 Try.func18 (by decide) rfl (law24_awake_ac r_22 h_r_22) rfl trivial rfl trivial rfl rfl rfl lend0 trivial rfl, ?_⟩
              conv => whnf
              obtain rfl := Option.some.inj hF
              exact ret_gz [] [] [] rfl (argE (by (conv => lhs; whnf); all_goals rfl) rfl) trivial
            · replace hF := cond_f hb_86 hF
              conv => whnf
              obtain rfl := Option.some.inj hF
              exact ret_gz [] [] [] rfl (argFl (by (conv => lhs; whnf); all_goals rfl)) trivial
          · replace hF := cond_f hb_85 hF
            conv => whnf
            refine len_q (enc := encHoldRule) (l := r_5.1) rfl ?_
            conv => whnf
            refine ⟨fun hb_87 => ?_, fun hb_87 => ?_⟩
            · replace hF := cond_f hb_87 hF
              conv => whnf
              obtain ⟨e_23, h_e_23, hF⟩ := bind_some hF
              refine ix_q (enc := encHoldRule) (l := r_5.1) h_e_23 rfl (fun m_e_23 hm_e_23 hx_e_23 => ?_)
              conv => whnf
              refine ⟨by kernel_rfl, ?_⟩
              conv => whnf
              refine ⟨fun hb_88 => ?_, fun hb_88 => ?_⟩
              · replace hF := cond_t hb_88 hF
                conv => whnf
                obtain rfl := Option.some.inj hF
                exact ret_gz [] [] [] rfl (argFl (by (conv => lhs; whnf); all_goals rfl)) trivial
              · replace hF := cond_f hb_88 hF
                conv => whnf
                refine len_q (enc := encConnecting) (l := r_3.1) rfl ?_
                conv => whnf
                obtain ⟨c_3, hc_3, hF⟩ := fin_some hF
                refine sw_bv 5 (v := .lst 7 (r_3.1.map encConnecting)) (by (conv => lhs; whnf); all_goals rfl) (fun hb => ?_)
                have hbd_k_27 : r_3.1.length ≤ 9223372036854775807 := bnd_len (enc := encConnecting) (hb)
                refine sw_loop tab_ok follows_ok (fun y : Nat × Int × Int => y.1 ≤ r_3.1.length ∧ law24_ConnectWaits_L3 r_2 r_4 r_5 r_6 (r_3.1.drop y.1) y.1 y.2.1 y.2.2 = some c_3) (fun y => ⟨eL [(4, .lst 3 (r_2.1.map encMinimum)), (6, .int .i64 (w64 ((40 : Int) + r_4.1))), (7, .lst 3 (r_5.1.map encHoldRule)), (8, .ptr 0 0), (17, .int .i64 y.2.1), (18, .int .i64 y.2.2), (108, .lst 7 (r_3.1.map encConnecting)), (109, .int .i64 (r_3.1.length : Int)), (110, .int .i64 (y.1 : Int))], hL [(0, .box [.int .i64 r_6.1.Wait, .int .i64 r_6.1.Rule, .lst 3 (r_6.1.Left.map encPlate)])], 1⟩) (fun y => r_3.1.length - y.1) (0, (0 : Int), (0 : Int)) ⟨Nat.zero_le _, hc_3⟩ (wk_mk [0] [] [] rfl ⟨argE (by (conv => lhs; whnf); all_goals rfl) rfl, argE (by (conv => lhs; whnf); all_goals rfl) rfl, argE (by (conv => lhs; whnf); all_goals rfl) rfl, argP (id := 0) (by (conv => lhs; whnf); all_goals rfl) rfl, argE (by (conv => lhs; whnf); all_goals rfl) rfl, argE (by (conv => lhs; whnf); all_goals rfl) rfl, argE (by (conv => lhs; whnf); all_goals rfl) rfl, argE (by (conv => lhs; whnf); all_goals rfl) rfl, argE (by (conv => lhs; whnf); all_goals rfl) rfl, trivial⟩ ⟨boxL rfl rfl rfl ⟨(.ni _ rfl), (.ni _ rfl), (.ni _ rfl), trivial⟩, trivial⟩) ?_
                rintro ⟨k_27, i_24, i_25⟩ ⟨hk_k_27, hL1⟩
                try dsimp only at hk_k_27 hL1
                show awp _ _ _ _ _ _ ⟨eL [(4, .lst 3 (r_2.1.map encMinimum)), (6, .int .i64 (w64 ((40 : Int) + r_4.1))), (7, .lst 3 (r_5.1.map encHoldRule)), (8, .ptr 0 0), (17, .int .i64 i_24), (18, .int .i64 i_25), (108, .lst 7 (r_3.1.map encConnecting)), (109, .int .i64 (r_3.1.length : Int)), (110, .int .i64 (k_27 : Int))], hL [(0, .box [.int .i64 r_6.1.Wait, .int .i64 r_6.1.Rule, .lst 3 (r_6.1.Left.map encPlate)])], 1⟩
                conv => whnf
                refine ⟨fun h => ?_, fun h => ?_⟩
                · have hlt_k_27 : k_27 < r_3.1.length := by have h := of_decide_eq_true h; omega
                  obtain ⟨e_28, h_e_28⟩ : ∃ y, r_3.1[k_27]? = some y := ⟨_, List.getElem?_eq_getElem hlt_k_27⟩
                  rw [drop_cons h_e_28, law24_ConnectWaits_L3.eq_2] at hL1
                  conv => whnf
                  refine ⟨k_27, _, rfl, ix_map h_e_28, ?_⟩
                  conv => whnf
                  obtain ⟨r_29, h_r_29, hL1⟩ := bind_some hL1
                  refine ⟨_, _, _, _, _, _, _, _, _, callX false [] [] 0 Try.func26 (by decide) rfl (connect_Slack_ac r_2.1 e_28 (w64 ((40 : Int) + r_4.1)) r_29 h_r_29) rfl ⟨(argE (by (conv => lhs; whnf); all_goals rfl) rfl), (argE (by (conv => lhs; whnf); all_goals rfl) rfl), (argE (by (conv => lhs; whnf); all_goals rfl) rfl), trivial⟩ rfl trivial rfl rfl rfl lend0 trivial rfl, ?_⟩
                  conv => whnf
                  refine ⟨fun hb_89 => ?_, fun hb_89 => ?_⟩
                  · replace hL1 := cond_t hb_89 hL1
                    conv => whnf
                    refine ⟨fun hb_90 => ?_, fun hb_90 => ?_⟩
                    · replace hL1 := cond_t hb_90 hL1
                      conv => whnf
                      obtain ⟨e_30, h_e_30, hL1⟩ := bind_some hL1
                      refine ix_q (enc := encHoldRule) (l := r_5.1) h_e_30 rfl (fun m_e_30 hm_e_30 hx_e_30 => ?_)
                      conv => whnf
                      refine ⟨fun hb_91 => ?_, fun hb_91 => ?_⟩
                      · replace hL1 := cond_f hb_91 hL1
                        conv => whnf
                        obtain ⟨e_31, h_e_31, hL1⟩ := bind_some hL1
                        refine ix_q (enc := encHoldRule) (l := r_5.1) h_e_31 rfl (fun m_e_31 hm_e_31 hx_e_31 => ?_)
                        conv => whnf
                        refine ⟨by kernel_rfl, ?_⟩
                        conv => whnf
                        refine ⟨fun hb_95 => ?_, fun hb_95 => ?_⟩
                        · replace hL1 := cond_t hb_95 hL1
                          conv => whnf
                          refine ⟨_, rfl, ?_⟩
                          conv => whnf
                          refine ⟨fun hb_96 => ?_, fun hb_96 => ?_⟩
                          · replace hL1 := cond_t hb_96 hL1
                            conv => whnf
                            refine ⟨_, rfl, ?_⟩
                            conv => whnf
                            refine ⟨_, rfl, ?_⟩
                            conv => whnf
                            refine ⟨fun hb_97 => ?_, fun hb_97 => ?_⟩
                            · replace hL1 := cond_t hb_97 hL1
                              conv => whnf
                              refine ⟨_, rfl, ?_⟩
                              conv => whnf
                              refine ⟨((k_27 + 1 : Nat) : Int), wrapE (by omega) (by omega) (by omega), ?_⟩
                              conv => whnf
                              exact ⟨(k_27 + 1, (w64 (i_24 + (1 : Int))), (w64 (i_25 + (1 : Int)))), [0], [], [], ⟨hlt_k_27, hL1⟩, by show r_3.1.length - (k_27 + 1) < r_3.1.length - k_27; omega, wk_mk [0] [] [] rfl ⟨argE (by (conv => lhs; whnf); all_goals rfl) rfl, argE (by (conv => lhs; whnf); all_goals rfl) rfl, argE (by (conv => lhs; whnf); all_goals rfl) rfl, argP (id := 0) (by (conv => lhs; whnf); all_goals rfl) rfl, argE (by (conv => lhs; whnf); all_goals rfl) rfl, argE (by (conv => lhs; whnf); all_goals rfl) rfl, argE (by (conv => lhs; whnf); all_goals rfl) rfl, argE (by (conv => lhs; whnf); all_goals rfl) rfl, argE (by (conv => lhs; whnf); all_goals rfl) rfl, trivial⟩ ⟨boxL rfl rfl rfl ⟨(.ni _ rfl), (.ni _ rfl), (.ni _ rfl), trivial⟩, trivial⟩⟩
                            · replace hL1 := cond_f hb_97 hL1
                              conv => whnf
                              refine ⟨((k_27 + 1 : Nat) : Int), wrapE (by omega) (by omega) (by omega), ?_⟩
                              conv => whnf
                              exact ⟨(k_27 + 1, (w64 (i_24 + (1 : Int))), i_25), [0], [], [], ⟨hlt_k_27, hL1⟩, by show r_3.1.length - (k_27 + 1) < r_3.1.length - k_27; omega, wk_mk [0] [] [] rfl ⟨argE (by (conv => lhs; whnf); all_goals rfl) rfl, argE (by (conv => lhs; whnf); all_goals rfl) rfl, argE (by (conv => lhs; whnf); all_goals rfl) rfl, argP (id := 0) (by (conv => lhs; whnf); all_goals rfl) rfl, argE (by (conv => lhs; whnf); all_goals rfl) rfl, argE (by (conv => lhs; whnf); all_goals rfl) rfl, argE (by (conv => lhs; whnf); all_goals rfl) rfl, argE (by (conv => lhs; whnf); all_goals rfl) rfl, argE (by (conv => lhs; whnf); all_goals rfl) rfl, trivial⟩ ⟨boxL rfl rfl rfl ⟨(.ni _ rfl), (.ni _ rfl), (.ni _ rfl), trivial⟩, trivial⟩⟩
                          · replace hL1 := cond_f hb_96 hL1
                            conv => whnf
                            refine ⟨_, rfl, ?_⟩
                            conv => whnf
                            refine ⟨fun hb_98 => ?_, fun hb_98 => ?_⟩
                            · replace hL1 := cond_t hb_98 hL1
                              conv => whnf
                              refine ⟨_, rfl, ?_⟩
                              conv => whnf
                              refine ⟨((k_27 + 1 : Nat) : Int), wrapE (by omega) (by omega) (by omega), ?_⟩
                              conv => whnf
                              exact ⟨(k_27 + 1, i_24, (w64 (i_25 + (1 : Int)))), [0], [], [], ⟨hlt_k_27, hL1⟩, by show r_3.1.length - (k_27 + 1) < r_3.1.length - k_27; omega, wk_mk [0] [] [] rfl ⟨argE (by (conv => lhs; whnf); all_goals rfl) rfl, argE (by (conv => lhs; whnf); all_goals rfl) rfl, argE (by (conv => lhs; whnf); all_goals rfl) rfl, argP (id := 0) (by (conv => lhs; whnf); all_goals rfl) rfl, argE (by (conv => lhs; whnf); all_goals rfl) rfl, argE (by (conv => lhs; whnf); all_goals rfl) rfl, argE (by (conv => lhs; whnf); all_goals rfl) rfl, argE (by (conv => lhs; whnf); all_goals rfl) rfl, argE (by (conv => lhs; whnf); all_goals rfl) rfl, trivial⟩ ⟨boxL rfl rfl rfl ⟨(.ni _ rfl), (.ni _ rfl), (.ni _ rfl), trivial⟩, trivial⟩⟩
                            · replace hL1 := cond_f hb_98 hL1
                              conv => whnf
                              refine ⟨((k_27 + 1 : Nat) : Int), wrapE (by omega) (by omega) (by omega), ?_⟩
                              conv => whnf
                              exact ⟨(k_27 + 1, i_24, i_25), [0], [], [], ⟨hlt_k_27, hL1⟩, by show r_3.1.length - (k_27 + 1) < r_3.1.length - k_27; omega, wk_mk [0] [] [] rfl ⟨argE (by (conv => lhs; whnf); all_goals rfl) rfl, argE (by (conv => lhs; whnf); all_goals rfl) rfl, argE (by (conv => lhs; whnf); all_goals rfl) rfl, argP (id := 0) (by (conv => lhs; whnf); all_goals rfl) rfl, argE (by (conv => lhs; whnf); all_goals rfl) rfl, argE (by (conv => lhs; whnf); all_goals rfl) rfl, argE (by (conv => lhs; whnf); all_goals rfl) rfl, argE (by (conv => lhs; whnf); all_goals rfl) rfl, argE (by (conv => lhs; whnf); all_goals rfl) rfl, trivial⟩ ⟨boxL rfl rfl rfl ⟨(.ni _ rfl), (.ni _ rfl), (.ni _ rfl), trivial⟩, trivial⟩⟩
                        · replace hL1 := cond_f hb_95 hL1
                          conv => whnf
                          refine ⟨((k_27 + 1 : Nat) : Int), wrapE (by omega) (by omega) (by omega), ?_⟩
                          conv => whnf
                          exact ⟨(k_27 + 1, i_24, i_25), [0], [], [], ⟨hlt_k_27, hL1⟩, by show r_3.1.length - (k_27 + 1) < r_3.1.length - k_27; omega, wk_mk [0] [] [] rfl ⟨argE (by (conv => lhs; whnf); all_goals rfl) rfl, argE (by (conv => lhs; whnf); all_goals rfl) rfl, argE (by (conv => lhs; whnf); all_goals rfl) rfl, argP (id := 0) (by (conv => lhs; whnf); all_goals rfl) rfl, argE (by (conv => lhs; whnf); all_goals rfl) rfl, argE (by (conv => lhs; whnf); all_goals rfl) rfl, argE (by (conv => lhs; whnf); all_goals rfl) rfl, argE (by (conv => lhs; whnf); all_goals rfl) rfl, argE (by (conv => lhs; whnf); all_goals rfl) rfl, trivial⟩ ⟨boxL rfl rfl rfl ⟨(.ni _ rfl), (.ni _ rfl), (.ni _ rfl), trivial⟩, trivial⟩⟩
                      · replace hL1 := cond_t hb_91 hL1
                        conv => whnf
                        refine ⟨by kernel_rfl, ?_⟩
                        conv => whnf
                        refine ⟨_, rfl, ?_⟩
                        conv => whnf
                        refine ⟨fun hb_92 => ?_, fun hb_92 => ?_⟩
                        · replace hL1 := cond_t hb_92 hL1
                          conv => whnf
                          refine ⟨_, rfl, ?_⟩
                          conv => whnf
                          refine ⟨_, rfl, ?_⟩
                          conv => whnf
                          refine ⟨fun hb_93 => ?_, fun hb_93 => ?_⟩
                          · replace hL1 := cond_t hb_93 hL1
                            conv => whnf
                            refine ⟨_, rfl, ?_⟩
                            conv => whnf
                            refine ⟨((k_27 + 1 : Nat) : Int), wrapE (by omega) (by omega) (by omega), ?_⟩
                            conv => whnf
                            exact ⟨(k_27 + 1, (w64 (i_24 + (1 : Int))), (w64 (i_25 + (1 : Int)))), [0], [], [], ⟨hlt_k_27, hL1⟩, by show r_3.1.length - (k_27 + 1) < r_3.1.length - k_27; omega, wk_mk [0] [] [] rfl ⟨argE (by (conv => lhs; whnf); all_goals rfl) rfl, argE (by (conv => lhs; whnf); all_goals rfl) rfl, argE (by (conv => lhs; whnf); all_goals rfl) rfl, argP (id := 0) (by (conv => lhs; whnf); all_goals rfl) rfl, argE (by (conv => lhs; whnf); all_goals rfl) rfl, argE (by (conv => lhs; whnf); all_goals rfl) rfl, argE (by (conv => lhs; whnf); all_goals rfl) rfl, argE (by (conv => lhs; whnf); all_goals rfl) rfl, argE (by (conv => lhs; whnf); all_goals rfl) rfl, trivial⟩ ⟨boxL rfl rfl rfl ⟨(.ni _ rfl), (.ni _ rfl), (.ni _ rfl), trivial⟩, trivial⟩⟩
                          · replace hL1 := cond_f hb_93 hL1
                            conv => whnf
                            refine ⟨((k_27 + 1 : Nat) : Int), wrapE (by omega) (by omega) (by omega), ?_⟩
                            conv => whnf
                            exact ⟨(k_27 + 1, (w64 (i_24 + (1 : Int))), i_25), [0], [], [], ⟨hlt_k_27, hL1⟩, by show r_3.1.length - (k_27 + 1) < r_3.1.length - k_27; omega, wk_mk [0] [] [] rfl ⟨argE (by (conv => lhs; whnf); all_goals rfl) rfl, argE (by (conv => lhs; whnf); all_goals rfl) rfl, argE (by (conv => lhs; whnf); all_goals rfl) rfl, argP (id := 0) (by (conv => lhs; whnf); all_goals rfl) rfl, argE (by (conv => lhs; whnf); all_goals rfl) rfl, argE (by (conv => lhs; whnf); all_goals rfl) rfl, argE (by (conv => lhs; whnf); all_goals rfl) rfl, argE (by (conv => lhs; whnf); all_goals rfl) rfl, argE (by (conv => lhs; whnf); all_goals rfl) rfl, trivial⟩ ⟨boxL rfl rfl rfl ⟨(.ni _ rfl), (.ni _ rfl), (.ni _ rfl), trivial⟩, trivial⟩⟩
                        · replace hL1 := cond_f hb_92 hL1
                          conv => whnf
                          refine ⟨_, rfl, ?_⟩
                          conv => whnf
                          refine ⟨fun hb_94 => ?_, fun hb_94 => ?_⟩
                          · replace hL1 := cond_t hb_94 hL1
                            conv => whnf
                            refine ⟨_, rfl, ?_⟩
                            conv => whnf
                            refine ⟨((k_27 + 1 : Nat) : Int), wrapE (by omega) (by omega) (by omega), ?_⟩
                            conv => whnf
                            exact ⟨(k_27 + 1, i_24, (w64 (i_25 + (1 : Int)))), [0], [], [], ⟨hlt_k_27, hL1⟩, by show r_3.1.length - (k_27 + 1) < r_3.1.length - k_27; omega, wk_mk [0] [] [] rfl ⟨argE (by (conv => lhs; whnf); all_goals rfl) rfl, argE (by (conv => lhs; whnf); all_goals rfl) rfl, argE (by (conv => lhs; whnf); all_goals rfl) rfl, argP (id := 0) (by (conv => lhs; whnf); all_goals rfl) rfl, argE (by (conv => lhs; whnf); all_goals rfl) rfl, argE (by (conv => lhs; whnf); all_goals rfl) rfl, argE (by (conv => lhs; whnf); all_goals rfl) rfl, argE (by (conv => lhs; whnf); all_goals rfl) rfl, argE (by (conv => lhs; whnf); all_goals rfl) rfl, trivial⟩ ⟨boxL rfl rfl rfl ⟨(.ni _ rfl), (.ni _ rfl), (.ni _ rfl), trivial⟩, trivial⟩⟩
                          · replace hL1 := cond_f hb_94 hL1
                            conv => whnf
                            refine ⟨((k_27 + 1 : Nat) : Int), wrapE (by omega) (by omega) (by omega), ?_⟩
                            conv => whnf
                            exact ⟨(k_27 + 1, i_24, i_25), [0], [], [], ⟨hlt_k_27, hL1⟩, by show r_3.1.length - (k_27 + 1) < r_3.1.length - k_27; omega, wk_mk [0] [] [] rfl ⟨argE (by (conv => lhs; whnf); all_goals rfl) rfl, argE (by (conv => lhs; whnf); all_goals rfl) rfl, argE (by (conv => lhs; whnf); all_goals rfl) rfl, argP (id := 0) (by (conv => lhs; whnf); all_goals rfl) rfl, argE (by (conv => lhs; whnf); all_goals rfl) rfl, argE (by (conv => lhs; whnf); all_goals rfl) rfl, argE (by (conv => lhs; whnf); all_goals rfl) rfl, argE (by (conv => lhs; whnf); all_goals rfl) rfl, argE (by (conv => lhs; whnf); all_goals rfl) rfl, trivial⟩ ⟨boxL rfl rfl rfl ⟨(.ni _ rfl), (.ni _ rfl), (.ni _ rfl), trivial⟩, trivial⟩⟩
                    · replace hL1 := cond_f hb_90 hL1
                      conv => whnf
                      refine ⟨by kernel_rfl, ?_⟩
                      conv => whnf
                      refine ⟨((k_27 + 1 : Nat) : Int), wrapE (by omega) (by omega) (by omega), ?_⟩
                      conv => whnf
                      exact ⟨(k_27 + 1, i_24, i_25), [0], [], [], ⟨hlt_k_27, hL1⟩, by show r_3.1.length - (k_27 + 1) < r_3.1.length - k_27; omega, wk_mk [0] [] [] rfl ⟨argE (by (conv => lhs; whnf); all_goals rfl) rfl, argE (by (conv => lhs; whnf); all_goals rfl) rfl, argE (by (conv => lhs; whnf); all_goals rfl) rfl, argP (id := 0) (by (conv => lhs; whnf); all_goals rfl) rfl, argE (by (conv => lhs; whnf); all_goals rfl) rfl, argE (by (conv => lhs; whnf); all_goals rfl) rfl, argE (by (conv => lhs; whnf); all_goals rfl) rfl, argE (by (conv => lhs; whnf); all_goals rfl) rfl, argE (by (conv => lhs; whnf); all_goals rfl) rfl, trivial⟩ ⟨boxL rfl rfl rfl ⟨(.ni _ rfl), (.ni _ rfl), (.ni _ rfl), trivial⟩, trivial⟩⟩
                  · replace hL1 := cond_f hb_89 hL1
                    conv => whnf
                    refine ⟨by kernel_rfl, ?_⟩
                    conv => whnf
                    refine ⟨((k_27 + 1 : Nat) : Int), wrapE (by omega) (by omega) (by omega), ?_⟩
                    conv => whnf
                    exact ⟨(k_27 + 1, i_24, i_25), [0], [], [], ⟨hlt_k_27, hL1⟩, by show r_3.1.length - (k_27 + 1) < r_3.1.length - k_27; omega, wk_mk [0] [] [] rfl ⟨argE (by (conv => lhs; whnf); all_goals rfl) rfl, argE (by (conv => lhs; whnf); all_goals rfl) rfl, argE (by (conv => lhs; whnf); all_goals rfl) rfl, argP (id := 0) (by (conv => lhs; whnf); all_goals rfl) rfl, argE (by (conv => lhs; whnf); all_goals rfl) rfl, argE (by (conv => lhs; whnf); all_goals rfl) rfl, argE (by (conv => lhs; whnf); all_goals rfl) rfl, argE (by (conv => lhs; whnf); all_goals rfl) rfl, argE (by (conv => lhs; whnf); all_goals rfl) rfl, trivial⟩ ⟨boxL rfl rfl rfl ⟨(.ni _ rfl), (.ni _ rfl), (.ni _ rfl), trivial⟩, trivial⟩⟩
                · rw [drop_nil (show r_3.1.length ≤ k_27 by have h := of_decide_eq_false h; omega), law24_ConnectWaits_L3.eq_1] at hL1
                  conv => whnf
                  obtain rfl := Option.some.inj hL1
                  replace hF := fin_brk hF
                  try dsimp only at hF
                  obtain ⟨e_34, h_e_34, hF⟩ := bind_some hF
                  refine ix_q (enc := encHoldRule) (l := r_5.1) h_e_34 rfl (fun m_e_34 hm_e_34 hx_e_34 => ?_)
                  conv => whnf
                  obtain ⟨e_35, h_e_35, hF⟩ := bind_some hF
                  refine ix_q (enc := encHoldRule) (l := r_5.1) h_e_35 rfl (fun m_e_35 hm_e_35 hx_e_35 => ?_)
                  conv => whnf
                  refine ⟨fun hb_99 => ?_, fun hb_99 => ?_⟩
                  · replace hF := cond_t hb_99 hF
                    conv => whnf
                    refine ⟨fun hb_100 => ?_, fun hb_100 => ?_⟩
                    · replace hF := cond_t hb_100 hF
                      conv => whnf
                      refine ⟨fun hb_101 => ?_, fun hb_101 => ?_⟩
                      · replace hF := cond_t hb_101 hF
                        conv => whnf
                        obtain ⟨r_36, h_r_36, hF⟩ := bind_some hF
                        refine ⟨_, _, _, _, _, _, _, _, _, callX false [] [] 0 Try.func18 (by decide) rfl (law24_awake_ac r_36 h_r_36) rfl trivial rfl trivial rfl rfl rfl lend0 trivial rfl, ?_⟩
                        conv => whnf
                        obtain rfl := Option.some.inj hF
                        exact ret_gz [] [] [] rfl (argE (by (conv => lhs; whnf); all_goals rfl) rfl) trivial
                      · replace hF := cond_f hb_101 hF
                        conv => whnf
                        obtain rfl := Option.some.inj hF
                        exact ret_gz [] [] [] rfl (argFl (by (conv => lhs; whnf); all_goals rfl)) trivial
                    · replace hF := cond_f hb_100 hF
                      conv => whnf
                      obtain rfl := Option.some.inj hF
                      exact ret_gz [] [] [] rfl (argFl (by (conv => lhs; whnf); all_goals rfl)) trivial
                  · replace hF := cond_f hb_99 hF
                    conv => whnf
                    refine ⟨fun hb_102 => ?_, fun hb_102 => ?_⟩
                    · replace hF := cond_t hb_102 hF
                      conv => whnf
                      refine ⟨fun hb_103 => ?_, fun hb_103 => ?_⟩
                      · replace hF := cond_t hb_103 hF
                        conv => whnf
                        obtain ⟨r_37, h_r_37, hF⟩ := bind_some hF
                        refine ⟨_, _, _, _, _, _, _, _, _, callX false [] [] 0 Try.func18 (by decide) rfl (law24_awake_ac r_37 h_r_37) rfl trivial rfl trivial rfl rfl rfl lend0 trivial rfl, ?_⟩
                        conv => whnf
                        obtain rfl := Option.some.inj hF
                        exact ret_gz [] [] [] rfl (argE (by (conv => lhs; whnf); all_goals rfl) rfl) trivial
                      · replace hF := cond_f hb_103 hF
                        conv => whnf
                        obtain rfl := Option.some.inj hF
                        exact ret_gz [] [] [] rfl (argFl (by (conv => lhs; whnf); all_goals rfl)) trivial
                    · replace hF := cond_f hb_102 hF
                      conv => whnf
                      obtain rfl := Option.some.inj hF
                      exact ret_gz [] [] [] rfl (argFl (by (conv => lhs; whnf); all_goals rfl)) trivial
            · replace hF := cond_t hb_87 hF
              conv => whnf
              refine ⟨by kernel_rfl, ?_⟩
              conv => whnf
              obtain rfl := Option.some.inj hF
              exact ret_gz [] [] [] rfl (argFl (by (conv => lhs; whnf); all_goals rfl)) trivial
        · replace hF := cond_t hb_83 hF
          conv => whnf
          obtain ⟨r_19, h_r_19, hF⟩ := bind_some hF
          refine ⟨_, _, _, _, _, _, _, _, _, callX false [] [] 0 Try.func25 (by decide) rfl (ref23_SamePlates_ac r_6.1.Left r_7.1.Left r_19 h_r_19) rfl ⟨(argE (by (conv => lhs; whnf); all_goals rfl) rfl), (argE (by (conv => lhs; whnf); all_goals rfl) rfl), trivial⟩ rfl trivial rfl rfl rfl lend0 trivial rfl, ?_⟩
          conv => whnf
          refine ⟨fun hb_84 => ?_, fun hb_84 => ?_⟩
          · replace hF := cond_t hb_84 hF
            conv => whnf
            obtain ⟨r_20, h_r_20, hF⟩ := bind_some hF
            refine ⟨_, _, _, _, _, _, _, _, _, callX false [] [] 0 Try.func18 (by decide) rfl (law24_awake_ac r_20 h_r_20) rfl trivial rfl trivial rfl rfl rfl lend0 trivial rfl, ?_⟩
            conv => whnf
            obtain rfl := Option.some.inj hF
            exact ret_gz [] [] [] rfl (argE (by (conv => lhs; whnf); all_goals rfl) rfl) trivial
          · replace hF := cond_f hb_84 hF
            conv => whnf
            obtain rfl := Option.some.inj hF
            exact ret_gz [] [] [] rfl (argFl (by (conv => lhs; whnf); all_goals rfl)) trivial
  · replace hF := cond_t hb_79 hF
    conv => whnf
    obtain rfl := Option.some.inj hF
    exact ret_gz [] [] [] rfl (argFl (by (conv => lhs; whnf); all_goals rfl)) trivial
end Go.Proofs.Ytkajegjghfbgaaa.Ex
