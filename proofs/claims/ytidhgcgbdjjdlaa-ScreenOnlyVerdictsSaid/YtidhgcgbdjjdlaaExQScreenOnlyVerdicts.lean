/- The functions of the program compute what was printed; walks printed by a program. -/
import Derived.Test.YtidhgcgbdjjdlaaExF
import Derived.Test.YtidhgcgbdjjdlaaAxJ
import Derived.Test.YtidhgcgbdjjdlaaExP1
import Derived.Test.YtidhgcgbdjjdlaaExP2
namespace Go.Proofs.Ytidhgcgbdjjdlaa.Ex
open Go.RowKit Go.Proofs.Ytidhgcgbdjjdlaa.Ax
set_option linter.unusedVariables false
set_option linter.unusedSimpArgs false
set_option maxRecDepth 100000 in
set_option maxHeartbeats 40000000 in
theorem law15_ScreenOnlyVerdicts_ac (x_0 : (List Int)) (r : Bool) (hF : law15_ScreenOnlyVerdicts x_0 = some r) : AC Try.prog 4 [.lst 1 (x_0.map iA)] [] (.bool r) [] := by
  refine ac_ofJ tab_ok follows_ok Try.func4 rfl Try.ntmps4 rfl ?_
  unfold law15_ScreenOnlyVerdicts at hF
  conv => whnf
  obtain ⟨r_1, h_r_1, hF⟩ := bind_some hF
  refine ⟨_, _, _, _, _, _, _, _, _, callX false [] [] 1 Try.func7 (by decide) rfl (keep_New_ac x_0 r_1 h_r_1) rfl ⟨(argE (by (conv => lhs; whnf); all_goals rfl) rfl), trivial⟩ rfl trivial rfl rfl rfl lend0 ⟨rfl, trivial⟩ rfl, ?_⟩
  conv => whnf
  obtain ⟨r_2, h_r_2, hF⟩ := bind_some hF
  refine ⟨_, _, _, _, _, _, _, _, _, callX false [0] [] 0 Try.func10 (by decide) rfl (keep_Src_N_ac r_1 (5 : Int) r_2 h_r_2) rfl ⟨(argP (id := 0) (by (conv => lhs; whnf); all_goals rfl) rfl), (argE (by (conv => lhs; whnf); all_goals rfl) rfl), trivial⟩ rfl ⟨rfl, trivial⟩ rfl rfl rfl lend0 ⟨rfl, trivial⟩ rfl, ?_⟩
  conv => whnf
  obtain ⟨r_3, h_r_3, hF⟩ := bind_some hF
  refine ⟨_, _, _, _, _, _, _, _, _, callX false [0] [] 0 Try.func10 (by decide) rfl (keep_Src_N_ac r_2.2 (5 : Int) r_3 h_r_3) rfl ⟨(argP (id := 0) (by (conv => lhs; whnf); all_goals rfl) rfl), (argE (by (conv => lhs; whnf); all_goals rfl) rfl), trivial⟩ rfl ⟨rfl, trivial⟩ rfl rfl rfl lend0 ⟨rfl, trivial⟩ rfl, ?_⟩
  conv => whnf
  obtain ⟨r_4, h_r_4, hF⟩ := bind_some hF
  refine ⟨_, _, _, _, _, _, _, _, _, callX false [0] [] 0 Try.func10 (by decide) rfl (keep_Src_N_ac r_3.2 (5 : Int) r_4 h_r_4) rfl ⟨(argP (id := 0) (by (conv => lhs; whnf); all_goals rfl) rfl), (argE (by (conv => lhs; whnf); all_goals rfl) rfl), trivial⟩ rfl ⟨rfl, trivial⟩ rfl rfl rfl lend0 ⟨rfl, trivial⟩ rfl, ?_⟩
  conv => whnf
  obtain ⟨r_5, h_r_5, hF⟩ := bind_some hF
  refine ⟨_, _, _, _, _, _, _, _, _, callX false [0] [] 0 Try.func10 (by decide) rfl (keep_Src_N_ac r_4.2 (5 : Int) r_5 h_r_5) rfl ⟨(argP (id := 0) (by (conv => lhs; whnf); all_goals rfl) rfl), (argE (by (conv => lhs; whnf); all_goals rfl) rfl), trivial⟩ rfl ⟨rfl, trivial⟩ rfl rfl rfl lend0 ⟨rfl, trivial⟩ rfl, ?_⟩
  conv => whnf
  obtain ⟨r_6, h_r_6, hF⟩ := bind_some hF
  refine ⟨_, _, _, _, _, _, _, _, _, callX false [] [] 0 Try.func8 (by decide) rfl (screen_New_ac (⟨r_2.1, r_3.1, r_4.1, r_5.1⟩ : A4_Int) r_6 h_r_6) rfl ⟨(argE (by (conv => lhs; whnf); all_goals rfl) rfl), trivial⟩ rfl trivial rfl rfl rfl lend0 trivial rfl, ?_⟩
  conv => whnf
  refine ⟨fun hb_1300 => ?_, fun hb_1300 => ?_⟩
  · replace hF := cond_t hb_1300 hF
    conv => whnf
    obtain rfl := Option.some.inj hF
    exact ret_gz [] [] [] rfl (argFl (by (conv => lhs; whnf); all_goals rfl)) trivial
  · replace hF := cond_f hb_1300 hF
    conv => whnf
    refine sw_blk tab_ok follows_ok ?_
    conv => whnf
    obtain ⟨c_1, hc_1, hF⟩ := fin_some hF
    refine sw_loopJ tab_ok follows_ok (fun y : Nat × (List Int) × Int × Int × Int × Int × Int × Int × (List Check) × Int × Int => law15_ScreenOnlyVerdicts_L1 y.1 y.2.1 y.2.2.1 y.2.2.2.1 y.2.2.2.2.1 y.2.2.2.2.2.1 y.2.2.2.2.2.2.1 y.2.2.2.2.2.2.2.1 y.2.2.2.2.2.2.2.2.1 y.2.2.2.2.2.2.2.2.2.1 y.2.2.2.2.2.2.2.2.2.2 = some c_1) (fun y => ⟨eL [(3, .ptr 0 0), (4, .ptr 1 0), (6, .int .i64 y.2.2.2.2.2.2.2.2.2.1), (7, .int .i64 y.2.2.2.2.2.2.2.2.2.2)], hL [(0, .box [.lst 1 (y.2.1.map iA), .int .i64 y.2.2.1]), (1, .box [.int .i64 y.2.2.2.1, .int .i64 y.2.2.2.2.1, .int .i64 y.2.2.2.2.2.1, .int .i64 y.2.2.2.2.2.2.1, .int .i64 y.2.2.2.2.2.2.2.1, .lst 5 (y.2.2.2.2.2.2.2.2.1.map encCheck)])], 2⟩) (fun y => y.1) (9223372036854775807, r_5.2.L, r_5.2.At, r_6.1.Limits.e0, r_6.1.Limits.e1, r_6.1.Limits.e2, r_6.1.Limits.e3, r_6.1.Next, r_6.1.L, (0 : Int), (0 : Int)) hc_1 (wk_mk [0, 7] [] [] rfl ⟨argP (id := 0) (by (conv => lhs; whnf); all_goals rfl) rfl, argP (id := 7) (by (conv => lhs; whnf); all_goals rfl) rfl, argE (by (conv => lhs; whnf); all_goals rfl) rfl, argE (by (conv => lhs; whnf); all_goals rfl) rfl, trivial⟩ ⟨boxL rfl rfl rfl ⟨(.ni _ rfl), (.ni _ rfl), trivial⟩, boxL rfl rfl rfl ⟨(.ni _ rfl), (.ni _ rfl), (.ni _ rfl), (.ni _ rfl), (.ni _ rfl), (.ni _ rfl), trivial⟩, trivial⟩) ?_
    rintro ⟨q_130, a_7, i_8, i_9, i_10, i_11, i_12, i_13, a_14, i_15, i_16⟩ hL1
    try dsimp only at hL1
    rcases q_130 with _ | q_130
    · rw [law15_ScreenOnlyVerdicts_L1.eq_1] at hL1
      cases hL1
    rw [law15_ScreenOnlyVerdicts_L1.eq_2] at hL1
    show awpJ _ _ _ _ _ _ ⟨eL [(3, .ptr 0 0), (4, .ptr 1 0), (6, .int .i64 i_15), (7, .int .i64 i_16)], hL [(0, .box [.lst 1 (a_7.map iA), .int .i64 i_8]), (1, .box [.int .i64 i_9, .int .i64 i_10, .int .i64 i_11, .int .i64 i_12, .int .i64 i_13, .lst 5 (a_14.map encCheck)])], 2⟩
    conv => whnf
    refine ⟨fun hb_1301 => ?_, fun hb_1301 => ?_⟩
    · replace hL1 := cond_t hb_1301 hL1
      conv => whnf
      refine ⟨fun hb_1302 => ?_, fun hb_1302 => ?_⟩
      · replace hL1 := cond_f hb_1302 hL1
        conv => whnf
        obtain ⟨r_73, h_r_73, hL1⟩ := bind_some hL1
        refine ⟨_, _, _, _, _, _, _, _, _, callX false [] [0] 0 Try.func9 (by decide) rfl (keep_Src_More_ac (⟨a_7, i_8⟩ : Src) r_73 h_r_73) rfl ⟨(argIb 0 _ (by (conv => lhs; whnf); all_goals rfl) rfl rfl rfl rfl), trivial⟩ rfl trivial rfl rfl rfl (lendF rfl) trivial rfl, ?_⟩
        conv => whnf
        refine ⟨fun hb_1360 => ?_, fun hb_1360 => ?_⟩
        · replace hL1 := cond_t hb_1360 hL1
          conv => whnf
          refine sw_blk tab_ok follows_ok ?_
          conv => whnf
          obtain ⟨r_74, h_r_74, hL1⟩ := bind_some hL1
          refine ⟨_, _, _, _, _, _, _, _, _, callX false [0] [] 0 Try.func10 (by decide) rfl (keep_Src_N_ac (⟨a_7, i_8⟩ : Src) (4 : Int) r_74 h_r_74) rfl ⟨(argP (id := 0) (by (conv => lhs; whnf); all_goals rfl) rfl), (argE (by (conv => lhs; whnf); all_goals rfl) rfl), trivial⟩ rfl ⟨rfl, trivial⟩ rfl rfl rfl lend0 ⟨rfl, trivial⟩ rfl, ?_⟩
          conv => whnf
          refine ⟨_, rfl, ?_⟩
          conv => whnf
          obtain ⟨r_75, h_r_75, hL1⟩ := bind_some hL1
          refine ⟨_, _, _, _, _, _, _, _, _, callX false [0] [] 0 Try.func10 (by decide) rfl (keep_Src_N_ac r_74.2 (4 : Int) r_75 h_r_75) rfl ⟨(argP (id := 0) (by (conv => lhs; whnf); all_goals rfl) rfl), (argE (by (conv => lhs; whnf); all_goals rfl) rfl), trivial⟩ rfl ⟨rfl, trivial⟩ rfl rfl rfl lend0 ⟨rfl, trivial⟩ rfl, ?_⟩
          conv => whnf
          obtain ⟨D_1361, cJ_1361, hJ_1361, hB_1361, hD_1361, hR_1361⟩ := sub_join hL1
          refine sw_blkj tab_ok follows_ok (fun y : (List Int) × Int × Int × Int × Int × Int × Int × (List Check) × Int × Bool => ⟨eL [(3, .ptr 0 0), (4, .ptr 1 0), (6, .int .i64 (w64 (i_15 + r_74.1))), (7, .int .i64 i_16), (8, .ptr 2 0), (9, .int .i64 y.2.2.2.2.2.2.2.2.1), (10, .bool y.2.2.2.2.2.2.2.2.2)], hL [(0, .box [.lst 1 (y.1.map iA), .int .i64 y.2.1]), (1, .box [.int .i64 y.2.2.1, .int .i64 y.2.2.2.1, .int .i64 y.2.2.2.2.1, .int .i64 y.2.2.2.2.2.1, .int .i64 y.2.2.2.2.2.2.1, .lst 5 (y.2.2.2.2.2.2.2.1.map encCheck)]), (2, .box [.int .i64 i_9, .int .i64 i_10, .int .i64 i_11, .int .i64 i_12, .int .i64 i_13, .lst 5 (a_14.map encCheck)])], 3⟩) D_1361 ?_ ?_
          · conv => whnf
            refine ⟨fun hb_1362 => ?_, fun hb_1362 => ?_⟩
            · replace hJ_1361 := cond_t hb_1362 hJ_1361
              conv => whnf
              obtain ⟨r_76, h_r_76, hJ_1361⟩ := bind_some hJ_1361
              refine ⟨_, _, _, _, _, _, _, _, _, callX false [0] [] 0 Try.func12 (by decide) rfl (keep_Src_Range_ac r_75.2 (1 : Int) (5 : Int) r_76 h_r_76) rfl ⟨(argP (id := 0) (by (conv => lhs; whnf); all_goals rfl) rfl), (argE (by (conv => lhs; whnf); all_goals rfl) rfl), (argE (by (conv => lhs; whnf); all_goals rfl) rfl), trivial⟩ rfl ⟨rfl, trivial⟩ rfl rfl rfl lend0 ⟨rfl, trivial⟩ rfl, ?_⟩
              conv => whnf
              obtain ⟨r_77, h_r_77, hJ_1361⟩ := bind_some hJ_1361
              refine ⟨_, _, _, _, _, _, _, _, _, callX false [] [] 0 Try.func11 (by decide) rfl (screen_Start_ac (⟨(⟨i_9, i_10, i_11, i_12⟩ : A4_Int), i_13, a_14⟩ : Screening) r_76.1 (w64 (i_15 + r_74.1)) r_77 h_r_77) rfl ⟨(argE (by (conv => lhs; whnf); all_goals rfl) rfl), (argE (by (conv => lhs; whnf); all_goals rfl) rfl), (argE (by (conv => lhs; whnf); all_goals rfl) rfl), trivial⟩ rfl trivial rfl rfl rfl lend0 trivial rfl, ?_⟩
              conv => whnf
              refine ⟨by kernel_rfl, ?_⟩
              conv => whnf
              refine ⟨fun hb_1363 => ?_, fun hb_1363 => ?_⟩
              · replace hJ_1361 := cond_t hb_1363 hJ_1361
                conv => whnf
                obtain rfl := Option.some.inj hJ_1361
                exact ⟨(r_76.2.L, r_76.2.At, r_77.1.Limits.e0, r_77.1.Limits.e1, r_77.1.Limits.e2, r_77.1.Limits.e3, r_77.1.Next, r_77.1.L, (0 : Int), false), [0, 1, 4], [], [], hB_1361 _ rfl, wk_mk [0, 1, 4] [] [] rfl ⟨argP (id := 0) (by (conv => lhs; whnf); all_goals rfl) rfl, argP (id := 1) (by (conv => lhs; whnf); all_goals rfl) rfl, argE (by (conv => lhs; whnf); all_goals rfl) rfl, argE (by (conv => lhs; whnf); all_goals rfl) rfl, argP (id := 4) (by (conv => lhs; whnf); all_goals rfl) rfl, argE (by (conv => lhs; whnf); all_goals rfl) rfl, argFl (by (conv => lhs; whnf); all_goals rfl), trivial⟩ ⟨boxL rfl rfl rfl ⟨(.ni _ rfl), (.ni _ rfl), trivial⟩, boxL rfl rfl rfl ⟨(.ni _ rfl), (.ni _ rfl), (.ni _ rfl), (.ni _ rfl), (.ni _ rfl), (.ni _ rfl), trivial⟩, boxL rfl rfl rfl ⟨(.ni _ rfl), (.ni _ rfl), (.ni _ rfl), (.ni _ rfl), (.ni _ rfl), (.ni _ rfl), trivial⟩, trivial⟩⟩
              · replace hJ_1361 := cond_f hb_1363 hJ_1361
                conv => whnf
                obtain rfl := Option.some.inj hJ_1361
                exact ⟨(r_76.2.L, r_76.2.At, i_9, i_10, i_11, i_12, i_13, a_14, (0 : Int), false), [0, 1, 4], [], [], hB_1361 _ rfl, wk_mk [0, 1, 4] [] [] rfl ⟨argP (id := 0) (by (conv => lhs; whnf); all_goals rfl) rfl, argP (id := 1) (by (conv => lhs; whnf); all_goals rfl) rfl, argE (by (conv => lhs; whnf); all_goals rfl) rfl, argE (by (conv => lhs; whnf); all_goals rfl) rfl, argP (id := 4) (by (conv => lhs; whnf); all_goals rfl) rfl, argE (by (conv => lhs; whnf); all_goals rfl) rfl, argFl (by (conv => lhs; whnf); all_goals rfl), trivial⟩ ⟨boxL rfl rfl rfl ⟨(.ni _ rfl), (.ni _ rfl), trivial⟩, boxL rfl rfl rfl ⟨(.ni _ rfl), (.ni _ rfl), (.ni _ rfl), (.ni _ rfl), (.ni _ rfl), (.ni _ rfl), trivial⟩, boxL rfl rfl rfl ⟨(.ni _ rfl), (.ni _ rfl), (.ni _ rfl), (.ni _ rfl), (.ni _ rfl), (.ni _ rfl), trivial⟩, trivial⟩⟩
            · replace hJ_1361 := cond_f hb_1362 hJ_1361
              conv => whnf
              refine ⟨fun hb_1364 => ?_, fun hb_1364 => ?_⟩
              · replace hJ_1361 := cond_t hb_1364 hJ_1361
                conv => whnf
                obtain ⟨r_78, h_r_78, hJ_1361⟩ := bind_some hJ_1361
                refine ⟨_, _, _, _, _, _, _, _, _, callX false [] [] 0 Try.func13 (by decide) rfl (screen_Expire_ac (⟨(⟨i_9, i_10, i_11, i_12⟩ : A4_Int), i_13, a_14⟩ : Screening) (w64 (i_15 + r_74.1)) r_78 h_r_78) rfl ⟨(argE (by (conv => lhs; whnf); all_goals rfl) rfl), (argE (by (conv => lhs; whnf); all_goals rfl) rfl), trivial⟩ rfl trivial rfl rfl rfl lend0 trivial rfl, ?_⟩
                conv => whnf
                refine ⟨fun hb_1365 => ?_, fun hb_1365 => ?_⟩
                · replace hJ_1361 := cond_t hb_1365 hJ_1361
                  conv => whnf
                  obtain rfl := Option.some.inj hJ_1361
                  replace hL1 := hR_1361 _ rfl
                  obtain rfl := Option.some.inj hL1
                  replace hF := fin_ret hF
                  obtain rfl := Option.some.inj hF
                  exact ret_gz [] [] [] rfl (argFl (by (conv => lhs; whnf); all_goals rfl)) trivial
                · replace hJ_1361 := cond_f hb_1365 hJ_1361
                  conv => whnf
                  obtain rfl := Option.some.inj hJ_1361
                  exact ⟨(r_75.2.L, r_75.2.At, r_78.1.Limits.e0, r_78.1.Limits.e1, r_78.1.Limits.e2, r_78.1.Limits.e3, r_78.1.Next, r_78.1.L, (0 : Int), false), [0, 1, 4], [], [], hB_1361 _ rfl, wk_mk [0, 1, 4] [] [] rfl ⟨argP (id := 0) (by (conv => lhs; whnf); all_goals rfl) rfl, argP (id := 1) (by (conv => lhs; whnf); all_goals rfl) rfl, argE (by (conv => lhs; whnf); all_goals rfl) rfl, argE (by (conv => lhs; whnf); all_goals rfl) rfl, argP (id := 4) (by (conv => lhs; whnf); all_goals rfl) rfl, argE (by (conv => lhs; whnf); all_goals rfl) rfl, argFl (by (conv => lhs; whnf); all_goals rfl), trivial⟩ ⟨boxL rfl rfl rfl ⟨(.ni _ rfl), (.ni _ rfl), trivial⟩, boxL rfl rfl rfl ⟨(.ni _ rfl), (.ni _ rfl), (.ni _ rfl), (.ni _ rfl), (.ni _ rfl), (.ni _ rfl), trivial⟩, boxL rfl rfl rfl ⟨(.ni _ rfl), (.ni _ rfl), (.ni _ rfl), (.ni _ rfl), (.ni _ rfl), (.ni _ rfl), trivial⟩, trivial⟩⟩
              · replace hJ_1361 := cond_f hb_1364 hJ_1361
                conv => whnf
                obtain ⟨r_79, h_r_79, hJ_1361⟩ := bind_some hJ_1361
                refine ⟨_, _, _, _, _, _, _, _, _, callX false [0] [] 0 Try.func10 (by decide) rfl (keep_Src_N_ac r_75.2 (12 : Int) r_79 h_r_79) rfl ⟨(argP (id := 0) (by (conv => lhs; whnf); all_goals rfl) rfl), (argE (by (conv => lhs; whnf); all_goals rfl) rfl), trivial⟩ rfl ⟨rfl, trivial⟩ rfl rfl rfl lend0 ⟨rfl, trivial⟩ rfl, ?_⟩
                conv => whnf
                obtain ⟨r_80, h_r_80, hJ_1361⟩ := bind_some hJ_1361
                refine ⟨_, _, _, _, _, _, _, _, _, callX false [0] [] 0 Try.func10 (by decide) rfl (keep_Src_N_ac r_79.2 (2 : Int) r_80 h_r_80) rfl ⟨(argP (id := 0) (by (conv => lhs; whnf); all_goals rfl) rfl), (argE (by (conv => lhs; whnf); all_goals rfl) rfl), trivial⟩ rfl ⟨rfl, trivial⟩ rfl rfl rfl lend0 ⟨rfl, trivial⟩ rfl, ?_⟩
                conv => whnf
                obtain ⟨r_81, h_r_81, hJ_1361⟩ := bind_some hJ_1361
                refine ⟨_, _, _, _, _, _, _, _, _, callX false [] [] 0 Try.func14 (by decide) rfl (screen_Verdict_ac (⟨(⟨i_9, i_10, i_11, i_12⟩ : A4_Int), i_13, a_14⟩ : Screening) r_79.1 (r_80.1 == (0 : Int)) (w64 (i_15 + r_74.1)) r_81 h_r_81) rfl ⟨(argE (by (conv => lhs; whnf); all_goals rfl) rfl), (argE (by (conv => lhs; whnf); all_goals rfl) rfl), (argE (by (conv => lhs; whnf); all_goals rfl) rfl), (argE (by (conv => lhs; whnf); all_goals rfl) rfl), trivial⟩ rfl trivial rfl rfl rfl lend0 trivial rfl, ?_⟩
                conv => whnf
                refine ⟨fun hb_1366 => ?_, fun hb_1366 => ?_⟩
                · replace hJ_1361 := cond_t hb_1366 hJ_1361
                  conv => whnf
                  obtain rfl := Option.some.inj hJ_1361
                  exact ⟨(r_80.2.L, r_80.2.At, r_81.1.Limits.e0, r_81.1.Limits.e1, r_81.1.Limits.e2, r_81.1.Limits.e3, r_81.1.Next, r_81.1.L, r_79.1, (r_80.1 == (0 : Int))), [0, 1, 4], [], [], hB_1361 _ rfl, wk_mk [0, 1, 4] [] [] rfl ⟨argP (id := 0) (by (conv => lhs; whnf); all_goals rfl) rfl, argP (id := 1) (by (conv => lhs; whnf); all_goals rfl) rfl, argE (by (conv => lhs; whnf); all_goals rfl) rfl, argE (by (conv => lhs; whnf); all_goals rfl) rfl, argP (id := 4) (by (conv => lhs; whnf); all_goals rfl) rfl, argE (by (conv => lhs; whnf); all_goals rfl) rfl, argE (by (conv => lhs; whnf); all_goals rfl) rfl, trivial⟩ ⟨boxL rfl rfl rfl ⟨(.ni _ rfl), (.ni _ rfl), trivial⟩, boxL rfl rfl rfl ⟨(.ni _ rfl), (.ni _ rfl), (.ni _ rfl), (.ni _ rfl), (.ni _ rfl), (.ni _ rfl), trivial⟩, boxL rfl rfl rfl ⟨(.ni _ rfl), (.ni _ rfl), (.ni _ rfl), (.ni _ rfl), (.ni _ rfl), (.ni _ rfl), trivial⟩, trivial⟩⟩
                · replace hJ_1361 := cond_f hb_1366 hJ_1361
                  conv => whnf
                  obtain rfl := Option.some.inj hJ_1361
                  exact ⟨(r_80.2.L, r_80.2.At, i_9, i_10, i_11, i_12, i_13, a_14, r_79.1, (r_80.1 == (0 : Int))), [0, 1, 4], [], [], hB_1361 _ rfl, wk_mk [0, 1, 4] [] [] rfl ⟨argP (id := 0) (by (conv => lhs; whnf); all_goals rfl) rfl, argP (id := 1) (by (conv => lhs; whnf); all_goals rfl) rfl, argE (by (conv => lhs; whnf); all_goals rfl) rfl, argE (by (conv => lhs; whnf); all_goals rfl) rfl, argP (id := 4) (by (conv => lhs; whnf); all_goals rfl) rfl, argE (by (conv => lhs; whnf); all_goals rfl) rfl, argE (by (conv => lhs; whnf); all_goals rfl) rfl, trivial⟩ ⟨boxL rfl rfl rfl ⟨(.ni _ rfl), (.ni _ rfl), trivial⟩, boxL rfl rfl rfl ⟨(.ni _ rfl), (.ni _ rfl), (.ni _ rfl), (.ni _ rfl), (.ni _ rfl), (.ni _ rfl), trivial⟩, boxL rfl rfl rfl ⟨(.ni _ rfl), (.ni _ rfl), (.ni _ rfl), (.ni _ rfl), (.ni _ rfl), (.ni _ rfl), trivial⟩, trivial⟩⟩
          · rintro z_92 hx_1361
            replace hL1 := hD_1361 _ hx_1361
            try dsimp only at hL1
            conv => whnf
            refine sw_blk tab_ok follows_ok ?_
            conv => whnf
            obtain ⟨c_2, hc_2, hL1⟩ := sub_some hL1
            refine sw_loopJ tab_ok follows_ok (fun y : Nat × Int => law15_ScreenOnlyVerdicts_L2 i_9 i_10 i_11 i_12 i_13 a_14 i_15 r_74 z_92 y.1 y.2 = some c_2) (fun y => ⟨eL [(3, .ptr 0 0), (4, .ptr 1 0), (6, .int .i64 (w64 (i_15 + r_74.1))), (7, .int .i64 i_16), (8, .ptr 2 0), (9, .int .i64 z_92.2.2.2.2.2.2.2.2.1), (10, .bool z_92.2.2.2.2.2.2.2.2.2), (18, .int .i64 y.2)], hL [(0, .box [.lst 1 (z_92.1.map iA), .int .i64 z_92.2.1]), (1, .box [.int .i64 z_92.2.2.1, .int .i64 z_92.2.2.2.1, .int .i64 z_92.2.2.2.2.1, .int .i64 z_92.2.2.2.2.2.1, .int .i64 z_92.2.2.2.2.2.2.1, .lst 5 (z_92.2.2.2.2.2.2.2.1.map encCheck)]), (2, .box [.int .i64 i_9, .int .i64 i_10, .int .i64 i_11, .int .i64 i_12, .int .i64 i_13, .lst 5 (a_14.map encCheck)])], 3⟩) (fun y => y.1) (9223372036854775807, (1 : Int)) hc_2 (wk_mk [0, 1, 2] [] [] rfl ⟨argP (id := 0) (by (conv => lhs; whnf); all_goals rfl) rfl, argP (id := 1) (by (conv => lhs; whnf); all_goals rfl) rfl, argE (by (conv => lhs; whnf); all_goals rfl) rfl, argE (by (conv => lhs; whnf); all_goals rfl) rfl, argP (id := 2) (by (conv => lhs; whnf); all_goals rfl) rfl, argE (by (conv => lhs; whnf); all_goals rfl) rfl, argE (by (conv => lhs; whnf); all_goals rfl) rfl, argE (by (conv => lhs; whnf); all_goals rfl) rfl, trivial⟩ ⟨boxL rfl rfl rfl ⟨(.ni _ rfl), (.ni _ rfl), trivial⟩, boxL rfl rfl rfl ⟨(.ni _ rfl), (.ni _ rfl), (.ni _ rfl), (.ni _ rfl), (.ni _ rfl), (.ni _ rfl), trivial⟩, boxL rfl rfl rfl ⟨(.ni _ rfl), (.ni _ rfl), (.ni _ rfl), (.ni _ rfl), (.ni _ rfl), (.ni _ rfl), trivial⟩, trivial⟩) ?_
            rintro ⟨q_128, i_93⟩ hL2
            try dsimp only at hL2
            rcases q_128 with _ | q_128
            · rw [law15_ScreenOnlyVerdicts_L2.eq_1] at hL2
              cases hL2
            rw [law15_ScreenOnlyVerdicts_L2.eq_2] at hL2
            show awpJ _ _ _ _ _ _ ⟨eL [(3, .ptr 0 0), (4, .ptr 1 0), (6, .int .i64 (w64 (i_15 + r_74.1))), (7, .int .i64 i_16), (8, .ptr 2 0), (9, .int .i64 z_92.2.2.2.2.2.2.2.2.1), (10, .bool z_92.2.2.2.2.2.2.2.2.2), (18, .int .i64 i_93)], hL [(0, .box [.lst 1 (z_92.1.map iA), .int .i64 z_92.2.1]), (1, .box [.int .i64 z_92.2.2.1, .int .i64 z_92.2.2.2.1, .int .i64 z_92.2.2.2.2.1, .int .i64 z_92.2.2.2.2.2.1, .int .i64 z_92.2.2.2.2.2.2.1, .lst 5 (z_92.2.2.2.2.2.2.2.1.map encCheck)]), (2, .box [.int .i64 i_9, .int .i64 i_10, .int .i64 i_11, .int .i64 i_12, .int .i64 i_13, .lst 5 (a_14.map encCheck)])], 3⟩
            conv => whnf
            refine ⟨fun hb_1367 => ?_, fun hb_1367 => ?_⟩
            · replace hL2 := cond_t hb_1367 hL2
              conv => whnf
              refine sw_blk tab_ok follows_ok ?_
              conv => whnf
              obtain ⟨r_94, h_r_94, hL2⟩ := bind_some hL2
              refine ⟨_, _, _, _, _, _, _, _, _, callX false [] [] 0 Try.func16 (by decide) rfl (screen_Find_ac (⟨(⟨i_9, i_10, i_11, i_12⟩ : A4_Int), i_13, a_14⟩ : Screening) i_93 r_94 h_r_94) rfl ⟨(argE (by (conv => lhs; whnf); all_goals rfl) rfl), (argE (by (conv => lhs; whnf); all_goals rfl) rfl), trivial⟩ rfl trivial rfl rfl rfl lend0 trivial rfl, ?_⟩
              conv => whnf
              obtain ⟨r_95, h_r_95, hL2⟩ := bind_some hL2
              refine ⟨_, _, _, _, _, _, _, _, _, callX false [] [] 0 Try.func16 (by decide) rfl (screen_Find_ac (⟨(⟨z_92.2.2.1, z_92.2.2.2.1, z_92.2.2.2.2.1, z_92.2.2.2.2.2.1⟩ : A4_Int), z_92.2.2.2.2.2.2.1, z_92.2.2.2.2.2.2.2.1⟩ : Screening) i_93 r_95 h_r_95) rfl ⟨(argE (by (conv => lhs; whnf); all_goals rfl) rfl), (argE (by (conv => lhs; whnf); all_goals rfl) rfl), trivial⟩ rfl trivial rfl rfl rfl lend0 trivial rfl, ?_⟩
              conv => whnf
              refine ⟨fun hb_1368 => ?_, fun hb_1368 => ?_⟩
              · replace hL2 := cond_t hb_1368 hL2
                conv => whnf
                refine ⟨fun hb_1369 => ?_, fun hb_1369 => ?_⟩
                · replace hL2 := cond_f hb_1369 hL2
                  conv => whnf
                  refine ⟨fun h => ?_, fun h => ?_⟩
                  · conv => whnf
                    refine ⟨fun hb_1370 => ?_, fun hb_1370 => ?_⟩
                    · replace hL2 := cond_t hb_1370 hL2
                      conv => whnf
                      refine ⟨fun hb_1371 => ?_, fun hb_1371 => ?_⟩
                      · replace hL2 := cond_t hb_1371 hL2
                        conv => whnf
                        obtain rfl := Option.some.inj hL2
                        replace hL1 := sub_ret hL1
                        obtain rfl := Option.some.inj hL1
                        replace hF := fin_ret hF
                        obtain rfl := Option.some.inj hF
                        exact ret_gz [] [] [] rfl (argFl (by (conv => lhs; whnf); all_goals rfl)) trivial
                      · replace hL2 := cond_f hb_1371 hL2
                        conv => whnf
                        refine ⟨fun hb_1372 => ?_, fun hb_1372 => ?_⟩
                        · replace hL2 := cond_t hb_1372 hL2
                          conv => whnf
                          refine ⟨fun hb_1373 => ?_, fun hb_1373 => ?_⟩
                          · replace hL2 := cond_t hb_1373 hL2
                            conv => whnf
                            refine ⟨fun h => ?_, fun h => ?_⟩
                            · conv => whnf
                              refine ⟨fun hb_1374 => ?_, fun hb_1374 => ?_⟩
                              · replace hL2 := cond_t hb_1374 hL2
                                conv => whnf
                                refine ⟨fun h => ?_, fun h => ?_⟩
                                · conv => whnf
                                  refine ⟨fun hb_1375 => ?_, fun hb_1375 => ?_⟩
                                  · replace hL2 := cond_f hb_1375 hL2
                                    conv => whnf
                                    refine ⟨fun hb_1376 => ?_, fun hb_1376 => ?_⟩
                                    · replace hL2 := cond_f hb_1376 hL2
                                      conv => whnf
                                      refine ⟨fun hb_1377 => ?_, fun hb_1377 => ?_⟩
                                      · replace hL2 := cond_f hb_1377 hL2
                                        conv => whnf
                                        refine ⟨_, rfl, ?_⟩
                                        conv => whnf
                                        refine (Bool.eq_false_or_eq_true ((w64 (r_94.1.Level - (1 : Int))) == (0 : Int))).elim (fun hi_1378 => ?_) (fun hi_1378 => ?_)
                                        · replace hL2 := cond_t hi_1378 hL2
                                          refine ⟨0, eq_of_beq hi_1378, by decide, ?_⟩
                                          conv => whnf
                                          refine ⟨_, rfl, ?_⟩
                                          conv => whnf
                                          refine ⟨by kernel_rfl, ?_⟩
                                          conv => whnf
                                          refine ⟨fun hb_1379 => ?_, fun hb_1379 => ?_⟩
                                          · replace hL2 := cond_t hb_1379 hL2
                                            conv => whnf
                                            obtain rfl := Option.some.inj hL2
                                            replace hL1 := sub_ret hL1
                                            obtain rfl := Option.some.inj hL1
                                            replace hF := fin_ret hF
                                            obtain rfl := Option.some.inj hF
                                            exact ret_gz [] [] [] rfl (argFl (by (conv => lhs; whnf); all_goals rfl)) trivial
                                          · replace hL2 := cond_f hb_1379 hL2
                                            conv => whnf
                                            obtain ⟨r_96, h_r_96, hL2⟩ := bind_some hL2
                                            refine ⟨_, _, _, _, _, _, _, _, _, callX false [] [] 0 Try.func18 (by decide) rfl (screen_Cleared_ac (⟨(⟨z_92.2.2.1, z_92.2.2.2.1, z_92.2.2.2.2.1, z_92.2.2.2.2.2.1⟩ : A4_Int), z_92.2.2.2.2.2.2.1, z_92.2.2.2.2.2.2.2.1⟩ : Screening) r_96 h_r_96) rfl ⟨(argE (by (conv => lhs; whnf); all_goals rfl) rfl), trivial⟩ rfl trivial rfl rfl rfl lend0 trivial rfl, ?_⟩
                                            conv => whnf
                                            obtain ⟨r_97, h_r_97, hL2⟩ := bind_some hL2
                                            refine ⟨_, _, _, _, _, _, _, _, _, callX false [] [] 0 Try.func17 (by decide) rfl (keep_In_ac r_96 i_93 r_97 h_r_97) rfl ⟨(argE (by (conv => lhs; whnf); all_goals rfl) rfl), (argE (by (conv => lhs; whnf); all_goals rfl) rfl), trivial⟩ rfl trivial rfl rfl rfl lend0 trivial rfl, ?_⟩
                                            conv => whnf
                                            refine ⟨fun h => ?_, fun h => ?_⟩
                                            · conv => whnf
                                              refine ⟨fun hb_1380 => ?_, fun hb_1380 => ?_⟩
                                              · replace hL2 := cond_t hb_1380 hL2
                                                conv => whnf
                                                obtain rfl := Option.some.inj hL2
                                                replace hL1 := sub_ret hL1
                                                obtain rfl := Option.some.inj hL1
                                                replace hF := fin_ret hF
                                                obtain rfl := Option.some.inj hF
                                                exact ret_gz [] [] [] rfl (argFl (by (conv => lhs; whnf); all_goals rfl)) trivial
                                              · replace hL2 := cond_f hb_1380 hL2
                                                conv => whnf
                                                refine ⟨_, rfl, ?_⟩
                                                conv => whnf
                                                exact ⟨(q_128, (w64 (i_93 + (1 : Int)))), [0, 1, 2], [], [], hL2, Nat.lt_succ_self _, wk_mk [0, 1, 2] [] [] rfl ⟨argP (id := 0) (by (conv => lhs; whnf); all_goals rfl) rfl, argP (id := 1) (by (conv => lhs; whnf); all_goals rfl) rfl, argE (by (conv => lhs; whnf); all_goals rfl) rfl, argE (by (conv => lhs; whnf); all_goals rfl) rfl, argP (id := 2) (by (conv => lhs; whnf); all_goals rfl) rfl, argE (by (conv => lhs; whnf); all_goals rfl) rfl, argE (by (conv => lhs; whnf); all_goals rfl) rfl, argE (by (conv => lhs; whnf); all_goals rfl) rfl, trivial⟩ ⟨boxL rfl rfl rfl ⟨(.ni _ rfl), (.ni _ rfl), trivial⟩, boxL rfl rfl rfl ⟨(.ni _ rfl), (.ni _ rfl), (.ni _ rfl), (.ni _ rfl), (.ni _ rfl), (.ni _ rfl), trivial⟩, boxL rfl rfl rfl ⟨(.ni _ rfl), (.ni _ rfl), (.ni _ rfl), (.ni _ rfl), (.ni _ rfl), (.ni _ rfl), trivial⟩, trivial⟩⟩
                                            · cases (hb_1372).symm.trans h
                                        · replace hL2 := cond_f hi_1378 hL2
                                          refine (Bool.eq_false_or_eq_true ((w64 (r_94.1.Level - (1 : Int))) == (1 : Int))).elim (fun hi_1381 => ?_) (fun hi_1381 => ?_)
                                          · replace hL2 := cond_t hi_1381 hL2
                                            refine ⟨1, eq_of_beq hi_1381, by decide, ?_⟩
                                            conv => whnf
                                            refine ⟨_, rfl, ?_⟩
                                            conv => whnf
                                            refine ⟨by kernel_rfl, ?_⟩
                                            conv => whnf
                                            refine ⟨fun hb_1382 => ?_, fun hb_1382 => ?_⟩
                                            · replace hL2 := cond_t hb_1382 hL2
                                              conv => whnf
                                              obtain rfl := Option.some.inj hL2
                                              replace hL1 := sub_ret hL1
                                              obtain rfl := Option.some.inj hL1
                                              replace hF := fin_ret hF
                                              obtain rfl := Option.some.inj hF
                                              exact ret_gz [] [] [] rfl (argFl (by (conv => lhs; whnf); all_goals rfl)) trivial
                                            · replace hL2 := cond_f hb_1382 hL2
                                              conv => whnf
                                              obtain ⟨r_98, h_r_98, hL2⟩ := bind_some hL2
                                              refine ⟨_, _, _, _, _, _, _, _, _, callX false [] [] 0 Try.func18 (by decide) rfl (screen_Cleared_ac (⟨(⟨z_92.2.2.1, z_92.2.2.2.1, z_92.2.2.2.2.1, z_92.2.2.2.2.2.1⟩ : A4_Int), z_92.2.2.2.2.2.2.1, z_92.2.2.2.2.2.2.2.1⟩ : Screening) r_98 h_r_98) rfl ⟨(argE (by (conv => lhs; whnf); all_goals rfl) rfl), trivial⟩ rfl trivial rfl rfl rfl lend0 trivial rfl, ?_⟩
                                              conv => whnf
                                              obtain ⟨r_99, h_r_99, hL2⟩ := bind_some hL2
                                              refine ⟨_, _, _, _, _, _, _, _, _, callX false [] [] 0 Try.func17 (by decide) rfl (keep_In_ac r_98 i_93 r_99 h_r_99) rfl ⟨(argE (by (conv => lhs; whnf); all_goals rfl) rfl), (argE (by (conv => lhs; whnf); all_goals rfl) rfl), trivial⟩ rfl trivial rfl rfl rfl lend0 trivial rfl, ?_⟩
                                              conv => whnf
                                              refine ⟨fun h => ?_, fun h => ?_⟩
                                              · conv => whnf
                                                refine ⟨fun hb_1383 => ?_, fun hb_1383 => ?_⟩
                                                · replace hL2 := cond_t hb_1383 hL2
                                                  conv => whnf
                                                  obtain rfl := Option.some.inj hL2
                                                  replace hL1 := sub_ret hL1
                                                  obtain rfl := Option.some.inj hL1
                                                  replace hF := fin_ret hF
                                                  obtain rfl := Option.some.inj hF
                                                  exact ret_gz [] [] [] rfl (argFl (by (conv => lhs; whnf); all_goals rfl)) trivial
                                                · replace hL2 := cond_f hb_1383 hL2
                                                  conv => whnf
                                                  refine ⟨_, rfl, ?_⟩
                                                  conv => whnf
                                                  exact ⟨(q_128, (w64 (i_93 + (1 : Int)))), [0, 1, 2], [], [], hL2, Nat.lt_succ_self _, wk_mk [0, 1, 2] [] [] rfl ⟨argP (id := 0) (by (conv => lhs; whnf); all_goals rfl) rfl, argP (id := 1) (by (conv => lhs; whnf); all_goals rfl) rfl, argE (by (conv => lhs; whnf); all_goals rfl) rfl, argE (by (conv => lhs; whnf); all_goals rfl) rfl, argP (id := 2) (by (conv => lhs; whnf); all_goals rfl) rfl, argE (by (conv => lhs; whnf); all_goals rfl) rfl, argE (by (conv => lhs; whnf); all_goals rfl) rfl, argE (by (conv => lhs; whnf); all_goals rfl) rfl, trivial⟩ ⟨boxL rfl rfl rfl ⟨(.ni _ rfl), (.ni _ rfl), trivial⟩, boxL rfl rfl rfl ⟨(.ni _ rfl), (.ni _ rfl), (.ni _ rfl), (.ni _ rfl), (.ni _ rfl), (.ni _ rfl), trivial⟩, boxL rfl rfl rfl ⟨(.ni _ rfl), (.ni _ rfl), (.ni _ rfl), (.ni _ rfl), (.ni _ rfl), (.ni _ rfl), trivial⟩, trivial⟩⟩
                                              · cases (hb_1372).symm.trans h
                                          · replace hL2 := cond_f hi_1381 hL2
                                            refine (Bool.eq_false_or_eq_true ((w64 (r_94.1.Level - (1 : Int))) == (2 : Int))).elim (fun hi_1384 => ?_) (fun hi_1384 => ?_)
                                            · replace hL2 := cond_t hi_1384 hL2
                                              refine ⟨2, eq_of_beq hi_1384, by decide, ?_⟩
                                              conv => whnf
                                              refine ⟨_, rfl, ?_⟩
                                              conv => whnf
                                              refine ⟨by kernel_rfl, ?_⟩
                                              conv => whnf
                                              refine ⟨fun hb_1385 => ?_, fun hb_1385 => ?_⟩
                                              · replace hL2 := cond_t hb_1385 hL2
                                                conv => whnf
                                                obtain rfl := Option.some.inj hL2
                                                replace hL1 := sub_ret hL1
                                                obtain rfl := Option.some.inj hL1
                                                replace hF := fin_ret hF
                                                obtain rfl := Option.some.inj hF
                                                exact ret_gz [] [] [] rfl (argFl (by (conv => lhs; whnf); all_goals rfl)) trivial
                                              · replace hL2 := cond_f hb_1385 hL2
                                                conv => whnf
                                                obtain ⟨r_100, h_r_100, hL2⟩ := bind_some hL2
                                                refine ⟨_, _, _, _, _, _, _, _, _, callX false [] [] 0 Try.func18 (by decide) rfl (screen_Cleared_ac (⟨(⟨z_92.2.2.1, z_92.2.2.2.1, z_92.2.2.2.2.1, z_92.2.2.2.2.2.1⟩ : A4_Int), z_92.2.2.2.2.2.2.1, z_92.2.2.2.2.2.2.2.1⟩ : Screening) r_100 h_r_100) rfl ⟨(argE (by (conv => lhs; whnf); all_goals rfl) rfl), trivial⟩ rfl trivial rfl rfl rfl lend0 trivial rfl, ?_⟩
                                                conv => whnf
                                                obtain ⟨r_101, h_r_101, hL2⟩ := bind_some hL2
                                                refine ⟨_, _, _, _, _, _, _, _, _, callX false [] [] 0 Try.func17 (by decide) rfl (keep_In_ac r_100 i_93 r_101 h_r_101) rfl ⟨(argE (by (conv => lhs; whnf); all_goals rfl) rfl), (argE (by (conv => lhs; whnf); all_goals rfl) rfl), trivial⟩ rfl trivial rfl rfl rfl lend0 trivial rfl, ?_⟩
                                                conv => whnf
                                                refine ⟨fun h => ?_, fun h => ?_⟩
                                                · conv => whnf
                                                  refine ⟨fun hb_1386 => ?_, fun hb_1386 => ?_⟩
                                                  · replace hL2 := cond_t hb_1386 hL2
                                                    conv => whnf
                                                    obtain rfl := Option.some.inj hL2
                                                    replace hL1 := sub_ret hL1
                                                    obtain rfl := Option.some.inj hL1
                                                    replace hF := fin_ret hF
                                                    obtain rfl := Option.some.inj hF
                                                    exact ret_gz [] [] [] rfl (argFl (by (conv => lhs; whnf); all_goals rfl)) trivial
                                                  · replace hL2 := cond_f hb_1386 hL2
                                                    conv => whnf
                                                    refine ⟨_, rfl, ?_⟩
                                                    conv => whnf
                                                    exact ⟨(q_128, (w64 (i_93 + (1 : Int)))), [0, 1, 2], [], [], hL2, Nat.lt_succ_self _, wk_mk [0, 1, 2] [] [] rfl ⟨argP (id := 0) (by (conv => lhs; whnf); all_goals rfl) rfl, argP (id := 1) (by (conv => lhs; whnf); all_goals rfl) rfl, argE (by (conv => lhs; whnf); all_goals rfl) rfl, argE (by (conv => lhs; whnf); all_goals rfl) rfl, argP (id := 2) (by (conv => lhs; whnf); all_goals rfl) rfl, argE (by (conv => lhs; whnf); all_goals rfl) rfl, argE (by (conv => lhs; whnf); all_goals rfl) rfl, argE (by (conv => lhs; whnf); all_goals rfl) rfl, trivial⟩ ⟨boxL rfl rfl rfl ⟨(.ni _ rfl), (.ni _ rfl), trivial⟩, boxL rfl rfl rfl ⟨(.ni _ rfl), (.ni _ rfl), (.ni _ rfl), (.ni _ rfl), (.ni _ rfl), (.ni _ rfl), trivial⟩, boxL rfl rfl rfl ⟨(.ni _ rfl), (.ni _ rfl), (.ni _ rfl), (.ni _ rfl), (.ni _ rfl), (.ni _ rfl), trivial⟩, trivial⟩⟩
                                                · cases (hb_1372).symm.trans h
                                            · replace hL2 := cond_f hi_1384 hL2
                                              refine (Bool.eq_false_or_eq_true ((w64 (r_94.1.Level - (1 : Int))) == (3 : Int))).elim (fun hi_1387 => ?_) (fun hi_1387 => ?_)
                                              · replace hL2 := cond_t hi_1387 hL2
                                                refine ⟨3, eq_of_beq hi_1387, by decide, ?_⟩
                                                conv => whnf
                                                refine ⟨_, rfl, ?_⟩
                                                conv => whnf
                                                refine ⟨by kernel_rfl, ?_⟩
                                                conv => whnf
                                                refine ⟨fun hb_1388 => ?_, fun hb_1388 => ?_⟩
                                                · replace hL2 := cond_t hb_1388 hL2
                                                  conv => whnf
                                                  obtain rfl := Option.some.inj hL2
                                                  replace hL1 := sub_ret hL1
                                                  obtain rfl := Option.some.inj hL1
                                                  replace hF := fin_ret hF
                                                  obtain rfl := Option.some.inj hF
                                                  exact ret_gz [] [] [] rfl (argFl (by (conv => lhs; whnf); all_goals rfl)) trivial
                                                · replace hL2 := cond_f hb_1388 hL2
                                                  conv => whnf
                                                  obtain ⟨r_102, h_r_102, hL2⟩ := bind_some hL2
                                                  refine ⟨_, _, _, _, _, _, _, _, _, callX false [] [] 0 Try.func18 (by decide) rfl (screen_Cleared_ac (⟨(⟨z_92.2.2.1, z_92.2.2.2.1, z_92.2.2.2.2.1, z_92.2.2.2.2.2.1⟩ : A4_Int), z_92.2.2.2.2.2.2.1, z_92.2.2.2.2.2.2.2.1⟩ : Screening) r_102 h_r_102) rfl ⟨(argE (by (conv => lhs; whnf); all_goals rfl) rfl), trivial⟩ rfl trivial rfl rfl rfl lend0 trivial rfl, ?_⟩
                                                  conv => whnf
                                                  obtain ⟨r_103, h_r_103, hL2⟩ := bind_some hL2
                                                  refine ⟨_, _, _, _, _, _, _, _, _, callX false [] [] 0 Try.func17 (by decide) rfl (keep_In_ac r_102 i_93 r_103 h_r_103) rfl ⟨(argE (by (conv => lhs; whnf); all_goals rfl) rfl), (argE (by (conv => lhs; whnf); all_goals rfl) rfl), trivial⟩ rfl trivial rfl rfl rfl lend0 trivial rfl, ?_⟩
                                                  conv => whnf
                                                  refine ⟨fun h => ?_, fun h => ?_⟩
                                                  · conv => whnf
                                                    refine ⟨fun hb_1389 => ?_, fun hb_1389 => ?_⟩
                                                    · replace hL2 := cond_t hb_1389 hL2
                                                      conv => whnf
                                                      obtain rfl := Option.some.inj hL2
                                                      replace hL1 := sub_ret hL1
                                                      obtain rfl := Option.some.inj hL1
                                                      replace hF := fin_ret hF
                                                      obtain rfl := Option.some.inj hF
                                                      exact ret_gz [] [] [] rfl (argFl (by (conv => lhs; whnf); all_goals rfl)) trivial
                                                    · replace hL2 := cond_f hb_1389 hL2
                                                      conv => whnf
                                                      refine ⟨_, rfl, ?_⟩
                                                      conv => whnf
                                                      exact ⟨(q_128, (w64 (i_93 + (1 : Int)))), [0, 1, 2], [], [], hL2, Nat.lt_succ_self _, wk_mk [0, 1, 2] [] [] rfl ⟨argP (id := 0) (by (conv => lhs; whnf); all_goals rfl) rfl, argP (id := 1) (by (conv => lhs; whnf); all_goals rfl) rfl, argE (by (conv => lhs; whnf); all_goals rfl) rfl, argE (by (conv => lhs; whnf); all_goals rfl) rfl, argP (id := 2) (by (conv => lhs; whnf); all_goals rfl) rfl, argE (by (conv => lhs; whnf); all_goals rfl) rfl, argE (by (conv => lhs; whnf); all_goals rfl) rfl, argE (by (conv => lhs; whnf); all_goals rfl) rfl, trivial⟩ ⟨boxL rfl rfl rfl ⟨(.ni _ rfl), (.ni _ rfl), trivial⟩, boxL rfl rfl rfl ⟨(.ni _ rfl), (.ni _ rfl), (.ni _ rfl), (.ni _ rfl), (.ni _ rfl), (.ni _ rfl), trivial⟩, boxL rfl rfl rfl ⟨(.ni _ rfl), (.ni _ rfl), (.ni _ rfl), (.ni _ rfl), (.ni _ rfl), (.ni _ rfl), trivial⟩, trivial⟩⟩
                                                  · cases (hb_1372).symm.trans h
                                              · replace hL2 := cond_f hi_1387 hL2
                                                cases hL2
                                      · replace hL2 := cond_t hb_1377 hL2
                                        conv => whnf
                                        refine ⟨by kernel_rfl, ?_⟩
                                        conv => whnf
                                        obtain rfl := Option.some.inj hL2
                                        replace hL1 := sub_ret hL1
                                        obtain rfl := Option.some.inj hL1
                                        replace hF := fin_ret hF
                                        obtain rfl := Option.some.inj hF
                                        exact ret_gz [] [] [] rfl (argFl (by (conv => lhs; whnf); all_goals rfl)) trivial
                                    · replace hL2 := cond_t hb_1376 hL2
                                      conv => whnf
                                      refine ⟨by kernel_rfl, ?_⟩
                                      conv => whnf
                                      obtain rfl := Option.some.inj hL2
                                      replace hL1 := sub_ret hL1
                                      obtain rfl := Option.some.inj hL1
                                      replace hF := fin_ret hF
                                      obtain rfl := Option.some.inj hF
                                      exact ret_gz [] [] [] rfl (argFl (by (conv => lhs; whnf); all_goals rfl)) trivial
                                  · replace hL2 := cond_t hb_1375 hL2
                                    conv => whnf
                                    refine ⟨by kernel_rfl, ?_⟩
                                    conv => whnf
                                    obtain rfl := Option.some.inj hL2
                                    replace hL1 := sub_ret hL1
                                    obtain rfl := Option.some.inj hL1
                                    replace hF := fin_ret hF
                                    obtain rfl := Option.some.inj hF
                                    exact ret_gz [] [] [] rfl (argFl (by (conv => lhs; whnf); all_goals rfl)) trivial
                                · cases (not_kn (hb_1368)).symm.trans h
                              · replace hL2 := cond_f hb_1374 hL2
                                conv => whnf
                                obtain ⟨r_104, h_r_104, hL2⟩ := bind_some hL2
                                refine ⟨_, _, _, _, _, _, _, _, _, callX false [] [] 0 Try.func18 (by decide) rfl (screen_Cleared_ac (⟨(⟨z_92.2.2.1, z_92.2.2.2.1, z_92.2.2.2.2.1, z_92.2.2.2.2.2.1⟩ : A4_Int), z_92.2.2.2.2.2.2.1, z_92.2.2.2.2.2.2.2.1⟩ : Screening) r_104 h_r_104) rfl ⟨(argE (by (conv => lhs; whnf); all_goals rfl) rfl), trivial⟩ rfl trivial rfl rfl rfl lend0 trivial rfl, ?_⟩
                                conv => whnf
                                obtain ⟨r_105, h_r_105, hL2⟩ := bind_some hL2
                                refine ⟨_, _, _, _, _, _, _, _, _, callX false [] [] 0 Try.func17 (by decide) rfl (keep_In_ac r_104 i_93 r_105 h_r_105) rfl ⟨(argE (by (conv => lhs; whnf); all_goals rfl) rfl), (argE (by (conv => lhs; whnf); all_goals rfl) rfl), trivial⟩ rfl trivial rfl rfl rfl lend0 trivial rfl, ?_⟩
                                conv => whnf
                                refine ⟨fun h => ?_, fun h => ?_⟩
                                · conv => whnf
                                  refine ⟨fun hb_1390 => ?_, fun hb_1390 => ?_⟩
                                  · replace hL2 := cond_t hb_1390 hL2
                                    conv => whnf
                                    obtain rfl := Option.some.inj hL2
                                    replace hL1 := sub_ret hL1
                                    obtain rfl := Option.some.inj hL1
                                    replace hF := fin_ret hF
                                    obtain rfl := Option.some.inj hF
                                    exact ret_gz [] [] [] rfl (argFl (by (conv => lhs; whnf); all_goals rfl)) trivial
                                  · replace hL2 := cond_f hb_1390 hL2
                                    conv => whnf
                                    refine ⟨_, rfl, ?_⟩
                                    conv => whnf
                                    exact ⟨(q_128, (w64 (i_93 + (1 : Int)))), [0, 1, 2], [], [], hL2, Nat.lt_succ_self _, wk_mk [0, 1, 2] [] [] rfl ⟨argP (id := 0) (by (conv => lhs; whnf); all_goals rfl) rfl, argP (id := 1) (by (conv => lhs; whnf); all_goals rfl) rfl, argE (by (conv => lhs; whnf); all_goals rfl) rfl, argE (by (conv => lhs; whnf); all_goals rfl) rfl, argP (id := 2) (by (conv => lhs; whnf); all_goals rfl) rfl, argE (by (conv => lhs; whnf); all_goals rfl) rfl, argE (by (conv => lhs; whnf); all_goals rfl) rfl, argE (by (conv => lhs; whnf); all_goals rfl) rfl, trivial⟩ ⟨boxL rfl rfl rfl ⟨(.ni _ rfl), (.ni _ rfl), trivial⟩, boxL rfl rfl rfl ⟨(.ni _ rfl), (.ni _ rfl), (.ni _ rfl), (.ni _ rfl), (.ni _ rfl), (.ni _ rfl), trivial⟩, boxL rfl rfl rfl ⟨(.ni _ rfl), (.ni _ rfl), (.ni _ rfl), (.ni _ rfl), (.ni _ rfl), (.ni _ rfl), trivial⟩, trivial⟩⟩
                                · cases (hb_1372).symm.trans h
                            · cases (not_kn (hb_1368)).symm.trans h
                          · replace hL2 := cond_f hb_1373 hL2
                            conv => whnf
                            obtain ⟨r_106, h_r_106, hL2⟩ := bind_some hL2
                            refine ⟨_, _, _, _, _, _, _, _, _, callX false [] [] 0 Try.func18 (by decide) rfl (screen_Cleared_ac (⟨(⟨z_92.2.2.1, z_92.2.2.2.1, z_92.2.2.2.2.1, z_92.2.2.2.2.2.1⟩ : A4_Int), z_92.2.2.2.2.2.2.1, z_92.2.2.2.2.2.2.2.1⟩ : Screening) r_106 h_r_106) rfl ⟨(argE (by (conv => lhs; whnf); all_goals rfl) rfl), trivial⟩ rfl trivial rfl rfl rfl lend0 trivial rfl, ?_⟩
                            conv => whnf
                            obtain ⟨r_107, h_r_107, hL2⟩ := bind_some hL2
                            refine ⟨_, _, _, _, _, _, _, _, _, callX false [] [] 0 Try.func17 (by decide) rfl (keep_In_ac r_106 i_93 r_107 h_r_107) rfl ⟨(argE (by (conv => lhs; whnf); all_goals rfl) rfl), (argE (by (conv => lhs; whnf); all_goals rfl) rfl), trivial⟩ rfl trivial rfl rfl rfl lend0 trivial rfl, ?_⟩
                            conv => whnf
                            refine ⟨fun h => ?_, fun h => ?_⟩
                            · conv => whnf
                              refine ⟨fun hb_1391 => ?_, fun hb_1391 => ?_⟩
                              · replace hL2 := cond_t hb_1391 hL2
                                conv => whnf
                                obtain rfl := Option.some.inj hL2
                                replace hL1 := sub_ret hL1
                                obtain rfl := Option.some.inj hL1
                                replace hF := fin_ret hF
                                obtain rfl := Option.some.inj hF
                                exact ret_gz [] [] [] rfl (argFl (by (conv => lhs; whnf); all_goals rfl)) trivial
                              · replace hL2 := cond_f hb_1391 hL2
                                conv => whnf
                                refine ⟨_, rfl, ?_⟩
                                conv => whnf
                                exact ⟨(q_128, (w64 (i_93 + (1 : Int)))), [0, 1, 2], [], [], hL2, Nat.lt_succ_self _, wk_mk [0, 1, 2] [] [] rfl ⟨argP (id := 0) (by (conv => lhs; whnf); all_goals rfl) rfl, argP (id := 1) (by (conv => lhs; whnf); all_goals rfl) rfl, argE (by (conv => lhs; whnf); all_goals rfl) rfl, argE (by (conv => lhs; whnf); all_goals rfl) rfl, argP (id := 2) (by (conv => lhs; whnf); all_goals rfl) rfl, argE (by (conv => lhs; whnf); all_goals rfl) rfl, argE (by (conv => lhs; whnf); all_goals rfl) rfl, argE (by (conv => lhs; whnf); all_goals rfl) rfl, trivial⟩ ⟨boxL rfl rfl rfl ⟨(.ni _ rfl), (.ni _ rfl), trivial⟩, boxL rfl rfl rfl ⟨(.ni _ rfl), (.ni _ rfl), (.ni _ rfl), (.ni _ rfl), (.ni _ rfl), (.ni _ rfl), trivial⟩, boxL rfl rfl rfl ⟨(.ni _ rfl), (.ni _ rfl), (.ni _ rfl), (.ni _ rfl), (.ni _ rfl), (.ni _ rfl), trivial⟩, trivial⟩⟩
                            · cases (hb_1372).symm.trans h
                        · replace hL2 := cond_f hb_1372 hL2
                          conv => whnf
                          obtain ⟨r_108, h_r_108, hL2⟩ := bind_some hL2
                          refine ⟨_, _, _, _, _, _, _, _, _, callX false [] [] 0 Try.func18 (by decide) rfl (screen_Cleared_ac (⟨(⟨z_92.2.2.1, z_92.2.2.2.1, z_92.2.2.2.2.1, z_92.2.2.2.2.2.1⟩ : A4_Int), z_92.2.2.2.2.2.2.1, z_92.2.2.2.2.2.2.2.1⟩ : Screening) r_108 h_r_108) rfl ⟨(argE (by (conv => lhs; whnf); all_goals rfl) rfl), trivial⟩ rfl trivial rfl rfl rfl lend0 trivial rfl, ?_⟩
                          conv => whnf
                          obtain ⟨r_109, h_r_109, hL2⟩ := bind_some hL2
                          refine ⟨_, _, _, _, _, _, _, _, _, callX false [] [] 0 Try.func17 (by decide) rfl (keep_In_ac r_108 i_93 r_109 h_r_109) rfl ⟨(argE (by (conv => lhs; whnf); all_goals rfl) rfl), (argE (by (conv => lhs; whnf); all_goals rfl) rfl), trivial⟩ rfl trivial rfl rfl rfl lend0 trivial rfl, ?_⟩
                          conv => whnf
                          refine ⟨fun h => ?_, fun h => ?_⟩
                          · cases (hb_1372).symm.trans h
                          · conv => whnf
                            refine ⟨fun hb_1392 => ?_, fun hb_1392 => ?_⟩
                            · replace hL2 := cond_t hb_1392 hL2
                              conv => whnf
                              obtain rfl := Option.some.inj hL2
                              replace hL1 := sub_ret hL1
                              obtain rfl := Option.some.inj hL1
                              replace hF := fin_ret hF
                              obtain rfl := Option.some.inj hF
                              exact ret_gz [] [] [] rfl (argFl (by (conv => lhs; whnf); all_goals rfl)) trivial
                            · replace hL2 := cond_f hb_1392 hL2
                              conv => whnf
                              refine ⟨_, rfl, ?_⟩
                              conv => whnf
                              exact ⟨(q_128, (w64 (i_93 + (1 : Int)))), [0, 1, 2], [], [], hL2, Nat.lt_succ_self _, wk_mk [0, 1, 2] [] [] rfl ⟨argP (id := 0) (by (conv => lhs; whnf); all_goals rfl) rfl, argP (id := 1) (by (conv => lhs; whnf); all_goals rfl) rfl, argE (by (conv => lhs; whnf); all_goals rfl) rfl, argE (by (conv => lhs; whnf); all_goals rfl) rfl, argP (id := 2) (by (conv => lhs; whnf); all_goals rfl) rfl, argE (by (conv => lhs; whnf); all_goals rfl) rfl, argE (by (conv => lhs; whnf); all_goals rfl) rfl, argE (by (conv => lhs; whnf); all_goals rfl) rfl, trivial⟩ ⟨boxL rfl rfl rfl ⟨(.ni _ rfl), (.ni _ rfl), trivial⟩, boxL rfl rfl rfl ⟨(.ni _ rfl), (.ni _ rfl), (.ni _ rfl), (.ni _ rfl), (.ni _ rfl), (.ni _ rfl), trivial⟩, boxL rfl rfl rfl ⟨(.ni _ rfl), (.ni _ rfl), (.ni _ rfl), (.ni _ rfl), (.ni _ rfl), (.ni _ rfl), trivial⟩, trivial⟩⟩
                    · replace hL2 := cond_f hb_1370 hL2
                      conv => whnf
                      refine ⟨fun hb_1393 => ?_, fun hb_1393 => ?_⟩
                      · replace hL2 := cond_t hb_1393 hL2
                        conv => whnf
                        refine ⟨fun hb_1394 => ?_, fun hb_1394 => ?_⟩
                        · replace hL2 := cond_t hb_1394 hL2
                          conv => whnf
                          refine ⟨fun h => ?_, fun h => ?_⟩
                          · conv => whnf
                            refine ⟨fun hb_1395 => ?_, fun hb_1395 => ?_⟩
                            · replace hL2 := cond_t hb_1395 hL2
                              conv => whnf
                              refine ⟨fun h => ?_, fun h => ?_⟩
                              · conv => whnf
                                refine ⟨fun hb_1396 => ?_, fun hb_1396 => ?_⟩
                                · replace hL2 := cond_f hb_1396 hL2
                                  conv => whnf
                                  refine ⟨fun hb_1397 => ?_, fun hb_1397 => ?_⟩
                                  · replace hL2 := cond_f hb_1397 hL2
                                    conv => whnf
                                    refine ⟨fun hb_1398 => ?_, fun hb_1398 => ?_⟩
                                    · replace hL2 := cond_f hb_1398 hL2
                                      conv => whnf
                                      refine ⟨_, rfl, ?_⟩
                                      conv => whnf
                                      refine (Bool.eq_false_or_eq_true ((w64 (r_94.1.Level - (1 : Int))) == (0 : Int))).elim (fun hi_1399 => ?_) (fun hi_1399 => ?_)
                                      · replace hL2 := cond_t hi_1399 hL2
                                        refine ⟨0, eq_of_beq hi_1399, by decide, ?_⟩
                                        conv => whnf
                                        refine ⟨_, rfl, ?_⟩
                                        conv => whnf
                                        refine ⟨by kernel_rfl, ?_⟩
                                        conv => whnf
                                        refine ⟨fun hb_1400 => ?_, fun hb_1400 => ?_⟩
                                        · replace hL2 := cond_t hb_1400 hL2
                                          conv => whnf
                                          obtain rfl := Option.some.inj hL2
                                          replace hL1 := sub_ret hL1
                                          obtain rfl := Option.some.inj hL1
                                          replace hF := fin_ret hF
                                          obtain rfl := Option.some.inj hF
                                          exact ret_gz [] [] [] rfl (argFl (by (conv => lhs; whnf); all_goals rfl)) trivial
                                        · replace hL2 := cond_f hb_1400 hL2
                                          conv => whnf
                                          obtain ⟨r_110, h_r_110, hL2⟩ := bind_some hL2
                                          refine ⟨_, _, _, _, _, _, _, _, _, callX false [] [] 0 Try.func18 (by decide) rfl (screen_Cleared_ac (⟨(⟨z_92.2.2.1, z_92.2.2.2.1, z_92.2.2.2.2.1, z_92.2.2.2.2.2.1⟩ : A4_Int), z_92.2.2.2.2.2.2.1, z_92.2.2.2.2.2.2.2.1⟩ : Screening) r_110 h_r_110) rfl ⟨(argE (by (conv => lhs; whnf); all_goals rfl) rfl), trivial⟩ rfl trivial rfl rfl rfl lend0 trivial rfl, ?_⟩
                                          conv => whnf
                                          obtain ⟨r_111, h_r_111, hL2⟩ := bind_some hL2
                                          refine ⟨_, _, _, _, _, _, _, _, _, callX false [] [] 0 Try.func17 (by decide) rfl (keep_In_ac r_110 i_93 r_111 h_r_111) rfl ⟨(argE (by (conv => lhs; whnf); all_goals rfl) rfl), (argE (by (conv => lhs; whnf); all_goals rfl) rfl), trivial⟩ rfl trivial rfl rfl rfl lend0 trivial rfl, ?_⟩
                                          conv => whnf
                                          refine ⟨fun h => ?_, fun h => ?_⟩
                                          · conv => whnf
                                            refine ⟨fun hb_1401 => ?_, fun hb_1401 => ?_⟩
                                            · replace hL2 := cond_t hb_1401 hL2
                                              conv => whnf
                                              obtain rfl := Option.some.inj hL2
                                              replace hL1 := sub_ret hL1
                                              obtain rfl := Option.some.inj hL1
                                              replace hF := fin_ret hF
                                              obtain rfl := Option.some.inj hF
                                              exact ret_gz [] [] [] rfl (argFl (by (conv => lhs; whnf); all_goals rfl)) trivial
                                            · replace hL2 := cond_f hb_1401 hL2
                                              conv => whnf
                                              refine ⟨_, rfl, ?_⟩
                                              conv => whnf
                                              exact ⟨(q_128, (w64 (i_93 + (1 : Int)))), [0, 1, 2], [], [], hL2, Nat.lt_succ_self _, wk_mk [0, 1, 2] [] [] rfl ⟨argP (id := 0) (by (conv => lhs; whnf); all_goals rfl) rfl, argP (id := 1) (by (conv => lhs; whnf); all_goals rfl) rfl, argE (by (conv => lhs; whnf); all_goals rfl) rfl, argE (by (conv => lhs; whnf); all_goals rfl) rfl, argP (id := 2) (by (conv => lhs; whnf); all_goals rfl) rfl, argE (by (conv => lhs; whnf); all_goals rfl) rfl, argE (by (conv => lhs; whnf); all_goals rfl) rfl, argE (by (conv => lhs; whnf); all_goals rfl) rfl, trivial⟩ ⟨boxL rfl rfl rfl ⟨(.ni _ rfl), (.ni _ rfl), trivial⟩, boxL rfl rfl rfl ⟨(.ni _ rfl), (.ni _ rfl), (.ni _ rfl), (.ni _ rfl), (.ni _ rfl), (.ni _ rfl), trivial⟩, boxL rfl rfl rfl ⟨(.ni _ rfl), (.ni _ rfl), (.ni _ rfl), (.ni _ rfl), (.ni _ rfl), (.ni _ rfl), trivial⟩, trivial⟩⟩
                                          · cases (hb_1393).symm.trans h
                                      · replace hL2 := cond_f hi_1399 hL2
                                        refine (Bool.eq_false_or_eq_true ((w64 (r_94.1.Level - (1 : Int))) == (1 : Int))).elim (fun hi_1402 => ?_) (fun hi_1402 => ?_)
                                        · replace hL2 := cond_t hi_1402 hL2
                                          refine ⟨1, eq_of_beq hi_1402, by decide, ?_⟩
                                          conv => whnf
                                          refine ⟨_, rfl, ?_⟩
                                          conv => whnf
                                          refine ⟨by kernel_rfl, ?_⟩
                                          conv => whnf
                                          refine ⟨fun hb_1403 => ?_, fun hb_1403 => ?_⟩
                                          · replace hL2 := cond_t hb_1403 hL2
                                            conv => whnf
                                            obtain rfl := Option.some.inj hL2
                                            replace hL1 := sub_ret hL1
                                            obtain rfl := Option.some.inj hL1
                                            replace hF := fin_ret hF
                                            obtain rfl := Option.some.inj hF
                                            exact ret_gz [] [] [] rfl (argFl (by (conv => lhs; whnf); all_goals rfl)) trivial
                                          · replace hL2 := cond_f hb_1403 hL2
                                            conv => whnf
                                            obtain ⟨r_112, h_r_112, hL2⟩ := bind_some hL2
                                            refine ⟨_, _, _, _, _, _, _, _, _, callX false [] [] 0 Try.func18 (by decide) rfl (screen_Cleared_ac (⟨(⟨z_92.2.2.1, z_92.2.2.2.1, z_92.2.2.2.2.1, z_92.2.2.2.2.2.1⟩ : A4_Int), z_92.2.2.2.2.2.2.1, z_92.2.2.2.2.2.2.2.1⟩ : Screening) r_112 h_r_112) rfl ⟨(argE (by (conv => lhs; whnf); all_goals rfl) rfl), trivial⟩ rfl trivial rfl rfl rfl lend0 trivial rfl, ?_⟩
                                            conv => whnf
                                            obtain ⟨r_113, h_r_113, hL2⟩ := bind_some hL2
                                            refine ⟨_, _, _, _, _, _, _, _, _, callX false [] [] 0 Try.func17 (by decide) rfl (keep_In_ac r_112 i_93 r_113 h_r_113) rfl ⟨(argE (by (conv => lhs; whnf); all_goals rfl) rfl), (argE (by (conv => lhs; whnf); all_goals rfl) rfl), trivial⟩ rfl trivial rfl rfl rfl lend0 trivial rfl, ?_⟩
                                            conv => whnf
                                            refine ⟨fun h => ?_, fun h => ?_⟩
                                            · conv => whnf
                                              refine ⟨fun hb_1404 => ?_, fun hb_1404 => ?_⟩
                                              · replace hL2 := cond_t hb_1404 hL2
                                                conv => whnf
                                                obtain rfl := Option.some.inj hL2
                                                replace hL1 := sub_ret hL1
                                                obtain rfl := Option.some.inj hL1
                                                replace hF := fin_ret hF
                                                obtain rfl := Option.some.inj hF
                                                exact ret_gz [] [] [] rfl (argFl (by (conv => lhs; whnf); all_goals rfl)) trivial
                                              · replace hL2 := cond_f hb_1404 hL2
                                                conv => whnf
                                                refine ⟨_, rfl, ?_⟩
                                                conv => whnf
                                                exact ⟨(q_128, (w64 (i_93 + (1 : Int)))), [0, 1, 2], [], [], hL2, Nat.lt_succ_self _, wk_mk [0, 1, 2] [] [] rfl ⟨argP (id := 0) (by (conv => lhs; whnf); all_goals rfl) rfl, argP (id := 1) (by (conv => lhs; whnf); all_goals rfl) rfl, argE (by (conv => lhs; whnf); all_goals rfl) rfl, argE (by (conv => lhs; whnf); all_goals rfl) rfl, argP (id := 2) (by (conv => lhs; whnf); all_goals rfl) rfl, argE (by (conv => lhs; whnf); all_goals rfl) rfl, argE (by (conv => lhs; whnf); all_goals rfl) rfl, argE (by (conv => lhs; whnf); all_goals rfl) rfl, trivial⟩ ⟨boxL rfl rfl rfl ⟨(.ni _ rfl), (.ni _ rfl), trivial⟩, boxL rfl rfl rfl ⟨(.ni _ rfl), (.ni _ rfl), (.ni _ rfl), (.ni _ rfl), (.ni _ rfl), (.ni _ rfl), trivial⟩, boxL rfl rfl rfl ⟨(.ni _ rfl), (.ni _ rfl), (.ni _ rfl), (.ni _ rfl), (.ni _ rfl), (.ni _ rfl), trivial⟩, trivial⟩⟩
                                            · cases (hb_1393).symm.trans h
                                        · replace hL2 := cond_f hi_1402 hL2
                                          refine (Bool.eq_false_or_eq_true ((w64 (r_94.1.Level - (1 : Int))) == (2 : Int))).elim (fun hi_1405 => ?_) (fun hi_1405 => ?_)
                                          · replace hL2 := cond_t hi_1405 hL2
                                            refine ⟨2, eq_of_beq hi_1405, by decide, ?_⟩
                                            conv => whnf
                                            refine ⟨_, rfl, ?_⟩
                                            conv => whnf
                                            refine ⟨by kernel_rfl, ?_⟩
                                            conv => whnf
                                            refine ⟨fun hb_1406 => ?_, fun hb_1406 => ?_⟩
                                            · replace hL2 := cond_t hb_1406 hL2
                                              conv => whnf
                                              obtain rfl := Option.some.inj hL2
                                              replace hL1 := sub_ret hL1
                                              obtain rfl := Option.some.inj hL1
                                              replace hF := fin_ret hF
                                              obtain rfl := Option.some.inj hF
                                              exact ret_gz [] [] [] rfl (argFl (by (conv => lhs; whnf); all_goals rfl)) trivial
                                            · replace hL2 := cond_f hb_1406 hL2
                                              conv => whnf
                                              obtain ⟨r_114, h_r_114, hL2⟩ := bind_some hL2
                                              refine ⟨_, _, _, _, _, _, _, _, _, callX false [] [] 0 Try.func18 (by decide) rfl (screen_Cleared_ac (⟨(⟨z_92.2.2.1, z_92.2.2.2.1, z_92.2.2.2.2.1, z_92.2.2.2.2.2.1⟩ : A4_Int), z_92.2.2.2.2.2.2.1, z_92.2.2.2.2.2.2.2.1⟩ : Screening) r_114 h_r_114) rfl ⟨(argE (by (conv => lhs; whnf); all_goals rfl) rfl), trivial⟩ rfl trivial rfl rfl rfl lend0 trivial rfl, ?_⟩
                                              conv => whnf
                                              obtain ⟨r_115, h_r_115, hL2⟩ := bind_some hL2
                                              refine ⟨_, _, _, _, _, _, _, _, _, callX false [] [] 0 Try.func17 (by decide) rfl (keep_In_ac r_114 i_93 r_115 h_r_115) rfl ⟨(argE (by (conv => lhs; whnf); all_goals rfl) rfl), (argE (by (conv => lhs; whnf); all_goals rfl) rfl), trivial⟩ rfl trivial rfl rfl rfl lend0 trivial rfl, ?_⟩
                                              conv => whnf
                                              refine ⟨fun h => ?_, fun h => ?_⟩
                                              · conv => whnf
                                                refine ⟨fun hb_1407 => ?_, fun hb_1407 => ?_⟩
                                                · replace hL2 := cond_t hb_1407 hL2
                                                  conv => whnf
                                                  obtain rfl := Option.some.inj hL2
                                                  replace hL1 := sub_ret hL1
                                                  obtain rfl := Option.some.inj hL1
                                                  replace hF := fin_ret hF
                                                  obtain rfl := Option.some.inj hF
                                                  exact ret_gz [] [] [] rfl (argFl (by (conv => lhs; whnf); all_goals rfl)) trivial
                                                · replace hL2 := cond_f hb_1407 hL2
                                                  conv => whnf
                                                  refine ⟨_, rfl, ?_⟩
                                                  conv => whnf
                                                  exact ⟨(q_128, (w64 (i_93 + (1 : Int)))), [0, 1, 2], [], [], hL2, Nat.lt_succ_self _, wk_mk [0, 1, 2] [] [] rfl ⟨argP (id := 0) (by (conv => lhs; whnf); all_goals rfl) rfl, argP (id := 1) (by (conv => lhs; whnf); all_goals rfl) rfl, argE (by (conv => lhs; whnf); all_goals rfl) rfl, argE (by (conv => lhs; whnf); all_goals rfl) rfl, argP (id := 2) (by (conv => lhs; whnf); all_goals rfl) rfl, argE (by (conv => lhs; whnf); all_goals rfl) rfl, argE (by (conv => lhs; whnf); all_goals rfl) rfl, argE (by (conv => lhs; whnf); all_goals rfl) rfl, trivial⟩ ⟨boxL rfl rfl rfl ⟨(.ni _ rfl), (.ni _ rfl), trivial⟩, boxL rfl rfl rfl ⟨(.ni _ rfl), (.ni _ rfl), (.ni _ rfl), (.ni _ rfl), (.ni _ rfl), (.ni _ rfl), trivial⟩, boxL rfl rfl rfl ⟨(.ni _ rfl), (.ni _ rfl), (.ni _ rfl), (.ni _ rfl), (.ni _ rfl), (.ni _ rfl), trivial⟩, trivial⟩⟩
                                              · cases (hb_1393).symm.trans h
                                          · replace hL2 := cond_f hi_1405 hL2
                                            refine (Bool.eq_false_or_eq_true ((w64 (r_94.1.Level - (1 : Int))) == (3 : Int))).elim (fun hi_1408 => ?_) (fun hi_1408 => ?_)
                                            · replace hL2 := cond_t hi_1408 hL2
                                              refine ⟨3, eq_of_beq hi_1408, by decide, ?_⟩
                                              conv => whnf
                                              refine ⟨_, rfl, ?_⟩
                                              conv => whnf
                                              refine ⟨by kernel_rfl, ?_⟩
                                              conv => whnf
                                              refine ⟨fun hb_1409 => ?_, fun hb_1409 => ?_⟩
                                              · replace hL2 := cond_t hb_1409 hL2
                                                conv => whnf
                                                obtain rfl := Option.some.inj hL2
                                                replace hL1 := sub_ret hL1
                                                obtain rfl := Option.some.inj hL1
                                                replace hF := fin_ret hF
                                                obtain rfl := Option.some.inj hF
                                                exact ret_gz [] [] [] rfl (argFl (by (conv => lhs; whnf); all_goals rfl)) trivial
                                              · replace hL2 := cond_f hb_1409 hL2
                                                conv => whnf
                                                obtain ⟨r_116, h_r_116, hL2⟩ := bind_some hL2
                                                refine ⟨_, _, _, _, _, _, _, _, _, callX false [] [] 0 Try.func18 (by decide) rfl (screen_Cleared_ac (⟨(⟨z_92.2.2.1, z_92.2.2.2.1, z_92.2.2.2.2.1, z_92.2.2.2.2.2.1⟩ : A4_Int), z_92.2.2.2.2.2.2.1, z_92.2.2.2.2.2.2.2.1⟩ : Screening) r_116 h_r_116) rfl ⟨(argE (by (conv => lhs; whnf); all_goals rfl) rfl), trivial⟩ rfl trivial rfl rfl rfl lend0 trivial rfl, ?_⟩
                                                conv => whnf
                                                obtain ⟨r_117, h_r_117, hL2⟩ := bind_some hL2
                                                refine ⟨_, _, _, _, _, _, _, _, _, callX false [] [] 0 Try.func17 (by decide) rfl (keep_In_ac r_116 i_93 r_117 h_r_117) rfl ⟨(argE (by (conv => lhs; whnf); all_goals rfl) rfl), (argE (by (conv => lhs; whnf); all_goals rfl) rfl), trivial⟩ rfl trivial rfl rfl rfl lend0 trivial rfl, ?_⟩
                                                conv => whnf
                                                refine ⟨fun h => ?_, fun h => ?_⟩
                                                · conv => whnf
                                                  refine ⟨fun hb_1410 => ?_, fun hb_1410 => ?_⟩
                                                  · replace hL2 := cond_t hb_1410 hL2
                                                    conv => whnf
                                                    obtain rfl := Option.some.inj hL2
                                                    replace hL1 := sub_ret hL1
                                                    obtain rfl := Option.some.inj hL1
                                                    replace hF := fin_ret hF
                                                    obtain rfl := Option.some.inj hF
                                                    exact ret_gz [] [] [] rfl (argFl (by (conv => lhs; whnf); all_goals rfl)) trivial
                                                  · replace hL2 := cond_f hb_1410 hL2
                                                    conv => whnf
                                                    refine ⟨_, rfl, ?_⟩
                                                    conv => whnf
                                                    exact ⟨(q_128, (w64 (i_93 + (1 : Int)))), [0, 1, 2], [], [], hL2, Nat.lt_succ_self _, wk_mk [0, 1, 2] [] [] rfl ⟨argP (id := 0) (by (conv => lhs; whnf); all_goals rfl) rfl, argP (id := 1) (by (conv => lhs; whnf); all_goals rfl) rfl, argE (by (conv => lhs; whnf); all_goals rfl) rfl, argE (by (conv => lhs; whnf); all_goals rfl) rfl, argP (id := 2) (by (conv => lhs; whnf); all_goals rfl) rfl, argE (by (conv => lhs; whnf); all_goals rfl) rfl, argE (by (conv => lhs; whnf); all_goals rfl) rfl, argE (by (conv => lhs; whnf); all_goals rfl) rfl, trivial⟩ ⟨boxL rfl rfl rfl ⟨(.ni _ rfl), (.ni _ rfl), trivial⟩, boxL rfl rfl rfl ⟨(.ni _ rfl), (.ni _ rfl), (.ni _ rfl), (.ni _ rfl), (.ni _ rfl), (.ni _ rfl), trivial⟩, boxL rfl rfl rfl ⟨(.ni _ rfl), (.ni _ rfl), (.ni _ rfl), (.ni _ rfl), (.ni _ rfl), (.ni _ rfl), trivial⟩, trivial⟩⟩
                                                · cases (hb_1393).symm.trans h
                                            · replace hL2 := cond_f hi_1408 hL2
                                              cases hL2
                                    · replace hL2 := cond_t hb_1398 hL2
                                      conv => whnf
                                      refine ⟨by kernel_rfl, ?_⟩
                                      conv => whnf
                                      obtain rfl := Option.some.inj hL2
                                      replace hL1 := sub_ret hL1
                                      obtain rfl := Option.some.inj hL1
                                      replace hF := fin_ret hF
                                      obtain rfl := Option.some.inj hF
                                      exact ret_gz [] [] [] rfl (argFl (by (conv => lhs; whnf); all_goals rfl)) trivial
                                  · replace hL2 := cond_t hb_1397 hL2
                                    conv => whnf
                                    refine ⟨by kernel_rfl, ?_⟩
                                    conv => whnf
                                    obtain rfl := Option.some.inj hL2
                                    replace hL1 := sub_ret hL1
                                    obtain rfl := Option.some.inj hL1
                                    replace hF := fin_ret hF
                                    obtain rfl := Option.some.inj hF
                                    exact ret_gz [] [] [] rfl (argFl (by (conv => lhs; whnf); all_goals rfl)) trivial
                                · replace hL2 := cond_t hb_1396 hL2
                                  conv => whnf
                                  refine ⟨by kernel_rfl, ?_⟩
                                  conv => whnf
                                  obtain rfl := Option.some.inj hL2
                                  replace hL1 := sub_ret hL1
                                  obtain rfl := Option.some.inj hL1
                                  replace hF := fin_ret hF
                                  obtain rfl := Option.some.inj hF
                                  exact ret_gz [] [] [] rfl (argFl (by (conv => lhs; whnf); all_goals rfl)) trivial
                              · cases (not_kn (hb_1368)).symm.trans h
                            · replace hL2 := cond_f hb_1395 hL2
                              conv => whnf
                              obtain ⟨r_118, h_r_118, hL2⟩ := bind_some hL2
                              refine ⟨_, _, _, _, _, _, _, _, _, callX false [] [] 0 Try.func18 (by decide) rfl (screen_Cleared_ac (⟨(⟨z_92.2.2.1, z_92.2.2.2.1, z_92.2.2.2.2.1, z_92.2.2.2.2.2.1⟩ : A4_Int), z_92.2.2.2.2.2.2.1, z_92.2.2.2.2.2.2.2.1⟩ : Screening) r_118 h_r_118) rfl ⟨(argE (by (conv => lhs; whnf); all_goals rfl) rfl), trivial⟩ rfl trivial rfl rfl rfl lend0 trivial rfl, ?_⟩
                              conv => whnf
                              obtain ⟨r_119, h_r_119, hL2⟩ := bind_some hL2
                              refine ⟨_, _, _, _, _, _, _, _, _, callX false [] [] 0 Try.func17 (by decide) rfl (keep_In_ac r_118 i_93 r_119 h_r_119) rfl ⟨(argE (by (conv => lhs; whnf); all_goals rfl) rfl), (argE (by (conv => lhs; whnf); all_goals rfl) rfl), trivial⟩ rfl trivial rfl rfl rfl lend0 trivial rfl, ?_⟩
                              conv => whnf
                              refine ⟨fun h => ?_, fun h => ?_⟩
                              · conv => whnf
                                refine ⟨fun hb_1411 => ?_, fun hb_1411 => ?_⟩
                                · replace hL2 := cond_t hb_1411 hL2
                                  conv => whnf
                                  obtain rfl := Option.some.inj hL2
                                  replace hL1 := sub_ret hL1
                                  obtain rfl := Option.some.inj hL1
                                  replace hF := fin_ret hF
                                  obtain rfl := Option.some.inj hF
                                  exact ret_gz [] [] [] rfl (argFl (by (conv => lhs; whnf); all_goals rfl)) trivial
                                · replace hL2 := cond_f hb_1411 hL2
                                  conv => whnf
                                  refine ⟨_, rfl, ?_⟩
                                  conv => whnf
                                  exact ⟨(q_128, (w64 (i_93 + (1 : Int)))), [0, 1, 2], [], [], hL2, Nat.lt_succ_self _, wk_mk [0, 1, 2] [] [] rfl ⟨argP (id := 0) (by (conv => lhs; whnf); all_goals rfl) rfl, argP (id := 1) (by (conv => lhs; whnf); all_goals rfl) rfl, argE (by (conv => lhs; whnf); all_goals rfl) rfl, argE (by (conv => lhs; whnf); all_goals rfl) rfl, argP (id := 2) (by (conv => lhs; whnf); all_goals rfl) rfl, argE (by (conv => lhs; whnf); all_goals rfl) rfl, argE (by (conv => lhs; whnf); all_goals rfl) rfl, argE (by (conv => lhs; whnf); all_goals rfl) rfl, trivial⟩ ⟨boxL rfl rfl rfl ⟨(.ni _ rfl), (.ni _ rfl), trivial⟩, boxL rfl rfl rfl ⟨(.ni _ rfl), (.ni _ rfl), (.ni _ rfl), (.ni _ rfl), (.ni _ rfl), (.ni _ rfl), trivial⟩, boxL rfl rfl rfl ⟨(.ni _ rfl), (.ni _ rfl), (.ni _ rfl), (.ni _ rfl), (.ni _ rfl), (.ni _ rfl), trivial⟩, trivial⟩⟩
                              · cases (hb_1393).symm.trans h
                          · cases (not_kn (hb_1368)).symm.trans h
                        · replace hL2 := cond_f hb_1394 hL2
                          conv => whnf
                          obtain ⟨r_120, h_r_120, hL2⟩ := bind_some hL2
                          refine ⟨_, _, _, _, _, _, _, _, _, callX false [] [] 0 Try.func18 (by decide) rfl (screen_Cleared_ac (⟨(⟨z_92.2.2.1, z_92.2.2.2.1, z_92.2.2.2.2.1, z_92.2.2.2.2.2.1⟩ : A4_Int), z_92.2.2.2.2.2.2.1, z_92.2.2.2.2.2.2.2.1⟩ : Screening) r_120 h_r_120) rfl ⟨(argE (by (conv => lhs; whnf); all_goals rfl) rfl), trivial⟩ rfl trivial rfl rfl rfl lend0 trivial rfl, ?_⟩
                          conv => whnf
                          obtain ⟨r_121, h_r_121, hL2⟩ := bind_some hL2
                          refine ⟨_, _, _, _, _, _, _, _, _, callX false [] [] 0 Try.func17 (by decide) rfl (keep_In_ac r_120 i_93 r_121 h_r_121) rfl ⟨(argE (by (conv => lhs; whnf); all_goals rfl) rfl), (argE (by (conv => lhs; whnf); all_goals rfl) rfl), trivial⟩ rfl trivial rfl rfl rfl lend0 trivial rfl, ?_⟩
                          conv => whnf
                          refine ⟨fun h => ?_, fun h => ?_⟩
                          · conv => whnf
                            refine ⟨fun hb_1412 => ?_, fun hb_1412 => ?_⟩
                            · replace hL2 := cond_t hb_1412 hL2
                              conv => whnf
                              obtain rfl := Option.some.inj hL2
                              replace hL1 := sub_ret hL1
                              obtain rfl := Option.some.inj hL1
                              replace hF := fin_ret hF
                              obtain rfl := Option.some.inj hF
                              exact ret_gz [] [] [] rfl (argFl (by (conv => lhs; whnf); all_goals rfl)) trivial
                            · replace hL2 := cond_f hb_1412 hL2
                              conv => whnf
                              refine ⟨_, rfl, ?_⟩
                              conv => whnf
                              exact ⟨(q_128, (w64 (i_93 + (1 : Int)))), [0, 1, 2], [], [], hL2, Nat.lt_succ_self _, wk_mk [0, 1, 2] [] [] rfl ⟨argP (id := 0) (by (conv => lhs; whnf); all_goals rfl) rfl, argP (id := 1) (by (conv => lhs; whnf); all_goals rfl) rfl, argE (by (conv => lhs; whnf); all_goals rfl) rfl, argE (by (conv => lhs; whnf); all_goals rfl) rfl, argP (id := 2) (by (conv => lhs; whnf); all_goals rfl) rfl, argE (by (conv => lhs; whnf); all_goals rfl) rfl, argE (by (conv => lhs; whnf); all_goals rfl) rfl, argE (by (conv => lhs; whnf); all_goals rfl) rfl, trivial⟩ ⟨boxL rfl rfl rfl ⟨(.ni _ rfl), (.ni _ rfl), trivial⟩, boxL rfl rfl rfl ⟨(.ni _ rfl), (.ni _ rfl), (.ni _ rfl), (.ni _ rfl), (.ni _ rfl), (.ni _ rfl), trivial⟩, boxL rfl rfl rfl ⟨(.ni _ rfl), (.ni _ rfl), (.ni _ rfl), (.ni _ rfl), (.ni _ rfl), (.ni _ rfl), trivial⟩, trivial⟩⟩
                          · cases (hb_1393).symm.trans h
                      · replace hL2 := cond_f hb_1393 hL2
                        conv => whnf
                        obtain ⟨r_122, h_r_122, hL2⟩ := bind_some hL2
                        refine ⟨_, _, _, _, _, _, _, _, _, callX false [] [] 0 Try.func18 (by decide) rfl (screen_Cleared_ac (⟨(⟨z_92.2.2.1, z_92.2.2.2.1, z_92.2.2.2.2.1, z_92.2.2.2.2.2.1⟩ : A4_Int), z_92.2.2.2.2.2.2.1, z_92.2.2.2.2.2.2.2.1⟩ : Screening) r_122 h_r_122) rfl ⟨(argE (by (conv => lhs; whnf); all_goals rfl) rfl), trivial⟩ rfl trivial rfl rfl rfl lend0 trivial rfl, ?_⟩
                        conv => whnf
                        obtain ⟨r_123, h_r_123, hL2⟩ := bind_some hL2
                        refine ⟨_, _, _, _, _, _, _, _, _, callX false [] [] 0 Try.func17 (by decide) rfl (keep_In_ac r_122 i_93 r_123 h_r_123) rfl ⟨(argE (by (conv => lhs; whnf); all_goals rfl) rfl), (argE (by (conv => lhs; whnf); all_goals rfl) rfl), trivial⟩ rfl trivial rfl rfl rfl lend0 trivial rfl, ?_⟩
                        conv => whnf
                        refine ⟨fun h => ?_, fun h => ?_⟩
                        · cases (hb_1393).symm.trans h
                        · conv => whnf
                          refine ⟨fun hb_1413 => ?_, fun hb_1413 => ?_⟩
                          · replace hL2 := cond_t hb_1413 hL2
                            conv => whnf
                            obtain rfl := Option.some.inj hL2
                            replace hL1 := sub_ret hL1
                            obtain rfl := Option.some.inj hL1
                            replace hF := fin_ret hF
                            obtain rfl := Option.some.inj hF
                            exact ret_gz [] [] [] rfl (argFl (by (conv => lhs; whnf); all_goals rfl)) trivial
                          · replace hL2 := cond_f hb_1413 hL2
                            conv => whnf
                            refine ⟨_, rfl, ?_⟩
                            conv => whnf
                            exact ⟨(q_128, (w64 (i_93 + (1 : Int)))), [0, 1, 2], [], [], hL2, Nat.lt_succ_self _, wk_mk [0, 1, 2] [] [] rfl ⟨argP (id := 0) (by (conv => lhs; whnf); all_goals rfl) rfl, argP (id := 1) (by (conv => lhs; whnf); all_goals rfl) rfl, argE (by (conv => lhs; whnf); all_goals rfl) rfl, argE (by (conv => lhs; whnf); all_goals rfl) rfl, argP (id := 2) (by (conv => lhs; whnf); all_goals rfl) rfl, argE (by (conv => lhs; whnf); all_goals rfl) rfl, argE (by (conv => lhs; whnf); all_goals rfl) rfl, argE (by (conv => lhs; whnf); all_goals rfl) rfl, trivial⟩ ⟨boxL rfl rfl rfl ⟨(.ni _ rfl), (.ni _ rfl), trivial⟩, boxL rfl rfl rfl ⟨(.ni _ rfl), (.ni _ rfl), (.ni _ rfl), (.ni _ rfl), (.ni _ rfl), (.ni _ rfl), trivial⟩, boxL rfl rfl rfl ⟨(.ni _ rfl), (.ni _ rfl), (.ni _ rfl), (.ni _ rfl), (.ni _ rfl), (.ni _ rfl), trivial⟩, trivial⟩⟩
                  · cases (hb_1368).symm.trans h
                · replace hL2 := cond_t hb_1369 hL2
                  conv => whnf
                  obtain rfl := Option.some.inj hL2
                  replace hL1 := sub_ret hL1
                  obtain rfl := Option.some.inj hL1
                  replace hF := fin_ret hF
                  obtain rfl := Option.some.inj hF
                  exact ret_gz [] [] [] rfl (argFl (by (conv => lhs; whnf); all_goals rfl)) trivial
              · replace hL2 := cond_f hb_1368 hL2
                conv => whnf
                refine ⟨fun h => ?_, fun h => ?_⟩
                · cases (hb_1368).symm.trans h
                · conv => whnf
                  refine ⟨fun hb_1414 => ?_, fun hb_1414 => ?_⟩
                  · replace hL2 := cond_t hb_1414 hL2
                    conv => whnf
                    refine ⟨fun hb_1415 => ?_, fun hb_1415 => ?_⟩
                    · replace hL2 := cond_t hb_1415 hL2
                      conv => whnf
                      refine ⟨fun h => ?_, fun h => ?_⟩
                      · cases (not_kn (hb_1368)).symm.trans h
                      · conv => whnf
                        refine ⟨fun h => ?_, fun h => ?_⟩
                        · cases (not_kn (hb_1368)).symm.trans h
                        · conv => whnf
                          refine ⟨by kernel_rfl, ?_⟩
                          conv => whnf
                          obtain rfl := Option.some.inj hL2
                          replace hL1 := sub_ret hL1
                          obtain rfl := Option.some.inj hL1
                          replace hF := fin_ret hF
                          obtain rfl := Option.some.inj hF
                          exact ret_gz [] [] [] rfl (argFl (by (conv => lhs; whnf); all_goals rfl)) trivial
                    · replace hL2 := cond_f hb_1415 hL2
                      conv => whnf
                      obtain ⟨r_124, h_r_124, hL2⟩ := bind_some hL2
                      refine ⟨_, _, _, _, _, _, _, _, _, callX false [] [] 0 Try.func18 (by decide) rfl (screen_Cleared_ac (⟨(⟨z_92.2.2.1, z_92.2.2.2.1, z_92.2.2.2.2.1, z_92.2.2.2.2.2.1⟩ : A4_Int), z_92.2.2.2.2.2.2.1, z_92.2.2.2.2.2.2.2.1⟩ : Screening) r_124 h_r_124) rfl ⟨(argE (by (conv => lhs; whnf); all_goals rfl) rfl), trivial⟩ rfl trivial rfl rfl rfl lend0 trivial rfl, ?_⟩
                      conv => whnf
                      obtain ⟨r_125, h_r_125, hL2⟩ := bind_some hL2
                      refine ⟨_, _, _, _, _, _, _, _, _, callX false [] [] 0 Try.func17 (by decide) rfl (keep_In_ac r_124 i_93 r_125 h_r_125) rfl ⟨(argE (by (conv => lhs; whnf); all_goals rfl) rfl), (argE (by (conv => lhs; whnf); all_goals rfl) rfl), trivial⟩ rfl trivial rfl rfl rfl lend0 trivial rfl, ?_⟩
                      conv => whnf
                      refine ⟨fun h => ?_, fun h => ?_⟩
                      · conv => whnf
                        refine ⟨fun hb_1416 => ?_, fun hb_1416 => ?_⟩
                        · replace hL2 := cond_t hb_1416 hL2
                          conv => whnf
                          obtain rfl := Option.some.inj hL2
                          replace hL1 := sub_ret hL1
                          obtain rfl := Option.some.inj hL1
                          replace hF := fin_ret hF
                          obtain rfl := Option.some.inj hF
                          exact ret_gz [] [] [] rfl (argFl (by (conv => lhs; whnf); all_goals rfl)) trivial
                        · replace hL2 := cond_f hb_1416 hL2
                          conv => whnf
                          refine ⟨_, rfl, ?_⟩
                          conv => whnf
                          exact ⟨(q_128, (w64 (i_93 + (1 : Int)))), [0, 1, 2], [], [], hL2, Nat.lt_succ_self _, wk_mk [0, 1, 2] [] [] rfl ⟨argP (id := 0) (by (conv => lhs; whnf); all_goals rfl) rfl, argP (id := 1) (by (conv => lhs; whnf); all_goals rfl) rfl, argE (by (conv => lhs; whnf); all_goals rfl) rfl, argE (by (conv => lhs; whnf); all_goals rfl) rfl, argP (id := 2) (by (conv => lhs; whnf); all_goals rfl) rfl, argE (by (conv => lhs; whnf); all_goals rfl) rfl, argE (by (conv => lhs; whnf); all_goals rfl) rfl, argE (by (conv => lhs; whnf); all_goals rfl) rfl, trivial⟩ ⟨boxL rfl rfl rfl ⟨(.ni _ rfl), (.ni _ rfl), trivial⟩, boxL rfl rfl rfl ⟨(.ni _ rfl), (.ni _ rfl), (.ni _ rfl), (.ni _ rfl), (.ni _ rfl), (.ni _ rfl), trivial⟩, boxL rfl rfl rfl ⟨(.ni _ rfl), (.ni _ rfl), (.ni _ rfl), (.ni _ rfl), (.ni _ rfl), (.ni _ rfl), trivial⟩, trivial⟩⟩
                      · cases (hb_1414).symm.trans h
                  · replace hL2 := cond_f hb_1414 hL2
                    conv => whnf
                    obtain ⟨r_126, h_r_126, hL2⟩ := bind_some hL2
                    refine ⟨_, _, _, _, _, _, _, _, _, callX false [] [] 0 Try.func18 (by decide) rfl (screen_Cleared_ac (⟨(⟨z_92.2.2.1, z_92.2.2.2.1, z_92.2.2.2.2.1, z_92.2.2.2.2.2.1⟩ : A4_Int), z_92.2.2.2.2.2.2.1, z_92.2.2.2.2.2.2.2.1⟩ : Screening) r_126 h_r_126) rfl ⟨(argE (by (conv => lhs; whnf); all_goals rfl) rfl), trivial⟩ rfl trivial rfl rfl rfl lend0 trivial rfl, ?_⟩
                    conv => whnf
                    obtain ⟨r_127, h_r_127, hL2⟩ := bind_some hL2
                    refine ⟨_, _, _, _, _, _, _, _, _, callX false [] [] 0 Try.func17 (by decide) rfl (keep_In_ac r_126 i_93 r_127 h_r_127) rfl ⟨(argE (by (conv => lhs; whnf); all_goals rfl) rfl), (argE (by (conv => lhs; whnf); all_goals rfl) rfl), trivial⟩ rfl trivial rfl rfl rfl lend0 trivial rfl, ?_⟩
                    conv => whnf
                    refine ⟨fun h => ?_, fun h => ?_⟩
                    · cases (hb_1414).symm.trans h
                    · conv => whnf
                      refine ⟨fun hb_1417 => ?_, fun hb_1417 => ?_⟩
                      · replace hL2 := cond_t hb_1417 hL2
                        conv => whnf
                        obtain rfl := Option.some.inj hL2
                        replace hL1 := sub_ret hL1
                        obtain rfl := Option.some.inj hL1
                        replace hF := fin_ret hF
                        obtain rfl := Option.some.inj hF
                        exact ret_gz [] [] [] rfl (argFl (by (conv => lhs; whnf); all_goals rfl)) trivial
                      · replace hL2 := cond_f hb_1417 hL2
                        conv => whnf
                        refine ⟨_, rfl, ?_⟩
                        conv => whnf
                        exact ⟨(q_128, (w64 (i_93 + (1 : Int)))), [0, 1, 2], [], [], hL2, Nat.lt_succ_self _, wk_mk [0, 1, 2] [] [] rfl ⟨argP (id := 0) (by (conv => lhs; whnf); all_goals rfl) rfl, argP (id := 1) (by (conv => lhs; whnf); all_goals rfl) rfl, argE (by (conv => lhs; whnf); all_goals rfl) rfl, argE (by (conv => lhs; whnf); all_goals rfl) rfl, argP (id := 2) (by (conv => lhs; whnf); all_goals rfl) rfl, argE (by (conv => lhs; whnf); all_goals rfl) rfl, argE (by (conv => lhs; whnf); all_goals rfl) rfl, argE (by (conv => lhs; whnf); all_goals rfl) rfl, trivial⟩ ⟨boxL rfl rfl rfl ⟨(.ni _ rfl), (.ni _ rfl), trivial⟩, boxL rfl rfl rfl ⟨(.ni _ rfl), (.ni _ rfl), (.ni _ rfl), (.ni _ rfl), (.ni _ rfl), (.ni _ rfl), trivial⟩, boxL rfl rfl rfl ⟨(.ni _ rfl), (.ni _ rfl), (.ni _ rfl), (.ni _ rfl), (.ni _ rfl), (.ni _ rfl), trivial⟩, trivial⟩⟩
            · replace hL2 := cond_f hb_1367 hL2
              conv => whnf
              obtain rfl := Option.some.inj hL2
              replace hL1 := sub_brk hL1
              try dsimp only at hL1
              refine ⟨_, rfl, ?_⟩
              conv => whnf
              exact ⟨(q_130, z_92.1, z_92.2.1, z_92.2.2.1, z_92.2.2.2.1, z_92.2.2.2.2.1, z_92.2.2.2.2.2.1, z_92.2.2.2.2.2.2.1, z_92.2.2.2.2.2.2.2.1, (w64 (i_15 + r_74.1)), (w64 (i_16 + (1 : Int)))), [0, 1], [], [], hL1, Nat.lt_succ_self _, wk_mk [0, 1] [] [] rfl ⟨argP (id := 0) (by (conv => lhs; whnf); all_goals rfl) rfl, argP (id := 1) (by (conv => lhs; whnf); all_goals rfl) rfl, argE (by (conv => lhs; whnf); all_goals rfl) rfl, argE (by (conv => lhs; whnf); all_goals rfl) rfl, trivial⟩ ⟨boxL rfl rfl rfl ⟨(.ni _ rfl), (.ni _ rfl), trivial⟩, boxL rfl rfl rfl ⟨(.ni _ rfl), (.ni _ rfl), (.ni _ rfl), (.ni _ rfl), (.ni _ rfl), (.ni _ rfl), trivial⟩, trivial⟩⟩
        · replace hL1 := cond_f hb_1360 hL1
          conv => whnf
          obtain rfl := Option.some.inj hL1
          replace hF := fin_brk hF
          try dsimp only at hF
          obtain ⟨r_132, h_r_132, hF⟩ := bind_some hF
          refine ⟨_, _, _, _, _, _, _, _, _, callX false [] [] 0 Try.func15 (by decide) rfl (law15_awake_ac r_132 h_r_132) rfl trivial rfl trivial rfl rfl rfl lend0 trivial rfl, ?_⟩
          conv => whnf
          obtain rfl := Option.some.inj hF
          exact ret_gz [] [] [] rfl (argE (by (conv => lhs; whnf); all_goals rfl) rfl) trivial
      · replace hL1 := cond_t hb_1302 hL1
        conv => whnf
        refine sw_blk tab_ok follows_ok ?_
        conv => whnf
        obtain ⟨r_17, h_r_17, hL1⟩ := bind_some hL1
        refine ⟨_, _, _, _, _, _, _, _, _, callX false [0] [] 0 Try.func10 (by decide) rfl (keep_Src_N_ac (⟨a_7, i_8⟩ : Src) (4 : Int) r_17 h_r_17) rfl ⟨(argP (id := 0) (by (conv => lhs; whnf); all_goals rfl) rfl), (argE (by (conv => lhs; whnf); all_goals rfl) rfl), trivial⟩ rfl ⟨rfl, trivial⟩ rfl rfl rfl lend0 ⟨rfl, trivial⟩ rfl, ?_⟩
        conv => whnf
        refine ⟨_, rfl, ?_⟩
        conv => whnf
        obtain ⟨r_18, h_r_18, hL1⟩ := bind_some hL1
        refine ⟨_, _, _, _, _, _, _, _, _, callX false [0] [] 0 Try.func10 (by decide) rfl (keep_Src_N_ac r_17.2 (4 : Int) r_18 h_r_18) rfl ⟨(argP (id := 0) (by (conv => lhs; whnf); all_goals rfl) rfl), (argE (by (conv => lhs; whnf); all_goals rfl) rfl), trivial⟩ rfl ⟨rfl, trivial⟩ rfl rfl rfl lend0 ⟨rfl, trivial⟩ rfl, ?_⟩
        conv => whnf
        obtain ⟨D_1303, cJ_1303, hJ_1303, hB_1303, hD_1303, hR_1303⟩ := sub_join hL1
        refine sw_blkj tab_ok follows_ok (fun y : (List Int) × Int × Int × Int × Int × Int × Int × (List Check) × Int × Bool => ⟨eL [(3, .ptr 0 0), (4, .ptr 1 0), (6, .int .i64 (w64 (i_15 + r_17.1))), (7, .int .i64 i_16), (8, .ptr 2 0), (9, .int .i64 y.2.2.2.2.2.2.2.2.1), (10, .bool y.2.2.2.2.2.2.2.2.2)], hL [(0, .box [.lst 1 (y.1.map iA), .int .i64 y.2.1]), (1, .box [.int .i64 y.2.2.1, .int .i64 y.2.2.2.1, .int .i64 y.2.2.2.2.1, .int .i64 y.2.2.2.2.2.1, .int .i64 y.2.2.2.2.2.2.1, .lst 5 (y.2.2.2.2.2.2.2.1.map encCheck)]), (2, .box [.int .i64 i_9, .int .i64 i_10, .int .i64 i_11, .int .i64 i_12, .int .i64 i_13, .lst 5 (a_14.map encCheck)])], 3⟩) D_1303 ?_ ?_
        · conv => whnf
          refine ⟨fun hb_1304 => ?_, fun hb_1304 => ?_⟩
          · replace hJ_1303 := cond_t hb_1304 hJ_1303
            conv => whnf
            obtain ⟨r_19, h_r_19, hJ_1303⟩ := bind_some hJ_1303
            refine ⟨_, _, _, _, _, _, _, _, _, callX false [0] [] 0 Try.func12 (by decide) rfl (keep_Src_Range_ac r_18.2 (1 : Int) (5 : Int) r_19 h_r_19) rfl ⟨(argP (id := 0) (by (conv => lhs; whnf); all_goals rfl) rfl), (argE (by (conv => lhs; whnf); all_goals rfl) rfl), (argE (by (conv => lhs; whnf); all_goals rfl) rfl), trivial⟩ rfl ⟨rfl, trivial⟩ rfl rfl rfl lend0 ⟨rfl, trivial⟩ rfl, ?_⟩
            conv => whnf
            obtain ⟨r_20, h_r_20, hJ_1303⟩ := bind_some hJ_1303
            refine ⟨_, _, _, _, _, _, _, _, _, callX false [] [] 0 Try.func11 (by decide) rfl (screen_Start_ac (⟨(⟨i_9, i_10, i_11, i_12⟩ : A4_Int), i_13, a_14⟩ : Screening) r_19.1 (w64 (i_15 + r_17.1)) r_20 h_r_20) rfl ⟨(argE (by (conv => lhs; whnf); all_goals rfl) rfl), (argE (by (conv => lhs; whnf); all_goals rfl) rfl), (argE (by (conv => lhs; whnf); all_goals rfl) rfl), trivial⟩ rfl trivial rfl rfl rfl lend0 trivial rfl, ?_⟩
            conv => whnf
            refine ⟨by kernel_rfl, ?_⟩
            conv => whnf
            refine ⟨fun hb_1305 => ?_, fun hb_1305 => ?_⟩
            · replace hJ_1303 := cond_t hb_1305 hJ_1303
              conv => whnf
              obtain rfl := Option.some.inj hJ_1303
              exact ⟨(r_19.2.L, r_19.2.At, r_20.1.Limits.e0, r_20.1.Limits.e1, r_20.1.Limits.e2, r_20.1.Limits.e3, r_20.1.Next, r_20.1.L, (0 : Int), false), [0, 1, 3], [], [], hB_1303 _ rfl, wk_mk [0, 1, 3] [] [] rfl ⟨argP (id := 0) (by (conv => lhs; whnf); all_goals rfl) rfl, argP (id := 1) (by (conv => lhs; whnf); all_goals rfl) rfl, argE (by (conv => lhs; whnf); all_goals rfl) rfl, argE (by (conv => lhs; whnf); all_goals rfl) rfl, argP (id := 3) (by (conv => lhs; whnf); all_goals rfl) rfl, argE (by (conv => lhs; whnf); all_goals rfl) rfl, argFl (by (conv => lhs; whnf); all_goals rfl), trivial⟩ ⟨boxL rfl rfl rfl ⟨(.ni _ rfl), (.ni _ rfl), trivial⟩, boxL rfl rfl rfl ⟨(.ni _ rfl), (.ni _ rfl), (.ni _ rfl), (.ni _ rfl), (.ni _ rfl), (.ni _ rfl), trivial⟩, boxL rfl rfl rfl ⟨(.ni _ rfl), (.ni _ rfl), (.ni _ rfl), (.ni _ rfl), (.ni _ rfl), (.ni _ rfl), trivial⟩, trivial⟩⟩
            · replace hJ_1303 := cond_f hb_1305 hJ_1303
              conv => whnf
              obtain rfl := Option.some.inj hJ_1303
              exact ⟨(r_19.2.L, r_19.2.At, i_9, i_10, i_11, i_12, i_13, a_14, (0 : Int), false), [0, 1, 3], [], [], hB_1303 _ rfl, wk_mk [0, 1, 3] [] [] rfl ⟨argP (id := 0) (by (conv => lhs; whnf); all_goals rfl) rfl, argP (id := 1) (by (conv => lhs; whnf); all_goals rfl) rfl, argE (by (conv => lhs; whnf); all_goals rfl) rfl, argE (by (conv => lhs; whnf); all_goals rfl) rfl, argP (id := 3) (by (conv => lhs; whnf); all_goals rfl) rfl, argE (by (conv => lhs; whnf); all_goals rfl) rfl, argFl (by (conv => lhs; whnf); all_goals rfl), trivial⟩ ⟨boxL rfl rfl rfl ⟨(.ni _ rfl), (.ni _ rfl), trivial⟩, boxL rfl rfl rfl ⟨(.ni _ rfl), (.ni _ rfl), (.ni _ rfl), (.ni _ rfl), (.ni _ rfl), (.ni _ rfl), trivial⟩, boxL rfl rfl rfl ⟨(.ni _ rfl), (.ni _ rfl), (.ni _ rfl), (.ni _ rfl), (.ni _ rfl), (.ni _ rfl), trivial⟩, trivial⟩⟩
          · replace hJ_1303 := cond_f hb_1304 hJ_1303
            conv => whnf
            refine ⟨fun hb_1306 => ?_, fun hb_1306 => ?_⟩
            · replace hJ_1303 := cond_t hb_1306 hJ_1303
              conv => whnf
              obtain ⟨r_21, h_r_21, hJ_1303⟩ := bind_some hJ_1303
              refine ⟨_, _, _, _, _, _, _, _, _, callX false [] [] 0 Try.func13 (by decide) rfl (screen_Expire_ac (⟨(⟨i_9, i_10, i_11, i_12⟩ : A4_Int), i_13, a_14⟩ : Screening) (w64 (i_15 + r_17.1)) r_21 h_r_21) rfl ⟨(argE (by (conv => lhs; whnf); all_goals rfl) rfl), (argE (by (conv => lhs; whnf); all_goals rfl) rfl), trivial⟩ rfl trivial rfl rfl rfl lend0 trivial rfl, ?_⟩
              conv => whnf
              refine ⟨fun hb_1307 => ?_, fun hb_1307 => ?_⟩
              · replace hJ_1303 := cond_t hb_1307 hJ_1303
                conv => whnf
                obtain rfl := Option.some.inj hJ_1303
                replace hL1 := hR_1303 _ rfl
                obtain rfl := Option.some.inj hL1
                replace hF := fin_ret hF
                obtain rfl := Option.some.inj hF
                exact ret_gz [] [] [] rfl (argFl (by (conv => lhs; whnf); all_goals rfl)) trivial
              · replace hJ_1303 := cond_f hb_1307 hJ_1303
                conv => whnf
                obtain rfl := Option.some.inj hJ_1303
                exact ⟨(r_18.2.L, r_18.2.At, r_21.1.Limits.e0, r_21.1.Limits.e1, r_21.1.Limits.e2, r_21.1.Limits.e3, r_21.1.Next, r_21.1.L, (0 : Int), false), [0, 1, 3], [], [], hB_1303 _ rfl, wk_mk [0, 1, 3] [] [] rfl ⟨argP (id := 0) (by (conv => lhs; whnf); all_goals rfl) rfl, argP (id := 1) (by (conv => lhs; whnf); all_goals rfl) rfl, argE (by (conv => lhs; whnf); all_goals rfl) rfl, argE (by (conv => lhs; whnf); all_goals rfl) rfl, argP (id := 3) (by (conv => lhs; whnf); all_goals rfl) rfl, argE (by (conv => lhs; whnf); all_goals rfl) rfl, argFl (by (conv => lhs; whnf); all_goals rfl), trivial⟩ ⟨boxL rfl rfl rfl ⟨(.ni _ rfl), (.ni _ rfl), trivial⟩, boxL rfl rfl rfl ⟨(.ni _ rfl), (.ni _ rfl), (.ni _ rfl), (.ni _ rfl), (.ni _ rfl), (.ni _ rfl), trivial⟩, boxL rfl rfl rfl ⟨(.ni _ rfl), (.ni _ rfl), (.ni _ rfl), (.ni _ rfl), (.ni _ rfl), (.ni _ rfl), trivial⟩, trivial⟩⟩
            · replace hJ_1303 := cond_f hb_1306 hJ_1303
              conv => whnf
              obtain ⟨r_22, h_r_22, hJ_1303⟩ := bind_some hJ_1303
              refine ⟨_, _, _, _, _, _, _, _, _, callX false [0] [] 0 Try.func10 (by decide) rfl (keep_Src_N_ac r_18.2 (12 : Int) r_22 h_r_22) rfl ⟨(argP (id := 0) (by (conv => lhs; whnf); all_goals rfl) rfl), (argE (by (conv => lhs; whnf); all_goals rfl) rfl), trivial⟩ rfl ⟨rfl, trivial⟩ rfl rfl rfl lend0 ⟨rfl, trivial⟩ rfl, ?_⟩
              conv => whnf
              obtain ⟨r_23, h_r_23, hJ_1303⟩ := bind_some hJ_1303
              refine ⟨_, _, _, _, _, _, _, _, _, callX false [0] [] 0 Try.func10 (by decide) rfl (keep_Src_N_ac r_22.2 (2 : Int) r_23 h_r_23) rfl ⟨(argP (id := 0) (by (conv => lhs; whnf); all_goals rfl) rfl), (argE (by (conv => lhs; whnf); all_goals rfl) rfl), trivial⟩ rfl ⟨rfl, trivial⟩ rfl rfl rfl lend0 ⟨rfl, trivial⟩ rfl, ?_⟩
              conv => whnf
              obtain ⟨r_24, h_r_24, hJ_1303⟩ := bind_some hJ_1303
              refine ⟨_, _, _, _, _, _, _, _, _, callX false [] [] 0 Try.func14 (by decide) rfl (screen_Verdict_ac (⟨(⟨i_9, i_10, i_11, i_12⟩ : A4_Int), i_13, a_14⟩ : Screening) r_22.1 (r_23.1 == (0 : Int)) (w64 (i_15 + r_17.1)) r_24 h_r_24) rfl ⟨(argE (by (conv => lhs; whnf); all_goals rfl) rfl), (argE (by (conv => lhs; whnf); all_goals rfl) rfl), (argE (by (conv => lhs; whnf); all_goals rfl) rfl), (argE (by (conv => lhs; whnf); all_goals rfl) rfl), trivial⟩ rfl trivial rfl rfl rfl lend0 trivial rfl, ?_⟩
              conv => whnf
              refine ⟨fun hb_1308 => ?_, fun hb_1308 => ?_⟩
              · replace hJ_1303 := cond_t hb_1308 hJ_1303
                conv => whnf
                obtain rfl := Option.some.inj hJ_1303
                exact ⟨(r_23.2.L, r_23.2.At, r_24.1.Limits.e0, r_24.1.Limits.e1, r_24.1.Limits.e2, r_24.1.Limits.e3, r_24.1.Next, r_24.1.L, r_22.1, (r_23.1 == (0 : Int))), [0, 1, 3], [], [], hB_1303 _ rfl, wk_mk [0, 1, 3] [] [] rfl ⟨argP (id := 0) (by (conv => lhs; whnf); all_goals rfl) rfl, argP (id := 1) (by (conv => lhs; whnf); all_goals rfl) rfl, argE (by (conv => lhs; whnf); all_goals rfl) rfl, argE (by (conv => lhs; whnf); all_goals rfl) rfl, argP (id := 3) (by (conv => lhs; whnf); all_goals rfl) rfl, argE (by (conv => lhs; whnf); all_goals rfl) rfl, argE (by (conv => lhs; whnf); all_goals rfl) rfl, trivial⟩ ⟨boxL rfl rfl rfl ⟨(.ni _ rfl), (.ni _ rfl), trivial⟩, boxL rfl rfl rfl ⟨(.ni _ rfl), (.ni _ rfl), (.ni _ rfl), (.ni _ rfl), (.ni _ rfl), (.ni _ rfl), trivial⟩, boxL rfl rfl rfl ⟨(.ni _ rfl), (.ni _ rfl), (.ni _ rfl), (.ni _ rfl), (.ni _ rfl), (.ni _ rfl), trivial⟩, trivial⟩⟩
              · replace hJ_1303 := cond_f hb_1308 hJ_1303
                conv => whnf
                obtain rfl := Option.some.inj hJ_1303
                exact ⟨(r_23.2.L, r_23.2.At, i_9, i_10, i_11, i_12, i_13, a_14, r_22.1, (r_23.1 == (0 : Int))), [0, 1, 3], [], [], hB_1303 _ rfl, wk_mk [0, 1, 3] [] [] rfl ⟨argP (id := 0) (by (conv => lhs; whnf); all_goals rfl) rfl, argP (id := 1) (by (conv => lhs; whnf); all_goals rfl) rfl, argE (by (conv => lhs; whnf); all_goals rfl) rfl, argE (by (conv => lhs; whnf); all_goals rfl) rfl, argP (id := 3) (by (conv => lhs; whnf); all_goals rfl) rfl, argE (by (conv => lhs; whnf); all_goals rfl) rfl, argE (by (conv => lhs; whnf); all_goals rfl) rfl, trivial⟩ ⟨boxL rfl rfl rfl ⟨(.ni _ rfl), (.ni _ rfl), trivial⟩, boxL rfl rfl rfl ⟨(.ni _ rfl), (.ni _ rfl), (.ni _ rfl), (.ni _ rfl), (.ni _ rfl), (.ni _ rfl), trivial⟩, boxL rfl rfl rfl ⟨(.ni _ rfl), (.ni _ rfl), (.ni _ rfl), (.ni _ rfl), (.ni _ rfl), (.ni _ rfl), trivial⟩, trivial⟩⟩
        · rintro z_35 hx_1303
          replace hL1 := hD_1303 _ hx_1303
          try dsimp only at hL1
          conv => whnf
          refine sw_blk tab_ok follows_ok ?_
          conv => whnf
          obtain ⟨c_2, hc_2, hL1⟩ := sub_some hL1
          refine sw_loopJ tab_ok follows_ok (fun y : Nat × Int => law15_ScreenOnlyVerdicts_L2 i_9 i_10 i_11 i_12 i_13 a_14 i_15 r_17 z_35 y.1 y.2 = some c_2) (fun y => ⟨eL [(3, .ptr 0 0), (4, .ptr 1 0), (6, .int .i64 (w64 (i_15 + r_17.1))), (7, .int .i64 i_16), (8, .ptr 2 0), (9, .int .i64 z_35.2.2.2.2.2.2.2.2.1), (10, .bool z_35.2.2.2.2.2.2.2.2.2), (18, .int .i64 y.2)], hL [(0, .box [.lst 1 (z_35.1.map iA), .int .i64 z_35.2.1]), (1, .box [.int .i64 z_35.2.2.1, .int .i64 z_35.2.2.2.1, .int .i64 z_35.2.2.2.2.1, .int .i64 z_35.2.2.2.2.2.1, .int .i64 z_35.2.2.2.2.2.2.1, .lst 5 (z_35.2.2.2.2.2.2.2.1.map encCheck)]), (2, .box [.int .i64 i_9, .int .i64 i_10, .int .i64 i_11, .int .i64 i_12, .int .i64 i_13, .lst 5 (a_14.map encCheck)])], 3⟩) (fun y => y.1) (9223372036854775807, (1 : Int)) hc_2 (wk_mk [0, 1, 2] [] [] rfl ⟨argP (id := 0) (by (conv => lhs; whnf); all_goals rfl) rfl, argP (id := 1) (by (conv => lhs; whnf); all_goals rfl) rfl, argE (by (conv => lhs; whnf); all_goals rfl) rfl, argE (by (conv => lhs; whnf); all_goals rfl) rfl, argP (id := 2) (by (conv => lhs; whnf); all_goals rfl) rfl, argE (by (conv => lhs; whnf); all_goals rfl) rfl, argE (by (conv => lhs; whnf); all_goals rfl) rfl, argE (by (conv => lhs; whnf); all_goals rfl) rfl, trivial⟩ ⟨boxL rfl rfl rfl ⟨(.ni _ rfl), (.ni _ rfl), trivial⟩, boxL rfl rfl rfl ⟨(.ni _ rfl), (.ni _ rfl), (.ni _ rfl), (.ni _ rfl), (.ni _ rfl), (.ni _ rfl), trivial⟩, boxL rfl rfl rfl ⟨(.ni _ rfl), (.ni _ rfl), (.ni _ rfl), (.ni _ rfl), (.ni _ rfl), (.ni _ rfl), trivial⟩, trivial⟩) ?_
          rintro ⟨q_71, i_36⟩ hL2
          try dsimp only at hL2
          rcases q_71 with _ | q_71
          · rw [law15_ScreenOnlyVerdicts_L2.eq_1] at hL2
            cases hL2
          rw [law15_ScreenOnlyVerdicts_L2.eq_2] at hL2
          show awpJ _ _ _ _ _ _ ⟨eL [(3, .ptr 0 0), (4, .ptr 1 0), (6, .int .i64 (w64 (i_15 + r_17.1))), (7, .int .i64 i_16), (8, .ptr 2 0), (9, .int .i64 z_35.2.2.2.2.2.2.2.2.1), (10, .bool z_35.2.2.2.2.2.2.2.2.2), (18, .int .i64 i_36)], hL [(0, .box [.lst 1 (z_35.1.map iA), .int .i64 z_35.2.1]), (1, .box [.int .i64 z_35.2.2.1, .int .i64 z_35.2.2.2.1, .int .i64 z_35.2.2.2.2.1, .int .i64 z_35.2.2.2.2.2.1, .int .i64 z_35.2.2.2.2.2.2.1, .lst 5 (z_35.2.2.2.2.2.2.2.1.map encCheck)]), (2, .box [.int .i64 i_9, .int .i64 i_10, .int .i64 i_11, .int .i64 i_12, .int .i64 i_13, .lst 5 (a_14.map encCheck)])], 3⟩
          conv => whnf
          refine ⟨fun hb_1309 => ?_, fun hb_1309 => ?_⟩
          · replace hL2 := cond_t hb_1309 hL2
            conv => whnf
            refine sw_blk tab_ok follows_ok ?_
            conv => whnf
            obtain ⟨r_37, h_r_37, hL2⟩ := bind_some hL2
            refine ⟨_, _, _, _, _, _, _, _, _, callX false [] [] 0 Try.func16 (by decide) rfl (screen_Find_ac (⟨(⟨i_9, i_10, i_11, i_12⟩ : A4_Int), i_13, a_14⟩ : Screening) i_36 r_37 h_r_37) rfl ⟨(argE (by (conv => lhs; whnf); all_goals rfl) rfl), (argE (by (conv => lhs; whnf); all_goals rfl) rfl), trivial⟩ rfl trivial rfl rfl rfl lend0 trivial rfl, ?_⟩
            conv => whnf
            obtain ⟨r_38, h_r_38, hL2⟩ := bind_some hL2
            refine ⟨_, _, _, _, _, _, _, _, _, callX false [] [] 0 Try.func16 (by decide) rfl (screen_Find_ac (⟨(⟨z_35.2.2.1, z_35.2.2.2.1, z_35.2.2.2.2.1, z_35.2.2.2.2.2.1⟩ : A4_Int), z_35.2.2.2.2.2.2.1, z_35.2.2.2.2.2.2.2.1⟩ : Screening) i_36 r_38 h_r_38) rfl ⟨(argE (by (conv => lhs; whnf); all_goals rfl) rfl), (argE (by (conv => lhs; whnf); all_goals rfl) rfl), trivial⟩ rfl trivial rfl rfl rfl lend0 trivial rfl, ?_⟩
            conv => whnf
            refine ⟨fun hb_1310 => ?_, fun hb_1310 => ?_⟩
            · replace hL2 := cond_t hb_1310 hL2
              conv => whnf
              refine ⟨fun hb_1311 => ?_, fun hb_1311 => ?_⟩
              · replace hL2 := cond_f hb_1311 hL2
                conv => whnf
                refine ⟨fun h => ?_, fun h => ?_⟩
                · conv => whnf
                  refine ⟨fun hb_1312 => ?_, fun hb_1312 => ?_⟩
                  · replace hL2 := cond_t hb_1312 hL2
                    conv => whnf
                    refine ⟨fun hb_1313 => ?_, fun hb_1313 => ?_⟩
                    · replace hL2 := cond_t hb_1313 hL2
                      conv => whnf
                      obtain rfl := Option.some.inj hL2
                      replace hL1 := sub_ret hL1
                      obtain rfl := Option.some.inj hL1
                      replace hF := fin_ret hF
                      obtain rfl := Option.some.inj hF
                      exact ret_gz [] [] [] rfl (argFl (by (conv => lhs; whnf); all_goals rfl)) trivial
                    · replace hL2 := cond_f hb_1313 hL2
                      conv => whnf
                      refine ⟨fun hb_1314 => ?_, fun hb_1314 => ?_⟩
                      · replace hL2 := cond_t hb_1314 hL2
                        conv => whnf
                        refine ⟨fun hb_1315 => ?_, fun hb_1315 => ?_⟩
                        · replace hL2 := cond_t hb_1315 hL2
                          conv => whnf
                          refine ⟨fun h => ?_, fun h => ?_⟩
                          · conv => whnf
                            refine ⟨fun hb_1316 => ?_, fun hb_1316 => ?_⟩
                            · replace hL2 := cond_t hb_1316 hL2
                              conv => whnf
                              refine ⟨fun h => ?_, fun h => ?_⟩
                              · conv => whnf
                                refine ⟨fun hb_1317 => ?_, fun hb_1317 => ?_⟩
                                · replace hL2 := cond_f hb_1317 hL2
                                  conv => whnf
                                  refine ⟨fun hb_1318 => ?_, fun hb_1318 => ?_⟩
                                  · replace hL2 := cond_f hb_1318 hL2
                                    conv => whnf
                                    refine ⟨fun hb_1319 => ?_, fun hb_1319 => ?_⟩
                                    · replace hL2 := cond_f hb_1319 hL2
                                      conv => whnf
                                      refine ⟨_, rfl, ?_⟩
                                      conv => whnf
                                      refine (Bool.eq_false_or_eq_true ((w64 (r_37.1.Level - (1 : Int))) == (0 : Int))).elim (fun hi_1320 => ?_) (fun hi_1320 => ?_)
                                      · replace hL2 := cond_t hi_1320 hL2
                                        refine ⟨0, eq_of_beq hi_1320, by decide, ?_⟩
                                        conv => whnf
                                        refine ⟨_, rfl, ?_⟩
                                        conv => whnf
                                        refine ⟨by kernel_rfl, ?_⟩
                                        conv => whnf
                                        refine ⟨fun hb_1321 => ?_, fun hb_1321 => ?_⟩
                                        · replace hL2 := cond_t hb_1321 hL2
                                          conv => whnf
                                          obtain rfl := Option.some.inj hL2
                                          replace hL1 := sub_ret hL1
                                          obtain rfl := Option.some.inj hL1
                                          replace hF := fin_ret hF
                                          obtain rfl := Option.some.inj hF
                                          exact ret_gz [] [] [] rfl (argFl (by (conv => lhs; whnf); all_goals rfl)) trivial
                                        · replace hL2 := cond_f hb_1321 hL2
                                          conv => whnf
                                          obtain ⟨r_39, h_r_39, hL2⟩ := bind_some hL2
                                          refine ⟨_, _, _, _, _, _, _, _, _, callX false [] [] 0 Try.func18 (by decide) rfl (screen_Cleared_ac (⟨(⟨z_35.2.2.1, z_35.2.2.2.1, z_35.2.2.2.2.1, z_35.2.2.2.2.2.1⟩ : A4_Int), z_35.2.2.2.2.2.2.1, z_35.2.2.2.2.2.2.2.1⟩ : Screening) r_39 h_r_39) rfl ⟨(argE (by (conv => lhs; whnf); all_goals rfl) rfl), trivial⟩ rfl trivial rfl rfl rfl lend0 trivial rfl, ?_⟩
                                          conv => whnf
                                          obtain ⟨r_40, h_r_40, hL2⟩ := bind_some hL2
                                          refine ⟨_, _, _, _, _, _, _, _, _, callX false [] [] 0 Try.func17 (by decide) rfl (keep_In_ac r_39 i_36 r_40 h_r_40) rfl ⟨(argE (by (conv => lhs; whnf); all_goals rfl) rfl), (argE (by (conv => lhs; whnf); all_goals rfl) rfl), trivial⟩ rfl trivial rfl rfl rfl lend0 trivial rfl, ?_⟩
                                          conv => whnf
                                          refine ⟨fun h => ?_, fun h => ?_⟩
                                          · conv => whnf
                                            refine ⟨fun hb_1322 => ?_, fun hb_1322 => ?_⟩
                                            · replace hL2 := cond_t hb_1322 hL2
                                              conv => whnf
                                              obtain rfl := Option.some.inj hL2
                                              replace hL1 := sub_ret hL1
                                              obtain rfl := Option.some.inj hL1
                                              replace hF := fin_ret hF
                                              obtain rfl := Option.some.inj hF
                                              exact ret_gz [] [] [] rfl (argFl (by (conv => lhs; whnf); all_goals rfl)) trivial
                                            · replace hL2 := cond_f hb_1322 hL2
                                              conv => whnf
                                              refine ⟨_, rfl, ?_⟩
                                              conv => whnf
                                              exact ⟨(q_71, (w64 (i_36 + (1 : Int)))), [0, 1, 2], [], [], hL2, Nat.lt_succ_self _, wk_mk [0, 1, 2] [] [] rfl ⟨argP (id := 0) (by (conv => lhs; whnf); all_goals rfl) rfl, argP (id := 1) (by (conv => lhs; whnf); all_goals rfl) rfl, argE (by (conv => lhs; whnf); all_goals rfl) rfl, argE (by (conv => lhs; whnf); all_goals rfl) rfl, argP (id := 2) (by (conv => lhs; whnf); all_goals rfl) rfl, argE (by (conv => lhs; whnf); all_goals rfl) rfl, argE (by (conv => lhs; whnf); all_goals rfl) rfl, argE (by (conv => lhs; whnf); all_goals rfl) rfl, trivial⟩ ⟨boxL rfl rfl rfl ⟨(.ni _ rfl), (.ni _ rfl), trivial⟩, boxL rfl rfl rfl ⟨(.ni _ rfl), (.ni _ rfl), (.ni _ rfl), (.ni _ rfl), (.ni _ rfl), (.ni _ rfl), trivial⟩, boxL rfl rfl rfl ⟨(.ni _ rfl), (.ni _ rfl), (.ni _ rfl), (.ni _ rfl), (.ni _ rfl), (.ni _ rfl), trivial⟩, trivial⟩⟩
                                          · cases (hb_1314).symm.trans h
                                      · replace hL2 := cond_f hi_1320 hL2
                                        refine (Bool.eq_false_or_eq_true ((w64 (r_37.1.Level - (1 : Int))) == (1 : Int))).elim (fun hi_1323 => ?_) (fun hi_1323 => ?_)
                                        · replace hL2 := cond_t hi_1323 hL2
                                          refine ⟨1, eq_of_beq hi_1323, by decide, ?_⟩
                                          conv => whnf
                                          refine ⟨_, rfl, ?_⟩
                                          conv => whnf
                                          refine ⟨by kernel_rfl, ?_⟩
                                          conv => whnf
                                          refine ⟨fun hb_1324 => ?_, fun hb_1324 => ?_⟩
                                          · replace hL2 := cond_t hb_1324 hL2
                                            conv => whnf
                                            obtain rfl := Option.some.inj hL2
                                            replace hL1 := sub_ret hL1
                                            obtain rfl := Option.some.inj hL1
                                            replace hF := fin_ret hF
                                            obtain rfl := Option.some.inj hF
                                            exact ret_gz [] [] [] rfl (argFl (by (conv => lhs; whnf); all_goals rfl)) trivial
                                          · replace hL2 := cond_f hb_1324 hL2
                                            conv => whnf
                                            obtain ⟨r_41, h_r_41, hL2⟩ := bind_some hL2
                                            refine ⟨_, _, _, _, _, _, _, _, _, callX false [] [] 0 Try.func18 (by decide) rfl (screen_Cleared_ac (⟨(⟨z_35.2.2.1, z_35.2.2.2.1, z_35.2.2.2.2.1, z_35.2.2.2.2.2.1⟩ : A4_Int), z_35.2.2.2.2.2.2.1, z_35.2.2.2.2.2.2.2.1⟩ : Screening) r_41 h_r_41) rfl ⟨(argE (by (conv => lhs; whnf); all_goals rfl) rfl), trivial⟩ rfl trivial rfl rfl rfl lend0 trivial rfl, ?_⟩
                                            conv => whnf
                                            obtain ⟨r_42, h_r_42, hL2⟩ := bind_some hL2
                                            refine ⟨_, _, _, _, _, _, _, _, _, callX false [] [] 0 Try.func17 (by decide) rfl (keep_In_ac r_41 i_36 r_42 h_r_42) rfl ⟨(argE (by (conv => lhs; whnf); all_goals rfl) rfl), (argE (by (conv => lhs; whnf); all_goals rfl) rfl), trivial⟩ rfl trivial rfl rfl rfl lend0 trivial rfl, ?_⟩
                                            conv => whnf
                                            refine ⟨fun h => ?_, fun h => ?_⟩
                                            · conv => whnf
                                              refine ⟨fun hb_1325 => ?_, fun hb_1325 => ?_⟩
                                              · replace hL2 := cond_t hb_1325 hL2
                                                conv => whnf
                                                obtain rfl := Option.some.inj hL2
                                                replace hL1 := sub_ret hL1
                                                obtain rfl := Option.some.inj hL1
                                                replace hF := fin_ret hF
                                                obtain rfl := Option.some.inj hF
                                                exact ret_gz [] [] [] rfl (argFl (by (conv => lhs; whnf); all_goals rfl)) trivial
                                              · replace hL2 := cond_f hb_1325 hL2
                                                conv => whnf
                                                refine ⟨_, rfl, ?_⟩
                                                conv => whnf
                                                exact ⟨(q_71, (w64 (i_36 + (1 : Int)))), [0, 1, 2], [], [], hL2, Nat.lt_succ_self _, wk_mk [0, 1, 2] [] [] rfl ⟨argP (id := 0) (by (conv => lhs; whnf); all_goals rfl) rfl, argP (id := 1) (by (conv => lhs; whnf); all_goals rfl) rfl, argE (by (conv => lhs; whnf); all_goals rfl) rfl, argE (by (conv => lhs; whnf); all_goals rfl) rfl, argP (id := 2) (by (conv => lhs; whnf); all_goals rfl) rfl, argE (by (conv => lhs; whnf); all_goals rfl) rfl, argE (by (conv => lhs; whnf); all_goals rfl) rfl, argE (by (conv => lhs; whnf); all_goals rfl) rfl, trivial⟩ ⟨boxL rfl rfl rfl ⟨(.ni _ rfl), (.ni _ rfl), trivial⟩, boxL rfl rfl rfl ⟨(.ni _ rfl), (.ni _ rfl), (.ni _ rfl), (.ni _ rfl), (.ni _ rfl), (.ni _ rfl), trivial⟩, boxL rfl rfl rfl ⟨(.ni _ rfl), (.ni _ rfl), (.ni _ rfl), (.ni _ rfl), (.ni _ rfl), (.ni _ rfl), trivial⟩, trivial⟩⟩
                                            · cases (hb_1314).symm.trans h
                                        · replace hL2 := cond_f hi_1323 hL2
                                          refine (Bool.eq_false_or_eq_true ((w64 (r_37.1.Level - (1 : Int))) == (2 : Int))).elim (fun hi_1326 => ?_) (fun hi_1326 => ?_)
                                          · replace hL2 := cond_t hi_1326 hL2
                                            refine ⟨2, eq_of_beq hi_1326, by decide, ?_⟩
                                            conv => whnf
                                            refine ⟨_, rfl, ?_⟩
                                            conv => whnf
                                            refine ⟨by kernel_rfl, ?_⟩
                                            conv => whnf
                                            refine ⟨fun hb_1327 => ?_, fun hb_1327 => ?_⟩
                                            · replace hL2 := cond_t hb_1327 hL2
                                              conv => whnf
                                              obtain rfl := Option.some.inj hL2
                                              replace hL1 := sub_ret hL1
                                              obtain rfl := Option.some.inj hL1
                                              replace hF := fin_ret hF
                                              obtain rfl := Option.some.inj hF
                                              exact ret_gz [] [] [] rfl (argFl (by (conv => lhs; whnf); all_goals rfl)) trivial
                                            · replace hL2 := cond_f hb_1327 hL2
                                              conv => whnf
                                              obtain ⟨r_43, h_r_43, hL2⟩ := bind_some hL2
                                              refine ⟨_, _, _, _, _, _, _, _, _, callX false [] [] 0 Try.func18 (by decide) rfl (screen_Cleared_ac (⟨(⟨z_35.2.2.1, z_35.2.2.2.1, z_35.2.2.2.2.1, z_35.2.2.2.2.2.1⟩ : A4_Int), z_35.2.2.2.2.2.2.1, z_35.2.2.2.2.2.2.2.1⟩ : Screening) r_43 h_r_43) rfl ⟨(argE (by (conv => lhs; whnf); all_goals rfl) rfl), trivial⟩ rfl trivial rfl rfl rfl lend0 trivial rfl, ?_⟩
                                              conv => whnf
                                              obtain ⟨r_44, h_r_44, hL2⟩ := bind_some hL2
                                              refine ⟨_, _, _, _, _, _, _, _, _, callX false [] [] 0 Try.func17 (by decide) rfl (keep_In_ac r_43 i_36 r_44 h_r_44) rfl ⟨(argE (by (conv => lhs; whnf); all_goals rfl) rfl), (argE (by (conv => lhs; whnf); all_goals rfl) rfl), trivial⟩ rfl trivial rfl rfl rfl lend0 trivial rfl, ?_⟩
                                              conv => whnf
                                              refine ⟨fun h => ?_, fun h => ?_⟩
                                              · conv => whnf
                                                refine ⟨fun hb_1328 => ?_, fun hb_1328 => ?_⟩
                                                · replace hL2 := cond_t hb_1328 hL2
                                                  conv => whnf
                                                  obtain rfl := Option.some.inj hL2
                                                  replace hL1 := sub_ret hL1
                                                  obtain rfl := Option.some.inj hL1
                                                  replace hF := fin_ret hF
                                                  obtain rfl := Option.some.inj hF
                                                  exact ret_gz [] [] [] rfl (argFl (by (conv => lhs; whnf); all_goals rfl)) trivial
                                                · replace hL2 := cond_f hb_1328 hL2
                                                  conv => whnf
                                                  refine ⟨_, rfl, ?_⟩
                                                  conv => whnf
                                                  exact ⟨(q_71, (w64 (i_36 + (1 : Int)))), [0, 1, 2], [], [], hL2, Nat.lt_succ_self _, wk_mk [0, 1, 2] [] [] rfl ⟨argP (id := 0) (by (conv => lhs; whnf); all_goals rfl) rfl, argP (id := 1) (by (conv => lhs; whnf); all_goals rfl) rfl, argE (by (conv => lhs; whnf); all_goals rfl) rfl, argE (by (conv => lhs; whnf); all_goals rfl) rfl, argP (id := 2) (by (conv => lhs; whnf); all_goals rfl) rfl, argE (by (conv => lhs; whnf); all_goals rfl) rfl, argE (by (conv => lhs; whnf); all_goals rfl) rfl, argE (by (conv => lhs; whnf); all_goals rfl) rfl, trivial⟩ ⟨boxL rfl rfl rfl ⟨(.ni _ rfl), (.ni _ rfl), trivial⟩, boxL rfl rfl rfl ⟨(.ni _ rfl), (.ni _ rfl), (.ni _ rfl), (.ni _ rfl), (.ni _ rfl), (.ni _ rfl), trivial⟩, boxL rfl rfl rfl ⟨(.ni _ rfl), (.ni _ rfl), (.ni _ rfl), (.ni _ rfl), (.ni _ rfl), (.ni _ rfl), trivial⟩, trivial⟩⟩
                                              · cases (hb_1314).symm.trans h
                                          · replace hL2 := cond_f hi_1326 hL2
                                            refine (Bool.eq_false_or_eq_true ((w64 (r_37.1.Level - (1 : Int))) == (3 : Int))).elim (fun hi_1329 => ?_) (fun hi_1329 => ?_)
                                            · replace hL2 := cond_t hi_1329 hL2
                                              refine ⟨3, eq_of_beq hi_1329, by decide, ?_⟩
                                              conv => whnf
                                              refine ⟨_, rfl, ?_⟩
                                              conv => whnf
                                              refine ⟨by kernel_rfl, ?_⟩
                                              conv => whnf
                                              refine ⟨fun hb_1330 => ?_, fun hb_1330 => ?_⟩
                                              · replace hL2 := cond_t hb_1330 hL2
                                                conv => whnf
                                                obtain rfl := Option.some.inj hL2
                                                replace hL1 := sub_ret hL1
                                                obtain rfl := Option.some.inj hL1
                                                replace hF := fin_ret hF
                                                obtain rfl := Option.some.inj hF
                                                exact ret_gz [] [] [] rfl (argFl (by (conv => lhs; whnf); all_goals rfl)) trivial
                                              · replace hL2 := cond_f hb_1330 hL2
                                                conv => whnf
                                                obtain ⟨r_45, h_r_45, hL2⟩ := bind_some hL2
                                                refine ⟨_, _, _, _, _, _, _, _, _, callX false [] [] 0 Try.func18 (by decide) rfl (screen_Cleared_ac (⟨(⟨z_35.2.2.1, z_35.2.2.2.1, z_35.2.2.2.2.1, z_35.2.2.2.2.2.1⟩ : A4_Int), z_35.2.2.2.2.2.2.1, z_35.2.2.2.2.2.2.2.1⟩ : Screening) r_45 h_r_45) rfl ⟨(argE (by (conv => lhs; whnf); all_goals rfl) rfl), trivial⟩ rfl trivial rfl rfl rfl lend0 trivial rfl, ?_⟩
                                                conv => whnf
                                                obtain ⟨r_46, h_r_46, hL2⟩ := bind_some hL2
                                                refine ⟨_, _, _, _, _, _, _, _, _, callX false [] [] 0 Try.func17 (by decide) rfl (keep_In_ac r_45 i_36 r_46 h_r_46) rfl ⟨(argE (by (conv => lhs; whnf); all_goals rfl) rfl), (argE (by (conv => lhs; whnf); all_goals rfl) rfl), trivial⟩ rfl trivial rfl rfl rfl lend0 trivial rfl, ?_⟩
                                                conv => whnf
                                                refine ⟨fun h => ?_, fun h => ?_⟩
                                                · conv => whnf
                                                  refine ⟨fun hb_1331 => ?_, fun hb_1331 => ?_⟩
                                                  · replace hL2 := cond_t hb_1331 hL2
                                                    conv => whnf
                                                    obtain rfl := Option.some.inj hL2
                                                    replace hL1 := sub_ret hL1
                                                    obtain rfl := Option.some.inj hL1
                                                    replace hF := fin_ret hF
                                                    obtain rfl := Option.some.inj hF
                                                    exact ret_gz [] [] [] rfl (argFl (by (conv => lhs; whnf); all_goals rfl)) trivial
                                                  · replace hL2 := cond_f hb_1331 hL2
                                                    conv => whnf
                                                    refine ⟨_, rfl, ?_⟩
                                                    conv => whnf
                                                    exact ⟨(q_71, (w64 (i_36 + (1 : Int)))), [0, 1, 2], [], [], hL2, Nat.lt_succ_self _, wk_mk [0, 1, 2] [] [] rfl ⟨argP (id := 0) (by (conv => lhs; whnf); all_goals rfl) rfl, argP (id := 1) (by (conv => lhs; whnf); all_goals rfl) rfl, argE (by (conv => lhs; whnf); all_goals rfl) rfl, argE (by (conv => lhs; whnf); all_goals rfl) rfl, argP (id := 2) (by (conv => lhs; whnf); all_goals rfl) rfl, argE (by (conv => lhs; whnf); all_goals rfl) rfl, argE (by (conv => lhs; whnf); all_goals rfl) rfl, argE (by (conv => lhs; whnf); all_goals rfl) rfl, trivial⟩ ⟨boxL rfl rfl rfl ⟨(.ni _ rfl), (.ni _ rfl), trivial⟩, boxL rfl rfl rfl ⟨(.ni _ rfl), (.ni _ rfl), (.ni _ rfl), (.ni _ rfl), (.ni _ rfl), (.ni _ rfl), trivial⟩, boxL rfl rfl rfl ⟨(.ni _ rfl), (.ni _ rfl), (.ni _ rfl), (.ni _ rfl), (.ni _ rfl), (.ni _ rfl), trivial⟩, trivial⟩⟩
                                                · cases (hb_1314).symm.trans h
                                            · replace hL2 := cond_f hi_1329 hL2
                                              cases hL2
                                    · replace hL2 := cond_t hb_1319 hL2
                                      conv => whnf
                                      refine ⟨by kernel_rfl, ?_⟩
                                      conv => whnf
                                      obtain rfl := Option.some.inj hL2
                                      replace hL1 := sub_ret hL1
                                      obtain rfl := Option.some.inj hL1
                                      replace hF := fin_ret hF
                                      obtain rfl := Option.some.inj hF
                                      exact ret_gz [] [] [] rfl (argFl (by (conv => lhs; whnf); all_goals rfl)) trivial
                                  · replace hL2 := cond_t hb_1318 hL2
                                    conv => whnf
                                    refine ⟨by kernel_rfl, ?_⟩
                                    conv => whnf
                                    obtain rfl := Option.some.inj hL2
                                    replace hL1 := sub_ret hL1
                                    obtain rfl := Option.some.inj hL1
                                    replace hF := fin_ret hF
                                    obtain rfl := Option.some.inj hF
                                    exact ret_gz [] [] [] rfl (argFl (by (conv => lhs; whnf); all_goals rfl)) trivial
                                · replace hL2 := cond_t hb_1317 hL2
                                  conv => whnf
                                  refine ⟨by kernel_rfl, ?_⟩
                                  conv => whnf
                                  obtain rfl := Option.some.inj hL2
                                  replace hL1 := sub_ret hL1
                                  obtain rfl := Option.some.inj hL1
                                  replace hF := fin_ret hF
                                  obtain rfl := Option.some.inj hF
                                  exact ret_gz [] [] [] rfl (argFl (by (conv => lhs; whnf); all_goals rfl)) trivial
                              · cases (not_kn (hb_1310)).symm.trans h
                            · replace hL2 := cond_f hb_1316 hL2
                              conv => whnf
                              obtain ⟨r_47, h_r_47, hL2⟩ := bind_some hL2
                              refine ⟨_, _, _, _, _, _, _, _, _, callX false [] [] 0 Try.func18 (by decide) rfl (screen_Cleared_ac (⟨(⟨z_35.2.2.1, z_35.2.2.2.1, z_35.2.2.2.2.1, z_35.2.2.2.2.2.1⟩ : A4_Int), z_35.2.2.2.2.2.2.1, z_35.2.2.2.2.2.2.2.1⟩ : Screening) r_47 h_r_47) rfl ⟨(argE (by (conv => lhs; whnf); all_goals rfl) rfl), trivial⟩ rfl trivial rfl rfl rfl lend0 trivial rfl, ?_⟩
                              conv => whnf
                              obtain ⟨r_48, h_r_48, hL2⟩ := bind_some hL2
                              refine ⟨_, _, _, _, _, _, _, _, _, callX false [] [] 0 Try.func17 (by decide) rfl (keep_In_ac r_47 i_36 r_48 h_r_48) rfl ⟨(argE (by (conv => lhs; whnf); all_goals rfl) rfl), (argE (by (conv => lhs; whnf); all_goals rfl) rfl), trivial⟩ rfl trivial rfl rfl rfl lend0 trivial rfl, ?_⟩
                              conv => whnf
                              refine ⟨fun h => ?_, fun h => ?_⟩
                              · conv => whnf
                                refine ⟨fun hb_1332 => ?_, fun hb_1332 => ?_⟩
                                · replace hL2 := cond_t hb_1332 hL2
                                  conv => whnf
                                  obtain rfl := Option.some.inj hL2
                                  replace hL1 := sub_ret hL1
                                  obtain rfl := Option.some.inj hL1
                                  replace hF := fin_ret hF
                                  obtain rfl := Option.some.inj hF
                                  exact ret_gz [] [] [] rfl (argFl (by (conv => lhs; whnf); all_goals rfl)) trivial
                                · replace hL2 := cond_f hb_1332 hL2
                                  conv => whnf
                                  refine ⟨_, rfl, ?_⟩
                                  conv => whnf
                                  exact ⟨(q_71, (w64 (i_36 + (1 : Int)))), [0, 1, 2], [], [], hL2, Nat.lt_succ_self _, wk_mk [0, 1, 2] [] [] rfl ⟨argP (id := 0) (by (conv => lhs; whnf); all_goals rfl) rfl, argP (id := 1) (by (conv => lhs; whnf); all_goals rfl) rfl, argE (by (conv => lhs; whnf); all_goals rfl) rfl, argE (by (conv => lhs; whnf); all_goals rfl) rfl, argP (id := 2) (by (conv => lhs; whnf); all_goals rfl) rfl, argE (by (conv => lhs; whnf); all_goals rfl) rfl, argE (by (conv => lhs; whnf); all_goals rfl) rfl, argE (by (conv => lhs; whnf); all_goals rfl) rfl, trivial⟩ ⟨boxL rfl rfl rfl ⟨(.ni _ rfl), (.ni _ rfl), trivial⟩, boxL rfl rfl rfl ⟨(.ni _ rfl), (.ni _ rfl), (.ni _ rfl), (.ni _ rfl), (.ni _ rfl), (.ni _ rfl), trivial⟩, boxL rfl rfl rfl ⟨(.ni _ rfl), (.ni _ rfl), (.ni _ rfl), (.ni _ rfl), (.ni _ rfl), (.ni _ rfl), trivial⟩, trivial⟩⟩
                              · cases (hb_1314).symm.trans h
                          · cases (not_kn (hb_1310)).symm.trans h
                        · replace hL2 := cond_f hb_1315 hL2
                          conv => whnf
                          obtain ⟨r_49, h_r_49, hL2⟩ := bind_some hL2
                          refine ⟨_, _, _, _, _, _, _, _, _, callX false [] [] 0 Try.func18 (by decide) rfl (screen_Cleared_ac (⟨(⟨z_35.2.2.1, z_35.2.2.2.1, z_35.2.2.2.2.1, z_35.2.2.2.2.2.1⟩ : A4_Int), z_35.2.2.2.2.2.2.1, z_35.2.2.2.2.2.2.2.1⟩ : Screening) r_49 h_r_49) rfl ⟨(argE (by (conv => lhs; whnf); all_goals rfl) rfl), trivial⟩ rfl trivial rfl rfl rfl lend0 trivial rfl, ?_⟩
                          conv => whnf
                          obtain ⟨r_50, h_r_50, hL2⟩ := bind_some hL2
                          refine ⟨_, _, _, _, _, _, _, _, _, callX false [] [] 0 Try.func17 (by decide) rfl (keep_In_ac r_49 i_36 r_50 h_r_50) rfl ⟨(argE (by (conv => lhs; whnf); all_goals rfl) rfl), (argE (by (conv => lhs; whnf); all_goals rfl) rfl), trivial⟩ rfl trivial rfl rfl rfl lend0 trivial rfl, ?_⟩
                          conv => whnf
                          refine ⟨fun h => ?_, fun h => ?_⟩
                          · conv => whnf
                            refine ⟨fun hb_1333 => ?_, fun hb_1333 => ?_⟩
                            · replace hL2 := cond_t hb_1333 hL2
                              conv => whnf
                              obtain rfl := Option.some.inj hL2
                              replace hL1 := sub_ret hL1
                              obtain rfl := Option.some.inj hL1
                              replace hF := fin_ret hF
                              obtain rfl := Option.some.inj hF
                              exact ret_gz [] [] [] rfl (argFl (by (conv => lhs; whnf); all_goals rfl)) trivial
                            · replace hL2 := cond_f hb_1333 hL2
                              conv => whnf
                              refine ⟨_, rfl, ?_⟩
                              conv => whnf
                              exact ⟨(q_71, (w64 (i_36 + (1 : Int)))), [0, 1, 2], [], [], hL2, Nat.lt_succ_self _, wk_mk [0, 1, 2] [] [] rfl ⟨argP (id := 0) (by (conv => lhs; whnf); all_goals rfl) rfl, argP (id := 1) (by (conv => lhs; whnf); all_goals rfl) rfl, argE (by (conv => lhs; whnf); all_goals rfl) rfl, argE (by (conv => lhs; whnf); all_goals rfl) rfl, argP (id := 2) (by (conv => lhs; whnf); all_goals rfl) rfl, argE (by (conv => lhs; whnf); all_goals rfl) rfl, argE (by (conv => lhs; whnf); all_goals rfl) rfl, argE (by (conv => lhs; whnf); all_goals rfl) rfl, trivial⟩ ⟨boxL rfl rfl rfl ⟨(.ni _ rfl), (.ni _ rfl), trivial⟩, boxL rfl rfl rfl ⟨(.ni _ rfl), (.ni _ rfl), (.ni _ rfl), (.ni _ rfl), (.ni _ rfl), (.ni _ rfl), trivial⟩, boxL rfl rfl rfl ⟨(.ni _ rfl), (.ni _ rfl), (.ni _ rfl), (.ni _ rfl), (.ni _ rfl), (.ni _ rfl), trivial⟩, trivial⟩⟩
                          · cases (hb_1314).symm.trans h
                      · replace hL2 := cond_f hb_1314 hL2
                        conv => whnf
                        obtain ⟨r_51, h_r_51, hL2⟩ := bind_some hL2
                        refine ⟨_, _, _, _, _, _, _, _, _, callX false [] [] 0 Try.func18 (by decide) rfl (screen_Cleared_ac (⟨(⟨z_35.2.2.1, z_35.2.2.2.1, z_35.2.2.2.2.1, z_35.2.2.2.2.2.1⟩ : A4_Int), z_35.2.2.2.2.2.2.1, z_35.2.2.2.2.2.2.2.1⟩ : Screening) r_51 h_r_51) rfl ⟨(argE (by (conv => lhs; whnf); all_goals rfl) rfl), trivial⟩ rfl trivial rfl rfl rfl lend0 trivial rfl, ?_⟩
                        conv => whnf
                        obtain ⟨r_52, h_r_52, hL2⟩ := bind_some hL2
                        refine ⟨_, _, _, _, _, _, _, _, _, callX false [] [] 0 Try.func17 (by decide) rfl (keep_In_ac r_51 i_36 r_52 h_r_52) rfl ⟨(argE (by (conv => lhs; whnf); all_goals rfl) rfl), (argE (by (conv => lhs; whnf); all_goals rfl) rfl), trivial⟩ rfl trivial rfl rfl rfl lend0 trivial rfl, ?_⟩
                        conv => whnf
                        refine ⟨fun h => ?_, fun h => ?_⟩
                        · cases (hb_1314).symm.trans h
                        · conv => whnf
                          refine ⟨fun hb_1334 => ?_, fun hb_1334 => ?_⟩
                          · replace hL2 := cond_t hb_1334 hL2
                            conv => whnf
                            obtain rfl := Option.some.inj hL2
                            replace hL1 := sub_ret hL1
                            obtain rfl := Option.some.inj hL1
                            replace hF := fin_ret hF
                            obtain rfl := Option.some.inj hF
                            exact ret_gz [] [] [] rfl (argFl (by (conv => lhs; whnf); all_goals rfl)) trivial
                          · replace hL2 := cond_f hb_1334 hL2
                            conv => whnf
                            refine ⟨_, rfl, ?_⟩
                            conv => whnf
                            exact ⟨(q_71, (w64 (i_36 + (1 : Int)))), [0, 1, 2], [], [], hL2, Nat.lt_succ_self _, wk_mk [0, 1, 2] [] [] rfl ⟨argP (id := 0) (by (conv => lhs; whnf); all_goals rfl) rfl, argP (id := 1) (by (conv => lhs; whnf); all_goals rfl) rfl, argE (by (conv => lhs; whnf); all_goals rfl) rfl, argE (by (conv => lhs; whnf); all_goals rfl) rfl, argP (id := 2) (by (conv => lhs; whnf); all_goals rfl) rfl, argE (by (conv => lhs; whnf); all_goals rfl) rfl, argE (by (conv => lhs; whnf); all_goals rfl) rfl, argE (by (conv => lhs; whnf); all_goals rfl) rfl, trivial⟩ ⟨boxL rfl rfl rfl ⟨(.ni _ rfl), (.ni _ rfl), trivial⟩, boxL rfl rfl rfl ⟨(.ni _ rfl), (.ni _ rfl), (.ni _ rfl), (.ni _ rfl), (.ni _ rfl), (.ni _ rfl), trivial⟩, boxL rfl rfl rfl ⟨(.ni _ rfl), (.ni _ rfl), (.ni _ rfl), (.ni _ rfl), (.ni _ rfl), (.ni _ rfl), trivial⟩, trivial⟩⟩
                  · replace hL2 := cond_f hb_1312 hL2
                    conv => whnf
                    refine ⟨fun hb_1335 => ?_, fun hb_1335 => ?_⟩
                    · replace hL2 := cond_t hb_1335 hL2
                      conv => whnf
                      refine ⟨fun hb_1336 => ?_, fun hb_1336 => ?_⟩
                      · replace hL2 := cond_t hb_1336 hL2
                        conv => whnf
                        refine ⟨fun h => ?_, fun h => ?_⟩
                        · conv => whnf
                          refine ⟨fun hb_1337 => ?_, fun hb_1337 => ?_⟩
                          · replace hL2 := cond_t hb_1337 hL2
                            conv => whnf
                            refine ⟨fun h => ?_, fun h => ?_⟩
                            · conv => whnf
                              refine ⟨fun hb_1338 => ?_, fun hb_1338 => ?_⟩
                              · replace hL2 := cond_f hb_1338 hL2
                                conv => whnf
                                refine ⟨fun hb_1339 => ?_, fun hb_1339 => ?_⟩
                                · replace hL2 := cond_f hb_1339 hL2
                                  conv => whnf
                                  refine ⟨fun hb_1340 => ?_, fun hb_1340 => ?_⟩
                                  · replace hL2 := cond_f hb_1340 hL2
                                    conv => whnf
                                    refine ⟨_, rfl, ?_⟩
                                    conv => whnf
                                    refine (Bool.eq_false_or_eq_true ((w64 (r_37.1.Level - (1 : Int))) == (0 : Int))).elim (fun hi_1341 => ?_) (fun hi_1341 => ?_)
                                    · replace hL2 := cond_t hi_1341 hL2
                                      refine ⟨0, eq_of_beq hi_1341, by decide, ?_⟩
                                      conv => whnf
                                      refine ⟨_, rfl, ?_⟩
                                      conv => whnf
                                      refine ⟨by kernel_rfl, ?_⟩
                                      conv => whnf
                                      refine ⟨fun hb_1342 => ?_, fun hb_1342 => ?_⟩
                                      · replace hL2 := cond_t hb_1342 hL2
                                        conv => whnf
                                        obtain rfl := Option.some.inj hL2
                                        replace hL1 := sub_ret hL1
                                        obtain rfl := Option.some.inj hL1
                                        replace hF := fin_ret hF
                                        obtain rfl := Option.some.inj hF
                                        exact ret_gz [] [] [] rfl (argFl (by (conv => lhs; whnf); all_goals rfl)) trivial
                                      · replace hL2 := cond_f hb_1342 hL2
                                        conv => whnf
                                        obtain ⟨r_53, h_r_53, hL2⟩ := bind_some hL2
                                        refine ⟨_, _, _, _, _, _, _, _, _, callX false [] [] 0 Try.func18 (by decide) rfl (screen_Cleared_ac (⟨(⟨z_35.2.2.1, z_35.2.2.2.1, z_35.2.2.2.2.1, z_35.2.2.2.2.2.1⟩ : A4_Int), z_35.2.2.2.2.2.2.1, z_35.2.2.2.2.2.2.2.1⟩ : Screening) r_53 h_r_53) rfl ⟨(argE (by (conv => lhs; whnf); all_goals rfl) rfl), trivial⟩ rfl trivial rfl rfl rfl lend0 trivial rfl, ?_⟩
                                        conv => whnf
                                        obtain ⟨r_54, h_r_54, hL2⟩ := bind_some hL2
                                        refine ⟨_, _, _, _, _, _, _, _, _, callX false [] [] 0 Try.func17 (by decide) rfl (keep_In_ac r_53 i_36 r_54 h_r_54) rfl ⟨(argE (by (conv => lhs; whnf); all_goals rfl) rfl), (argE (by (conv => lhs; whnf); all_goals rfl) rfl), trivial⟩ rfl trivial rfl rfl rfl lend0 trivial rfl, ?_⟩
                                        conv => whnf
                                        refine ⟨fun h => ?_, fun h => ?_⟩
                                        · conv => whnf
                                          refine ⟨fun hb_1343 => ?_, fun hb_1343 => ?_⟩
                                          · replace hL2 := cond_t hb_1343 hL2
                                            conv => whnf
                                            obtain rfl := Option.some.inj hL2
                                            replace hL1 := sub_ret hL1
                                            obtain rfl := Option.some.inj hL1
                                            replace hF := fin_ret hF
                                            obtain rfl := Option.some.inj hF
                                            exact ret_gz [] [] [] rfl (argFl (by (conv => lhs; whnf); all_goals rfl)) trivial
                                          · replace hL2 := cond_f hb_1343 hL2
                                            conv => whnf
                                            refine ⟨_, rfl, ?_⟩
                                            conv => whnf
                                            exact ⟨(q_71, (w64 (i_36 + (1 : Int)))), [0, 1, 2], [], [], hL2, Nat.lt_succ_self _, wk_mk [0, 1, 2] [] [] rfl ⟨argP (id := 0) (by (conv => lhs; whnf); all_goals rfl) rfl, argP (id := 1) (by (conv => lhs; whnf); all_goals rfl) rfl, argE (by (conv => lhs; whnf); all_goals rfl) rfl, argE (by (conv => lhs; whnf); all_goals rfl) rfl, argP (id := 2) (by (conv => lhs; whnf); all_goals rfl) rfl, argE (by (conv => lhs; whnf); all_goals rfl) rfl, argE (by (conv => lhs; whnf); all_goals rfl) rfl, argE (by (conv => lhs; whnf); all_goals rfl) rfl, trivial⟩ ⟨boxL rfl rfl rfl ⟨(.ni _ rfl), (.ni _ rfl), trivial⟩, boxL rfl rfl rfl ⟨(.ni _ rfl), (.ni _ rfl), (.ni _ rfl), (.ni _ rfl), (.ni _ rfl), (.ni _ rfl), trivial⟩, boxL rfl rfl rfl ⟨(.ni _ rfl), (.ni _ rfl), (.ni _ rfl), (.ni _ rfl), (.ni _ rfl), (.ni _ rfl), trivial⟩, trivial⟩⟩
                                        · cases (hb_1335).symm.trans h
                                    · replace hL2 := cond_f hi_1341 hL2
                                      refine (Bool.eq_false_or_eq_true ((w64 (r_37.1.Level - (1 : Int))) == (1 : Int))).elim (fun hi_1344 => ?_) (fun hi_1344 => ?_)
                                      · replace hL2 := cond_t hi_1344 hL2
                                        refine ⟨1, eq_of_beq hi_1344, by decide, ?_⟩
                                        conv => whnf
                                        refine ⟨_, rfl, ?_⟩
                                        conv => whnf
                                        refine ⟨by kernel_rfl, ?_⟩
                                        conv => whnf
                                        refine ⟨fun hb_1345 => ?_, fun hb_1345 => ?_⟩
                                        · replace hL2 := cond_t hb_1345 hL2
                                          conv => whnf
                                          obtain rfl := Option.some.inj hL2
                                          replace hL1 := sub_ret hL1
                                          obtain rfl := Option.some.inj hL1
                                          replace hF := fin_ret hF
                                          obtain rfl := Option.some.inj hF
                                          exact ret_gz [] [] [] rfl (argFl (by (conv => lhs; whnf); all_goals rfl)) trivial
                                        · replace hL2 := cond_f hb_1345 hL2
                                          conv => whnf
                                          obtain ⟨r_55, h_r_55, hL2⟩ := bind_some hL2
                                          refine ⟨_, _, _, _, _, _, _, _, _, callX false [] [] 0 Try.func18 (by decide) rfl (screen_Cleared_ac (⟨(⟨z_35.2.2.1, z_35.2.2.2.1, z_35.2.2.2.2.1, z_35.2.2.2.2.2.1⟩ : A4_Int), z_35.2.2.2.2.2.2.1, z_35.2.2.2.2.2.2.2.1⟩ : Screening) r_55 h_r_55) rfl ⟨(argE (by (conv => lhs; whnf); all_goals rfl) rfl), trivial⟩ rfl trivial rfl rfl rfl lend0 trivial rfl, ?_⟩
                                          conv => whnf
                                          obtain ⟨r_56, h_r_56, hL2⟩ := bind_some hL2
                                          refine ⟨_, _, _, _, _, _, _, _, _, callX false [] [] 0 Try.func17 (by decide) rfl (keep_In_ac r_55 i_36 r_56 h_r_56) rfl ⟨(argE (by (conv => lhs; whnf); all_goals rfl) rfl), (argE (by (conv => lhs; whnf); all_goals rfl) rfl), trivial⟩ rfl trivial rfl rfl rfl lend0 trivial rfl, ?_⟩
                                          conv => whnf
                                          refine ⟨fun h => ?_, fun h => ?_⟩
                                          · conv => whnf
                                            refine ⟨fun hb_1346 => ?_, fun hb_1346 => ?_⟩
                                            · replace hL2 := cond_t hb_1346 hL2
                                              conv => whnf
                                              obtain rfl := Option.some.inj hL2
                                              replace hL1 := sub_ret hL1
                                              obtain rfl := Option.some.inj hL1
                                              replace hF := fin_ret hF
                                              obtain rfl := Option.some.inj hF
                                              exact ret_gz [] [] [] rfl (argFl (by (conv => lhs; whnf); all_goals rfl)) trivial
                                            · replace hL2 := cond_f hb_1346 hL2
                                              conv => whnf
                                              refine ⟨_, rfl, ?_⟩
                                              conv => whnf
                                              exact ⟨(q_71, (w64 (i_36 + (1 : Int)))), [0, 1, 2], [], [], hL2, Nat.lt_succ_self _, wk_mk [0, 1, 2] [] [] rfl ⟨argP (id := 0) (by (conv => lhs; whnf); all_goals rfl) rfl, argP (id := 1) (by (conv => lhs; whnf); all_goals rfl) rfl, argE (by (conv => lhs; whnf); all_goals rfl) rfl, argE (by (conv => lhs; whnf); all_goals rfl) rfl, argP (id := 2) (by (conv => lhs; whnf); all_goals rfl) rfl, argE (by (conv => lhs; whnf); all_goals rfl) rfl, argE (by (conv => lhs; whnf); all_goals rfl) rfl, argE (by (conv => lhs; whnf); all_goals rfl) rfl, trivial⟩ ⟨boxL rfl rfl rfl ⟨(.ni _ rfl), (.ni _ rfl), trivial⟩, boxL rfl rfl rfl ⟨(.ni _ rfl), (.ni _ rfl), (.ni _ rfl), (.ni _ rfl), (.ni _ rfl), (.ni _ rfl), trivial⟩, boxL rfl rfl rfl ⟨(.ni _ rfl), (.ni _ rfl), (.ni _ rfl), (.ni _ rfl), (.ni _ rfl), (.ni _ rfl), trivial⟩, trivial⟩⟩
                                          · cases (hb_1335).symm.trans h
                                      · replace hL2 := cond_f hi_1344 hL2
                                        refine (Bool.eq_false_or_eq_true ((w64 (r_37.1.Level - (1 : Int))) == (2 : Int))).elim (fun hi_1347 => ?_) (fun hi_1347 => ?_)
                                        · replace hL2 := cond_t hi_1347 hL2
                                          refine ⟨2, eq_of_beq hi_1347, by decide, ?_⟩
                                          conv => whnf
                                          refine ⟨_, rfl, ?_⟩
                                          conv => whnf
                                          refine ⟨by kernel_rfl, ?_⟩
                                          conv => whnf
                                          refine ⟨fun hb_1348 => ?_, fun hb_1348 => ?_⟩
                                          · replace hL2 := cond_t hb_1348 hL2
                                            conv => whnf
                                            obtain rfl := Option.some.inj hL2
                                            replace hL1 := sub_ret hL1
                                            obtain rfl := Option.some.inj hL1
                                            replace hF := fin_ret hF
                                            obtain rfl := Option.some.inj hF
                                            exact ret_gz [] [] [] rfl (argFl (by (conv => lhs; whnf); all_goals rfl)) trivial
                                          · replace hL2 := cond_f hb_1348 hL2
                                            conv => whnf
                                            obtain ⟨r_57, h_r_57, hL2⟩ := bind_some hL2
                                            refine ⟨_, _, _, _, _, _, _, _, _, callX false [] [] 0 Try.func18 (by decide) rfl (screen_Cleared_ac (⟨(⟨z_35.2.2.1, z_35.2.2.2.1, z_35.2.2.2.2.1, z_35.2.2.2.2.2.1⟩ : A4_Int), z_35.2.2.2.2.2.2.1, z_35.2.2.2.2.2.2.2.1⟩ : Screening) r_57 h_r_57) rfl ⟨(argE (by (conv => lhs; whnf); all_goals rfl) rfl), trivial⟩ rfl trivial rfl rfl rfl lend0 trivial rfl, ?_⟩
                                            conv => whnf
                                            obtain ⟨r_58, h_r_58, hL2⟩ := bind_some hL2
                                            refine ⟨_, _, _, _, _, _, _, _, _, callX false [] [] 0 Try.func17 (by decide) rfl (keep_In_ac r_57 i_36 r_58 h_r_58) rfl ⟨(argE (by (conv => lhs; whnf); all_goals rfl) rfl), (argE (by (conv => lhs; whnf); all_goals rfl) rfl), trivial⟩ rfl trivial rfl rfl rfl lend0 trivial rfl, ?_⟩
                                            conv => whnf
                                            refine ⟨fun h => ?_, fun h => ?_⟩
                                            · conv => whnf
                                              refine ⟨fun hb_1349 => ?_, fun hb_1349 => ?_⟩
                                              · replace hL2 := cond_t hb_1349 hL2
                                                conv => whnf
                                                obtain rfl := Option.some.inj hL2
                                                replace hL1 := sub_ret hL1
                                                obtain rfl := Option.some.inj hL1
                                                replace hF := fin_ret hF
                                                obtain rfl := Option.some.inj hF
                                                exact ret_gz [] [] [] rfl (argFl (by (conv => lhs; whnf); all_goals rfl)) trivial
                                              · replace hL2 := cond_f hb_1349 hL2
                                                conv => whnf
                                                refine ⟨_, rfl, ?_⟩
                                                conv => whnf
                                                exact ⟨(q_71, (w64 (i_36 + (1 : Int)))), [0, 1, 2], [], [], hL2, Nat.lt_succ_self _, wk_mk [0, 1, 2] [] [] rfl ⟨argP (id := 0) (by (conv => lhs; whnf); all_goals rfl) rfl, argP (id := 1) (by (conv => lhs; whnf); all_goals rfl) rfl, argE (by (conv => lhs; whnf); all_goals rfl) rfl, argE (by (conv => lhs; whnf); all_goals rfl) rfl, argP (id := 2) (by (conv => lhs; whnf); all_goals rfl) rfl, argE (by (conv => lhs; whnf); all_goals rfl) rfl, argE (by (conv => lhs; whnf); all_goals rfl) rfl, argE (by (conv => lhs; whnf); all_goals rfl) rfl, trivial⟩ ⟨boxL rfl rfl rfl ⟨(.ni _ rfl), (.ni _ rfl), trivial⟩, boxL rfl rfl rfl ⟨(.ni _ rfl), (.ni _ rfl), (.ni _ rfl), (.ni _ rfl), (.ni _ rfl), (.ni _ rfl), trivial⟩, boxL rfl rfl rfl ⟨(.ni _ rfl), (.ni _ rfl), (.ni _ rfl), (.ni _ rfl), (.ni _ rfl), (.ni _ rfl), trivial⟩, trivial⟩⟩
                                            · cases (hb_1335).symm.trans h
                                        · replace hL2 := cond_f hi_1347 hL2
                                          refine (Bool.eq_false_or_eq_true ((w64 (r_37.1.Level - (1 : Int))) == (3 : Int))).elim (fun hi_1350 => ?_) (fun hi_1350 => ?_)
                                          · replace hL2 := cond_t hi_1350 hL2
                                            refine ⟨3, eq_of_beq hi_1350, by decide, ?_⟩
                                            conv => whnf
                                            refine ⟨_, rfl, ?_⟩
                                            conv => whnf
                                            refine ⟨by kernel_rfl, ?_⟩
                                            conv => whnf
                                            refine ⟨fun hb_1351 => ?_, fun hb_1351 => ?_⟩
                                            · replace hL2 := cond_t hb_1351 hL2
                                              conv => whnf
                                              obtain rfl := Option.some.inj hL2
                                              replace hL1 := sub_ret hL1
                                              obtain rfl := Option.some.inj hL1
                                              replace hF := fin_ret hF
                                              obtain rfl := Option.some.inj hF
                                              exact ret_gz [] [] [] rfl (argFl (by (conv => lhs; whnf); all_goals rfl)) trivial
                                            · replace hL2 := cond_f hb_1351 hL2
                                              conv => whnf
                                              obtain ⟨r_59, h_r_59, hL2⟩ := bind_some hL2
                                              refine ⟨_, _, _, _, _, _, _, _, _, callX false [] [] 0 Try.func18 (by decide) rfl (screen_Cleared_ac (⟨(⟨z_35.2.2.1, z_35.2.2.2.1, z_35.2.2.2.2.1, z_35.2.2.2.2.2.1⟩ : A4_Int), z_35.2.2.2.2.2.2.1, z_35.2.2.2.2.2.2.2.1⟩ : Screening) r_59 h_r_59) rfl ⟨(argE (by (conv => lhs; whnf); all_goals rfl) rfl), trivial⟩ rfl trivial rfl rfl rfl lend0 trivial rfl, ?_⟩
                                              conv => whnf
                                              obtain ⟨r_60, h_r_60, hL2⟩ := bind_some hL2
                                              refine ⟨_, _, _, _, _, _, _, _, _, callX false [] [] 0 Try.func17 (by decide) rfl (keep_In_ac r_59 i_36 r_60 h_r_60) rfl ⟨(argE (by (conv => lhs; whnf); all_goals rfl) rfl), (argE (by (conv => lhs; whnf); all_goals rfl) rfl), trivial⟩ rfl trivial rfl rfl rfl lend0 trivial rfl, ?_⟩
                                              conv => whnf
                                              refine ⟨fun h => ?_, fun h => ?_⟩
                                              · conv => whnf
                                                refine ⟨fun hb_1352 => ?_, fun hb_1352 => ?_⟩
                                                · replace hL2 := cond_t hb_1352 hL2
                                                  conv => whnf
                                                  obtain rfl := Option.some.inj hL2
                                                  replace hL1 := sub_ret hL1
                                                  obtain rfl := Option.some.inj hL1
                                                  replace hF := fin_ret hF
                                                  obtain rfl := Option.some.inj hF
                                                  exact ret_gz [] [] [] rfl (argFl (by (conv => lhs; whnf); all_goals rfl)) trivial
                                                · replace hL2 := cond_f hb_1352 hL2
                                                  conv => whnf
                                                  refine ⟨_, rfl, ?_⟩
                                                  conv => whnf
                                                  exact ⟨(q_71, (w64 (i_36 + (1 : Int)))), [0, 1, 2], [], [], hL2, Nat.lt_succ_self _, wk_mk [0, 1, 2] [] [] rfl ⟨argP (id := 0) (by (conv => lhs; whnf); all_goals rfl) rfl, argP (id := 1) (by (conv => lhs; whnf); all_goals rfl) rfl, argE (by (conv => lhs; whnf); all_goals rfl) rfl, argE (by (conv => lhs; whnf); all_goals rfl) rfl, argP (id := 2) (by (conv => lhs; whnf); all_goals rfl) rfl, argE (by (conv => lhs; whnf); all_goals rfl) rfl, argE (by (conv => lhs; whnf); all_goals rfl) rfl, argE (by (conv => lhs; whnf); all_goals rfl) rfl, trivial⟩ ⟨boxL rfl rfl rfl ⟨(.ni _ rfl), (.ni _ rfl), trivial⟩, boxL rfl rfl rfl ⟨(.ni _ rfl), (.ni _ rfl), (.ni _ rfl), (.ni _ rfl), (.ni _ rfl), (.ni _ rfl), trivial⟩, boxL rfl rfl rfl ⟨(.ni _ rfl), (.ni _ rfl), (.ni _ rfl), (.ni _ rfl), (.ni _ rfl), (.ni _ rfl), trivial⟩, trivial⟩⟩
                                              · cases (hb_1335).symm.trans h
                                          · replace hL2 := cond_f hi_1350 hL2
                                            cases hL2
                                  · replace hL2 := cond_t hb_1340 hL2
                                    conv => whnf
                                    refine ⟨by kernel_rfl, ?_⟩
                                    conv => whnf
                                    obtain rfl := Option.some.inj hL2
                                    replace hL1 := sub_ret hL1
                                    obtain rfl := Option.some.inj hL1
                                    replace hF := fin_ret hF
                                    obtain rfl := Option.some.inj hF
                                    exact ret_gz [] [] [] rfl (argFl (by (conv => lhs; whnf); all_goals rfl)) trivial
                                · replace hL2 := cond_t hb_1339 hL2
                                  conv => whnf
                                  refine ⟨by kernel_rfl, ?_⟩
                                  conv => whnf
                                  obtain rfl := Option.some.inj hL2
                                  replace hL1 := sub_ret hL1
                                  obtain rfl := Option.some.inj hL1
                                  replace hF := fin_ret hF
                                  obtain rfl := Option.some.inj hF
                                  exact ret_gz [] [] [] rfl (argFl (by (conv => lhs; whnf); all_goals rfl)) trivial
                              · replace hL2 := cond_t hb_1338 hL2
                                conv => whnf
                                refine ⟨by kernel_rfl, ?_⟩
                                conv => whnf
                                obtain rfl := Option.some.inj hL2
                                replace hL1 := sub_ret hL1
                                obtain rfl := Option.some.inj hL1
                                replace hF := fin_ret hF
                                obtain rfl := Option.some.inj hF
                                exact ret_gz [] [] [] rfl (argFl (by (conv => lhs; whnf); all_goals rfl)) trivial
                            · cases (not_kn (hb_1310)).symm.trans h
                          · replace hL2 := cond_f hb_1337 hL2
                            conv => whnf
                            obtain ⟨r_61, h_r_61, hL2⟩ := bind_some hL2
                            refine ⟨_, _, _, _, _, _, _, _, _, callX false [] [] 0 Try.func18 (by decide) rfl (screen_Cleared_ac (⟨(⟨z_35.2.2.1, z_35.2.2.2.1, z_35.2.2.2.2.1, z_35.2.2.2.2.2.1⟩ : A4_Int), z_35.2.2.2.2.2.2.1, z_35.2.2.2.2.2.2.2.1⟩ : Screening) r_61 h_r_61) rfl ⟨(argE (by (conv => lhs; whnf); all_goals rfl) rfl), trivial⟩ rfl trivial rfl rfl rfl lend0 trivial rfl, ?_⟩
                            conv => whnf
                            obtain ⟨r_62, h_r_62, hL2⟩ := bind_some hL2
                            refine ⟨_, _, _, _, _, _, _, _, _, callX false [] [] 0 Try.func17 (by decide) rfl (keep_In_ac r_61 i_36 r_62 h_r_62) rfl ⟨(argE (by (conv => lhs; whnf); all_goals rfl) rfl), (argE (by (conv => lhs; whnf); all_goals rfl) rfl), trivial⟩ rfl trivial rfl rfl rfl lend0 trivial rfl, ?_⟩
                            conv => whnf
                            refine ⟨fun h => ?_, fun h => ?_⟩
                            · conv => whnf
                              refine ⟨fun hb_1353 => ?_, fun hb_1353 => ?_⟩
                              · replace hL2 := cond_t hb_1353 hL2
                                conv => whnf
                                obtain rfl := Option.some.inj hL2
                                replace hL1 := sub_ret hL1
                                obtain rfl := Option.some.inj hL1
                                replace hF := fin_ret hF
                                obtain rfl := Option.some.inj hF
                                exact ret_gz [] [] [] rfl (argFl (by (conv => lhs; whnf); all_goals rfl)) trivial
                              · replace hL2 := cond_f hb_1353 hL2
                                conv => whnf
                                refine ⟨_, rfl, ?_⟩
                                conv => whnf
                                exact ⟨(q_71, (w64 (i_36 + (1 : Int)))), [0, 1, 2], [], [], hL2, Nat.lt_succ_self _, wk_mk [0, 1, 2] [] [] rfl ⟨argP (id := 0) (by (conv => lhs; whnf); all_goals rfl) rfl, argP (id := 1) (by (conv => lhs; whnf); all_goals rfl) rfl, argE (by (conv => lhs; whnf); all_goals rfl) rfl, argE (by (conv => lhs; whnf); all_goals rfl) rfl, argP (id := 2) (by (conv => lhs; whnf); all_goals rfl) rfl, argE (by (conv => lhs; whnf); all_goals rfl) rfl, argE (by (conv => lhs; whnf); all_goals rfl) rfl, argE (by (conv => lhs; whnf); all_goals rfl) rfl, trivial⟩ ⟨boxL rfl rfl rfl ⟨(.ni _ rfl), (.ni _ rfl), trivial⟩, boxL rfl rfl rfl ⟨(.ni _ rfl), (.ni _ rfl), (.ni _ rfl), (.ni _ rfl), (.ni _ rfl), (.ni _ rfl), trivial⟩, boxL rfl rfl rfl ⟨(.ni _ rfl), (.ni _ rfl), (.ni _ rfl), (.ni _ rfl), (.ni _ rfl), (.ni _ rfl), trivial⟩, trivial⟩⟩
                            · cases (hb_1335).symm.trans h
                        · cases (not_kn (hb_1310)).symm.trans h
                      · replace hL2 := cond_f hb_1336 hL2
                        conv => whnf
                        obtain ⟨r_63, h_r_63, hL2⟩ := bind_some hL2
                        refine ⟨_, _, _, _, _, _, _, _, _, callX false [] [] 0 Try.func18 (by decide) rfl (screen_Cleared_ac (⟨(⟨z_35.2.2.1, z_35.2.2.2.1, z_35.2.2.2.2.1, z_35.2.2.2.2.2.1⟩ : A4_Int), z_35.2.2.2.2.2.2.1, z_35.2.2.2.2.2.2.2.1⟩ : Screening) r_63 h_r_63) rfl ⟨(argE (by (conv => lhs; whnf); all_goals rfl) rfl), trivial⟩ rfl trivial rfl rfl rfl lend0 trivial rfl, ?_⟩
                        conv => whnf
                        obtain ⟨r_64, h_r_64, hL2⟩ := bind_some hL2
                        refine ⟨_, _, _, _, _, _, _, _, _, callX false [] [] 0 Try.func17 (by decide) rfl (keep_In_ac r_63 i_36 r_64 h_r_64) rfl ⟨(argE (by (conv => lhs; whnf); all_goals rfl) rfl), (argE (by (conv => lhs; whnf); all_goals rfl) rfl), trivial⟩ rfl trivial rfl rfl rfl lend0 trivial rfl, ?_⟩
                        conv => whnf
                        refine ⟨fun h => ?_, fun h => ?_⟩
                        · conv => whnf
                          refine ⟨fun hb_1354 => ?_, fun hb_1354 => ?_⟩
                          · replace hL2 := cond_t hb_1354 hL2
                            conv => whnf
                            obtain rfl := Option.some.inj hL2
                            replace hL1 := sub_ret hL1
                            obtain rfl := Option.some.inj hL1
                            replace hF := fin_ret hF
                            obtain rfl := Option.some.inj hF
                            exact ret_gz [] [] [] rfl (argFl (by (conv => lhs; whnf); all_goals rfl)) trivial
                          · replace hL2 := cond_f hb_1354 hL2
                            conv => whnf
                            refine ⟨_, rfl, ?_⟩
                            conv => whnf
                            exact ⟨(q_71, (w64 (i_36 + (1 : Int)))), [0, 1, 2], [], [], hL2, Nat.lt_succ_self _, wk_mk [0, 1, 2] [] [] rfl ⟨argP (id := 0) (by (conv => lhs; whnf); all_goals rfl) rfl, argP (id := 1) (by (conv => lhs; whnf); all_goals rfl) rfl, argE (by (conv => lhs; whnf); all_goals rfl) rfl, argE (by (conv => lhs; whnf); all_goals rfl) rfl, argP (id := 2) (by (conv => lhs; whnf); all_goals rfl) rfl, argE (by (conv => lhs; whnf); all_goals rfl) rfl, argE (by (conv => lhs; whnf); all_goals rfl) rfl, argE (by (conv => lhs; whnf); all_goals rfl) rfl, trivial⟩ ⟨boxL rfl rfl rfl ⟨(.ni _ rfl), (.ni _ rfl), trivial⟩, boxL rfl rfl rfl ⟨(.ni _ rfl), (.ni _ rfl), (.ni _ rfl), (.ni _ rfl), (.ni _ rfl), (.ni _ rfl), trivial⟩, boxL rfl rfl rfl ⟨(.ni _ rfl), (.ni _ rfl), (.ni _ rfl), (.ni _ rfl), (.ni _ rfl), (.ni _ rfl), trivial⟩, trivial⟩⟩
                        · cases (hb_1335).symm.trans h
                    · replace hL2 := cond_f hb_1335 hL2
                      conv => whnf
                      obtain ⟨r_65, h_r_65, hL2⟩ := bind_some hL2
                      refine ⟨_, _, _, _, _, _, _, _, _, callX false [] [] 0 Try.func18 (by decide) rfl (screen_Cleared_ac (⟨(⟨z_35.2.2.1, z_35.2.2.2.1, z_35.2.2.2.2.1, z_35.2.2.2.2.2.1⟩ : A4_Int), z_35.2.2.2.2.2.2.1, z_35.2.2.2.2.2.2.2.1⟩ : Screening) r_65 h_r_65) rfl ⟨(argE (by (conv => lhs; whnf); all_goals rfl) rfl), trivial⟩ rfl trivial rfl rfl rfl lend0 trivial rfl, ?_⟩
                      conv => whnf
                      obtain ⟨r_66, h_r_66, hL2⟩ := bind_some hL2
                      refine ⟨_, _, _, _, _, _, _, _, _, callX false [] [] 0 Try.func17 (by decide) rfl (keep_In_ac r_65 i_36 r_66 h_r_66) rfl ⟨(argE (by (conv => lhs; whnf); all_goals rfl) rfl), (argE (by (conv => lhs; whnf); all_goals rfl) rfl), trivial⟩ rfl trivial rfl rfl rfl lend0 trivial rfl, ?_⟩
                      conv => whnf
                      refine ⟨fun h => ?_, fun h => ?_⟩
                      · cases (hb_1335).symm.trans h
                      · conv => whnf
                        refine ⟨fun hb_1355 => ?_, fun hb_1355 => ?_⟩
                        · replace hL2 := cond_t hb_1355 hL2
                          conv => whnf
                          obtain rfl := Option.some.inj hL2
                          replace hL1 := sub_ret hL1
                          obtain rfl := Option.some.inj hL1
                          replace hF := fin_ret hF
                          obtain rfl := Option.some.inj hF
                          exact ret_gz [] [] [] rfl (argFl (by (conv => lhs; whnf); all_goals rfl)) trivial
                        · replace hL2 := cond_f hb_1355 hL2
                          conv => whnf
                          refine ⟨_, rfl, ?_⟩
                          conv => whnf
                          exact ⟨(q_71, (w64 (i_36 + (1 : Int)))), [0, 1, 2], [], [], hL2, Nat.lt_succ_self _, wk_mk [0, 1, 2] [] [] rfl ⟨argP (id := 0) (by (conv => lhs; whnf); all_goals rfl) rfl, argP (id := 1) (by (conv => lhs; whnf); all_goals rfl) rfl, argE (by (conv => lhs; whnf); all_goals rfl) rfl, argE (by (conv => lhs; whnf); all_goals rfl) rfl, argP (id := 2) (by (conv => lhs; whnf); all_goals rfl) rfl, argE (by (conv => lhs; whnf); all_goals rfl) rfl, argE (by (conv => lhs; whnf); all_goals rfl) rfl, argE (by (conv => lhs; whnf); all_goals rfl) rfl, trivial⟩ ⟨boxL rfl rfl rfl ⟨(.ni _ rfl), (.ni _ rfl), trivial⟩, boxL rfl rfl rfl ⟨(.ni _ rfl), (.ni _ rfl), (.ni _ rfl), (.ni _ rfl), (.ni _ rfl), (.ni _ rfl), trivial⟩, boxL rfl rfl rfl ⟨(.ni _ rfl), (.ni _ rfl), (.ni _ rfl), (.ni _ rfl), (.ni _ rfl), (.ni _ rfl), trivial⟩, trivial⟩⟩
                · cases (hb_1310).symm.trans h
              · replace hL2 := cond_t hb_1311 hL2
                conv => whnf
                obtain rfl := Option.some.inj hL2
                replace hL1 := sub_ret hL1
                obtain rfl := Option.some.inj hL1
                replace hF := fin_ret hF
                obtain rfl := Option.some.inj hF
                exact ret_gz [] [] [] rfl (argFl (by (conv => lhs; whnf); all_goals rfl)) trivial
            · replace hL2 := cond_f hb_1310 hL2
              conv => whnf
              refine ⟨fun h => ?_, fun h => ?_⟩
              · cases (hb_1310).symm.trans h
              · conv => whnf
                refine ⟨fun hb_1356 => ?_, fun hb_1356 => ?_⟩
                · replace hL2 := cond_t hb_1356 hL2
                  conv => whnf
                  refine ⟨fun hb_1357 => ?_, fun hb_1357 => ?_⟩
                  · replace hL2 := cond_t hb_1357 hL2
                    conv => whnf
                    refine ⟨fun h => ?_, fun h => ?_⟩
                    · cases (not_kn (hb_1310)).symm.trans h
                    · conv => whnf
                      refine ⟨fun h => ?_, fun h => ?_⟩
                      · cases (not_kn (hb_1310)).symm.trans h
                      · conv => whnf
                        refine ⟨by kernel_rfl, ?_⟩
                        conv => whnf
                        obtain rfl := Option.some.inj hL2
                        replace hL1 := sub_ret hL1
                        obtain rfl := Option.some.inj hL1
                        replace hF := fin_ret hF
                        obtain rfl := Option.some.inj hF
                        exact ret_gz [] [] [] rfl (argFl (by (conv => lhs; whnf); all_goals rfl)) trivial
                  · replace hL2 := cond_f hb_1357 hL2
                    conv => whnf
                    obtain ⟨r_67, h_r_67, hL2⟩ := bind_some hL2
                    refine ⟨_, _, _, _, _, _, _, _, _, callX false [] [] 0 Try.func18 (by decide) rfl (screen_Cleared_ac (⟨(⟨z_35.2.2.1, z_35.2.2.2.1, z_35.2.2.2.2.1, z_35.2.2.2.2.2.1⟩ : A4_Int), z_35.2.2.2.2.2.2.1, z_35.2.2.2.2.2.2.2.1⟩ : Screening) r_67 h_r_67) rfl ⟨(argE (by (conv => lhs; whnf); all_goals rfl) rfl), trivial⟩ rfl trivial rfl rfl rfl lend0 trivial rfl, ?_⟩
                    conv => whnf
                    obtain ⟨r_68, h_r_68, hL2⟩ := bind_some hL2
                    refine ⟨_, _, _, _, _, _, _, _, _, callX false [] [] 0 Try.func17 (by decide) rfl (keep_In_ac r_67 i_36 r_68 h_r_68) rfl ⟨(argE (by (conv => lhs; whnf); all_goals rfl) rfl), (argE (by (conv => lhs; whnf); all_goals rfl) rfl), trivial⟩ rfl trivial rfl rfl rfl lend0 trivial rfl, ?_⟩
                    conv => whnf
                    refine ⟨fun h => ?_, fun h => ?_⟩
                    · conv => whnf
                      refine ⟨fun hb_1358 => ?_, fun hb_1358 => ?_⟩
                      · replace hL2 := cond_t hb_1358 hL2
                        conv => whnf
                        obtain rfl := Option.some.inj hL2
                        replace hL1 := sub_ret hL1
                        obtain rfl := Option.some.inj hL1
                        replace hF := fin_ret hF
                        obtain rfl := Option.some.inj hF
                        exact ret_gz [] [] [] rfl (argFl (by (conv => lhs; whnf); all_goals rfl)) trivial
                      · replace hL2 := cond_f hb_1358 hL2
                        conv => whnf
                        refine ⟨_, rfl, ?_⟩
                        conv => whnf
                        exact ⟨(q_71, (w64 (i_36 + (1 : Int)))), [0, 1, 2], [], [], hL2, Nat.lt_succ_self _, wk_mk [0, 1, 2] [] [] rfl ⟨argP (id := 0) (by (conv => lhs; whnf); all_goals rfl) rfl, argP (id := 1) (by (conv => lhs; whnf); all_goals rfl) rfl, argE (by (conv => lhs; whnf); all_goals rfl) rfl, argE (by (conv => lhs; whnf); all_goals rfl) rfl, argP (id := 2) (by (conv => lhs; whnf); all_goals rfl) rfl, argE (by (conv => lhs; whnf); all_goals rfl) rfl, argE (by (conv => lhs; whnf); all_goals rfl) rfl, argE (by (conv => lhs; whnf); all_goals rfl) rfl, trivial⟩ ⟨boxL rfl rfl rfl ⟨(.ni _ rfl), (.ni _ rfl), trivial⟩, boxL rfl rfl rfl ⟨(.ni _ rfl), (.ni _ rfl), (.ni _ rfl), (.ni _ rfl), (.ni _ rfl), (.ni _ rfl), trivial⟩, boxL rfl rfl rfl ⟨(.ni _ rfl), (.ni _ rfl), (.ni _ rfl), (.ni _ rfl), (.ni _ rfl), (.ni _ rfl), trivial⟩, trivial⟩⟩
                    · cases (hb_1356).symm.trans h
                · replace hL2 := cond_f hb_1356 hL2
                  conv => whnf
                  obtain ⟨r_69, h_r_69, hL2⟩ := bind_some hL2
                  refine ⟨_, _, _, _, _, _, _, _, _, callX false [] [] 0 Try.func18 (by decide) rfl (screen_Cleared_ac (⟨(⟨z_35.2.2.1, z_35.2.2.2.1, z_35.2.2.2.2.1, z_35.2.2.2.2.2.1⟩ : A4_Int), z_35.2.2.2.2.2.2.1, z_35.2.2.2.2.2.2.2.1⟩ : Screening) r_69 h_r_69) rfl ⟨(argE (by (conv => lhs; whnf); all_goals rfl) rfl), trivial⟩ rfl trivial rfl rfl rfl lend0 trivial rfl, ?_⟩
                  conv => whnf
                  obtain ⟨r_70, h_r_70, hL2⟩ := bind_some hL2
                  refine ⟨_, _, _, _, _, _, _, _, _, callX false [] [] 0 Try.func17 (by decide) rfl (keep_In_ac r_69 i_36 r_70 h_r_70) rfl ⟨(argE (by (conv => lhs; whnf); all_goals rfl) rfl), (argE (by (conv => lhs; whnf); all_goals rfl) rfl), trivial⟩ rfl trivial rfl rfl rfl lend0 trivial rfl, ?_⟩
                  conv => whnf
                  refine ⟨fun h => ?_, fun h => ?_⟩
                  · cases (hb_1356).symm.trans h
                  · conv => whnf
                    refine ⟨fun hb_1359 => ?_, fun hb_1359 => ?_⟩
                    · replace hL2 := cond_t hb_1359 hL2
                      conv => whnf
                      obtain rfl := Option.some.inj hL2
                      replace hL1 := sub_ret hL1
                      obtain rfl := Option.some.inj hL1
                      replace hF := fin_ret hF
                      obtain rfl := Option.some.inj hF
                      exact ret_gz [] [] [] rfl (argFl (by (conv => lhs; whnf); all_goals rfl)) trivial
                    · replace hL2 := cond_f hb_1359 hL2
                      conv => whnf
                      refine ⟨_, rfl, ?_⟩
                      conv => whnf
                      exact ⟨(q_71, (w64 (i_36 + (1 : Int)))), [0, 1, 2], [], [], hL2, Nat.lt_succ_self _, wk_mk [0, 1, 2] [] [] rfl ⟨argP (id := 0) (by (conv => lhs; whnf); all_goals rfl) rfl, argP (id := 1) (by (conv => lhs; whnf); all_goals rfl) rfl, argE (by (conv => lhs; whnf); all_goals rfl) rfl, argE (by (conv => lhs; whnf); all_goals rfl) rfl, argP (id := 2) (by (conv => lhs; whnf); all_goals rfl) rfl, argE (by (conv => lhs; whnf); all_goals rfl) rfl, argE (by (conv => lhs; whnf); all_goals rfl) rfl, argE (by (conv => lhs; whnf); all_goals rfl) rfl, trivial⟩ ⟨boxL rfl rfl rfl ⟨(.ni _ rfl), (.ni _ rfl), trivial⟩, boxL rfl rfl rfl ⟨(.ni _ rfl), (.ni _ rfl), (.ni _ rfl), (.ni _ rfl), (.ni _ rfl), (.ni _ rfl), trivial⟩, boxL rfl rfl rfl ⟨(.ni _ rfl), (.ni _ rfl), (.ni _ rfl), (.ni _ rfl), (.ni _ rfl), (.ni _ rfl), trivial⟩, trivial⟩⟩
          · replace hL2 := cond_f hb_1309 hL2
            conv => whnf
            obtain rfl := Option.some.inj hL2
            replace hL1 := sub_brk hL1
            try dsimp only at hL1
            refine ⟨_, rfl, ?_⟩
            conv => whnf
            exact ⟨(q_130, z_35.1, z_35.2.1, z_35.2.2.1, z_35.2.2.2.1, z_35.2.2.2.2.1, z_35.2.2.2.2.2.1, z_35.2.2.2.2.2.2.1, z_35.2.2.2.2.2.2.2.1, (w64 (i_15 + r_17.1)), (w64 (i_16 + (1 : Int)))), [0, 1], [], [], hL1, Nat.lt_succ_self _, wk_mk [0, 1] [] [] rfl ⟨argP (id := 0) (by (conv => lhs; whnf); all_goals rfl) rfl, argP (id := 1) (by (conv => lhs; whnf); all_goals rfl) rfl, argE (by (conv => lhs; whnf); all_goals rfl) rfl, argE (by (conv => lhs; whnf); all_goals rfl) rfl, trivial⟩ ⟨boxL rfl rfl rfl ⟨(.ni _ rfl), (.ni _ rfl), trivial⟩, boxL rfl rfl rfl ⟨(.ni _ rfl), (.ni _ rfl), (.ni _ rfl), (.ni _ rfl), (.ni _ rfl), (.ni _ rfl), trivial⟩, trivial⟩⟩
    · replace hL1 := cond_f hb_1301 hL1
      conv => whnf
      obtain rfl := Option.some.inj hL1
      replace hF := fin_brk hF
      try dsimp only at hF
      obtain ⟨r_132, h_r_132, hF⟩ := bind_some hF
      refine ⟨_, _, _, _, _, _, _, _, _, callX false [] [] 0 Try.func15 (by decide) rfl (law15_awake_ac r_132 h_r_132) rfl trivial rfl trivial rfl rfl rfl lend0 trivial rfl, ?_⟩
      conv => whnf
      obtain rfl := Option.some.inj hF
      exact ret_gz [] [] [] rfl (argE (by (conv => lhs; whnf); all_goals rfl) rfl) trivial
end Go.Proofs.Ytidhgcgbdjjdlaa.Ex
