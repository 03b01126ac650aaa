/- The functions of the program compute what was printed; walks printed by a program. -/
import Derived.Test.YtidhgcgbdjjdlaaExF
import Derived.Test.YtidhgcgbdjjdlaaAxJ
import Derived.Test.YtidhgcgbdjjdlaaExP1
import Derived.Test.YtidhgcgbdjjdlaaExP2
namespace Go.Proofs.Ytidhgcgbdjjdlaa.Ex
open Go.RowKit Go.Proofs.Ytidhgcgbdjjdlaa.Ax
set_option linter.unusedVariables false
set_option linter.unusedSimpArgs false
set_option maxRecDepth 100000 in
set_option maxHeartbeats 40000000 in
theorem law15_ScreenScript_ac (x_0 : A4_Int) (x_1 : (List Int)) (x_2 : Int) (x_3 : Int) (x_4 : Int) (r : Bool) (hF : law15_ScreenScript x_0 x_1 x_2 x_3 x_4 = some r) : AC Try.prog 6 [.agg (encA4_Int x_0), .lst 1 (x_1.map iA), .int .i64 x_2, .int .i64 x_3, .int .i64 x_4] [] (.bool r) [] := by
  refine ac_ofJ tab_ok follows_ok Try.func6 rfl Try.ntmps6 rfl ?_
  unfold law15_ScreenScript at hF
  conv => whnf
  obtain ⟨r_1, h_r_1, hF⟩ := bind_some hF
  refine ⟨_, _, _, _, _, _, _, _, _, callX false [] [] 1 Try.func7 (by decide) rfl (keep_New_ac x_1 r_1 h_r_1) rfl ⟨(argE (by (conv => lhs; whnf); all_goals rfl) rfl), trivial⟩ rfl trivial rfl rfl rfl lend0 ⟨rfl, trivial⟩ rfl, ?_⟩
  conv => whnf
  obtain ⟨r_2, h_r_2, hF⟩ := bind_some hF
  refine ⟨_, _, _, _, _, _, _, _, _, callX false [] [] 0 Try.func8 (by decide) rfl (screen_New_ac x_0 r_2 h_r_2) rfl ⟨(argE (by (conv => lhs; whnf); all_goals rfl) rfl), trivial⟩ rfl trivial rfl rfl rfl lend0 trivial rfl, ?_⟩
  conv => whnf
  obtain ⟨r_3, h_r_3, hF⟩ := bind_some hF
  refine ⟨_, _, _, _, _, _, _, _, _, callX false [] [] 0 Try.func21 (by decide) rfl (ref15_New_ac x_0 r_3 h_r_3) rfl ⟨(argE (by (conv => lhs; whnf); all_goals rfl) rfl), trivial⟩ rfl trivial rfl rfl rfl lend0 trivial rfl, ?_⟩
  conv => whnf
  refine ⟨fun hb_432 => ?_, fun hb_432 => ?_⟩
  · replace hF := cond_f hb_432 hF
    conv => whnf
    obtain ⟨r_4, h_r_4, hF⟩ := bind_some hF
    refine ⟨_, _, _, _, _, _, _, _, _, callX false [] [] 0 Try.func22 (by decide) rfl (ref15_Same_ac r_2.1 r_3.1 r_4 h_r_4) rfl ⟨(argE (by (conv => lhs; whnf); all_goals rfl) rfl), (argE (by (conv => lhs; whnf); all_goals rfl) rfl), trivial⟩ rfl trivial rfl rfl rfl lend0 trivial rfl, ?_⟩
    conv => whnf
    refine ⟨fun hb_433 => ?_, fun hb_433 => ?_⟩
    · replace hF := cond_t hb_433 hF
      conv => whnf
      obtain rfl := Option.some.inj hF
      exact ret_gz [] [] [] rfl (argFl (by (conv => lhs; whnf); all_goals rfl)) trivial
    · replace hF := cond_f hb_433 hF
      conv => whnf
      obtain ⟨r_5, h_r_5, hF⟩ := bind_some hF
      refine ⟨_, _, _, _, _, _, _, _, _, callX false [1] [] 0 Try.func10 (by decide) rfl (keep_Src_N_ac r_1 (6 : Int) r_5 h_r_5) rfl ⟨(argP (id := 1) (by (conv => lhs; whnf); all_goals rfl) rfl), (argE (by (conv => lhs; whnf); all_goals rfl) rfl), trivial⟩ rfl ⟨rfl, trivial⟩ rfl rfl rfl lend0 ⟨rfl, trivial⟩ rfl, ?_⟩
      conv => whnf
      obtain ⟨r_6, h_r_6, hF⟩ := bind_some hF
      refine ⟨_, _, _, _, _, _, _, _, _, callX false [1] [] 0 Try.func10 (by decide) rfl (keep_Src_N_ac r_5.2 (6 : Int) r_6 h_r_6) rfl ⟨(argP (id := 1) (by (conv => lhs; whnf); all_goals rfl) rfl), (argE (by (conv => lhs; whnf); all_goals rfl) rfl), trivial⟩ rfl ⟨rfl, trivial⟩ rfl rfl rfl lend0 ⟨rfl, trivial⟩ rfl, ?_⟩
      conv => whnf
      obtain ⟨r_7, h_r_7, hF⟩ := bind_some hF
      refine ⟨_, _, _, _, _, _, _, _, _, callX true [1] [10] 0 Try.func23 (by decide) rfl (keep_Src_Pick_ac r_6.2 ([(3 : Int), (1000 : Int)] : List Int) r_7 h_r_7) rfl ⟨(argP (id := 1) (by (conv => lhs; whnf); all_goals rfl) rfl), (argOL 10 (by (conv => lhs; whnf); all_goals rfl) rfl rfl (map_ni (fun _ => ⟨rfl, rfl⟩) _)), trivial⟩ rfl ⟨rfl, trivial⟩ rfl rfl rfl giveU ⟨rfl, trivial⟩ rfl, ?_⟩
      conv => whnf
      obtain ⟨r_8, h_r_8, hF⟩ := bind_some hF
      refine ⟨_, _, _, _, _, _, _, _, _, callX false [1] [] 0 Try.func10 (by decide) rfl (keep_Src_N_ac r_7.2 (6 : Int) r_8 h_r_8) rfl ⟨(argP (id := 1) (by (conv => lhs; whnf); all_goals rfl) rfl), (argE (by (conv => lhs; whnf); all_goals rfl) rfl), trivial⟩ rfl ⟨rfl, trivial⟩ rfl rfl rfl lend0 ⟨rfl, trivial⟩ rfl, ?_⟩
      conv => whnf
      refine .inr ?_
      conv => whnf
      obtain ⟨r_9, h_r_9, hF⟩ := bind_some hF
      refine ⟨_, _, _, _, _, _, _, _, _, callX false [] [] 0 Try.func8 (by decide) rfl (screen_New_ac (⟨r_5.1, r_6.1, r_7.1, r_8.1⟩ : A4_Int) r_9 h_r_9) rfl ⟨(argE (by (conv => lhs; whnf); all_goals rfl) rfl), trivial⟩ rfl trivial rfl rfl rfl lend0 trivial rfl, ?_⟩
      conv => whnf
      obtain ⟨r_10, h_r_10, hF⟩ := bind_some hF
      refine ⟨_, _, _, _, _, _, _, _, _, callX false [] [] 0 Try.func21 (by decide) rfl (ref15_New_ac (⟨r_5.1, r_6.1, r_7.1, r_8.1⟩ : A4_Int) r_10 h_r_10) rfl ⟨(argE (by (conv => lhs; whnf); all_goals rfl) rfl), trivial⟩ rfl trivial rfl rfl rfl lend0 trivial rfl, ?_⟩
      conv => whnf
      refine ⟨fun hb_434 => ?_, fun hb_434 => ?_⟩
      · replace hF := cond_f hb_434 hF
        conv => whnf
        obtain ⟨r_11, h_r_11, hF⟩ := bind_some hF
        refine ⟨_, _, _, _, _, _, _, _, _, callX false [] [] 0 Try.func22 (by decide) rfl (ref15_Same_ac r_9.1 r_10.1 r_11 h_r_11) rfl ⟨(argE (by (conv => lhs; whnf); all_goals rfl) rfl), (argE (by (conv => lhs; whnf); all_goals rfl) rfl), trivial⟩ rfl trivial rfl rfl rfl lend0 trivial rfl, ?_⟩
        conv => whnf
        refine ⟨fun hb_435 => ?_, fun hb_435 => ?_⟩
        · replace hF := cond_t hb_435 hF
          conv => whnf
          obtain rfl := Option.some.inj hF
          exact ret_gz [] [] [] rfl (argFl (by (conv => lhs; whnf); all_goals rfl)) trivial
        · replace hF := cond_f hb_435 hF
          conv => whnf
          obtain ⟨r_12, h_r_12, hF⟩ := bind_some hF
          refine ⟨_, _, _, _, _, _, _, _, _, callX false [1] [] 0 Try.func10 (by decide) rfl (keep_Src_N_ac r_8.2 (3 : Int) r_12 h_r_12) rfl ⟨(argP (id := 1) (by (conv => lhs; whnf); all_goals rfl) rfl), (argE (by (conv => lhs; whnf); all_goals rfl) rfl), trivial⟩ rfl ⟨rfl, trivial⟩ rfl rfl rfl lend0 ⟨rfl, trivial⟩ rfl, ?_⟩
          conv => whnf
          refine sw_blk tab_ok follows_ok ?_
          conv => whnf
          obtain ⟨c_1, hc_1, hF⟩ := fin_some hF
          refine sw_loopJ tab_ok follows_ok (fun y : Nat × (List Int) × Int × Int × Int × Int × Int × Int × (List Check) × Int × Int × Int × Int × Int × (List Check) × Int × Int => law15_ScreenScript_L1 x_2 x_3 x_4 y.1 y.2.1 y.2.2.1 y.2.2.2.1 y.2.2.2.2.1 y.2.2.2.2.2.1 y.2.2.2.2.2.2.1 y.2.2.2.2.2.2.2.1 y.2.2.2.2.2.2.2.2.1 y.2.2.2.2.2.2.2.2.2.1 y.2.2.2.2.2.2.2.2.2.2.1 y.2.2.2.2.2.2.2.2.2.2.2.1 y.2.2.2.2.2.2.2.2.2.2.2.2.1 y.2.2.2.2.2.2.2.2.2.2.2.2.2.1 y.2.2.2.2.2.2.2.2.2.2.2.2.2.2.1 y.2.2.2.2.2.2.2.2.2.2.2.2.2.2.2.1 y.2.2.2.2.2.2.2.2.2.2.2.2.2.2.2.2 = some c_1) (fun y => ⟨eL [(2, .int .i64 x_2), (3, .int .i64 x_3), (4, .int .i64 x_4), (11, .ptr 0 0), (12, .ptr 1 0), (14, .ptr 2 0), (17, .int .i64 y.2.2.2.2.2.2.2.2.2.2.2.2.2.2.2.1), (18, .int .i64 y.2.2.2.2.2.2.2.2.2.2.2.2.2.2.2.2)], hL [(0, .box [.lst 1 (y.2.1.map iA), .int .i64 y.2.2.1]), (1, .box [.int .i64 y.2.2.2.1, .int .i64 y.2.2.2.2.1, .int .i64 y.2.2.2.2.2.1, .int .i64 y.2.2.2.2.2.2.1, .int .i64 y.2.2.2.2.2.2.2.1, .lst 5 (y.2.2.2.2.2.2.2.2.1.map encCheck)]), (2, .box [.int .i64 y.2.2.2.2.2.2.2.2.2.1, .int .i64 y.2.2.2.2.2.2.2.2.2.2.1, .int .i64 y.2.2.2.2.2.2.2.2.2.2.2.1, .int .i64 y.2.2.2.2.2.2.2.2.2.2.2.2.1, .int .i64 y.2.2.2.2.2.2.2.2.2.2.2.2.2.1, .lst 5 (y.2.2.2.2.2.2.2.2.2.2.2.2.2.2.1.map encCheck)])], 3⟩) (fun y => y.1) (9223372036854775807, r_12.2.L, r_12.2.At, r_9.1.Limits.e0, r_9.1.Limits.e1, r_9.1.Limits.e2, r_9.1.Limits.e3, r_9.1.Next, r_9.1.L, r_10.1.Limits.e0, r_10.1.Limits.e1, r_10.1.Limits.e2, r_10.1.Limits.e3, r_10.1.Next, r_10.1.L, r_12.1, (0 : Int)) hc_1 (wk_mk [1, 4, 6] [] [] rfl ⟨argE (by (conv => lhs; whnf); all_goals rfl) rfl, argE (by (conv => lhs; whnf); all_goals rfl) rfl, argE (by (conv => lhs; whnf); all_goals rfl) rfl, argP (id := 1) (by (conv => lhs; whnf); all_goals rfl) rfl, argP (id := 4) (by (conv => lhs; whnf); all_goals rfl) rfl, argP (id := 6) (by (conv => lhs; whnf); all_goals rfl) rfl, argE (by (conv => lhs; whnf); all_goals rfl) rfl, argE (by (conv => lhs; whnf); all_goals rfl) rfl, trivial⟩ ⟨boxL rfl rfl rfl ⟨(.ni _ rfl), (.ni _ rfl), trivial⟩, boxL rfl rfl rfl ⟨(.ni _ rfl), (.ni _ rfl), (.ni _ rfl), (.ni _ rfl), (.ni _ rfl), (.ni _ rfl), trivial⟩, boxL rfl rfl rfl ⟨(.ni _ rfl), (.ni _ rfl), (.ni _ rfl), (.ni _ rfl), (.ni _ rfl), (.ni _ rfl), trivial⟩, trivial⟩) ?_
          rintro ⟨q_388, a_13, i_14, i_15, i_16, i_17, i_18, i_19, a_20, i_21, i_22, i_23, i_24, i_25, a_26, i_27, i_28⟩ hL1
          try dsimp only at hL1
          rcases q_388 with _ | q_388
          · rw [law15_ScreenScript_L1.eq_1] at hL1
            cases hL1
          rw [law15_ScreenScript_L1.eq_2] at hL1
          show awpJ _ _ _ _ _ _ ⟨eL [(2, .int .i64 x_2), (3, .int .i64 x_3), (4, .int .i64 x_4), (11, .ptr 0 0), (12, .ptr 1 0), (14, .ptr 2 0), (17, .int .i64 i_27), (18, .int .i64 i_28)], hL [(0, .box [.lst 1 (a_13.map iA), .int .i64 i_14]), (1, .box [.int .i64 i_15, .int .i64 i_16, .int .i64 i_17, .int .i64 i_18, .int .i64 i_19, .lst 5 (a_20.map encCheck)]), (2, .box [.int .i64 i_21, .int .i64 i_22, .int .i64 i_23, .int .i64 i_24, .int .i64 i_25, .lst 5 (a_26.map encCheck)])], 3⟩
          conv => whnf
          refine ⟨fun hb_436 => ?_, fun hb_436 => ?_⟩
          · replace hL1 := cond_t hb_436 hL1
            conv => whnf
            refine ⟨fun hb_437 => ?_, fun hb_437 => ?_⟩
            · replace hL1 := cond_f hb_437 hL1
              conv => whnf
              obtain ⟨r_208, h_r_208, hL1⟩ := bind_some hL1
              refine ⟨_, _, _, _, _, _, _, _, _, callX false [] [0] 0 Try.func9 (by decide) rfl (keep_Src_More_ac (⟨a_13, i_14⟩ : Src) r_208 h_r_208) rfl ⟨(argIb 0 _ (by (conv => lhs; whnf); all_goals rfl) rfl rfl rfl rfl), trivial⟩ rfl trivial rfl rfl rfl (lendF rfl) trivial rfl, ?_⟩
              conv => whnf
              refine ⟨fun hb_501 => ?_, fun hb_501 => ?_⟩
              · replace hL1 := cond_t hb_501 hL1
                conv => whnf
                refine sw_blk tab_ok follows_ok ?_
                conv => whnf
                obtain ⟨r_209, h_r_209, hL1⟩ := bind_some hL1
                refine ⟨_, _, _, _, _, _, _, _, _, callX true [0] [4] 0 Try.func23 (by decide) rfl (keep_Src_Pick_ac (⟨a_13, i_14⟩ : Src) ([(0 : Int), (1 : Int), (0 : Int), (2 : Int), (7 : Int)] : List Int) r_209 h_r_209) rfl ⟨(argP (id := 0) (by (conv => lhs; whnf); all_goals rfl) rfl), (argOL 4 (by (conv => lhs; whnf); all_goals rfl) rfl rfl (map_ni (fun _ => ⟨rfl, rfl⟩) _)), trivial⟩ rfl ⟨rfl, trivial⟩ rfl rfl rfl giveU ⟨rfl, trivial⟩ rfl, ?_⟩
                conv => whnf
                refine ⟨_, rfl, ?_⟩
                conv => whnf
                obtain ⟨r_210, h_r_210, hL1⟩ := bind_some hL1
                refine ⟨_, _, _, _, _, _, _, _, _, callX false [0] [] 0 Try.func12 (by decide) rfl (keep_Src_Range_ac r_209.2 (0 : Int) (6 : Int) r_210 h_r_210) rfl ⟨(argP (id := 0) (by (conv => lhs; whnf); all_goals rfl) rfl), (argE (by (conv => lhs; whnf); all_goals rfl) rfl), (argE (by (conv => lhs; whnf); all_goals rfl) rfl), trivial⟩ rfl ⟨rfl, trivial⟩ rfl rfl rfl lend0 ⟨rfl, trivial⟩ rfl, ?_⟩
                conv => whnf
                obtain ⟨r_211, h_r_211, hL1⟩ := bind_some hL1
                refine ⟨_, _, _, _, _, _, _, _, _, callX false [0] [] 0 Try.func10 (by decide) rfl (keep_Src_N_ac r_210.2 (10 : Int) r_211 h_r_211) rfl ⟨(argP (id := 0) (by (conv => lhs; whnf); all_goals rfl) rfl), (argE (by (conv => lhs; whnf); all_goals rfl) rfl), trivial⟩ rfl ⟨rfl, trivial⟩ rfl rfl rfl lend0 ⟨rfl, trivial⟩ rfl, ?_⟩
                conv => whnf
                refine ⟨fun hb_502 => ?_, fun hb_502 => ?_⟩
                · replace hL1 := cond_t hb_502 hL1
                  conv => whnf
                  refine ⟨fun hb_503 => ?_, fun hb_503 => ?_⟩
                  · replace hL1 := cond_f hb_503 hL1
                    conv => whnf
                    refine ⟨fun hb_519 => ?_, fun hb_519 => ?_⟩
                    · replace hL1 := cond_t hb_519 hL1
                      conv => whnf
                      obtain ⟨r_256, h_r_256, hL1⟩ := bind_some hL1
                      refine ⟨_, _, _, _, _, _, _, _, _, callX false [0] [] 0 Try.func10 (by decide) rfl (keep_Src_N_ac r_211.2 (4 : Int) r_256 h_r_256) rfl ⟨(argP (id := 0) (by (conv => lhs; whnf); all_goals rfl) rfl), (argE (by (conv => lhs; whnf); all_goals rfl) rfl), trivial⟩ rfl ⟨rfl, trivial⟩ rfl rfl rfl lend0 ⟨rfl, trivial⟩ rfl, ?_⟩
                      conv => whnf
                      obtain ⟨D_520, cJ_520, hJ_520, hB_520, hD_520, hR_520⟩ := sub_join hL1
                      refine sw_blkj tab_ok follows_ok (fun y : Int × Int × Int × Int × Int × Int × Int × (List Check) × Int × Int × Int × Int × Int × (List Check) × (List Int) × Int × Int × Int => ⟨eL [(2, .int .i64 x_2), (3, .int .i64 x_3), (4, .int .i64 x_4), (11, .ptr 0 0), (12, .ptr 1 0), (14, .ptr 2 0), (17, .int .i64 (w64 (i_27 + r_209.1))), (18, .int .i64 i_28), (19, .int .i64 x_2), (22, .ptr 3 0), (23, .int .i64 y.2.2.2.2.2.2.2.2.2.2.2.2.2.2.2.2.1), (24, .int .i64 y.1), (25, .ptr 4 0), (26, .int .i64 y.2.2.2.2.2.2.2.2.2.2.2.2.2.2.2.2.2), (27, .int .i64 y.2.1)], hL [(0, .box [.lst 1 (y.2.2.2.2.2.2.2.2.2.2.2.2.2.2.1.map iA), .int .i64 y.2.2.2.2.2.2.2.2.2.2.2.2.2.2.2.1]), (1, .box [.int .i64 i_15, .int .i64 i_16, .int .i64 i_17, .int .i64 i_18, .int .i64 i_19, .lst 5 (a_20.map encCheck)]), (2, .box [.int .i64 i_21, .int .i64 i_22, .int .i64 i_23, .int .i64 i_24, .int .i64 i_25, .lst 5 (a_26.map encCheck)]), (3, .box [.int .i64 y.2.2.1, .int .i64 y.2.2.2.1, .int .i64 y.2.2.2.2.1, .int .i64 y.2.2.2.2.2.1, .int .i64 y.2.2.2.2.2.2.1, .lst 5 (y.2.2.2.2.2.2.2.1.map encCheck)]), (4, .box [.int .i64 y.2.2.2.2.2.2.2.2.1, .int .i64 y.2.2.2.2.2.2.2.2.2.1, .int .i64 y.2.2.2.2.2.2.2.2.2.2.1, .int .i64 y.2.2.2.2.2.2.2.2.2.2.2.1, .int .i64 y.2.2.2.2.2.2.2.2.2.2.2.2.1, .lst 5 (y.2.2.2.2.2.2.2.2.2.2.2.2.2.1.map encCheck)])], 5⟩) D_520 ?_ ?_
                      · conv => whnf
                        refine ⟨fun hb_521 => ?_, fun hb_521 => ?_⟩
                        · replace hJ_520 := cond_t hb_521 hJ_520
                          conv => whnf
                          obtain ⟨r_257, h_r_257, hJ_520⟩ := bind_some hJ_520
                          refine ⟨_, _, _, _, _, _, _, _, _, callX false [] [] 0 Try.func11 (by decide) rfl (screen_Start_ac (⟨(⟨i_15, i_16, i_17, i_18⟩ : A4_Int), i_19, a_20⟩ : Screening) x_2 x_4 r_257 h_r_257) rfl ⟨(argE (by (conv => lhs; whnf); all_goals rfl) rfl), (argE (by (conv => lhs; whnf); all_goals rfl) rfl), (argE (by (conv => lhs; whnf); all_goals rfl) rfl), trivial⟩ rfl trivial rfl rfl rfl lend0 trivial rfl, ?_⟩
                          conv => whnf
                          obtain ⟨r_258, h_r_258, hJ_520⟩ := bind_some hJ_520
                          refine ⟨_, _, _, _, _, _, _, _, _, callX false [] [] 0 Try.func24 (by decide) rfl (ref15_Start_ac (⟨(⟨i_21, i_22, i_23, i_24⟩ : A4_Int), i_25, a_26⟩ : Screening) x_2 x_4 r_258 h_r_258) rfl ⟨(argE (by (conv => lhs; whnf); all_goals rfl) rfl), (argE (by (conv => lhs; whnf); all_goals rfl) rfl), (argE (by (conv => lhs; whnf); all_goals rfl) rfl), trivial⟩ rfl trivial rfl rfl rfl lend0 trivial rfl, ?_⟩
                          conv => whnf
                          obtain rfl := Option.some.inj hJ_520
                          exact ⟨(r_257.2, r_258.2, r_257.1.Limits.e0, r_257.1.Limits.e1, r_257.1.Limits.e2, r_257.1.Limits.e3, r_257.1.Next, r_257.1.L, r_258.1.Limits.e0, r_258.1.Limits.e1, r_258.1.Limits.e2, r_258.1.Limits.e3, r_258.1.Next, r_258.1.L, r_256.2.L, r_256.2.At, (0 : Int), (0 : Int)), [0, 1, 2, 8, 9], [], [], hB_520 _ rfl, wk_mk [0, 1, 2, 8, 9] [] [] rfl ⟨argE (by (conv => lhs; whnf); all_goals rfl) rfl, argE (by (conv => lhs; whnf); all_goals rfl) rfl, argE (by (conv => lhs; whnf); all_goals rfl) rfl, argP (id := 0) (by (conv => lhs; whnf); all_goals rfl) rfl, argP (id := 1) (by (conv => lhs; whnf); all_goals rfl) rfl, argP (id := 2) (by (conv => lhs; whnf); all_goals rfl) rfl, argE (by (conv => lhs; whnf); all_goals rfl) rfl, argE (by (conv => lhs; whnf); all_goals rfl) rfl, argE (by (conv => lhs; whnf); all_goals rfl) rfl, argP (id := 8) (by (conv => lhs; whnf); all_goals rfl) rfl, argE (by (conv => lhs; whnf); all_goals rfl) rfl, argE (by (conv => lhs; whnf); all_goals rfl) rfl, argP (id := 9) (by (conv => lhs; whnf); all_goals rfl) rfl, argE (by (conv => lhs; whnf); all_goals rfl) rfl, argE (by (conv => lhs; whnf); all_goals rfl) rfl, trivial⟩ ⟨boxL rfl rfl rfl ⟨(.ni _ rfl), (.ni _ rfl), trivial⟩, boxL rfl rfl rfl ⟨(.ni _ rfl), (.ni _ rfl), (.ni _ rfl), (.ni _ rfl), (.ni _ rfl), (.ni _ rfl), trivial⟩, boxL rfl rfl rfl ⟨(.ni _ rfl), (.ni _ rfl), (.ni _ rfl), (.ni _ rfl), (.ni _ rfl), (.ni _ rfl), trivial⟩, boxL rfl rfl rfl ⟨(.ni _ rfl), (.ni _ rfl), (.ni _ rfl), (.ni _ rfl), (.ni _ rfl), (.ni _ rfl), trivial⟩, boxL rfl rfl rfl ⟨(.ni _ rfl), (.ni _ rfl), (.ni _ rfl), (.ni _ rfl), (.ni _ rfl), (.ni _ rfl), trivial⟩, trivial⟩⟩
                        · replace hJ_520 := cond_f hb_521 hJ_520
                          conv => whnf
                          refine ⟨fun hb_522 => ?_, fun hb_522 => ?_⟩
                          · replace hJ_520 := cond_t hb_522 hJ_520
                            conv => whnf
                            obtain ⟨r_259, h_r_259, hJ_520⟩ := bind_some hJ_520
                            refine ⟨_, _, _, _, _, _, _, _, _, callX false [] [] 0 Try.func13 (by decide) rfl (screen_Expire_ac (⟨(⟨i_15, i_16, i_17, i_18⟩ : A4_Int), i_19, a_20⟩ : Screening) x_4 r_259 h_r_259) rfl ⟨(argE (by (conv => lhs; whnf); all_goals rfl) rfl), (argE (by (conv => lhs; whnf); all_goals rfl) rfl), trivial⟩ rfl trivial rfl rfl rfl lend0 trivial rfl, ?_⟩
                            conv => whnf
                            obtain ⟨r_260, h_r_260, hJ_520⟩ := bind_some hJ_520
                            refine ⟨_, _, _, _, _, _, _, _, _, callX false [] [] 0 Try.func25 (by decide) rfl (ref15_Expire_ac (⟨(⟨i_21, i_22, i_23, i_24⟩ : A4_Int), i_25, a_26⟩ : Screening) x_4 r_260 h_r_260) rfl ⟨(argE (by (conv => lhs; whnf); all_goals rfl) rfl), (argE (by (conv => lhs; whnf); all_goals rfl) rfl), trivial⟩ rfl trivial rfl rfl rfl lend0 trivial rfl, ?_⟩
                            conv => whnf
                            obtain rfl := Option.some.inj hJ_520
                            exact ⟨(r_259.2, r_260.2, r_259.1.Limits.e0, r_259.1.Limits.e1, r_259.1.Limits.e2, r_259.1.Limits.e3, r_259.1.Next, r_259.1.L, r_260.1.Limits.e0, r_260.1.Limits.e1, r_260.1.Limits.e2, r_260.1.Limits.e3, r_260.1.Next, r_260.1.L, r_256.2.L, r_256.2.At, (0 : Int), (0 : Int)), [0, 1, 2, 8, 9], [], [], hB_520 _ rfl, wk_mk [0, 1, 2, 8, 9] [] [] rfl ⟨argE (by (conv => lhs; whnf); all_goals rfl) rfl, argE (by (conv => lhs; whnf); all_goals rfl) rfl, argE (by (conv => lhs; whnf); all_goals rfl) rfl, argP (id := 0) (by (conv => lhs; whnf); all_goals rfl) rfl, argP (id := 1) (by (conv => lhs; whnf); all_goals rfl) rfl, argP (id := 2) (by (conv => lhs; whnf); all_goals rfl) rfl, argE (by (conv => lhs; whnf); all_goals rfl) rfl, argE (by (conv => lhs; whnf); all_goals rfl) rfl, argE (by (conv => lhs; whnf); all_goals rfl) rfl, argP (id := 8) (by (conv => lhs; whnf); all_goals rfl) rfl, argE (by (conv => lhs; whnf); all_goals rfl) rfl, argE (by (conv => lhs; whnf); all_goals rfl) rfl, argP (id := 9) (by (conv => lhs; whnf); all_goals rfl) rfl, argE (by (conv => lhs; whnf); all_goals rfl) rfl, argE (by (conv => lhs; whnf); all_goals rfl) rfl, trivial⟩ ⟨boxL rfl rfl rfl ⟨(.ni _ rfl), (.ni _ rfl), trivial⟩, boxL rfl rfl rfl ⟨(.ni _ rfl), (.ni _ rfl), (.ni _ rfl), (.ni _ rfl), (.ni _ rfl), (.ni _ rfl), trivial⟩, boxL rfl rfl rfl ⟨(.ni _ rfl), (.ni _ rfl), (.ni _ rfl), (.ni _ rfl), (.ni _ rfl), (.ni _ rfl), trivial⟩, boxL rfl rfl rfl ⟨(.ni _ rfl), (.ni _ rfl), (.ni _ rfl), (.ni _ rfl), (.ni _ rfl), (.ni _ rfl), trivial⟩, boxL rfl rfl rfl ⟨(.ni _ rfl), (.ni _ rfl), (.ni _ rfl), (.ni _ rfl), (.ni _ rfl), (.ni _ rfl), trivial⟩, trivial⟩⟩
                          · replace hJ_520 := cond_f hb_522 hJ_520
                            conv => whnf
                            obtain ⟨r_261, h_r_261, hJ_520⟩ := bind_some hJ_520
                            refine ⟨_, _, _, _, _, _, _, _, _, callX false [0] [] 0 Try.func10 (by decide) rfl (keep_Src_N_ac r_256.2 (3 : Int) r_261 h_r_261) rfl ⟨(argP (id := 0) (by (conv => lhs; whnf); all_goals rfl) rfl), (argE (by (conv => lhs; whnf); all_goals rfl) rfl), trivial⟩ rfl ⟨rfl, trivial⟩ rfl rfl rfl lend0 ⟨rfl, trivial⟩ rfl, ?_⟩
                            conv => whnf
                            obtain ⟨r_262, h_r_262, hJ_520⟩ := bind_some hJ_520
                            refine ⟨_, _, _, _, _, _, _, _, _, callX false [] [] 0 Try.func14 (by decide) rfl (screen_Verdict_ac (⟨(⟨i_15, i_16, i_17, i_18⟩ : A4_Int), i_19, a_20⟩ : Screening) x_3 (r_261.1 == (0 : Int)) x_4 r_262 h_r_262) rfl ⟨(argE (by (conv => lhs; whnf); all_goals rfl) rfl), (argE (by (conv => lhs; whnf); all_goals rfl) rfl), (argE (by (conv => lhs; whnf); all_goals rfl) rfl), (argE (by (conv => lhs; whnf); all_goals rfl) rfl), trivial⟩ rfl trivial rfl rfl rfl lend0 trivial rfl, ?_⟩
                            conv => whnf
                            obtain ⟨r_263, h_r_263, hJ_520⟩ := bind_some hJ_520
                            refine ⟨_, _, _, _, _, _, _, _, _, callX false [] [] 0 Try.func26 (by decide) rfl (ref15_Verdict_ac (⟨(⟨i_21, i_22, i_23, i_24⟩ : A4_Int), i_25, a_26⟩ : Screening) x_3 (r_261.1 == (0 : Int)) x_4 r_263 h_r_263) rfl ⟨(argE (by (conv => lhs; whnf); all_goals rfl) rfl), (argE (by (conv => lhs; whnf); all_goals rfl) rfl), (argE (by (conv => lhs; whnf); all_goals rfl) rfl), (argE (by (conv => lhs; whnf); all_goals rfl) rfl), trivial⟩ rfl trivial rfl rfl rfl lend0 trivial rfl, ?_⟩
                            conv => whnf
                            obtain rfl := Option.some.inj hJ_520
                            exact ⟨(r_262.2.2, r_263.2.2, r_262.1.Limits.e0, r_262.1.Limits.e1, r_262.1.Limits.e2, r_262.1.Limits.e3, r_262.1.Next, r_262.1.L, r_263.1.Limits.e0, r_263.1.Limits.e1, r_263.1.Limits.e2, r_263.1.Limits.e3, r_263.1.Next, r_263.1.L, r_261.2.L, r_261.2.At, r_262.2.1, r_263.2.1), [0, 1, 2, 8, 9], [], [], hB_520 _ rfl, wk_mk [0, 1, 2, 8, 9] [] [] rfl ⟨argE (by (conv => lhs; whnf); all_goals rfl) rfl, argE (by (conv => lhs; whnf); all_goals rfl) rfl, argE (by (conv => lhs; whnf); all_goals rfl) rfl, argP (id := 0) (by (conv => lhs; whnf); all_goals rfl) rfl, argP (id := 1) (by (conv => lhs; whnf); all_goals rfl) rfl, argP (id := 2) (by (conv => lhs; whnf); all_goals rfl) rfl, argE (by (conv => lhs; whnf); all_goals rfl) rfl, argE (by (conv => lhs; whnf); all_goals rfl) rfl, argE (by (conv => lhs; whnf); all_goals rfl) rfl, argP (id := 8) (by (conv => lhs; whnf); all_goals rfl) rfl, argE (by (conv => lhs; whnf); all_goals rfl) rfl, argE (by (conv => lhs; whnf); all_goals rfl) rfl, argP (id := 9) (by (conv => lhs; whnf); all_goals rfl) rfl, argE (by (conv => lhs; whnf); all_goals rfl) rfl, argE (by (conv => lhs; whnf); all_goals rfl) rfl, trivial⟩ ⟨boxL rfl rfl rfl ⟨(.ni _ rfl), (.ni _ rfl), trivial⟩, boxL rfl rfl rfl ⟨(.ni _ rfl), (.ni _ rfl), (.ni _ rfl), (.ni _ rfl), (.ni _ rfl), (.ni _ rfl), trivial⟩, boxL rfl rfl rfl ⟨(.ni _ rfl), (.ni _ rfl), (.ni _ rfl), (.ni _ rfl), (.ni _ rfl), (.ni _ rfl), trivial⟩, boxL rfl rfl rfl ⟨(.ni _ rfl), (.ni _ rfl), (.ni _ rfl), (.ni _ rfl), (.ni _ rfl), (.ni _ rfl), trivial⟩, boxL rfl rfl rfl ⟨(.ni _ rfl), (.ni _ rfl), (.ni _ rfl), (.ni _ rfl), (.ni _ rfl), (.ni _ rfl), trivial⟩, trivial⟩⟩
                      · rintro z_282 hx_520
                        replace hL1 := hD_520 _ hx_520
                        try dsimp only at hL1
                        conv => whnf
                        refine ⟨fun hb_523 => ?_, fun hb_523 => ?_⟩
                        · replace hL1 := cond_f hb_523 hL1
                          conv => whnf
                          refine ⟨fun hb_524 => ?_, fun hb_524 => ?_⟩
                          · replace hL1 := cond_f hb_524 hL1
                            conv => whnf
                            obtain ⟨r_283, h_r_283, hL1⟩ := bind_some hL1
                            refine ⟨_, _, _, _, _, _, _, _, _, callX false [] [] 0 Try.func22 (by decide) rfl (ref15_Same_ac (⟨(⟨z_282.2.2.1, z_282.2.2.2.1, z_282.2.2.2.2.1, z_282.2.2.2.2.2.1⟩ : A4_Int), z_282.2.2.2.2.2.2.1, z_282.2.2.2.2.2.2.2.1⟩ : Screening) (⟨(⟨z_282.2.2.2.2.2.2.2.2.1, z_282.2.2.2.2.2.2.2.2.2.1, z_282.2.2.2.2.2.2.2.2.2.2.1, z_282.2.2.2.2.2.2.2.2.2.2.2.1⟩ : A4_Int), z_282.2.2.2.2.2.2.2.2.2.2.2.2.1, z_282.2.2.2.2.2.2.2.2.2.2.2.2.2.1⟩ : Screening) r_283 h_r_283) rfl ⟨(argE (by (conv => lhs; whnf); all_goals rfl) rfl), (argE (by (conv => lhs; whnf); all_goals rfl) rfl), trivial⟩ rfl trivial rfl rfl rfl lend0 trivial rfl, ?_⟩
                            conv => whnf
                            refine ⟨fun hb_525 => ?_, fun hb_525 => ?_⟩
                            · replace hL1 := cond_t hb_525 hL1
                              conv => whnf
                              obtain rfl := Option.some.inj hL1
                              replace hF := fin_ret hF
                              obtain rfl := Option.some.inj hF
                              exact ret_gz [] [] [] rfl (argFl (by (conv => lhs; whnf); all_goals rfl)) trivial
                            · replace hL1 := cond_f hb_525 hL1
                              conv => whnf
                              refine ⟨fun hb_526 => ?_, fun hb_526 => ?_⟩
                              · replace hL1 := cond_t hb_526 hL1
                                conv => whnf
                                refine ⟨by kernel_rfl, ?_⟩
                                conv => whnf
                                obtain ⟨r_284, h_r_284, hL1⟩ := bind_some hL1
                                refine ⟨_, _, _, _, _, _, _, _, _, callX false [] [] 0 Try.func16 (by decide) rfl (screen_Find_ac (⟨(⟨z_282.2.2.1, z_282.2.2.2.1, z_282.2.2.2.2.1, z_282.2.2.2.2.2.1⟩ : A4_Int), z_282.2.2.2.2.2.2.1, z_282.2.2.2.2.2.2.2.1⟩ : Screening) x_2 r_284 h_r_284) rfl ⟨(argE (by (conv => lhs; whnf); all_goals rfl) rfl), (argE (by (conv => lhs; whnf); all_goals rfl) rfl), trivial⟩ rfl trivial rfl rfl rfl lend0 trivial rfl, ?_⟩
                                conv => whnf
                                obtain ⟨r_285, h_r_285, hL1⟩ := bind_some hL1
                                refine ⟨_, _, _, _, _, _, _, _, _, callX false [] [] 0 Try.func27 (by decide) rfl (ref15_Find_ac (⟨(⟨z_282.2.2.2.2.2.2.2.2.1, z_282.2.2.2.2.2.2.2.2.2.1, z_282.2.2.2.2.2.2.2.2.2.2.1, z_282.2.2.2.2.2.2.2.2.2.2.2.1⟩ : A4_Int), z_282.2.2.2.2.2.2.2.2.2.2.2.2.1, z_282.2.2.2.2.2.2.2.2.2.2.2.2.2.1⟩ : Screening) x_2 r_285 h_r_285) rfl ⟨(argE (by (conv => lhs; whnf); all_goals rfl) rfl), (argE (by (conv => lhs; whnf); all_goals rfl) rfl), trivial⟩ rfl trivial rfl rfl rfl lend0 trivial rfl, ?_⟩
                                conv => whnf
                                refine ⟨fun hb_527 => ?_, fun hb_527 => ?_⟩
                                · replace hL1 := cond_f hb_527 hL1
                                  conv => whnf
                                  refine ⟨fun hb_528 => ?_, fun hb_528 => ?_⟩
                                  · replace hL1 := cond_f hb_528 hL1
                                    conv => whnf
                                    obtain ⟨r_286, h_r_286, hL1⟩ := bind_some hL1
                                    refine ⟨_, _, _, _, _, _, _, _, _, callX false [] [] 0 Try.func18 (by decide) rfl (screen_Cleared_ac (⟨(⟨z_282.2.2.1, z_282.2.2.2.1, z_282.2.2.2.2.1, z_282.2.2.2.2.2.1⟩ : A4_Int), z_282.2.2.2.2.2.2.1, z_282.2.2.2.2.2.2.2.1⟩ : Screening) r_286 h_r_286) rfl ⟨(argE (by (conv => lhs; whnf); all_goals rfl) rfl), trivial⟩ rfl trivial rfl rfl rfl lend0 trivial rfl, ?_⟩
                                    conv => whnf
                                    obtain ⟨r_287, h_r_287, hL1⟩ := bind_some hL1
                                    refine ⟨_, _, _, _, _, _, _, _, _, callX false [] [] 0 Try.func29 (by decide) rfl (ref15_Cleared_ac (⟨(⟨z_282.2.2.2.2.2.2.2.2.1, z_282.2.2.2.2.2.2.2.2.2.1, z_282.2.2.2.2.2.2.2.2.2.2.1, z_282.2.2.2.2.2.2.2.2.2.2.2.1⟩ : A4_Int), z_282.2.2.2.2.2.2.2.2.2.2.2.2.1, z_282.2.2.2.2.2.2.2.2.2.2.2.2.2.1⟩ : Screening) r_287 h_r_287) rfl ⟨(argE (by (conv => lhs; whnf); all_goals rfl) rfl), trivial⟩ rfl trivial rfl rfl rfl lend0 trivial rfl, ?_⟩
                                    conv => whnf
                                    obtain ⟨r_288, h_r_288, hL1⟩ := bind_some hL1
                                    refine ⟨_, _, _, _, _, _, _, _, _, callX false [] [] 0 Try.func28 (by decide) rfl (keep_Ints_ac r_286 r_287 r_288 h_r_288) rfl ⟨(argE (by (conv => lhs; whnf); all_goals rfl) rfl), (argE (by (conv => lhs; whnf); all_goals rfl) rfl), trivial⟩ rfl trivial rfl rfl rfl lend0 trivial rfl, ?_⟩
                                    conv => whnf
                                    refine ⟨fun hb_529 => ?_, fun hb_529 => ?_⟩
                                    · replace hL1 := cond_f hb_529 hL1
                                      conv => whnf
                                      obtain ⟨r_289, h_r_289, hL1⟩ := bind_some hL1
                                      refine ⟨_, _, _, _, _, _, _, _, _, callX false [] [] 0 Try.func20 (by decide) rfl (screen_Alarms_ac (⟨(⟨z_282.2.2.1, z_282.2.2.2.1, z_282.2.2.2.2.1, z_282.2.2.2.2.2.1⟩ : A4_Int), z_282.2.2.2.2.2.2.1, z_282.2.2.2.2.2.2.2.1⟩ : Screening) r_289 h_r_289) rfl ⟨(argE (by (conv => lhs; whnf); all_goals rfl) rfl), trivial⟩ rfl trivial rfl rfl rfl lend0 trivial rfl, ?_⟩
                                      conv => whnf
                                      obtain ⟨r_290, h_r_290, hL1⟩ := bind_some hL1
                                      refine ⟨_, _, _, _, _, _, _, _, _, callX false [] [] 0 Try.func31 (by decide) rfl (ref15_Alarms_ac (⟨(⟨z_282.2.2.2.2.2.2.2.2.1, z_282.2.2.2.2.2.2.2.2.2.1, z_282.2.2.2.2.2.2.2.2.2.2.1, z_282.2.2.2.2.2.2.2.2.2.2.2.1⟩ : A4_Int), z_282.2.2.2.2.2.2.2.2.2.2.2.2.1, z_282.2.2.2.2.2.2.2.2.2.2.2.2.2.1⟩ : Screening) r_290 h_r_290) rfl ⟨(argE (by (conv => lhs; whnf); all_goals rfl) rfl), trivial⟩ rfl trivial rfl rfl rfl lend0 trivial rfl, ?_⟩
                                      conv => whnf
                                      obtain ⟨r_291, h_r_291, hL1⟩ := bind_some hL1
                                      refine ⟨_, _, _, _, _, _, _, _, _, callX false [] [] 0 Try.func30 (by decide) rfl (law15_same_ac r_289 r_290 r_291 h_r_291) rfl ⟨(argE (by (conv => lhs; whnf); all_goals rfl) rfl), (argE (by (conv => lhs; whnf); all_goals rfl) rfl), trivial⟩ rfl trivial rfl rfl rfl lend0 trivial rfl, ?_⟩
                                      conv => whnf
                                      refine ⟨by kernel_rfl, ?_⟩
                                      conv => whnf
                                      refine ⟨fun hb_530 => ?_, fun hb_530 => ?_⟩
                                      · replace hL1 := cond_t hb_530 hL1
                                        conv => whnf
                                        obtain rfl := Option.some.inj hL1
                                        replace hF := fin_ret hF
                                        obtain rfl := Option.some.inj hF
                                        exact ret_gz [] [] [] rfl (argFl (by (conv => lhs; whnf); all_goals rfl)) trivial
                                      · replace hL1 := cond_f hb_530 hL1
                                        conv => whnf
                                        refine ⟨_, rfl, ?_⟩
                                        conv => whnf
                                        exact ⟨(q_388, z_282.2.2.2.2.2.2.2.2.2.2.2.2.2.2.1, z_282.2.2.2.2.2.2.2.2.2.2.2.2.2.2.2.1, z_282.2.2.1, z_282.2.2.2.1, z_282.2.2.2.2.1, z_282.2.2.2.2.2.1, z_282.2.2.2.2.2.2.1, z_282.2.2.2.2.2.2.2.1, z_282.2.2.2.2.2.2.2.2.1, z_282.2.2.2.2.2.2.2.2.2.1, z_282.2.2.2.2.2.2.2.2.2.2.1, z_282.2.2.2.2.2.2.2.2.2.2.2.1, z_282.2.2.2.2.2.2.2.2.2.2.2.2.1, z_282.2.2.2.2.2.2.2.2.2.2.2.2.2.1, (w64 (i_27 + r_209.1)), (w64 (i_28 + (1 : Int)))), [0, 1, 2], [], [], hL1, Nat.lt_succ_self _, wk_mk [0, 1, 2] [] [] rfl ⟨argE (by (conv => lhs; whnf); all_goals rfl) rfl, argE (by (conv => lhs; whnf); all_goals rfl) rfl, argE (by (conv => lhs; whnf); all_goals rfl) rfl, argP (id := 0) (by (conv => lhs; whnf); all_goals rfl) rfl, argP (id := 1) (by (conv => lhs; whnf); all_goals rfl) rfl, argP (id := 2) (by (conv => lhs; whnf); all_goals rfl) rfl, argE (by (conv => lhs; whnf); all_goals rfl) rfl, argE (by (conv => lhs; whnf); all_goals rfl) rfl, trivial⟩ ⟨boxL rfl rfl rfl ⟨(.ni _ rfl), (.ni _ rfl), trivial⟩, boxL rfl rfl rfl ⟨(.ni _ rfl), (.ni _ rfl), (.ni _ rfl), (.ni _ rfl), (.ni _ rfl), (.ni _ rfl), trivial⟩, boxL rfl rfl rfl ⟨(.ni _ rfl), (.ni _ rfl), (.ni _ rfl), (.ni _ rfl), (.ni _ rfl), (.ni _ rfl), trivial⟩, trivial⟩⟩
                                    · replace hL1 := cond_t hb_529 hL1
                                      conv => whnf
                                      refine ⟨by kernel_rfl, ?_⟩
                                      conv => whnf
                                      obtain rfl := Option.some.inj hL1
                                      replace hF := fin_ret hF
                                      obtain rfl := Option.some.inj hF
                                      exact ret_gz [] [] [] rfl (argFl (by (conv => lhs; whnf); all_goals rfl)) trivial
                                  · replace hL1 := cond_t hb_528 hL1
                                    conv => whnf
                                    refine ⟨by kernel_rfl, ?_⟩
                                    conv => whnf
                                    obtain rfl := Option.some.inj hL1
                                    replace hF := fin_ret hF
                                    obtain rfl := Option.some.inj hF
                                    exact ret_gz [] [] [] rfl (argFl (by (conv => lhs; whnf); all_goals rfl)) trivial
                                · replace hL1 := cond_t hb_527 hL1
                                  conv => whnf
                                  refine ⟨by kernel_rfl, ?_⟩
                                  conv => whnf
                                  obtain rfl := Option.some.inj hL1
                                  replace hF := fin_ret hF
                                  obtain rfl := Option.some.inj hF
                                  exact ret_gz [] [] [] rfl (argFl (by (conv => lhs; whnf); all_goals rfl)) trivial
                              · replace hL1 := cond_f hb_526 hL1
                                conv => whnf
                                obtain ⟨r_292, h_r_292, hL1⟩ := bind_some hL1
                                refine ⟨_, _, _, _, _, _, _, _, _, callX false [] [] 0 Try.func16 (by decide) rfl (screen_Find_ac (⟨(⟨i_15, i_16, i_17, i_18⟩ : A4_Int), i_19, a_20⟩ : Screening) x_2 r_292 h_r_292) rfl ⟨(argE (by (conv => lhs; whnf); all_goals rfl) rfl), (argE (by (conv => lhs; whnf); all_goals rfl) rfl), trivial⟩ rfl trivial rfl rfl rfl lend0 trivial rfl, ?_⟩
                                conv => whnf
                                obtain ⟨r_293, h_r_293, hL1⟩ := bind_some hL1
                                refine ⟨_, _, _, _, _, _, _, _, _, callX false [] [] 0 Try.func27 (by decide) rfl (ref15_Find_ac (⟨(⟨i_21, i_22, i_23, i_24⟩ : A4_Int), i_25, a_26⟩ : Screening) x_2 r_293 h_r_293) rfl ⟨(argE (by (conv => lhs; whnf); all_goals rfl) rfl), (argE (by (conv => lhs; whnf); all_goals rfl) rfl), trivial⟩ rfl trivial rfl rfl rfl lend0 trivial rfl, ?_⟩
                                conv => whnf
                                refine ⟨fun hb_531 => ?_, fun hb_531 => ?_⟩
                                · replace hL1 := cond_f hb_531 hL1
                                  conv => whnf
                                  refine ⟨fun hb_532 => ?_, fun hb_532 => ?_⟩
                                  · replace hL1 := cond_f hb_532 hL1
                                    conv => whnf
                                    obtain ⟨r_294, h_r_294, hL1⟩ := bind_some hL1
                                    refine ⟨_, _, _, _, _, _, _, _, _, callX false [] [] 0 Try.func18 (by decide) rfl (screen_Cleared_ac (⟨(⟨i_15, i_16, i_17, i_18⟩ : A4_Int), i_19, a_20⟩ : Screening) r_294 h_r_294) rfl ⟨(argE (by (conv => lhs; whnf); all_goals rfl) rfl), trivial⟩ rfl trivial rfl rfl rfl lend0 trivial rfl, ?_⟩
                                    conv => whnf
                                    obtain ⟨r_295, h_r_295, hL1⟩ := bind_some hL1
                                    refine ⟨_, _, _, _, _, _, _, _, _, callX false [] [] 0 Try.func29 (by decide) rfl (ref15_Cleared_ac (⟨(⟨i_21, i_22, i_23, i_24⟩ : A4_Int), i_25, a_26⟩ : Screening) r_295 h_r_295) rfl ⟨(argE (by (conv => lhs; whnf); all_goals rfl) rfl), trivial⟩ rfl trivial rfl rfl rfl lend0 trivial rfl, ?_⟩
                                    conv => whnf
                                    obtain ⟨r_296, h_r_296, hL1⟩ := bind_some hL1
                                    refine ⟨_, _, _, _, _, _, _, _, _, callX false [] [] 0 Try.func28 (by decide) rfl (keep_Ints_ac r_294 r_295 r_296 h_r_296) rfl ⟨(argE (by (conv => lhs; whnf); all_goals rfl) rfl), (argE (by (conv => lhs; whnf); all_goals rfl) rfl), trivial⟩ rfl trivial rfl rfl rfl lend0 trivial rfl, ?_⟩
                                    conv => whnf
                                    refine ⟨fun hb_533 => ?_, fun hb_533 => ?_⟩
                                    · replace hL1 := cond_f hb_533 hL1
                                      conv => whnf
                                      obtain ⟨r_297, h_r_297, hL1⟩ := bind_some hL1
                                      refine ⟨_, _, _, _, _, _, _, _, _, callX false [] [] 0 Try.func20 (by decide) rfl (screen_Alarms_ac (⟨(⟨i_15, i_16, i_17, i_18⟩ : A4_Int), i_19, a_20⟩ : Screening) r_297 h_r_297) rfl ⟨(argE (by (conv => lhs; whnf); all_goals rfl) rfl), trivial⟩ rfl trivial rfl rfl rfl lend0 trivial rfl, ?_⟩
                                      conv => whnf
                                      obtain ⟨r_298, h_r_298, hL1⟩ := bind_some hL1
                                      refine ⟨_, _, _, _, _, _, _, _, _, callX false [] [] 0 Try.func31 (by decide) rfl (ref15_Alarms_ac (⟨(⟨i_21, i_22, i_23, i_24⟩ : A4_Int), i_25, a_26⟩ : Screening) r_298 h_r_298) rfl ⟨(argE (by (conv => lhs; whnf); all_goals rfl) rfl), trivial⟩ rfl trivial rfl rfl rfl lend0 trivial rfl, ?_⟩
                                      conv => whnf
                                      obtain ⟨r_299, h_r_299, hL1⟩ := bind_some hL1
                                      refine ⟨_, _, _, _, _, _, _, _, _, callX false [] [] 0 Try.func30 (by decide) rfl (law15_same_ac r_297 r_298 r_299 h_r_299) rfl ⟨(argE (by (conv => lhs; whnf); all_goals rfl) rfl), (argE (by (conv => lhs; whnf); all_goals rfl) rfl), trivial⟩ rfl trivial rfl rfl rfl lend0 trivial rfl, ?_⟩
                                      conv => whnf
                                      refine ⟨by kernel_rfl, ?_⟩
                                      conv => whnf
                                      refine ⟨fun hb_534 => ?_, fun hb_534 => ?_⟩
                                      · replace hL1 := cond_t hb_534 hL1
                                        conv => whnf
                                        obtain rfl := Option.some.inj hL1
                                        replace hF := fin_ret hF
                                        obtain rfl := Option.some.inj hF
                                        exact ret_gz [] [] [] rfl (argFl (by (conv => lhs; whnf); all_goals rfl)) trivial
                                      · replace hL1 := cond_f hb_534 hL1
                                        conv => whnf
                                        refine ⟨_, rfl, ?_⟩
                                        conv => whnf
                                        exact ⟨(q_388, z_282.2.2.2.2.2.2.2.2.2.2.2.2.2.2.1, z_282.2.2.2.2.2.2.2.2.2.2.2.2.2.2.2.1, i_15, i_16, i_17, i_18, i_19, a_20, i_21, i_22, i_23, i_24, i_25, a_26, (w64 (i_27 + r_209.1)), (w64 (i_28 + (1 : Int)))), [0, 1, 2], [], [], hL1, Nat.lt_succ_self _, wk_mk [0, 1, 2] [] [] rfl ⟨argE (by (conv => lhs; whnf); all_goals rfl) rfl, argE (by (conv => lhs; whnf); all_goals rfl) rfl, argE (by (conv => lhs; whnf); all_goals rfl) rfl, argP (id := 0) (by (conv => lhs; whnf); all_goals rfl) rfl, argP (id := 1) (by (conv => lhs; whnf); all_goals rfl) rfl, argP (id := 2) (by (conv => lhs; whnf); all_goals rfl) rfl, argE (by (conv => lhs; whnf); all_goals rfl) rfl, argE (by (conv => lhs; whnf); all_goals rfl) rfl, trivial⟩ ⟨boxL rfl rfl rfl ⟨(.ni _ rfl), (.ni _ rfl), trivial⟩, boxL rfl rfl rfl ⟨(.ni _ rfl), (.ni _ rfl), (.ni _ rfl), (.ni _ rfl), (.ni _ rfl), (.ni _ rfl), trivial⟩, boxL rfl rfl rfl ⟨(.ni _ rfl), (.ni _ rfl), (.ni _ rfl), (.ni _ rfl), (.ni _ rfl), (.ni _ rfl), trivial⟩, trivial⟩⟩
                                    · replace hL1 := cond_t hb_533 hL1
                                      conv => whnf
                                      refine ⟨by kernel_rfl, ?_⟩
                                      conv => whnf
                                      obtain rfl := Option.some.inj hL1
                                      replace hF := fin_ret hF
                                      obtain rfl := Option.some.inj hF
                                      exact ret_gz [] [] [] rfl (argFl (by (conv => lhs; whnf); all_goals rfl)) trivial
                                  · replace hL1 := cond_t hb_532 hL1
                                    conv => whnf
                                    refine ⟨by kernel_rfl, ?_⟩
                                    conv => whnf
                                    obtain rfl := Option.some.inj hL1
                                    replace hF := fin_ret hF
                                    obtain rfl := Option.some.inj hF
                                    exact ret_gz [] [] [] rfl (argFl (by (conv => lhs; whnf); all_goals rfl)) trivial
                                · replace hL1 := cond_t hb_531 hL1
                                  conv => whnf
                                  refine ⟨by kernel_rfl, ?_⟩
                                  conv => whnf
                                  obtain rfl := Option.some.inj hL1
                                  replace hF := fin_ret hF
                                  obtain rfl := Option.some.inj hF
                                  exact ret_gz [] [] [] rfl (argFl (by (conv => lhs; whnf); all_goals rfl)) trivial
                          · replace hL1 := cond_t hb_524 hL1
                            conv => whnf
                            obtain rfl := Option.some.inj hL1
                            replace hF := fin_ret hF
                            obtain rfl := Option.some.inj hF
                            exact ret_gz [] [] [] rfl (argFl (by (conv => lhs; whnf); all_goals rfl)) trivial
                        · replace hL1 := cond_t hb_523 hL1
                          conv => whnf
                          obtain rfl := Option.some.inj hL1
                          replace hF := fin_ret hF
                          obtain rfl := Option.some.inj hF
                          exact ret_gz [] [] [] rfl (argFl (by (conv => lhs; whnf); all_goals rfl)) trivial
                    · replace hL1 := cond_f hb_519 hL1
                      conv => whnf
                      obtain ⟨r_300, h_r_300, hL1⟩ := bind_some hL1
                      refine ⟨_, _, _, _, _, _, _, _, _, callX false [0] [] 0 Try.func10 (by decide) rfl (keep_Src_N_ac r_211.2 (4 : Int) r_300 h_r_300) rfl ⟨(argP (id := 0) (by (conv => lhs; whnf); all_goals rfl) rfl), (argE (by (conv => lhs; whnf); all_goals rfl) rfl), trivial⟩ rfl ⟨rfl, trivial⟩ rfl rfl rfl lend0 ⟨rfl, trivial⟩ rfl, ?_⟩
                      conv => whnf
                      obtain ⟨D_535, cJ_535, hJ_535, hB_535, hD_535, hR_535⟩ := sub_join hL1
                      refine sw_blkj tab_ok follows_ok (fun y : Int × Int × Int × Int × Int × Int × Int × (List Check) × Int × Int × Int × Int × Int × (List Check) × (List Int) × Int × Int × Int => ⟨eL [(2, .int .i64 x_2), (3, .int .i64 x_3), (4, .int .i64 x_4), (11, .ptr 0 0), (12, .ptr 1 0), (14, .ptr 2 0), (17, .int .i64 (w64 (i_27 + r_209.1))), (18, .int .i64 i_28), (19, .int .i64 x_2), (22, .ptr 3 0), (23, .int .i64 y.2.2.2.2.2.2.2.2.2.2.2.2.2.2.2.2.1), (24, .int .i64 y.1), (25, .ptr 4 0), (26, .int .i64 y.2.2.2.2.2.2.2.2.2.2.2.2.2.2.2.2.2), (27, .int .i64 y.2.1)], hL [(0, .box [.lst 1 (y.2.2.2.2.2.2.2.2.2.2.2.2.2.2.1.map iA), .int .i64 y.2.2.2.2.2.2.2.2.2.2.2.2.2.2.2.1]), (1, .box [.int .i64 i_15, .int .i64 i_16, .int .i64 i_17, .int .i64 i_18, .int .i64 i_19, .lst 5 (a_20.map encCheck)]), (2, .box [.int .i64 i_21, .int .i64 i_22, .int .i64 i_23, .int .i64 i_24, .int .i64 i_25, .lst 5 (a_26.map encCheck)]), (3, .box [.int .i64 y.2.2.1, .int .i64 y.2.2.2.1, .int .i64 y.2.2.2.2.1, .int .i64 y.2.2.2.2.2.1, .int .i64 y.2.2.2.2.2.2.1, .lst 5 (y.2.2.2.2.2.2.2.1.map encCheck)]), (4, .box [.int .i64 y.2.2.2.2.2.2.2.2.1, .int .i64 y.2.2.2.2.2.2.2.2.2.1, .int .i64 y.2.2.2.2.2.2.2.2.2.2.1, .int .i64 y.2.2.2.2.2.2.2.2.2.2.2.1, .int .i64 y.2.2.2.2.2.2.2.2.2.2.2.2.1, .lst 5 (y.2.2.2.2.2.2.2.2.2.2.2.2.2.1.map encCheck)])], 5⟩) D_535 ?_ ?_
                      · conv => whnf
                        refine ⟨fun hb_536 => ?_, fun hb_536 => ?_⟩
                        · replace hJ_535 := cond_t hb_536 hJ_535
                          conv => whnf
                          obtain ⟨r_301, h_r_301, hJ_535⟩ := bind_some hJ_535
                          refine ⟨_, _, _, _, _, _, _, _, _, callX false [] [] 0 Try.func11 (by decide) rfl (screen_Start_ac (⟨(⟨i_15, i_16, i_17, i_18⟩ : A4_Int), i_19, a_20⟩ : Screening) x_2 (w64 (i_27 + r_209.1)) r_301 h_r_301) rfl ⟨(argE (by (conv => lhs; whnf); all_goals rfl) rfl), (argE (by (conv => lhs; whnf); all_goals rfl) rfl), (argE (by (conv => lhs; whnf); all_goals rfl) rfl), trivial⟩ rfl trivial rfl rfl rfl lend0 trivial rfl, ?_⟩
                          conv => whnf
                          obtain ⟨r_302, h_r_302, hJ_535⟩ := bind_some hJ_535
                          refine ⟨_, _, _, _, _, _, _, _, _, callX false [] [] 0 Try.func24 (by decide) rfl (ref15_Start_ac (⟨(⟨i_21, i_22, i_23, i_24⟩ : A4_Int), i_25, a_26⟩ : Screening) x_2 (w64 (i_27 + r_209.1)) r_302 h_r_302) rfl ⟨(argE (by (conv => lhs; whnf); all_goals rfl) rfl), (argE (by (conv => lhs; whnf); all_goals rfl) rfl), (argE (by (conv => lhs; whnf); all_goals rfl) rfl), trivial⟩ rfl trivial rfl rfl rfl lend0 trivial rfl, ?_⟩
                          conv => whnf
                          obtain rfl := Option.some.inj hJ_535
                          exact ⟨(r_301.2, r_302.2, r_301.1.Limits.e0, r_301.1.Limits.e1, r_301.1.Limits.e2, r_301.1.Limits.e3, r_301.1.Next, r_301.1.L, r_302.1.Limits.e0, r_302.1.Limits.e1, r_302.1.Limits.e2, r_302.1.Limits.e3, r_302.1.Next, r_302.1.L, r_300.2.L, r_300.2.At, (0 : Int), (0 : Int)), [0, 1, 2, 8, 9], [], [], hB_535 _ rfl, wk_mk [0, 1, 2, 8, 9] [] [] rfl ⟨argE (by (conv => lhs; whnf); all_goals rfl) rfl, argE (by (conv => lhs; whnf); all_goals rfl) rfl, argE (by (conv => lhs; whnf); all_goals rfl) rfl, argP (id := 0) (by (conv => lhs; whnf); all_goals rfl) rfl, argP (id := 1) (by (conv => lhs; whnf); all_goals rfl) rfl, argP (id := 2) (by (conv => lhs; whnf); all_goals rfl) rfl, argE (by (conv => lhs; whnf); all_goals rfl) rfl, argE (by (conv => lhs; whnf); all_goals rfl) rfl, argE (by (conv => lhs; whnf); all_goals rfl) rfl, argP (id := 8) (by (conv => lhs; whnf); all_goals rfl) rfl, argE (by (conv => lhs; whnf); all_goals rfl) rfl, argE (by (conv => lhs; whnf); all_goals rfl) rfl, argP (id := 9) (by (conv => lhs; whnf); all_goals rfl) rfl, argE (by (conv => lhs; whnf); all_goals rfl) rfl, argE (by (conv => lhs; whnf); all_goals rfl) rfl, trivial⟩ ⟨boxL rfl rfl rfl ⟨(.ni _ rfl), (.ni _ rfl), trivial⟩, boxL rfl rfl rfl ⟨(.ni _ rfl), (.ni _ rfl), (.ni _ rfl), (.ni _ rfl), (.ni _ rfl), (.ni _ rfl), trivial⟩, boxL rfl rfl rfl ⟨(.ni _ rfl), (.ni _ rfl), (.ni _ rfl), (.ni _ rfl), (.ni _ rfl), (.ni _ rfl), trivial⟩, boxL rfl rfl rfl ⟨(.ni _ rfl), (.ni _ rfl), (.ni _ rfl), (.ni _ rfl), (.ni _ rfl), (.ni _ rfl), trivial⟩, boxL rfl rfl rfl ⟨(.ni _ rfl), (.ni _ rfl), (.ni _ rfl), (.ni _ rfl), (.ni _ rfl), (.ni _ rfl), trivial⟩, trivial⟩⟩
                        · replace hJ_535 := cond_f hb_536 hJ_535
                          conv => whnf
                          refine ⟨fun hb_537 => ?_, fun hb_537 => ?_⟩
                          · replace hJ_535 := cond_t hb_537 hJ_535
                            conv => whnf
                            obtain ⟨r_303, h_r_303, hJ_535⟩ := bind_some hJ_535
                            refine ⟨_, _, _, _, _, _, _, _, _, callX false [] [] 0 Try.func13 (by decide) rfl (screen_Expire_ac (⟨(⟨i_15, i_16, i_17, i_18⟩ : A4_Int), i_19, a_20⟩ : Screening) (w64 (i_27 + r_209.1)) r_303 h_r_303) rfl ⟨(argE (by (conv => lhs; whnf); all_goals rfl) rfl), (argE (by (conv => lhs; whnf); all_goals rfl) rfl), trivial⟩ rfl trivial rfl rfl rfl lend0 trivial rfl, ?_⟩
                            conv => whnf
                            obtain ⟨r_304, h_r_304, hJ_535⟩ := bind_some hJ_535
                            refine ⟨_, _, _, _, _, _, _, _, _, callX false [] [] 0 Try.func25 (by decide) rfl (ref15_Expire_ac (⟨(⟨i_21, i_22, i_23, i_24⟩ : A4_Int), i_25, a_26⟩ : Screening) (w64 (i_27 + r_209.1)) r_304 h_r_304) rfl ⟨(argE (by (conv => lhs; whnf); all_goals rfl) rfl), (argE (by (conv => lhs; whnf); all_goals rfl) rfl), trivial⟩ rfl trivial rfl rfl rfl lend0 trivial rfl, ?_⟩
                            conv => whnf
                            obtain rfl := Option.some.inj hJ_535
                            exact ⟨(r_303.2, r_304.2, r_303.1.Limits.e0, r_303.1.Limits.e1, r_303.1.Limits.e2, r_303.1.Limits.e3, r_303.1.Next, r_303.1.L, r_304.1.Limits.e0, r_304.1.Limits.e1, r_304.1.Limits.e2, r_304.1.Limits.e3, r_304.1.Next, r_304.1.L, r_300.2.L, r_300.2.At, (0 : Int), (0 : Int)), [0, 1, 2, 8, 9], [], [], hB_535 _ rfl, wk_mk [0, 1, 2, 8, 9] [] [] rfl ⟨argE (by (conv => lhs; whnf); all_goals rfl) rfl, argE (by (conv => lhs; whnf); all_goals rfl) rfl, argE (by (conv => lhs; whnf); all_goals rfl) rfl, argP (id := 0) (by (conv => lhs; whnf); all_goals rfl) rfl, argP (id := 1) (by (conv => lhs; whnf); all_goals rfl) rfl, argP (id := 2) (by (conv => lhs; whnf); all_goals rfl) rfl, argE (by (conv => lhs; whnf); all_goals rfl) rfl, argE (by (conv => lhs; whnf); all_goals rfl) rfl, argE (by (conv => lhs; whnf); all_goals rfl) rfl, argP (id := 8) (by (conv => lhs; whnf); all_goals rfl) rfl, argE (by (conv => lhs; whnf); all_goals rfl) rfl, argE (by (conv => lhs; whnf); all_goals rfl) rfl, argP (id := 9) (by (conv => lhs; whnf); all_goals rfl) rfl, argE (by (conv => lhs; whnf); all_goals rfl) rfl, argE (by (conv => lhs; whnf); all_goals rfl) rfl, trivial⟩ ⟨boxL rfl rfl rfl ⟨(.ni _ rfl), (.ni _ rfl), trivial⟩, boxL rfl rfl rfl ⟨(.ni _ rfl), (.ni _ rfl), (.ni _ rfl), (.ni _ rfl), (.ni _ rfl), (.ni _ rfl), trivial⟩, boxL rfl rfl rfl ⟨(.ni _ rfl), (.ni _ rfl), (.ni _ rfl), (.ni _ rfl), (.ni _ rfl), (.ni _ rfl), trivial⟩, boxL rfl rfl rfl ⟨(.ni _ rfl), (.ni _ rfl), (.ni _ rfl), (.ni _ rfl), (.ni _ rfl), (.ni _ rfl), trivial⟩, boxL rfl rfl rfl ⟨(.ni _ rfl), (.ni _ rfl), (.ni _ rfl), (.ni _ rfl), (.ni _ rfl), (.ni _ rfl), trivial⟩, trivial⟩⟩
                          · replace hJ_535 := cond_f hb_537 hJ_535
                            conv => whnf
                            obtain ⟨r_305, h_r_305, hJ_535⟩ := bind_some hJ_535
                            refine ⟨_, _, _, _, _, _, _, _, _, callX false [0] [] 0 Try.func10 (by decide) rfl (keep_Src_N_ac r_300.2 (3 : Int) r_305 h_r_305) rfl ⟨(argP (id := 0) (by (conv => lhs; whnf); all_goals rfl) rfl), (argE (by (conv => lhs; whnf); all_goals rfl) rfl), trivial⟩ rfl ⟨rfl, trivial⟩ rfl rfl rfl lend0 ⟨rfl, trivial⟩ rfl, ?_⟩
                            conv => whnf
                            obtain ⟨r_306, h_r_306, hJ_535⟩ := bind_some hJ_535
                            refine ⟨_, _, _, _, _, _, _, _, _, callX false [] [] 0 Try.func14 (by decide) rfl (screen_Verdict_ac (⟨(⟨i_15, i_16, i_17, i_18⟩ : A4_Int), i_19, a_20⟩ : Screening) x_3 (r_305.1 == (0 : Int)) (w64 (i_27 + r_209.1)) r_306 h_r_306) rfl ⟨(argE (by (conv => lhs; whnf); all_goals rfl) rfl), (argE (by (conv => lhs; whnf); all_goals rfl) rfl), (argE (by (conv => lhs; whnf); all_goals rfl) rfl), (argE (by (conv => lhs; whnf); all_goals rfl) rfl), trivial⟩ rfl trivial rfl rfl rfl lend0 trivial rfl, ?_⟩
                            conv => whnf
                            obtain ⟨r_307, h_r_307, hJ_535⟩ := bind_some hJ_535
                            refine ⟨_, _, _, _, _, _, _, _, _, callX false [] [] 0 Try.func26 (by decide) rfl (ref15_Verdict_ac (⟨(⟨i_21, i_22, i_23, i_24⟩ : A4_Int), i_25, a_26⟩ : Screening) x_3 (r_305.1 == (0 : Int)) (w64 (i_27 + r_209.1)) r_307 h_r_307) rfl ⟨(argE (by (conv => lhs; whnf); all_goals rfl) rfl), (argE (by (conv => lhs; whnf); all_goals rfl) rfl), (argE (by (conv => lhs; whnf); all_goals rfl) rfl), (argE (by (conv => lhs; whnf); all_goals rfl) rfl), trivial⟩ rfl trivial rfl rfl rfl lend0 trivial rfl, ?_⟩
                            conv => whnf
                            obtain rfl := Option.some.inj hJ_535
                            exact ⟨(r_306.2.2, r_307.2.2, r_306.1.Limits.e0, r_306.1.Limits.e1, r_306.1.Limits.e2, r_306.1.Limits.e3, r_306.1.Next, r_306.1.L, r_307.1.Limits.e0, r_307.1.Limits.e1, r_307.1.Limits.e2, r_307.1.Limits.e3, r_307.1.Next, r_307.1.L, r_305.2.L, r_305.2.At, r_306.2.1, r_307.2.1), [0, 1, 2, 8, 9], [], [], hB_535 _ rfl, wk_mk [0, 1, 2, 8, 9] [] [] rfl ⟨argE (by (conv => lhs; whnf); all_goals rfl) rfl, argE (by (conv => lhs; whnf); all_goals rfl) rfl, argE (by (conv => lhs; whnf); all_goals rfl) rfl, argP (id := 0) (by (conv => lhs; whnf); all_goals rfl) rfl, argP (id := 1) (by (conv => lhs; whnf); all_goals rfl) rfl, argP (id := 2) (by (conv => lhs; whnf); all_goals rfl) rfl, argE (by (conv => lhs; whnf); all_goals rfl) rfl, argE (by (conv => lhs; whnf); all_goals rfl) rfl, argE (by (conv => lhs; whnf); all_goals rfl) rfl, argP (id := 8) (by (conv => lhs; whnf); all_goals rfl) rfl, argE (by (conv => lhs; whnf); all_goals rfl) rfl, argE (by (conv => lhs; whnf); all_goals rfl) rfl, argP (id := 9) (by (conv => lhs; whnf); all_goals rfl) rfl, argE (by (conv => lhs; whnf); all_goals rfl) rfl, argE (by (conv => lhs; whnf); all_goals rfl) rfl, trivial⟩ ⟨boxL rfl rfl rfl ⟨(.ni _ rfl), (.ni _ rfl), trivial⟩, boxL rfl rfl rfl ⟨(.ni _ rfl), (.ni _ rfl), (.ni _ rfl), (.ni _ rfl), (.ni _ rfl), (.ni _ rfl), trivial⟩, boxL rfl rfl rfl ⟨(.ni _ rfl), (.ni _ rfl), (.ni _ rfl), (.ni _ rfl), (.ni _ rfl), (.ni _ rfl), trivial⟩, boxL rfl rfl rfl ⟨(.ni _ rfl), (.ni _ rfl), (.ni _ rfl), (.ni _ rfl), (.ni _ rfl), (.ni _ rfl), trivial⟩, boxL rfl rfl rfl ⟨(.ni _ rfl), (.ni _ rfl), (.ni _ rfl), (.ni _ rfl), (.ni _ rfl), (.ni _ rfl), trivial⟩, trivial⟩⟩
                      · rintro z_326 hx_535
                        replace hL1 := hD_535 _ hx_535
                        try dsimp only at hL1
                        conv => whnf
                        refine ⟨fun hb_538 => ?_, fun hb_538 => ?_⟩
                        · replace hL1 := cond_f hb_538 hL1
                          conv => whnf
                          refine ⟨fun hb_539 => ?_, fun hb_539 => ?_⟩
                          · replace hL1 := cond_f hb_539 hL1
                            conv => whnf
                            obtain ⟨r_327, h_r_327, hL1⟩ := bind_some hL1
                            refine ⟨_, _, _, _, _, _, _, _, _, callX false [] [] 0 Try.func22 (by decide) rfl (ref15_Same_ac (⟨(⟨z_326.2.2.1, z_326.2.2.2.1, z_326.2.2.2.2.1, z_326.2.2.2.2.2.1⟩ : A4_Int), z_326.2.2.2.2.2.2.1, z_326.2.2.2.2.2.2.2.1⟩ : Screening) (⟨(⟨z_326.2.2.2.2.2.2.2.2.1, z_326.2.2.2.2.2.2.2.2.2.1, z_326.2.2.2.2.2.2.2.2.2.2.1, z_326.2.2.2.2.2.2.2.2.2.2.2.1⟩ : A4_Int), z_326.2.2.2.2.2.2.2.2.2.2.2.2.1, z_326.2.2.2.2.2.2.2.2.2.2.2.2.2.1⟩ : Screening) r_327 h_r_327) rfl ⟨(argE (by (conv => lhs; whnf); all_goals rfl) rfl), (argE (by (conv => lhs; whnf); all_goals rfl) rfl), trivial⟩ rfl trivial rfl rfl rfl lend0 trivial rfl, ?_⟩
                            conv => whnf
                            refine ⟨fun hb_540 => ?_, fun hb_540 => ?_⟩
                            · replace hL1 := cond_t hb_540 hL1
                              conv => whnf
                              obtain rfl := Option.some.inj hL1
                              replace hF := fin_ret hF
                              obtain rfl := Option.some.inj hF
                              exact ret_gz [] [] [] rfl (argFl (by (conv => lhs; whnf); all_goals rfl)) trivial
                            · replace hL1 := cond_f hb_540 hL1
                              conv => whnf
                              refine ⟨fun hb_541 => ?_, fun hb_541 => ?_⟩
                              · replace hL1 := cond_t hb_541 hL1
                                conv => whnf
                                refine ⟨by kernel_rfl, ?_⟩
                                conv => whnf
                                obtain ⟨r_328, h_r_328, hL1⟩ := bind_some hL1
                                refine ⟨_, _, _, _, _, _, _, _, _, callX false [] [] 0 Try.func16 (by decide) rfl (screen_Find_ac (⟨(⟨z_326.2.2.1, z_326.2.2.2.1, z_326.2.2.2.2.1, z_326.2.2.2.2.2.1⟩ : A4_Int), z_326.2.2.2.2.2.2.1, z_326.2.2.2.2.2.2.2.1⟩ : Screening) x_2 r_328 h_r_328) rfl ⟨(argE (by (conv => lhs; whnf); all_goals rfl) rfl), (argE (by (conv => lhs; whnf); all_goals rfl) rfl), trivial⟩ rfl trivial rfl rfl rfl lend0 trivial rfl, ?_⟩
                                conv => whnf
                                obtain ⟨r_329, h_r_329, hL1⟩ := bind_some hL1
                                refine ⟨_, _, _, _, _, _, _, _, _, callX false [] [] 0 Try.func27 (by decide) rfl (ref15_Find_ac (⟨(⟨z_326.2.2.2.2.2.2.2.2.1, z_326.2.2.2.2.2.2.2.2.2.1, z_326.2.2.2.2.2.2.2.2.2.2.1, z_326.2.2.2.2.2.2.2.2.2.2.2.1⟩ : A4_Int), z_326.2.2.2.2.2.2.2.2.2.2.2.2.1, z_326.2.2.2.2.2.2.2.2.2.2.2.2.2.1⟩ : Screening) x_2 r_329 h_r_329) rfl ⟨(argE (by (conv => lhs; whnf); all_goals rfl) rfl), (argE (by (conv => lhs; whnf); all_goals rfl) rfl), trivial⟩ rfl trivial rfl rfl rfl lend0 trivial rfl, ?_⟩
                                conv => whnf
                                refine ⟨fun hb_542 => ?_, fun hb_542 => ?_⟩
                                · replace hL1 := cond_f hb_542 hL1
                                  conv => whnf
                                  refine ⟨fun hb_543 => ?_, fun hb_543 => ?_⟩
                                  · replace hL1 := cond_f hb_543 hL1
                                    conv => whnf
                                    obtain ⟨r_330, h_r_330, hL1⟩ := bind_some hL1
                                    refine ⟨_, _, _, _, _, _, _, _, _, callX false [] [] 0 Try.func18 (by decide) rfl (screen_Cleared_ac (⟨(⟨z_326.2.2.1, z_326.2.2.2.1, z_326.2.2.2.2.1, z_326.2.2.2.2.2.1⟩ : A4_Int), z_326.2.2.2.2.2.2.1, z_326.2.2.2.2.2.2.2.1⟩ : Screening) r_330 h_r_330) rfl ⟨(argE (by (conv => lhs; whnf); all_goals rfl) rfl), trivial⟩ rfl trivial rfl rfl rfl lend0 trivial rfl, ?_⟩
                                    conv => whnf
                                    obtain ⟨r_331, h_r_331, hL1⟩ := bind_some hL1
                                    refine ⟨_, _, _, _, _, _, _, _, _, callX false [] [] 0 Try.func29 (by decide) rfl (ref15_Cleared_ac (⟨(⟨z_326.2.2.2.2.2.2.2.2.1, z_326.2.2.2.2.2.2.2.2.2.1, z_326.2.2.2.2.2.2.2.2.2.2.1, z_326.2.2.2.2.2.2.2.2.2.2.2.1⟩ : A4_Int), z_326.2.2.2.2.2.2.2.2.2.2.2.2.1, z_326.2.2.2.2.2.2.2.2.2.2.2.2.2.1⟩ : Screening) r_331 h_r_331) rfl ⟨(argE (by (conv => lhs; whnf); all_goals rfl) rfl), trivial⟩ rfl trivial rfl rfl rfl lend0 trivial rfl, ?_⟩
                                    conv => whnf
                                    obtain ⟨r_332, h_r_332, hL1⟩ := bind_some hL1
                                    refine ⟨_, _, _, _, _, _, _, _, _, callX false [] [] 0 Try.func28 (by decide) rfl (keep_Ints_ac r_330 r_331 r_332 h_r_332) rfl ⟨(argE (by (conv => lhs; whnf); all_goals rfl) rfl), (argE (by (conv => lhs; whnf); all_goals rfl) rfl), trivial⟩ rfl trivial rfl rfl rfl lend0 trivial rfl, ?_⟩
                                    conv => whnf
                                    refine ⟨fun hb_544 => ?_, fun hb_544 => ?_⟩
                                    · replace hL1 := cond_f hb_544 hL1
                                      conv => whnf
                                      obtain ⟨r_333, h_r_333, hL1⟩ := bind_some hL1
                                      refine ⟨_, _, _, _, _, _, _, _, _, callX false [] [] 0 Try.func20 (by decide) rfl (screen_Alarms_ac (⟨(⟨z_326.2.2.1, z_326.2.2.2.1, z_326.2.2.2.2.1, z_326.2.2.2.2.2.1⟩ : A4_Int), z_326.2.2.2.2.2.2.1, z_326.2.2.2.2.2.2.2.1⟩ : Screening) r_333 h_r_333) rfl ⟨(argE (by (conv => lhs; whnf); all_goals rfl) rfl), trivial⟩ rfl trivial rfl rfl rfl lend0 trivial rfl, ?_⟩
                                      conv => whnf
                                      obtain ⟨r_334, h_r_334, hL1⟩ := bind_some hL1
                                      refine ⟨_, _, _, _, _, _, _, _, _, callX false [] [] 0 Try.func31 (by decide) rfl (ref15_Alarms_ac (⟨(⟨z_326.2.2.2.2.2.2.2.2.1, z_326.2.2.2.2.2.2.2.2.2.1, z_326.2.2.2.2.2.2.2.2.2.2.1, z_326.2.2.2.2.2.2.2.2.2.2.2.1⟩ : A4_Int), z_326.2.2.2.2.2.2.2.2.2.2.2.2.1, z_326.2.2.2.2.2.2.2.2.2.2.2.2.2.1⟩ : Screening) r_334 h_r_334) rfl ⟨(argE (by (conv => lhs; whnf); all_goals rfl) rfl), trivial⟩ rfl trivial rfl rfl rfl lend0 trivial rfl, ?_⟩
                                      conv => whnf
                                      obtain ⟨r_335, h_r_335, hL1⟩ := bind_some hL1
                                      refine ⟨_, _, _, _, _, _, _, _, _, callX false [] [] 0 Try.func30 (by decide) rfl (law15_same_ac r_333 r_334 r_335 h_r_335) rfl ⟨(argE (by (conv => lhs; whnf); all_goals rfl) rfl), (argE (by (conv => lhs; whnf); all_goals rfl) rfl), trivial⟩ rfl trivial rfl rfl rfl lend0 trivial rfl, ?_⟩
                                      conv => whnf
                                      refine ⟨by kernel_rfl, ?_⟩
                                      conv => whnf
                                      refine ⟨fun hb_545 => ?_, fun hb_545 => ?_⟩
                                      · replace hL1 := cond_t hb_545 hL1
                                        conv => whnf
                                        obtain rfl := Option.some.inj hL1
                                        replace hF := fin_ret hF
                                        obtain rfl := Option.some.inj hF
                                        exact ret_gz [] [] [] rfl (argFl (by (conv => lhs; whnf); all_goals rfl)) trivial
                                      · replace hL1 := cond_f hb_545 hL1
                                        conv => whnf
                                        refine ⟨_, rfl, ?_⟩
                                        conv => whnf
                                        exact ⟨(q_388, z_326.2.2.2.2.2.2.2.2.2.2.2.2.2.2.1, z_326.2.2.2.2.2.2.2.2.2.2.2.2.2.2.2.1, z_326.2.2.1, z_326.2.2.2.1, z_326.2.2.2.2.1, z_326.2.2.2.2.2.1, z_326.2.2.2.2.2.2.1, z_326.2.2.2.2.2.2.2.1, z_326.2.2.2.2.2.2.2.2.1, z_326.2.2.2.2.2.2.2.2.2.1, z_326.2.2.2.2.2.2.2.2.2.2.1, z_326.2.2.2.2.2.2.2.2.2.2.2.1, z_326.2.2.2.2.2.2.2.2.2.2.2.2.1, z_326.2.2.2.2.2.2.2.2.2.2.2.2.2.1, (w64 (i_27 + r_209.1)), (w64 (i_28 + (1 : Int)))), [0, 1, 2], [], [], hL1, Nat.lt_succ_self _, wk_mk [0, 1, 2] [] [] rfl ⟨argE (by (conv => lhs; whnf); all_goals rfl) rfl, argE (by (conv => lhs; whnf); all_goals rfl) rfl, argE (by (conv => lhs; whnf); all_goals rfl) rfl, argP (id := 0) (by (conv => lhs; whnf); all_goals rfl) rfl, argP (id := 1) (by (conv => lhs; whnf); all_goals rfl) rfl, argP (id := 2) (by (conv => lhs; whnf); all_goals rfl) rfl, argE (by (conv => lhs; whnf); all_goals rfl) rfl, argE (by (conv => lhs; whnf); all_goals rfl) rfl, trivial⟩ ⟨boxL rfl rfl rfl ⟨(.ni _ rfl), (.ni _ rfl), trivial⟩, boxL rfl rfl rfl ⟨(.ni _ rfl), (.ni _ rfl), (.ni _ rfl), (.ni _ rfl), (.ni _ rfl), (.ni _ rfl), trivial⟩, boxL rfl rfl rfl ⟨(.ni _ rfl), (.ni _ rfl), (.ni _ rfl), (.ni _ rfl), (.ni _ rfl), (.ni _ rfl), trivial⟩, trivial⟩⟩
                                    · replace hL1 := cond_t hb_544 hL1
                                      conv => whnf
                                      refine ⟨by kernel_rfl, ?_⟩
                                      conv => whnf
                                      obtain rfl := Option.some.inj hL1
                                      replace hF := fin_ret hF
                                      obtain rfl := Option.some.inj hF
                                      exact ret_gz [] [] [] rfl (argFl (by (conv => lhs; whnf); all_goals rfl)) trivial
                                  · replace hL1 := cond_t hb_543 hL1
                                    conv => whnf
                                    refine ⟨by kernel_rfl, ?_⟩
                                    conv => whnf
                                    obtain rfl := Option.some.inj hL1
                                    replace hF := fin_ret hF
                                    obtain rfl := Option.some.inj hF
                                    exact ret_gz [] [] [] rfl (argFl (by (conv => lhs; whnf); all_goals rfl)) trivial
                                · replace hL1 := cond_t hb_542 hL1
                                  conv => whnf
                                  refine ⟨by kernel_rfl, ?_⟩
                                  conv => whnf
                                  obtain rfl := Option.some.inj hL1
                                  replace hF := fin_ret hF
                                  obtain rfl := Option.some.inj hF
                                  exact ret_gz [] [] [] rfl (argFl (by (conv => lhs; whnf); all_goals rfl)) trivial
                              · replace hL1 := cond_f hb_541 hL1
                                conv => whnf
                                obtain ⟨r_336, h_r_336, hL1⟩ := bind_some hL1
                                refine ⟨_, _, _, _, _, _, _, _, _, callX false [] [] 0 Try.func16 (by decide) rfl (screen_Find_ac (⟨(⟨i_15, i_16, i_17, i_18⟩ : A4_Int), i_19, a_20⟩ : Screening) x_2 r_336 h_r_336) rfl ⟨(argE (by (conv => lhs; whnf); all_goals rfl) rfl), (argE (by (conv => lhs; whnf); all_goals rfl) rfl), trivial⟩ rfl trivial rfl rfl rfl lend0 trivial rfl, ?_⟩
                                conv => whnf
                                obtain ⟨r_337, h_r_337, hL1⟩ := bind_some hL1
                                refine ⟨_, _, _, _, _, _, _, _, _, callX false [] [] 0 Try.func27 (by decide) rfl (ref15_Find_ac (⟨(⟨i_21, i_22, i_23, i_24⟩ : A4_Int), i_25, a_26⟩ : Screening) x_2 r_337 h_r_337) rfl ⟨(argE (by (conv => lhs; whnf); all_goals rfl) rfl), (argE (by (conv => lhs; whnf); all_goals rfl) rfl), trivial⟩ rfl trivial rfl rfl rfl lend0 trivial rfl, ?_⟩
                                conv => whnf
                                refine ⟨fun hb_546 => ?_, fun hb_546 => ?_⟩
                                · replace hL1 := cond_f hb_546 hL1
                                  conv => whnf
                                  refine ⟨fun hb_547 => ?_, fun hb_547 => ?_⟩
                                  · replace hL1 := cond_f hb_547 hL1
                                    conv => whnf
                                    obtain ⟨r_338, h_r_338, hL1⟩ := bind_some hL1
                                    refine ⟨_, _, _, _, _, _, _, _, _, callX false [] [] 0 Try.func18 (by decide) rfl (screen_Cleared_ac (⟨(⟨i_15, i_16, i_17, i_18⟩ : A4_Int), i_19, a_20⟩ : Screening) r_338 h_r_338) rfl ⟨(argE (by (conv => lhs; whnf); all_goals rfl) rfl), trivial⟩ rfl trivial rfl rfl rfl lend0 trivial rfl, ?_⟩
                                    conv => whnf
                                    obtain ⟨r_339, h_r_339, hL1⟩ := bind_some hL1
                                    refine ⟨_, _, _, _, _, _, _, _, _, callX false [] [] 0 Try.func29 (by decide) rfl (ref15_Cleared_ac (⟨(⟨i_21, i_22, i_23, i_24⟩ : A4_Int), i_25, a_26⟩ : Screening) r_339 h_r_339) rfl ⟨(argE (by (conv => lhs; whnf); all_goals rfl) rfl), trivial⟩ rfl trivial rfl rfl rfl lend0 trivial rfl, ?_⟩
                                    conv => whnf
                                    obtain ⟨r_340, h_r_340, hL1⟩ := bind_some hL1
                                    refine ⟨_, _, _, _, _, _, _, _, _, callX false [] [] 0 Try.func28 (by decide) rfl (keep_Ints_ac r_338 r_339 r_340 h_r_340) rfl ⟨(argE (by (conv => lhs; whnf); all_goals rfl) rfl), (argE (by (conv => lhs; whnf); all_goals rfl) rfl), trivial⟩ rfl trivial rfl rfl rfl lend0 trivial rfl, ?_⟩
                                    conv => whnf
                                    refine ⟨fun hb_548 => ?_, fun hb_548 => ?_⟩
                                    · replace hL1 := cond_f hb_548 hL1
                                      conv => whnf
                                      obtain ⟨r_341, h_r_341, hL1⟩ := bind_some hL1
                                      refine ⟨_, _, _, _, _, _, _, _, _, callX false [] [] 0 Try.func20 (by decide) rfl (screen_Alarms_ac (⟨(⟨i_15, i_16, i_17, i_18⟩ : A4_Int), i_19, a_20⟩ : Screening) r_341 h_r_341) rfl ⟨(argE (by (conv => lhs; whnf); all_goals rfl) rfl), trivial⟩ rfl trivial rfl rfl rfl lend0 trivial rfl, ?_⟩
                                      conv => whnf
                                      obtain ⟨r_342, h_r_342, hL1⟩ := bind_some hL1
                                      refine ⟨_, _, _, _, _, _, _, _, _, callX false [] [] 0 Try.func31 (by decide) rfl (ref15_Alarms_ac (⟨(⟨i_21, i_22, i_23, i_24⟩ : A4_Int), i_25, a_26⟩ : Screening) r_342 h_r_342) rfl ⟨(argE (by (conv => lhs; whnf); all_goals rfl) rfl), trivial⟩ rfl trivial rfl rfl rfl lend0 trivial rfl, ?_⟩
                                      conv => whnf
                                      obtain ⟨r_343, h_r_343, hL1⟩ := bind_some hL1
                                      refine ⟨_, _, _, _, _, _, _, _, _, callX false [] [] 0 Try.func30 (by decide) rfl (law15_same_ac r_341 r_342 r_343 h_r_343) rfl ⟨(argE (by (conv => lhs; whnf); all_goals rfl) rfl), (argE (by (conv => lhs; whnf); all_goals rfl) rfl), trivial⟩ rfl trivial rfl rfl rfl lend0 trivial rfl, ?_⟩
                                      conv => whnf
                                      refine ⟨by kernel_rfl, ?_⟩
                                      conv => whnf
                                      refine ⟨fun hb_549 => ?_, fun hb_549 => ?_⟩
                                      · replace hL1 := cond_t hb_549 hL1
                                        conv => whnf
                                        obtain rfl := Option.some.inj hL1
                                        replace hF := fin_ret hF
                                        obtain rfl := Option.some.inj hF
                                        exact ret_gz [] [] [] rfl (argFl (by (conv => lhs; whnf); all_goals rfl)) trivial
                                      · replace hL1 := cond_f hb_549 hL1
                                        conv => whnf
                                        refine ⟨_, rfl, ?_⟩
                                        conv => whnf
                                        exact ⟨(q_388, z_326.2.2.2.2.2.2.2.2.2.2.2.2.2.2.1, z_326.2.2.2.2.2.2.2.2.2.2.2.2.2.2.2.1, i_15, i_16, i_17, i_18, i_19, a_20, i_21, i_22, i_23, i_24, i_25, a_26, (w64 (i_27 + r_209.1)), (w64 (i_28 + (1 : Int)))), [0, 1, 2], [], [], hL1, Nat.lt_succ_self _, wk_mk [0, 1, 2] [] [] rfl ⟨argE (by (conv => lhs; whnf); all_goals rfl) rfl, argE (by (conv => lhs; whnf); all_goals rfl) rfl, argE (by (conv => lhs; whnf); all_goals rfl) rfl, argP (id := 0) (by (conv => lhs; whnf); all_goals rfl) rfl, argP (id := 1) (by (conv => lhs; whnf); all_goals rfl) rfl, argP (id := 2) (by (conv => lhs; whnf); all_goals rfl) rfl, argE (by (conv => lhs; whnf); all_goals rfl) rfl, argE (by (conv => lhs; whnf); all_goals rfl) rfl, trivial⟩ ⟨boxL rfl rfl rfl ⟨(.ni _ rfl), (.ni _ rfl), trivial⟩, boxL rfl rfl rfl ⟨(.ni _ rfl), (.ni _ rfl), (.ni _ rfl), (.ni _ rfl), (.ni _ rfl), (.ni _ rfl), trivial⟩, boxL rfl rfl rfl ⟨(.ni _ rfl), (.ni _ rfl), (.ni _ rfl), (.ni _ rfl), (.ni _ rfl), (.ni _ rfl), trivial⟩, trivial⟩⟩
                                    · replace hL1 := cond_t hb_548 hL1
                                      conv => whnf
                                      refine ⟨by kernel_rfl, ?_⟩
                                      conv => whnf
                                      obtain rfl := Option.some.inj hL1
                                      replace hF := fin_ret hF
                                      obtain rfl := Option.some.inj hF
                                      exact ret_gz [] [] [] rfl (argFl (by (conv => lhs; whnf); all_goals rfl)) trivial
                                  · replace hL1 := cond_t hb_547 hL1
                                    conv => whnf
                                    refine ⟨by kernel_rfl, ?_⟩
                                    conv => whnf
                                    obtain rfl := Option.some.inj hL1
                                    replace hF := fin_ret hF
                                    obtain rfl := Option.some.inj hF
                                    exact ret_gz [] [] [] rfl (argFl (by (conv => lhs; whnf); all_goals rfl)) trivial
                                · replace hL1 := cond_t hb_546 hL1
                                  conv => whnf
                                  refine ⟨by kernel_rfl, ?_⟩
                                  conv => whnf
                                  obtain rfl := Option.some.inj hL1
                                  replace hF := fin_ret hF
                                  obtain rfl := Option.some.inj hF
                                  exact ret_gz [] [] [] rfl (argFl (by (conv => lhs; whnf); all_goals rfl)) trivial
                          · replace hL1 := cond_t hb_539 hL1
                            conv => whnf
                            obtain rfl := Option.some.inj hL1
                            replace hF := fin_ret hF
                            obtain rfl := Option.some.inj hF
                            exact ret_gz [] [] [] rfl (argFl (by (conv => lhs; whnf); all_goals rfl)) trivial
                        · replace hL1 := cond_t hb_538 hL1
                          conv => whnf
                          obtain rfl := Option.some.inj hL1
                          replace hF := fin_ret hF
                          obtain rfl := Option.some.inj hF
                          exact ret_gz [] [] [] rfl (argFl (by (conv => lhs; whnf); all_goals rfl)) trivial
                  · replace hL1 := cond_t hb_503 hL1
                    conv => whnf
                    obtain ⟨r_212, h_r_212, hL1⟩ := bind_some hL1
                    refine ⟨_, _, _, _, _, _, _, _, _, callX false [0] [] 0 Try.func10 (by decide) rfl (keep_Src_N_ac r_211.2 (4 : Int) r_212 h_r_212) rfl ⟨(argP (id := 0) (by (conv => lhs; whnf); all_goals rfl) rfl), (argE (by (conv => lhs; whnf); all_goals rfl) rfl), trivial⟩ rfl ⟨rfl, trivial⟩ rfl rfl rfl lend0 ⟨rfl, trivial⟩ rfl, ?_⟩
                    conv => whnf
                    obtain ⟨D_504, cJ_504, hJ_504, hB_504, hD_504, hR_504⟩ := sub_join hL1
                    refine sw_blkj tab_ok follows_ok (fun y : Int × Int × Int × Int × Int × Int × Int × (List Check) × Int × Int × Int × Int × Int × (List Check) × (List Int) × Int × Int × Int => ⟨eL [(2, .int .i64 x_2), (3, .int .i64 x_3), (4, .int .i64 x_4), (11, .ptr 0 0), (12, .ptr 1 0), (14, .ptr 2 0), (17, .int .i64 (w64 (i_27 + r_209.1))), (18, .int .i64 i_28), (19, .int .i64 x_2), (22, .ptr 3 0), (23, .int .i64 y.2.2.2.2.2.2.2.2.2.2.2.2.2.2.2.2.1), (24, .int .i64 y.1), (25, .ptr 4 0), (26, .int .i64 y.2.2.2.2.2.2.2.2.2.2.2.2.2.2.2.2.2), (27, .int .i64 y.2.1)], hL [(0, .box [.lst 1 (y.2.2.2.2.2.2.2.2.2.2.2.2.2.2.1.map iA), .int .i64 y.2.2.2.2.2.2.2.2.2.2.2.2.2.2.2.1]), (1, .box [.int .i64 i_15, .int .i64 i_16, .int .i64 i_17, .int .i64 i_18, .int .i64 i_19, .lst 5 (a_20.map encCheck)]), (2, .box [.int .i64 i_21, .int .i64 i_22, .int .i64 i_23, .int .i64 i_24, .int .i64 i_25, .lst 5 (a_26.map encCheck)]), (3, .box [.int .i64 y.2.2.1, .int .i64 y.2.2.2.1, .int .i64 y.2.2.2.2.1, .int .i64 y.2.2.2.2.2.1, .int .i64 y.2.2.2.2.2.2.1, .lst 5 (y.2.2.2.2.2.2.2.1.map encCheck)]), (4, .box [.int .i64 y.2.2.2.2.2.2.2.2.1, .int .i64 y.2.2.2.2.2.2.2.2.2.1, .int .i64 y.2.2.2.2.2.2.2.2.2.2.1, .int .i64 y.2.2.2.2.2.2.2.2.2.2.2.1, .int .i64 y.2.2.2.2.2.2.2.2.2.2.2.2.1, .lst 5 (y.2.2.2.2.2.2.2.2.2.2.2.2.2.1.map encCheck)])], 5⟩) D_504 ?_ ?_
                    · conv => whnf
                      refine ⟨fun hb_505 => ?_, fun hb_505 => ?_⟩
                      · replace hJ_504 := cond_t hb_505 hJ_504
                        conv => whnf
                        obtain ⟨r_213, h_r_213, hJ_504⟩ := bind_some hJ_504
                        refine ⟨_, _, _, _, _, _, _, _, _, callX false [] [] 0 Try.func11 (by decide) rfl (screen_Start_ac (⟨(⟨i_15, i_16, i_17, i_18⟩ : A4_Int), i_19, a_20⟩ : Screening) x_2 x_4 r_213 h_r_213) rfl ⟨(argE (by (conv => lhs; whnf); all_goals rfl) rfl), (argE (by (conv => lhs; whnf); all_goals rfl) rfl), (argE (by (conv => lhs; whnf); all_goals rfl) rfl), trivial⟩ rfl trivial rfl rfl rfl lend0 trivial rfl, ?_⟩
                        conv => whnf
                        obtain ⟨r_214, h_r_214, hJ_504⟩ := bind_some hJ_504
                        refine ⟨_, _, _, _, _, _, _, _, _, callX false [] [] 0 Try.func24 (by decide) rfl (ref15_Start_ac (⟨(⟨i_21, i_22, i_23, i_24⟩ : A4_Int), i_25, a_26⟩ : Screening) x_2 x_4 r_214 h_r_214) rfl ⟨(argE (by (conv => lhs; whnf); all_goals rfl) rfl), (argE (by (conv => lhs; whnf); all_goals rfl) rfl), (argE (by (conv => lhs; whnf); all_goals rfl) rfl), trivial⟩ rfl trivial rfl rfl rfl lend0 trivial rfl, ?_⟩
                        conv => whnf
                        obtain rfl := Option.some.inj hJ_504
                        exact ⟨(r_213.2, r_214.2, r_213.1.Limits.e0, r_213.1.Limits.e1, r_213.1.Limits.e2, r_213.1.Limits.e3, r_213.1.Next, r_213.1.L, r_214.1.Limits.e0, r_214.1.Limits.e1, r_214.1.Limits.e2, r_214.1.Limits.e3, r_214.1.Next, r_214.1.L, r_212.2.L, r_212.2.At, (0 : Int), (0 : Int)), [0, 1, 2, 8, 9], [], [], hB_504 _ rfl, wk_mk [0, 1, 2, 8, 9] [] [] rfl ⟨argE (by (conv => lhs; whnf); all_goals rfl) rfl, argE (by (conv => lhs; whnf); all_goals rfl) rfl, argE (by (conv => lhs; whnf); all_goals rfl) rfl, argP (id := 0) (by (conv => lhs; whnf); all_goals rfl) rfl, argP (id := 1) (by (conv => lhs; whnf); all_goals rfl) rfl, argP (id := 2) (by (conv => lhs; whnf); all_goals rfl) rfl, argE (by (conv => lhs; whnf); all_goals rfl) rfl, argE (by (conv => lhs; whnf); all_goals rfl) rfl, argE (by (conv => lhs; whnf); all_goals rfl) rfl, argP (id := 8) (by (conv => lhs; whnf); all_goals rfl) rfl, argE (by (conv => lhs; whnf); all_goals rfl) rfl, argE (by (conv => lhs; whnf); all_goals rfl) rfl, argP (id := 9) (by (conv => lhs; whnf); all_goals rfl) rfl, argE (by (conv => lhs; whnf); all_goals rfl) rfl, argE (by (conv => lhs; whnf); all_goals rfl) rfl, trivial⟩ ⟨boxL rfl rfl rfl ⟨(.ni _ rfl), (.ni _ rfl), trivial⟩, boxL rfl rfl rfl ⟨(.ni _ rfl), (.ni _ rfl), (.ni _ rfl), (.ni _ rfl), (.ni _ rfl), (.ni _ rfl), trivial⟩, boxL rfl rfl rfl ⟨(.ni _ rfl), (.ni _ rfl), (.ni _ rfl), (.ni _ rfl), (.ni _ rfl), (.ni _ rfl), trivial⟩, boxL rfl rfl rfl ⟨(.ni _ rfl), (.ni _ rfl), (.ni _ rfl), (.ni _ rfl), (.ni _ rfl), (.ni _ rfl), trivial⟩, boxL rfl rfl rfl ⟨(.ni _ rfl), (.ni _ rfl), (.ni _ rfl), (.ni _ rfl), (.ni _ rfl), (.ni _ rfl), trivial⟩, trivial⟩⟩
                      · replace hJ_504 := cond_f hb_505 hJ_504
                        conv => whnf
                        refine ⟨fun hb_506 => ?_, fun hb_506 => ?_⟩
                        · replace hJ_504 := cond_t hb_506 hJ_504
                          conv => whnf
                          obtain ⟨r_215, h_r_215, hJ_504⟩ := bind_some hJ_504
                          refine ⟨_, _, _, _, _, _, _, _, _, callX false [] [] 0 Try.func13 (by decide) rfl (screen_Expire_ac (⟨(⟨i_15, i_16, i_17, i_18⟩ : A4_Int), i_19, a_20⟩ : Screening) x_4 r_215 h_r_215) rfl ⟨(argE (by (conv => lhs; whnf); all_goals rfl) rfl), (argE (by (conv => lhs; whnf); all_goals rfl) rfl), trivial⟩ rfl trivial rfl rfl rfl lend0 trivial rfl, ?_⟩
                          conv => whnf
                          obtain ⟨r_216, h_r_216, hJ_504⟩ := bind_some hJ_504
                          refine ⟨_, _, _, _, _, _, _, _, _, callX false [] [] 0 Try.func25 (by decide) rfl (ref15_Expire_ac (⟨(⟨i_21, i_22, i_23, i_24⟩ : A4_Int), i_25, a_26⟩ : Screening) x_4 r_216 h_r_216) rfl ⟨(argE (by (conv => lhs; whnf); all_goals rfl) rfl), (argE (by (conv => lhs; whnf); all_goals rfl) rfl), trivial⟩ rfl trivial rfl rfl rfl lend0 trivial rfl, ?_⟩
                          conv => whnf
                          obtain rfl := Option.some.inj hJ_504
                          exact ⟨(r_215.2, r_216.2, r_215.1.Limits.e0, r_215.1.Limits.e1, r_215.1.Limits.e2, r_215.1.Limits.e3, r_215.1.Next, r_215.1.L, r_216.1.Limits.e0, r_216.1.Limits.e1, r_216.1.Limits.e2, r_216.1.Limits.e3, r_216.1.Next, r_216.1.L, r_212.2.L, r_212.2.At, (0 : Int), (0 : Int)), [0, 1, 2, 8, 9], [], [], hB_504 _ rfl, wk_mk [0, 1, 2, 8, 9] [] [] rfl ⟨argE (by (conv => lhs; whnf); all_goals rfl) rfl, argE (by (conv => lhs; whnf); all_goals rfl) rfl, argE (by (conv => lhs; whnf); all_goals rfl) rfl, argP (id := 0) (by (conv => lhs; whnf); all_goals rfl) rfl, argP (id := 1) (by (conv => lhs; whnf); all_goals rfl) rfl, argP (id := 2) (by (conv => lhs; whnf); all_goals rfl) rfl, argE (by (conv => lhs; whnf); all_goals rfl) rfl, argE (by (conv => lhs; whnf); all_goals rfl) rfl, argE (by (conv => lhs; whnf); all_goals rfl) rfl, argP (id := 8) (by (conv => lhs; whnf); all_goals rfl) rfl, argE (by (conv => lhs; whnf); all_goals rfl) rfl, argE (by (conv => lhs; whnf); all_goals rfl) rfl, argP (id := 9) (by (conv => lhs; whnf); all_goals rfl) rfl, argE (by (conv => lhs; whnf); all_goals rfl) rfl, argE (by (conv => lhs; whnf); all_goals rfl) rfl, trivial⟩ ⟨boxL rfl rfl rfl ⟨(.ni _ rfl), (.ni _ rfl), trivial⟩, boxL rfl rfl rfl ⟨(.ni _ rfl), (.ni _ rfl), (.ni _ rfl), (.ni _ rfl), (.ni _ rfl), (.ni _ rfl), trivial⟩, boxL rfl rfl rfl ⟨(.ni _ rfl), (.ni _ rfl), (.ni _ rfl), (.ni _ rfl), (.ni _ rfl), (.ni _ rfl), trivial⟩, boxL rfl rfl rfl ⟨(.ni _ rfl), (.ni _ rfl), (.ni _ rfl), (.ni _ rfl), (.ni _ rfl), (.ni _ rfl), trivial⟩, boxL rfl rfl rfl ⟨(.ni _ rfl), (.ni _ rfl), (.ni _ rfl), (.ni _ rfl), (.ni _ rfl), (.ni _ rfl), trivial⟩, trivial⟩⟩
                        · replace hJ_504 := cond_f hb_506 hJ_504
                          conv => whnf
                          obtain ⟨r_217, h_r_217, hJ_504⟩ := bind_some hJ_504
                          refine ⟨_, _, _, _, _, _, _, _, _, callX false [0] [] 0 Try.func10 (by decide) rfl (keep_Src_N_ac r_212.2 (3 : Int) r_217 h_r_217) rfl ⟨(argP (id := 0) (by (conv => lhs; whnf); all_goals rfl) rfl), (argE (by (conv => lhs; whnf); all_goals rfl) rfl), trivial⟩ rfl ⟨rfl, trivial⟩ rfl rfl rfl lend0 ⟨rfl, trivial⟩ rfl, ?_⟩
                          conv => whnf
                          obtain ⟨r_218, h_r_218, hJ_504⟩ := bind_some hJ_504
                          refine ⟨_, _, _, _, _, _, _, _, _, callX false [] [] 0 Try.func14 (by decide) rfl (screen_Verdict_ac (⟨(⟨i_15, i_16, i_17, i_18⟩ : A4_Int), i_19, a_20⟩ : Screening) x_3 (r_217.1 == (0 : Int)) x_4 r_218 h_r_218) rfl ⟨(argE (by (conv => lhs; whnf); all_goals rfl) rfl), (argE (by (conv => lhs; whnf); all_goals rfl) rfl), (argE (by (conv => lhs; whnf); all_goals rfl) rfl), (argE (by (conv => lhs; whnf); all_goals rfl) rfl), trivial⟩ rfl trivial rfl rfl rfl lend0 trivial rfl, ?_⟩
                          conv => whnf
                          obtain ⟨r_219, h_r_219, hJ_504⟩ := bind_some hJ_504
                          refine ⟨_, _, _, _, _, _, _, _, _, callX false [] [] 0 Try.func26 (by decide) rfl (ref15_Verdict_ac (⟨(⟨i_21, i_22, i_23, i_24⟩ : A4_Int), i_25, a_26⟩ : Screening) x_3 (r_217.1 == (0 : Int)) x_4 r_219 h_r_219) rfl ⟨(argE (by (conv => lhs; whnf); all_goals rfl) rfl), (argE (by (conv => lhs; whnf); all_goals rfl) rfl), (argE (by (conv => lhs; whnf); all_goals rfl) rfl), (argE (by (conv => lhs; whnf); all_goals rfl) rfl), trivial⟩ rfl trivial rfl rfl rfl lend0 trivial rfl, ?_⟩
                          conv => whnf
                          obtain rfl := Option.some.inj hJ_504
                          exact ⟨(r_218.2.2, r_219.2.2, r_218.1.Limits.e0, r_218.1.Limits.e1, r_218.1.Limits.e2, r_218.1.Limits.e3, r_218.1.Next, r_218.1.L, r_219.1.Limits.e0, r_219.1.Limits.e1, r_219.1.Limits.e2, r_219.1.Limits.e3, r_219.1.Next, r_219.1.L, r_217.2.L, r_217.2.At, r_218.2.1, r_219.2.1), [0, 1, 2, 8, 9], [], [], hB_504 _ rfl, wk_mk [0, 1, 2, 8, 9] [] [] rfl ⟨argE (by (conv => lhs; whnf); all_goals rfl) rfl, argE (by (conv => lhs; whnf); all_goals rfl) rfl, argE (by (conv => lhs; whnf); all_goals rfl) rfl, argP (id := 0) (by (conv => lhs; whnf); all_goals rfl) rfl, argP (id := 1) (by (conv => lhs; whnf); all_goals rfl) rfl, argP (id := 2) (by (conv => lhs; whnf); all_goals rfl) rfl, argE (by (conv => lhs; whnf); all_goals rfl) rfl, argE (by (conv => lhs; whnf); all_goals rfl) rfl, argE (by (conv => lhs; whnf); all_goals rfl) rfl, argP (id := 8) (by (conv => lhs; whnf); all_goals rfl) rfl, argE (by (conv => lhs; whnf); all_goals rfl) rfl, argE (by (conv => lhs; whnf); all_goals rfl) rfl, argP (id := 9) (by (conv => lhs; whnf); all_goals rfl) rfl, argE (by (conv => lhs; whnf); all_goals rfl) rfl, argE (by (conv => lhs; whnf); all_goals rfl) rfl, trivial⟩ ⟨boxL rfl rfl rfl ⟨(.ni _ rfl), (.ni _ rfl), trivial⟩, boxL rfl rfl rfl ⟨(.ni _ rfl), (.ni _ rfl), (.ni _ rfl), (.ni _ rfl), (.ni _ rfl), (.ni _ rfl), trivial⟩, boxL rfl rfl rfl ⟨(.ni _ rfl), (.ni _ rfl), (.ni _ rfl), (.ni _ rfl), (.ni _ rfl), (.ni _ rfl), trivial⟩, boxL rfl rfl rfl ⟨(.ni _ rfl), (.ni _ rfl), (.ni _ rfl), (.ni _ rfl), (.ni _ rfl), (.ni _ rfl), trivial⟩, boxL rfl rfl rfl ⟨(.ni _ rfl), (.ni _ rfl), (.ni _ rfl), (.ni _ rfl), (.ni _ rfl), (.ni _ rfl), trivial⟩, trivial⟩⟩
                    · rintro z_238 hx_504
                      replace hL1 := hD_504 _ hx_504
                      try dsimp only at hL1
                      conv => whnf
                      refine ⟨fun hb_507 => ?_, fun hb_507 => ?_⟩
                      · replace hL1 := cond_f hb_507 hL1
                        conv => whnf
                        refine ⟨fun hb_508 => ?_, fun hb_508 => ?_⟩
                        · replace hL1 := cond_f hb_508 hL1
                          conv => whnf
                          obtain ⟨r_239, h_r_239, hL1⟩ := bind_some hL1
                          refine ⟨_, _, _, _, _, _, _, _, _, callX false [] [] 0 Try.func22 (by decide) rfl (ref15_Same_ac (⟨(⟨z_238.2.2.1, z_238.2.2.2.1, z_238.2.2.2.2.1, z_238.2.2.2.2.2.1⟩ : A4_Int), z_238.2.2.2.2.2.2.1, z_238.2.2.2.2.2.2.2.1⟩ : Screening) (⟨(⟨z_238.2.2.2.2.2.2.2.2.1, z_238.2.2.2.2.2.2.2.2.2.1, z_238.2.2.2.2.2.2.2.2.2.2.1, z_238.2.2.2.2.2.2.2.2.2.2.2.1⟩ : A4_Int), z_238.2.2.2.2.2.2.2.2.2.2.2.2.1, z_238.2.2.2.2.2.2.2.2.2.2.2.2.2.1⟩ : Screening) r_239 h_r_239) rfl ⟨(argE (by (conv => lhs; whnf); all_goals rfl) rfl), (argE (by (conv => lhs; whnf); all_goals rfl) rfl), trivial⟩ rfl trivial rfl rfl rfl lend0 trivial rfl, ?_⟩
                          conv => whnf
                          refine ⟨fun hb_509 => ?_, fun hb_509 => ?_⟩
                          · replace hL1 := cond_t hb_509 hL1
                            conv => whnf
                            obtain rfl := Option.some.inj hL1
                            replace hF := fin_ret hF
                            obtain rfl := Option.some.inj hF
                            exact ret_gz [] [] [] rfl (argFl (by (conv => lhs; whnf); all_goals rfl)) trivial
                          · replace hL1 := cond_f hb_509 hL1
                            conv => whnf
                            refine ⟨fun hb_510 => ?_, fun hb_510 => ?_⟩
                            · replace hL1 := cond_t hb_510 hL1
                              conv => whnf
                              refine ⟨by kernel_rfl, ?_⟩
                              conv => whnf
                              obtain ⟨r_240, h_r_240, hL1⟩ := bind_some hL1
                              refine ⟨_, _, _, _, _, _, _, _, _, callX false [] [] 0 Try.func16 (by decide) rfl (screen_Find_ac (⟨(⟨z_238.2.2.1, z_238.2.2.2.1, z_238.2.2.2.2.1, z_238.2.2.2.2.2.1⟩ : A4_Int), z_238.2.2.2.2.2.2.1, z_238.2.2.2.2.2.2.2.1⟩ : Screening) x_2 r_240 h_r_240) rfl ⟨(argE (by (conv => lhs; whnf); all_goals rfl) rfl), (argE (by (conv => lhs; whnf); all_goals rfl) rfl), trivial⟩ rfl trivial rfl rfl rfl lend0 trivial rfl, ?_⟩
                              conv => whnf
                              obtain ⟨r_241, h_r_241, hL1⟩ := bind_some hL1
                              refine ⟨_, _, _, _, _, _, _, _, _, callX false [] [] 0 Try.func27 (by decide) rfl (ref15_Find_ac (⟨(⟨z_238.2.2.2.2.2.2.2.2.1, z_238.2.2.2.2.2.2.2.2.2.1, z_238.2.2.2.2.2.2.2.2.2.2.1, z_238.2.2.2.2.2.2.2.2.2.2.2.1⟩ : A4_Int), z_238.2.2.2.2.2.2.2.2.2.2.2.2.1, z_238.2.2.2.2.2.2.2.2.2.2.2.2.2.1⟩ : Screening) x_2 r_241 h_r_241) rfl ⟨(argE (by (conv => lhs; whnf); all_goals rfl) rfl), (argE (by (conv => lhs; whnf); all_goals rfl) rfl), trivial⟩ rfl trivial rfl rfl rfl lend0 trivial rfl, ?_⟩
                              conv => whnf
                              refine ⟨fun hb_511 => ?_, fun hb_511 => ?_⟩
                              · replace hL1 := cond_f hb_511 hL1
                                conv => whnf
                                refine ⟨fun hb_512 => ?_, fun hb_512 => ?_⟩
                                · replace hL1 := cond_f hb_512 hL1
                                  conv => whnf
                                  obtain ⟨r_242, h_r_242, hL1⟩ := bind_some hL1
                                  refine ⟨_, _, _, _, _, _, _, _, _, callX false [] [] 0 Try.func18 (by decide) rfl (screen_Cleared_ac (⟨(⟨z_238.2.2.1, z_238.2.2.2.1, z_238.2.2.2.2.1, z_238.2.2.2.2.2.1⟩ : A4_Int), z_238.2.2.2.2.2.2.1, z_238.2.2.2.2.2.2.2.1⟩ : Screening) r_242 h_r_242) rfl ⟨(argE (by (conv => lhs; whnf); all_goals rfl) rfl), trivial⟩ rfl trivial rfl rfl rfl lend0 trivial rfl, ?_⟩
                                  conv => whnf
                                  obtain ⟨r_243, h_r_243, hL1⟩ := bind_some hL1
                                  refine ⟨_, _, _, _, _, _, _, _, _, callX false [] [] 0 Try.func29 (by decide) rfl (ref15_Cleared_ac (⟨(⟨z_238.2.2.2.2.2.2.2.2.1, z_238.2.2.2.2.2.2.2.2.2.1, z_238.2.2.2.2.2.2.2.2.2.2.1, z_238.2.2.2.2.2.2.2.2.2.2.2.1⟩ : A4_Int), z_238.2.2.2.2.2.2.2.2.2.2.2.2.1, z_238.2.2.2.2.2.2.2.2.2.2.2.2.2.1⟩ : Screening) r_243 h_r_243) rfl ⟨(argE (by (conv => lhs; whnf); all_goals rfl) rfl), trivial⟩ rfl trivial rfl rfl rfl lend0 trivial rfl, ?_⟩
                                  conv => whnf
                                  obtain ⟨r_244, h_r_244, hL1⟩ := bind_some hL1
                                  refine ⟨_, _, _, _, _, _, _, _, _, callX false [] [] 0 Try.func28 (by decide) rfl (keep_Ints_ac r_242 r_243 r_244 h_r_244) rfl ⟨(argE (by (conv => lhs; whnf); all_goals rfl) rfl), (argE (by (conv => lhs; whnf); all_goals rfl) rfl), trivial⟩ rfl trivial rfl rfl rfl lend0 trivial rfl, ?_⟩
                                  conv => whnf
                                  refine ⟨fun hb_513 => ?_, fun hb_513 => ?_⟩
                                  · replace hL1 := cond_f hb_513 hL1
                                    conv => whnf
                                    obtain ⟨r_245, h_r_245, hL1⟩ := bind_some hL1
                                    refine ⟨_, _, _, _, _, _, _, _, _, callX false [] [] 0 Try.func20 (by decide) rfl (screen_Alarms_ac (⟨(⟨z_238.2.2.1, z_238.2.2.2.1, z_238.2.2.2.2.1, z_238.2.2.2.2.2.1⟩ : A4_Int), z_238.2.2.2.2.2.2.1, z_238.2.2.2.2.2.2.2.1⟩ : Screening) r_245 h_r_245) rfl ⟨(argE (by (conv => lhs; whnf); all_goals rfl) rfl), trivial⟩ rfl trivial rfl rfl rfl lend0 trivial rfl, ?_⟩
                                    conv => whnf
                                    obtain ⟨r_246, h_r_246, hL1⟩ := bind_some hL1
                                    refine ⟨_, _, _, _, _, _, _, _, _, callX false [] [] 0 Try.func31 (by decide) rfl (ref15_Alarms_ac (⟨(⟨z_238.2.2.2.2.2.2.2.2.1, z_238.2.2.2.2.2.2.2.2.2.1, z_238.2.2.2.2.2.2.2.2.2.2.1, z_238.2.2.2.2.2.2.2.2.2.2.2.1⟩ : A4_Int), z_238.2.2.2.2.2.2.2.2.2.2.2.2.1, z_238.2.2.2.2.2.2.2.2.2.2.2.2.2.1⟩ : Screening) r_246 h_r_246) rfl ⟨(argE (by (conv => lhs; whnf); all_goals rfl) rfl), trivial⟩ rfl trivial rfl rfl rfl lend0 trivial rfl, ?_⟩
                                    conv => whnf
                                    obtain ⟨r_247, h_r_247, hL1⟩ := bind_some hL1
                                    refine ⟨_, _, _, _, _, _, _, _, _, callX false [] [] 0 Try.func30 (by decide) rfl (law15_same_ac r_245 r_246 r_247 h_r_247) rfl ⟨(argE (by (conv => lhs; whnf); all_goals rfl) rfl), (argE (by (conv => lhs; whnf); all_goals rfl) rfl), trivial⟩ rfl trivial rfl rfl rfl lend0 trivial rfl, ?_⟩
                                    conv => whnf
                                    refine ⟨by kernel_rfl, ?_⟩
                                    conv => whnf
                                    refine ⟨fun hb_514 => ?_, fun hb_514 => ?_⟩
                                    · replace hL1 := cond_t hb_514 hL1
                                      conv => whnf
                                      obtain rfl := Option.some.inj hL1
                                      replace hF := fin_ret hF
                                      obtain rfl := Option.some.inj hF
                                      exact ret_gz [] [] [] rfl (argFl (by (conv => lhs; whnf); all_goals rfl)) trivial
                                    · replace hL1 := cond_f hb_514 hL1
                                      conv => whnf
                                      refine ⟨_, rfl, ?_⟩
                                      conv => whnf
                                      exact ⟨(q_388, z_238.2.2.2.2.2.2.2.2.2.2.2.2.2.2.1, z_238.2.2.2.2.2.2.2.2.2.2.2.2.2.2.2.1, z_238.2.2.1, z_238.2.2.2.1, z_238.2.2.2.2.1, z_238.2.2.2.2.2.1, z_238.2.2.2.2.2.2.1, z_238.2.2.2.2.2.2.2.1, z_238.2.2.2.2.2.2.2.2.1, z_238.2.2.2.2.2.2.2.2.2.1, z_238.2.2.2.2.2.2.2.2.2.2.1, z_238.2.2.2.2.2.2.2.2.2.2.2.1, z_238.2.2.2.2.2.2.2.2.2.2.2.2.1, z_238.2.2.2.2.2.2.2.2.2.2.2.2.2.1, (w64 (i_27 + r_209.1)), (w64 (i_28 + (1 : Int)))), [0, 1, 2], [], [], hL1, Nat.lt_succ_self _, wk_mk [0, 1, 2] [] [] rfl ⟨argE (by (conv => lhs; whnf); all_goals rfl) rfl, argE (by (conv => lhs; whnf); all_goals rfl) rfl, argE (by (conv => lhs; whnf); all_goals rfl) rfl, argP (id := 0) (by (conv => lhs; whnf); all_goals rfl) rfl, argP (id := 1) (by (conv => lhs; whnf); all_goals rfl) rfl, argP (id := 2) (by (conv => lhs; whnf); all_goals rfl) rfl, argE (by (conv => lhs; whnf); all_goals rfl) rfl, argE (by (conv => lhs; whnf); all_goals rfl) rfl, trivial⟩ ⟨boxL rfl rfl rfl ⟨(.ni _ rfl), (.ni _ rfl), trivial⟩, boxL rfl rfl rfl ⟨(.ni _ rfl), (.ni _ rfl), (.ni _ rfl), (.ni _ rfl), (.ni _ rfl), (.ni _ rfl), trivial⟩, boxL rfl rfl rfl ⟨(.ni _ rfl), (.ni _ rfl), (.ni _ rfl), (.ni _ rfl), (.ni _ rfl), (.ni _ rfl), trivial⟩, trivial⟩⟩
                                  · replace hL1 := cond_t hb_513 hL1
                                    conv => whnf
                                    refine ⟨by kernel_rfl, ?_⟩
                                    conv => whnf
                                    obtain rfl := Option.some.inj hL1
                                    replace hF := fin_ret hF
                                    obtain rfl := Option.some.inj hF
                                    exact ret_gz [] [] [] rfl (argFl (by (conv => lhs; whnf); all_goals rfl)) trivial
                                · replace hL1 := cond_t hb_512 hL1
                                  conv => whnf
                                  refine ⟨by kernel_rfl, ?_⟩
                                  conv => whnf
                                  obtain rfl := Option.some.inj hL1
                                  replace hF := fin_ret hF
                                  obtain rfl := Option.some.inj hF
                                  exact ret_gz [] [] [] rfl (argFl (by (conv => lhs; whnf); all_goals rfl)) trivial
                              · replace hL1 := cond_t hb_511 hL1
                                conv => whnf
                                refine ⟨by kernel_rfl, ?_⟩
                                conv => whnf
                                obtain rfl := Option.some.inj hL1
                                replace hF := fin_ret hF
                                obtain rfl := Option.some.inj hF
                                exact ret_gz [] [] [] rfl (argFl (by (conv => lhs; whnf); all_goals rfl)) trivial
                            · replace hL1 := cond_f hb_510 hL1
                              conv => whnf
                              obtain ⟨r_248, h_r_248, hL1⟩ := bind_some hL1
                              refine ⟨_, _, _, _, _, _, _, _, _, callX false [] [] 0 Try.func16 (by decide) rfl (screen_Find_ac (⟨(⟨i_15, i_16, i_17, i_18⟩ : A4_Int), i_19, a_20⟩ : Screening) x_2 r_248 h_r_248) rfl ⟨(argE (by (conv => lhs; whnf); all_goals rfl) rfl), (argE (by (conv => lhs; whnf); all_goals rfl) rfl), trivial⟩ rfl trivial rfl rfl rfl lend0 trivial rfl, ?_⟩
                              conv => whnf
                              obtain ⟨r_249, h_r_249, hL1⟩ := bind_some hL1
                              refine ⟨_, _, _, _, _, _, _, _, _, callX false [] [] 0 Try.func27 (by decide) rfl (ref15_Find_ac (⟨(⟨i_21, i_22, i_23, i_24⟩ : A4_Int), i_25, a_26⟩ : Screening) x_2 r_249 h_r_249) rfl ⟨(argE (by (conv => lhs; whnf); all_goals rfl) rfl), (argE (by (conv => lhs; whnf); all_goals rfl) rfl), trivial⟩ rfl trivial rfl rfl rfl lend0 trivial rfl, ?_⟩
                              conv => whnf
                              refine ⟨fun hb_515 => ?_, fun hb_515 => ?_⟩
                              · replace hL1 := cond_f hb_515 hL1
                                conv => whnf
                                refine ⟨fun hb_516 => ?_, fun hb_516 => ?_⟩
                                · replace hL1 := cond_f hb_516 hL1
                                  conv => whnf
                                  obtain ⟨r_250, h_r_250, hL1⟩ := bind_some hL1
                                  refine ⟨_, _, _, _, _, _, _, _, _, callX false [] [] 0 Try.func18 (by decide) rfl (screen_Cleared_ac (⟨(⟨i_15, i_16, i_17, i_18⟩ : A4_Int), i_19, a_20⟩ : Screening) r_250 h_r_250) rfl ⟨(argE (by (conv => lhs; whnf); all_goals rfl) rfl), trivial⟩ rfl trivial rfl rfl rfl lend0 trivial rfl, ?_⟩
                                  conv => whnf
                                  obtain ⟨r_251, h_r_251, hL1⟩ := bind_some hL1
                                  refine ⟨_, _, _, _, _, _, _, _, _, callX false [] [] 0 Try.func29 (by decide) rfl (ref15_Cleared_ac (⟨(⟨i_21, i_22, i_23, i_24⟩ : A4_Int), i_25, a_26⟩ : Screening) r_251 h_r_251) rfl ⟨(argE (by (conv => lhs; whnf); all_goals rfl) rfl), trivial⟩ rfl trivial rfl rfl rfl lend0 trivial rfl, ?_⟩
                                  conv => whnf
                                  obtain ⟨r_252, h_r_252, hL1⟩ := bind_some hL1
                                  refine ⟨_, _, _, _, _, _, _, _, _, callX false [] [] 0 Try.func28 (by decide) rfl (keep_Ints_ac r_250 r_251 r_252 h_r_252) rfl ⟨(argE (by (conv => lhs; whnf); all_goals rfl) rfl), (argE (by (conv => lhs; whnf); all_goals rfl) rfl), trivial⟩ rfl trivial rfl rfl rfl lend0 trivial rfl, ?_⟩
                                  conv => whnf
                                  refine ⟨fun hb_517 => ?_, fun hb_517 => ?_⟩
                                  · replace hL1 := cond_f hb_517 hL1
                                    conv => whnf
                                    obtain ⟨r_253, h_r_253, hL1⟩ := bind_some hL1
                                    refine ⟨_, _, _, _, _, _, _, _, _, callX false [] [] 0 Try.func20 (by decide) rfl (screen_Alarms_ac (⟨(⟨i_15, i_16, i_17, i_18⟩ : A4_Int), i_19, a_20⟩ : Screening) r_253 h_r_253) rfl ⟨(argE (by (conv => lhs; whnf); all_goals rfl) rfl), trivial⟩ rfl trivial rfl rfl rfl lend0 trivial rfl, ?_⟩
                                    conv => whnf
                                    obtain ⟨r_254, h_r_254, hL1⟩ := bind_some hL1
                                    refine ⟨_, _, _, _, _, _, _, _, _, callX false [] [] 0 Try.func31 (by decide) rfl (ref15_Alarms_ac (⟨(⟨i_21, i_22, i_23, i_24⟩ : A4_Int), i_25, a_26⟩ : Screening) r_254 h_r_254) rfl ⟨(argE (by (conv => lhs; whnf); all_goals rfl) rfl), trivial⟩ rfl trivial rfl rfl rfl lend0 trivial rfl, ?_⟩
                                    conv => whnf
                                    obtain ⟨r_255, h_r_255, hL1⟩ := bind_some hL1
                                    refine ⟨_, _, _, _, _, _, _, _, _, callX false [] [] 0 Try.func30 (by decide) rfl (law15_same_ac r_253 r_254 r_255 h_r_255) rfl ⟨(argE (by (conv => lhs; whnf); all_goals rfl) rfl), (argE (by (conv => lhs; whnf); all_goals rfl) rfl), trivial⟩ rfl trivial rfl rfl rfl lend0 trivial rfl, ?_⟩
                                    conv => whnf
                                    refine ⟨by kernel_rfl, ?_⟩
                                    conv => whnf
                                    refine ⟨fun hb_518 => ?_, fun hb_518 => ?_⟩
                                    · replace hL1 := cond_t hb_518 hL1
                                      conv => whnf
                                      obtain rfl := Option.some.inj hL1
                                      replace hF := fin_ret hF
                                      obtain rfl := Option.some.inj hF
                                      exact ret_gz [] [] [] rfl (argFl (by (conv => lhs; whnf); all_goals rfl)) trivial
                                    · replace hL1 := cond_f hb_518 hL1
                                      conv => whnf
                                      refine ⟨_, rfl, ?_⟩
                                      conv => whnf
                                      exact ⟨(q_388, z_238.2.2.2.2.2.2.2.2.2.2.2.2.2.2.1, z_238.2.2.2.2.2.2.2.2.2.2.2.2.2.2.2.1, i_15, i_16, i_17, i_18, i_19, a_20, i_21, i_22, i_23, i_24, i_25, a_26, (w64 (i_27 + r_209.1)), (w64 (i_28 + (1 : Int)))), [0, 1, 2], [], [], hL1, Nat.lt_succ_self _, wk_mk [0, 1, 2] [] [] rfl ⟨argE (by (conv => lhs; whnf); all_goals rfl) rfl, argE (by (conv => lhs; whnf); all_goals rfl) rfl, argE (by (conv => lhs; whnf); all_goals rfl) rfl, argP (id := 0) (by (conv => lhs; whnf); all_goals rfl) rfl, argP (id := 1) (by (conv => lhs; whnf); all_goals rfl) rfl, argP (id := 2) (by (conv => lhs; whnf); all_goals rfl) rfl, argE (by (conv => lhs; whnf); all_goals rfl) rfl, argE (by (conv => lhs; whnf); all_goals rfl) rfl, trivial⟩ ⟨boxL rfl rfl rfl ⟨(.ni _ rfl), (.ni _ rfl), trivial⟩, boxL rfl rfl rfl ⟨(.ni _ rfl), (.ni _ rfl), (.ni _ rfl), (.ni _ rfl), (.ni _ rfl), (.ni _ rfl), trivial⟩, boxL rfl rfl rfl ⟨(.ni _ rfl), (.ni _ rfl), (.ni _ rfl), (.ni _ rfl), (.ni _ rfl), (.ni _ rfl), trivial⟩, trivial⟩⟩
                                  · replace hL1 := cond_t hb_517 hL1
                                    conv => whnf
                                    refine ⟨by kernel_rfl, ?_⟩
                                    conv => whnf
                                    obtain rfl := Option.some.inj hL1
                                    replace hF := fin_ret hF
                                    obtain rfl := Option.some.inj hF
                                    exact ret_gz [] [] [] rfl (argFl (by (conv => lhs; whnf); all_goals rfl)) trivial
                                · replace hL1 := cond_t hb_516 hL1
                                  conv => whnf
                                  refine ⟨by kernel_rfl, ?_⟩
                                  conv => whnf
                                  obtain rfl := Option.some.inj hL1
                                  replace hF := fin_ret hF
                                  obtain rfl := Option.some.inj hF
                                  exact ret_gz [] [] [] rfl (argFl (by (conv => lhs; whnf); all_goals rfl)) trivial
                              · replace hL1 := cond_t hb_515 hL1
                                conv => whnf
                                refine ⟨by kernel_rfl, ?_⟩
                                conv => whnf
                                obtain rfl := Option.some.inj hL1
                                replace hF := fin_ret hF
                                obtain rfl := Option.some.inj hF
                                exact ret_gz [] [] [] rfl (argFl (by (conv => lhs; whnf); all_goals rfl)) trivial
                        · replace hL1 := cond_t hb_508 hL1
                          conv => whnf
                          obtain rfl := Option.some.inj hL1
                          replace hF := fin_ret hF
                          obtain rfl := Option.some.inj hF
                          exact ret_gz [] [] [] rfl (argFl (by (conv => lhs; whnf); all_goals rfl)) trivial
                      · replace hL1 := cond_t hb_507 hL1
                        conv => whnf
                        obtain rfl := Option.some.inj hL1
                        replace hF := fin_ret hF
                        obtain rfl := Option.some.inj hF
                        exact ret_gz [] [] [] rfl (argFl (by (conv => lhs; whnf); all_goals rfl)) trivial
                · replace hL1 := cond_f hb_502 hL1
                  conv => whnf
                  obtain ⟨r_344, h_r_344, hL1⟩ := bind_some hL1
                  refine ⟨_, _, _, _, _, _, _, _, _, callX false [0] [] 0 Try.func10 (by decide) rfl (keep_Src_N_ac r_211.2 (4 : Int) r_344 h_r_344) rfl ⟨(argP (id := 0) (by (conv => lhs; whnf); all_goals rfl) rfl), (argE (by (conv => lhs; whnf); all_goals rfl) rfl), trivial⟩ rfl ⟨rfl, trivial⟩ rfl rfl rfl lend0 ⟨rfl, trivial⟩ rfl, ?_⟩
                  conv => whnf
                  obtain ⟨D_550, cJ_550, hJ_550, hB_550, hD_550, hR_550⟩ := sub_join hL1
                  refine sw_blkj tab_ok follows_ok (fun y : Int × Int × Int × Int × Int × Int × Int × (List Check) × Int × Int × Int × Int × Int × (List Check) × (List Int) × Int × Int × Int => ⟨eL [(2, .int .i64 x_2), (3, .int .i64 x_3), (4, .int .i64 x_4), (11, .ptr 0 0), (12, .ptr 1 0), (14, .ptr 2 0), (17, .int .i64 (w64 (i_27 + r_209.1))), (18, .int .i64 i_28), (19, .int .i64 r_210.1), (22, .ptr 3 0), (23, .int .i64 y.2.2.2.2.2.2.2.2.2.2.2.2.2.2.2.2.1), (24, .int .i64 y.1), (25, .ptr 4 0), (26, .int .i64 y.2.2.2.2.2.2.2.2.2.2.2.2.2.2.2.2.2), (27, .int .i64 y.2.1)], hL [(0, .box [.lst 1 (y.2.2.2.2.2.2.2.2.2.2.2.2.2.2.1.map iA), .int .i64 y.2.2.2.2.2.2.2.2.2.2.2.2.2.2.2.1]), (1, .box [.int .i64 i_15, .int .i64 i_16, .int .i64 i_17, .int .i64 i_18, .int .i64 i_19, .lst 5 (a_20.map encCheck)]), (2, .box [.int .i64 i_21, .int .i64 i_22, .int .i64 i_23, .int .i64 i_24, .int .i64 i_25, .lst 5 (a_26.map encCheck)]), (3, .box [.int .i64 y.2.2.1, .int .i64 y.2.2.2.1, .int .i64 y.2.2.2.2.1, .int .i64 y.2.2.2.2.2.1, .int .i64 y.2.2.2.2.2.2.1, .lst 5 (y.2.2.2.2.2.2.2.1.map encCheck)]), (4, .box [.int .i64 y.2.2.2.2.2.2.2.2.1, .int .i64 y.2.2.2.2.2.2.2.2.2.1, .int .i64 y.2.2.2.2.2.2.2.2.2.2.1, .int .i64 y.2.2.2.2.2.2.2.2.2.2.2.1, .int .i64 y.2.2.2.2.2.2.2.2.2.2.2.2.1, .lst 5 (y.2.2.2.2.2.2.2.2.2.2.2.2.2.1.map encCheck)])], 5⟩) D_550 ?_ ?_
                  · conv => whnf
                    refine ⟨fun hb_551 => ?_, fun hb_551 => ?_⟩
                    · replace hJ_550 := cond_t hb_551 hJ_550
                      conv => whnf
                      obtain ⟨r_345, h_r_345, hJ_550⟩ := bind_some hJ_550
                      refine ⟨_, _, _, _, _, _, _, _, _, callX false [] [] 0 Try.func11 (by decide) rfl (screen_Start_ac (⟨(⟨i_15, i_16, i_17, i_18⟩ : A4_Int), i_19, a_20⟩ : Screening) r_210.1 (w64 (i_27 + r_209.1)) r_345 h_r_345) rfl ⟨(argE (by (conv => lhs; whnf); all_goals rfl) rfl), (argE (by (conv => lhs; whnf); all_goals rfl) rfl), (argE (by (conv => lhs; whnf); all_goals rfl) rfl), trivial⟩ rfl trivial rfl rfl rfl lend0 trivial rfl, ?_⟩
                      conv => whnf
                      obtain ⟨r_346, h_r_346, hJ_550⟩ := bind_some hJ_550
                      refine ⟨_, _, _, _, _, _, _, _, _, callX false [] [] 0 Try.func24 (by decide) rfl (ref15_Start_ac (⟨(⟨i_21, i_22, i_23, i_24⟩ : A4_Int), i_25, a_26⟩ : Screening) r_210.1 (w64 (i_27 + r_209.1)) r_346 h_r_346) rfl ⟨(argE (by (conv => lhs; whnf); all_goals rfl) rfl), (argE (by (conv => lhs; whnf); all_goals rfl) rfl), (argE (by (conv => lhs; whnf); all_goals rfl) rfl), trivial⟩ rfl trivial rfl rfl rfl lend0 trivial rfl, ?_⟩
                      conv => whnf
                      obtain rfl := Option.some.inj hJ_550
                      exact ⟨(r_345.2, r_346.2, r_345.1.Limits.e0, r_345.1.Limits.e1, r_345.1.Limits.e2, r_345.1.Limits.e3, r_345.1.Next, r_345.1.L, r_346.1.Limits.e0, r_346.1.Limits.e1, r_346.1.Limits.e2, r_346.1.Limits.e3, r_346.1.Next, r_346.1.L, r_344.2.L, r_344.2.At, (0 : Int), (0 : Int)), [0, 1, 2, 8, 9], [], [], hB_550 _ rfl, wk_mk [0, 1, 2, 8, 9] [] [] rfl ⟨argE (by (conv => lhs; whnf); all_goals rfl) rfl, argE (by (conv => lhs; whnf); all_goals rfl) rfl, argE (by (conv => lhs; whnf); all_goals rfl) rfl, argP (id := 0) (by (conv => lhs; whnf); all_goals rfl) rfl, argP (id := 1) (by (conv => lhs; whnf); all_goals rfl) rfl, argP (id := 2) (by (conv => lhs; whnf); all_goals rfl) rfl, argE (by (conv => lhs; whnf); all_goals rfl) rfl, argE (by (conv => lhs; whnf); all_goals rfl) rfl, argE (by (conv => lhs; whnf); all_goals rfl) rfl, argP (id := 8) (by (conv => lhs; whnf); all_goals rfl) rfl, argE (by (conv => lhs; whnf); all_goals rfl) rfl, argE (by (conv => lhs; whnf); all_goals rfl) rfl, argP (id := 9) (by (conv => lhs; whnf); all_goals rfl) rfl, argE (by (conv => lhs; whnf); all_goals rfl) rfl, argE (by (conv => lhs; whnf); all_goals rfl) rfl, trivial⟩ ⟨boxL rfl rfl rfl ⟨(.ni _ rfl), (.ni _ rfl), trivial⟩, boxL rfl rfl rfl ⟨(.ni _ rfl), (.ni _ rfl), (.ni _ rfl), (.ni _ rfl), (.ni _ rfl), (.ni _ rfl), trivial⟩, boxL rfl rfl rfl ⟨(.ni _ rfl), (.ni _ rfl), (.ni _ rfl), (.ni _ rfl), (.ni _ rfl), (.ni _ rfl), trivial⟩, boxL rfl rfl rfl ⟨(.ni _ rfl), (.ni _ rfl), (.ni _ rfl), (.ni _ rfl), (.ni _ rfl), (.ni _ rfl), trivial⟩, boxL rfl rfl rfl ⟨(.ni _ rfl), (.ni _ rfl), (.ni _ rfl), (.ni _ rfl), (.ni _ rfl), (.ni _ rfl), trivial⟩, trivial⟩⟩
                    · replace hJ_550 := cond_f hb_551 hJ_550
                      conv => whnf
                      refine ⟨fun hb_552 => ?_, fun hb_552 => ?_⟩
                      · replace hJ_550 := cond_t hb_552 hJ_550
                        conv => whnf
                        obtain ⟨r_347, h_r_347, hJ_550⟩ := bind_some hJ_550
                        refine ⟨_, _, _, _, _, _, _, _, _, callX false [] [] 0 Try.func13 (by decide) rfl (screen_Expire_ac (⟨(⟨i_15, i_16, i_17, i_18⟩ : A4_Int), i_19, a_20⟩ : Screening) (w64 (i_27 + r_209.1)) r_347 h_r_347) rfl ⟨(argE (by (conv => lhs; whnf); all_goals rfl) rfl), (argE (by (conv => lhs; whnf); all_goals rfl) rfl), trivial⟩ rfl trivial rfl rfl rfl lend0 trivial rfl, ?_⟩
                        conv => whnf
                        obtain ⟨r_348, h_r_348, hJ_550⟩ := bind_some hJ_550
                        refine ⟨_, _, _, _, _, _, _, _, _, callX false [] [] 0 Try.func25 (by decide) rfl (ref15_Expire_ac (⟨(⟨i_21, i_22, i_23, i_24⟩ : A4_Int), i_25, a_26⟩ : Screening) (w64 (i_27 + r_209.1)) r_348 h_r_348) rfl ⟨(argE (by (conv => lhs; whnf); all_goals rfl) rfl), (argE (by (conv => lhs; whnf); all_goals rfl) rfl), trivial⟩ rfl trivial rfl rfl rfl lend0 trivial rfl, ?_⟩
                        conv => whnf
                        obtain rfl := Option.some.inj hJ_550
                        exact ⟨(r_347.2, r_348.2, r_347.1.Limits.e0, r_347.1.Limits.e1, r_347.1.Limits.e2, r_347.1.Limits.e3, r_347.1.Next, r_347.1.L, r_348.1.Limits.e0, r_348.1.Limits.e1, r_348.1.Limits.e2, r_348.1.Limits.e3, r_348.1.Next, r_348.1.L, r_344.2.L, r_344.2.At, (0 : Int), (0 : Int)), [0, 1, 2, 8, 9], [], [], hB_550 _ rfl, wk_mk [0, 1, 2, 8, 9] [] [] rfl ⟨argE (by (conv => lhs; whnf); all_goals rfl) rfl, argE (by (conv => lhs; whnf); all_goals rfl) rfl, argE (by (conv => lhs; whnf); all_goals rfl) rfl, argP (id := 0) (by (conv => lhs; whnf); all_goals rfl) rfl, argP (id := 1) (by (conv => lhs; whnf); all_goals rfl) rfl, argP (id := 2) (by (conv => lhs; whnf); all_goals rfl) rfl, argE (by (conv => lhs; whnf); all_goals rfl) rfl, argE (by (conv => lhs; whnf); all_goals rfl) rfl, argE (by (conv => lhs; whnf); all_goals rfl) rfl, argP (id := 8) (by (conv => lhs; whnf); all_goals rfl) rfl, argE (by (conv => lhs; whnf); all_goals rfl) rfl, argE (by (conv => lhs; whnf); all_goals rfl) rfl, argP (id := 9) (by (conv => lhs; whnf); all_goals rfl) rfl, argE (by (conv => lhs; whnf); all_goals rfl) rfl, argE (by (conv => lhs; whnf); all_goals rfl) rfl, trivial⟩ ⟨boxL rfl rfl rfl ⟨(.ni _ rfl), (.ni _ rfl), trivial⟩, boxL rfl rfl rfl ⟨(.ni _ rfl), (.ni _ rfl), (.ni _ rfl), (.ni _ rfl), (.ni _ rfl), (.ni _ rfl), trivial⟩, boxL rfl rfl rfl ⟨(.ni _ rfl), (.ni _ rfl), (.ni _ rfl), (.ni _ rfl), (.ni _ rfl), (.ni _ rfl), trivial⟩, boxL rfl rfl rfl ⟨(.ni _ rfl), (.ni _ rfl), (.ni _ rfl), (.ni _ rfl), (.ni _ rfl), (.ni _ rfl), trivial⟩, boxL rfl rfl rfl ⟨(.ni _ rfl), (.ni _ rfl), (.ni _ rfl), (.ni _ rfl), (.ni _ rfl), (.ni _ rfl), trivial⟩, trivial⟩⟩
                      · replace hJ_550 := cond_f hb_552 hJ_550
                        conv => whnf
                        obtain ⟨r_349, h_r_349, hJ_550⟩ := bind_some hJ_550
                        refine ⟨_, _, _, _, _, _, _, _, _, callX false [0] [] 0 Try.func10 (by decide) rfl (keep_Src_N_ac r_344.2 (3 : Int) r_349 h_r_349) rfl ⟨(argP (id := 0) (by (conv => lhs; whnf); all_goals rfl) rfl), (argE (by (conv => lhs; whnf); all_goals rfl) rfl), trivial⟩ rfl ⟨rfl, trivial⟩ rfl rfl rfl lend0 ⟨rfl, trivial⟩ rfl, ?_⟩
                        conv => whnf
                        obtain ⟨r_350, h_r_350, hJ_550⟩ := bind_some hJ_550
                        refine ⟨_, _, _, _, _, _, _, _, _, callX false [] [] 0 Try.func14 (by decide) rfl (screen_Verdict_ac (⟨(⟨i_15, i_16, i_17, i_18⟩ : A4_Int), i_19, a_20⟩ : Screening) r_211.1 (r_349.1 == (0 : Int)) (w64 (i_27 + r_209.1)) r_350 h_r_350) rfl ⟨(argE (by (conv => lhs; whnf); all_goals rfl) rfl), (argE (by (conv => lhs; whnf); all_goals rfl) rfl), (argE (by (conv => lhs; whnf); all_goals rfl) rfl), (argE (by (conv => lhs; whnf); all_goals rfl) rfl), trivial⟩ rfl trivial rfl rfl rfl lend0 trivial rfl, ?_⟩
                        conv => whnf
                        obtain ⟨r_351, h_r_351, hJ_550⟩ := bind_some hJ_550
                        refine ⟨_, _, _, _, _, _, _, _, _, callX false [] [] 0 Try.func26 (by decide) rfl (ref15_Verdict_ac (⟨(⟨i_21, i_22, i_23, i_24⟩ : A4_Int), i_25, a_26⟩ : Screening) r_211.1 (r_349.1 == (0 : Int)) (w64 (i_27 + r_209.1)) r_351 h_r_351) rfl ⟨(argE (by (conv => lhs; whnf); all_goals rfl) rfl), (argE (by (conv => lhs; whnf); all_goals rfl) rfl), (argE (by (conv => lhs; whnf); all_goals rfl) rfl), (argE (by (conv => lhs; whnf); all_goals rfl) rfl), trivial⟩ rfl trivial rfl rfl rfl lend0 trivial rfl, ?_⟩
                        conv => whnf
                        obtain rfl := Option.some.inj hJ_550
                        exact ⟨(r_350.2.2, r_351.2.2, r_350.1.Limits.e0, r_350.1.Limits.e1, r_350.1.Limits.e2, r_350.1.Limits.e3, r_350.1.Next, r_350.1.L, r_351.1.Limits.e0, r_351.1.Limits.e1, r_351.1.Limits.e2, r_351.1.Limits.e3, r_351.1.Next, r_351.1.L, r_349.2.L, r_349.2.At, r_350.2.1, r_351.2.1), [0, 1, 2, 8, 9], [], [], hB_550 _ rfl, wk_mk [0, 1, 2, 8, 9] [] [] rfl ⟨argE (by (conv => lhs; whnf); all_goals rfl) rfl, argE (by (conv => lhs; whnf); all_goals rfl) rfl, argE (by (conv => lhs; whnf); all_goals rfl) rfl, argP (id := 0) (by (conv => lhs; whnf); all_goals rfl) rfl, argP (id := 1) (by (conv => lhs; whnf); all_goals rfl) rfl, argP (id := 2) (by (conv => lhs; whnf); all_goals rfl) rfl, argE (by (conv => lhs; whnf); all_goals rfl) rfl, argE (by (conv => lhs; whnf); all_goals rfl) rfl, argE (by (conv => lhs; whnf); all_goals rfl) rfl, argP (id := 8) (by (conv => lhs; whnf); all_goals rfl) rfl, argE (by (conv => lhs; whnf); all_goals rfl) rfl, argE (by (conv => lhs; whnf); all_goals rfl) rfl, argP (id := 9) (by (conv => lhs; whnf); all_goals rfl) rfl, argE (by (conv => lhs; whnf); all_goals rfl) rfl, argE (by (conv => lhs; whnf); all_goals rfl) rfl, trivial⟩ ⟨boxL rfl rfl rfl ⟨(.ni _ rfl), (.ni _ rfl), trivial⟩, boxL rfl rfl rfl ⟨(.ni _ rfl), (.ni _ rfl), (.ni _ rfl), (.ni _ rfl), (.ni _ rfl), (.ni _ rfl), trivial⟩, boxL rfl rfl rfl ⟨(.ni _ rfl), (.ni _ rfl), (.ni _ rfl), (.ni _ rfl), (.ni _ rfl), (.ni _ rfl), trivial⟩, boxL rfl rfl rfl ⟨(.ni _ rfl), (.ni _ rfl), (.ni _ rfl), (.ni _ rfl), (.ni _ rfl), (.ni _ rfl), trivial⟩, boxL rfl rfl rfl ⟨(.ni _ rfl), (.ni _ rfl), (.ni _ rfl), (.ni _ rfl), (.ni _ rfl), (.ni _ rfl), trivial⟩, trivial⟩⟩
                  · rintro z_370 hx_550
                    replace hL1 := hD_550 _ hx_550
                    try dsimp only at hL1
                    conv => whnf
                    refine ⟨fun hb_553 => ?_, fun hb_553 => ?_⟩
                    · replace hL1 := cond_f hb_553 hL1
                      conv => whnf
                      refine ⟨fun hb_554 => ?_, fun hb_554 => ?_⟩
                      · replace hL1 := cond_f hb_554 hL1
                        conv => whnf
                        obtain ⟨r_371, h_r_371, hL1⟩ := bind_some hL1
                        refine ⟨_, _, _, _, _, _, _, _, _, callX false [] [] 0 Try.func22 (by decide) rfl (ref15_Same_ac (⟨(⟨z_370.2.2.1, z_370.2.2.2.1, z_370.2.2.2.2.1, z_370.2.2.2.2.2.1⟩ : A4_Int), z_370.2.2.2.2.2.2.1, z_370.2.2.2.2.2.2.2.1⟩ : Screening) (⟨(⟨z_370.2.2.2.2.2.2.2.2.1, z_370.2.2.2.2.2.2.2.2.2.1, z_370.2.2.2.2.2.2.2.2.2.2.1, z_370.2.2.2.2.2.2.2.2.2.2.2.1⟩ : A4_Int), z_370.2.2.2.2.2.2.2.2.2.2.2.2.1, z_370.2.2.2.2.2.2.2.2.2.2.2.2.2.1⟩ : Screening) r_371 h_r_371) rfl ⟨(argE (by (conv => lhs; whnf); all_goals rfl) rfl), (argE (by (conv => lhs; whnf); all_goals rfl) rfl), trivial⟩ rfl trivial rfl rfl rfl lend0 trivial rfl, ?_⟩
                        conv => whnf
                        refine ⟨fun hb_555 => ?_, fun hb_555 => ?_⟩
                        · replace hL1 := cond_t hb_555 hL1
                          conv => whnf
                          obtain rfl := Option.some.inj hL1
                          replace hF := fin_ret hF
                          obtain rfl := Option.some.inj hF
                          exact ret_gz [] [] [] rfl (argFl (by (conv => lhs; whnf); all_goals rfl)) trivial
                        · replace hL1 := cond_f hb_555 hL1
                          conv => whnf
                          refine ⟨fun hb_556 => ?_, fun hb_556 => ?_⟩
                          · replace hL1 := cond_t hb_556 hL1
                            conv => whnf
                            refine ⟨by kernel_rfl, ?_⟩
                            conv => whnf
                            obtain ⟨r_372, h_r_372, hL1⟩ := bind_some hL1
                            refine ⟨_, _, _, _, _, _, _, _, _, callX false [] [] 0 Try.func16 (by decide) rfl (screen_Find_ac (⟨(⟨z_370.2.2.1, z_370.2.2.2.1, z_370.2.2.2.2.1, z_370.2.2.2.2.2.1⟩ : A4_Int), z_370.2.2.2.2.2.2.1, z_370.2.2.2.2.2.2.2.1⟩ : Screening) r_210.1 r_372 h_r_372) rfl ⟨(argE (by (conv => lhs; whnf); all_goals rfl) rfl), (argE (by (conv => lhs; whnf); all_goals rfl) rfl), trivial⟩ rfl trivial rfl rfl rfl lend0 trivial rfl, ?_⟩
                            conv => whnf
                            obtain ⟨r_373, h_r_373, hL1⟩ := bind_some hL1
                            refine ⟨_, _, _, _, _, _, _, _, _, callX false [] [] 0 Try.func27 (by decide) rfl (ref15_Find_ac (⟨(⟨z_370.2.2.2.2.2.2.2.2.1, z_370.2.2.2.2.2.2.2.2.2.1, z_370.2.2.2.2.2.2.2.2.2.2.1, z_370.2.2.2.2.2.2.2.2.2.2.2.1⟩ : A4_Int), z_370.2.2.2.2.2.2.2.2.2.2.2.2.1, z_370.2.2.2.2.2.2.2.2.2.2.2.2.2.1⟩ : Screening) r_210.1 r_373 h_r_373) rfl ⟨(argE (by (conv => lhs; whnf); all_goals rfl) rfl), (argE (by (conv => lhs; whnf); all_goals rfl) rfl), trivial⟩ rfl trivial rfl rfl rfl lend0 trivial rfl, ?_⟩
                            conv => whnf
                            refine ⟨fun hb_557 => ?_, fun hb_557 => ?_⟩
                            · replace hL1 := cond_f hb_557 hL1
                              conv => whnf
                              refine ⟨fun hb_558 => ?_, fun hb_558 => ?_⟩
                              · replace hL1 := cond_f hb_558 hL1
                                conv => whnf
                                obtain ⟨r_374, h_r_374, hL1⟩ := bind_some hL1
                                refine ⟨_, _, _, _, _, _, _, _, _, callX false [] [] 0 Try.func18 (by decide) rfl (screen_Cleared_ac (⟨(⟨z_370.2.2.1, z_370.2.2.2.1, z_370.2.2.2.2.1, z_370.2.2.2.2.2.1⟩ : A4_Int), z_370.2.2.2.2.2.2.1, z_370.2.2.2.2.2.2.2.1⟩ : Screening) r_374 h_r_374) rfl ⟨(argE (by (conv => lhs; whnf); all_goals rfl) rfl), trivial⟩ rfl trivial rfl rfl rfl lend0 trivial rfl, ?_⟩
                                conv => whnf
                                obtain ⟨r_375, h_r_375, hL1⟩ := bind_some hL1
                                refine ⟨_, _, _, _, _, _, _, _, _, callX false [] [] 0 Try.func29 (by decide) rfl (ref15_Cleared_ac (⟨(⟨z_370.2.2.2.2.2.2.2.2.1, z_370.2.2.2.2.2.2.2.2.2.1, z_370.2.2.2.2.2.2.2.2.2.2.1, z_370.2.2.2.2.2.2.2.2.2.2.2.1⟩ : A4_Int), z_370.2.2.2.2.2.2.2.2.2.2.2.2.1, z_370.2.2.2.2.2.2.2.2.2.2.2.2.2.1⟩ : Screening) r_375 h_r_375) rfl ⟨(argE (by (conv => lhs; whnf); all_goals rfl) rfl), trivial⟩ rfl trivial rfl rfl rfl lend0 trivial rfl, ?_⟩
                                conv => whnf
                                obtain ⟨r_376, h_r_376, hL1⟩ := bind_some hL1
                                refine ⟨_, _, _, _, _, _, _, _, _, callX false [] [] 0 Try.func28 (by decide) rfl (keep_Ints_ac r_374 r_375 r_376 h_r_376) rfl ⟨(argE (by (conv => lhs; whnf); all_goals rfl) rfl), (argE (by (conv => lhs; whnf); all_goals rfl) rfl), trivial⟩ rfl trivial rfl rfl rfl lend0 trivial rfl, ?_⟩
                                conv => whnf
                                refine ⟨fun hb_559 => ?_, fun hb_559 => ?_⟩
                                · replace hL1 := cond_f hb_559 hL1
                                  conv => whnf
                                  obtain ⟨r_377, h_r_377, hL1⟩ := bind_some hL1
                                  refine ⟨_, _, _, _, _, _, _, _, _, callX false [] [] 0 Try.func20 (by decide) rfl (screen_Alarms_ac (⟨(⟨z_370.2.2.1, z_370.2.2.2.1, z_370.2.2.2.2.1, z_370.2.2.2.2.2.1⟩ : A4_Int), z_370.2.2.2.2.2.2.1, z_370.2.2.2.2.2.2.2.1⟩ : Screening) r_377 h_r_377) rfl ⟨(argE (by (conv => lhs; whnf); all_goals rfl) rfl), trivial⟩ rfl trivial rfl rfl rfl lend0 trivial rfl, ?_⟩
                                  conv => whnf
                                  obtain ⟨r_378, h_r_378, hL1⟩ := bind_some hL1
                                  refine ⟨_, _, _, _, _, _, _, _, _, callX false [] [] 0 Try.func31 (by decide) rfl (ref15_Alarms_ac (⟨(⟨z_370.2.2.2.2.2.2.2.2.1, z_370.2.2.2.2.2.2.2.2.2.1, z_370.2.2.2.2.2.2.2.2.2.2.1, z_370.2.2.2.2.2.2.2.2.2.2.2.1⟩ : A4_Int), z_370.2.2.2.2.2.2.2.2.2.2.2.2.1, z_370.2.2.2.2.2.2.2.2.2.2.2.2.2.1⟩ : Screening) r_378 h_r_378) rfl ⟨(argE (by (conv => lhs; whnf); all_goals rfl) rfl), trivial⟩ rfl trivial rfl rfl rfl lend0 trivial rfl, ?_⟩
                                  conv => whnf
                                  obtain ⟨r_379, h_r_379, hL1⟩ := bind_some hL1
                                  refine ⟨_, _, _, _, _, _, _, _, _, callX false [] [] 0 Try.func30 (by decide) rfl (law15_same_ac r_377 r_378 r_379 h_r_379) rfl ⟨(argE (by (conv => lhs; whnf); all_goals rfl) rfl), (argE (by (conv => lhs; whnf); all_goals rfl) rfl), trivial⟩ rfl trivial rfl rfl rfl lend0 trivial rfl, ?_⟩
                                  conv => whnf
                                  refine ⟨by kernel_rfl, ?_⟩
                                  conv => whnf
                                  refine ⟨fun hb_560 => ?_, fun hb_560 => ?_⟩
                                  · replace hL1 := cond_t hb_560 hL1
                                    conv => whnf
                                    obtain rfl := Option.some.inj hL1
                                    replace hF := fin_ret hF
                                    obtain rfl := Option.some.inj hF
                                    exact ret_gz [] [] [] rfl (argFl (by (conv => lhs; whnf); all_goals rfl)) trivial
                                  · replace hL1 := cond_f hb_560 hL1
                                    conv => whnf
                                    refine ⟨_, rfl, ?_⟩
                                    conv => whnf
                                    exact ⟨(q_388, z_370.2.2.2.2.2.2.2.2.2.2.2.2.2.2.1, z_370.2.2.2.2.2.2.2.2.2.2.2.2.2.2.2.1, z_370.2.2.1, z_370.2.2.2.1, z_370.2.2.2.2.1, z_370.2.2.2.2.2.1, z_370.2.2.2.2.2.2.1, z_370.2.2.2.2.2.2.2.1, z_370.2.2.2.2.2.2.2.2.1, z_370.2.2.2.2.2.2.2.2.2.1, z_370.2.2.2.2.2.2.2.2.2.2.1, z_370.2.2.2.2.2.2.2.2.2.2.2.1, z_370.2.2.2.2.2.2.2.2.2.2.2.2.1, z_370.2.2.2.2.2.2.2.2.2.2.2.2.2.1, (w64 (i_27 + r_209.1)), (w64 (i_28 + (1 : Int)))), [0, 1, 2], [], [], hL1, Nat.lt_succ_self _, wk_mk [0, 1, 2] [] [] rfl ⟨argE (by (conv => lhs; whnf); all_goals rfl) rfl, argE (by (conv => lhs; whnf); all_goals rfl) rfl, argE (by (conv => lhs; whnf); all_goals rfl) rfl, argP (id := 0) (by (conv => lhs; whnf); all_goals rfl) rfl, argP (id := 1) (by (conv => lhs; whnf); all_goals rfl) rfl, argP (id := 2) (by (conv => lhs; whnf); all_goals rfl) rfl, argE (by (conv => lhs; whnf); all_goals rfl) rfl, argE (by (conv => lhs; whnf); all_goals rfl) rfl, trivial⟩ ⟨boxL rfl rfl rfl ⟨(.ni _ rfl), (.ni _ rfl), trivial⟩, boxL rfl rfl rfl ⟨(.ni _ rfl), (.ni _ rfl), (.ni _ rfl), (.ni _ rfl), (.ni _ rfl), (.ni _ rfl), trivial⟩, boxL rfl rfl rfl ⟨(.ni _ rfl), (.ni _ rfl), (.ni _ rfl), (.ni _ rfl), (.ni _ rfl), (.ni _ rfl), trivial⟩, trivial⟩⟩
                                · replace hL1 := cond_t hb_559 hL1
                                  conv => whnf
                                  refine ⟨by kernel_rfl, ?_⟩
                                  conv => whnf
                                  obtain rfl := Option.some.inj hL1
                                  replace hF := fin_ret hF
                                  obtain rfl := Option.some.inj hF
                                  exact ret_gz [] [] [] rfl (argFl (by (conv => lhs; whnf); all_goals rfl)) trivial
                              · replace hL1 := cond_t hb_558 hL1
                                conv => whnf
                                refine ⟨by kernel_rfl, ?_⟩
                                conv => whnf
                                obtain rfl := Option.some.inj hL1
                                replace hF := fin_ret hF
                                obtain rfl := Option.some.inj hF
                                exact ret_gz [] [] [] rfl (argFl (by (conv => lhs; whnf); all_goals rfl)) trivial
                            · replace hL1 := cond_t hb_557 hL1
                              conv => whnf
                              refine ⟨by kernel_rfl, ?_⟩
                              conv => whnf
                              obtain rfl := Option.some.inj hL1
                              replace hF := fin_ret hF
                              obtain rfl := Option.some.inj hF
                              exact ret_gz [] [] [] rfl (argFl (by (conv => lhs; whnf); all_goals rfl)) trivial
                          · replace hL1 := cond_f hb_556 hL1
                            conv => whnf
                            obtain ⟨r_380, h_r_380, hL1⟩ := bind_some hL1
                            refine ⟨_, _, _, _, _, _, _, _, _, callX false [] [] 0 Try.func16 (by decide) rfl (screen_Find_ac (⟨(⟨i_15, i_16, i_17, i_18⟩ : A4_Int), i_19, a_20⟩ : Screening) r_210.1 r_380 h_r_380) rfl ⟨(argE (by (conv => lhs; whnf); all_goals rfl) rfl), (argE (by (conv => lhs; whnf); all_goals rfl) rfl), trivial⟩ rfl trivial rfl rfl rfl lend0 trivial rfl, ?_⟩
                            conv => whnf
                            obtain ⟨r_381, h_r_381, hL1⟩ := bind_some hL1
                            refine ⟨_, _, _, _, _, _, _, _, _, callX false [] [] 0 Try.func27 (by decide) rfl (ref15_Find_ac (⟨(⟨i_21, i_22, i_23, i_24⟩ : A4_Int), i_25, a_26⟩ : Screening) r_210.1 r_381 h_r_381) rfl ⟨(argE (by (conv => lhs; whnf); all_goals rfl) rfl), (argE (by (conv => lhs; whnf); all_goals rfl) rfl), trivial⟩ rfl trivial rfl rfl rfl lend0 trivial rfl, ?_⟩
                            conv => whnf
                            refine ⟨fun hb_561 => ?_, fun hb_561 => ?_⟩
                            · replace hL1 := cond_f hb_561 hL1
                              conv => whnf
                              refine ⟨fun hb_562 => ?_, fun hb_562 => ?_⟩
                              · replace hL1 := cond_f hb_562 hL1
                                conv => whnf
                                obtain ⟨r_382, h_r_382, hL1⟩ := bind_some hL1
                                refine ⟨_, _, _, _, _, _, _, _, _, callX false [] [] 0 Try.func18 (by decide) rfl (screen_Cleared_ac (⟨(⟨i_15, i_16, i_17, i_18⟩ : A4_Int), i_19, a_20⟩ : Screening) r_382 h_r_382) rfl ⟨(argE (by (conv => lhs; whnf); all_goals rfl) rfl), trivial⟩ rfl trivial rfl rfl rfl lend0 trivial rfl, ?_⟩
                                conv => whnf
                                obtain ⟨r_383, h_r_383, hL1⟩ := bind_some hL1
                                refine ⟨_, _, _, _, _, _, _, _, _, callX false [] [] 0 Try.func29 (by decide) rfl (ref15_Cleared_ac (⟨(⟨i_21, i_22, i_23, i_24⟩ : A4_Int), i_25, a_26⟩ : Screening) r_383 h_r_383) rfl ⟨(argE (by (conv => lhs; whnf); all_goals rfl) rfl), trivial⟩ rfl trivial rfl rfl rfl lend0 trivial rfl, ?_⟩
                                conv => whnf
                                obtain ⟨r_384, h_r_384, hL1⟩ := bind_some hL1
                                refine ⟨_, _, _, _, _, _, _, _, _, callX false [] [] 0 Try.func28 (by decide) rfl (keep_Ints_ac r_382 r_383 r_384 h_r_384) rfl ⟨(argE (by (conv => lhs; whnf); all_goals rfl) rfl), (argE (by (conv => lhs; whnf); all_goals rfl) rfl), trivial⟩ rfl trivial rfl rfl rfl lend0 trivial rfl, ?_⟩
                                conv => whnf
                                refine ⟨fun hb_563 => ?_, fun hb_563 => ?_⟩
                                · replace hL1 := cond_f hb_563 hL1
                                  conv => whnf
                                  obtain ⟨r_385, h_r_385, hL1⟩ := bind_some hL1
                                  refine ⟨_, _, _, _, _, _, _, _, _, callX false [] [] 0 Try.func20 (by decide) rfl (screen_Alarms_ac (⟨(⟨i_15, i_16, i_17, i_18⟩ : A4_Int), i_19, a_20⟩ : Screening) r_385 h_r_385) rfl ⟨(argE (by (conv => lhs; whnf); all_goals rfl) rfl), trivial⟩ rfl trivial rfl rfl rfl lend0 trivial rfl, ?_⟩
                                  conv => whnf
                                  obtain ⟨r_386, h_r_386, hL1⟩ := bind_some hL1
                                  refine ⟨_, _, _, _, _, _, _, _, _, callX false [] [] 0 Try.func31 (by decide) rfl (ref15_Alarms_ac (⟨(⟨i_21, i_22, i_23, i_24⟩ : A4_Int), i_25, a_26⟩ : Screening) r_386 h_r_386) rfl ⟨(argE (by (conv => lhs; whnf); all_goals rfl) rfl), trivial⟩ rfl trivial rfl rfl rfl lend0 trivial rfl, ?_⟩
                                  conv => whnf
                                  obtain ⟨r_387, h_r_387, hL1⟩ := bind_some hL1
                                  refine ⟨_, _, _, _, _, _, _, _, _, callX false [] [] 0 Try.func30 (by decide) rfl (law15_same_ac r_385 r_386 r_387 h_r_387) rfl ⟨(argE (by (conv => lhs; whnf); all_goals rfl) rfl), (argE (by (conv => lhs; whnf); all_goals rfl) rfl), trivial⟩ rfl trivial rfl rfl rfl lend0 trivial rfl, ?_⟩
                                  conv => whnf
                                  refine ⟨by kernel_rfl, ?_⟩
                                  conv => whnf
                                  refine ⟨fun hb_564 => ?_, fun hb_564 => ?_⟩
                                  · replace hL1 := cond_t hb_564 hL1
                                    conv => whnf
                                    obtain rfl := Option.some.inj hL1
                                    replace hF := fin_ret hF
                                    obtain rfl := Option.some.inj hF
                                    exact ret_gz [] [] [] rfl (argFl (by (conv => lhs; whnf); all_goals rfl)) trivial
                                  · replace hL1 := cond_f hb_564 hL1
                                    conv => whnf
                                    refine ⟨_, rfl, ?_⟩
                                    conv => whnf
                                    exact ⟨(q_388, z_370.2.2.2.2.2.2.2.2.2.2.2.2.2.2.1, z_370.2.2.2.2.2.2.2.2.2.2.2.2.2.2.2.1, i_15, i_16, i_17, i_18, i_19, a_20, i_21, i_22, i_23, i_24, i_25, a_26, (w64 (i_27 + r_209.1)), (w64 (i_28 + (1 : Int)))), [0, 1, 2], [], [], hL1, Nat.lt_succ_self _, wk_mk [0, 1, 2] [] [] rfl ⟨argE (by (conv => lhs; whnf); all_goals rfl) rfl, argE (by (conv => lhs; whnf); all_goals rfl) rfl, argE (by (conv => lhs; whnf); all_goals rfl) rfl, argP (id := 0) (by (conv => lhs; whnf); all_goals rfl) rfl, argP (id := 1) (by (conv => lhs; whnf); all_goals rfl) rfl, argP (id := 2) (by (conv => lhs; whnf); all_goals rfl) rfl, argE (by (conv => lhs; whnf); all_goals rfl) rfl, argE (by (conv => lhs; whnf); all_goals rfl) rfl, trivial⟩ ⟨boxL rfl rfl rfl ⟨(.ni _ rfl), (.ni _ rfl), trivial⟩, boxL rfl rfl rfl ⟨(.ni _ rfl), (.ni _ rfl), (.ni _ rfl), (.ni _ rfl), (.ni _ rfl), (.ni _ rfl), trivial⟩, boxL rfl rfl rfl ⟨(.ni _ rfl), (.ni _ rfl), (.ni _ rfl), (.ni _ rfl), (.ni _ rfl), (.ni _ rfl), trivial⟩, trivial⟩⟩
                                · replace hL1 := cond_t hb_563 hL1
                                  conv => whnf
                                  refine ⟨by kernel_rfl, ?_⟩
                                  conv => whnf
                                  obtain rfl := Option.some.inj hL1
                                  replace hF := fin_ret hF
                                  obtain rfl := Option.some.inj hF
                                  exact ret_gz [] [] [] rfl (argFl (by (conv => lhs; whnf); all_goals rfl)) trivial
                              · replace hL1 := cond_t hb_562 hL1
                                conv => whnf
                                refine ⟨by kernel_rfl, ?_⟩
                                conv => whnf
                                obtain rfl := Option.some.inj hL1
                                replace hF := fin_ret hF
                                obtain rfl := Option.some.inj hF
                                exact ret_gz [] [] [] rfl (argFl (by (conv => lhs; whnf); all_goals rfl)) trivial
                            · replace hL1 := cond_t hb_561 hL1
                              conv => whnf
                              refine ⟨by kernel_rfl, ?_⟩
                              conv => whnf
                              obtain rfl := Option.some.inj hL1
                              replace hF := fin_ret hF
                              obtain rfl := Option.some.inj hF
                              exact ret_gz [] [] [] rfl (argFl (by (conv => lhs; whnf); all_goals rfl)) trivial
                      · replace hL1 := cond_t hb_554 hL1
                        conv => whnf
                        obtain rfl := Option.some.inj hL1
                        replace hF := fin_ret hF
                        obtain rfl := Option.some.inj hF
                        exact ret_gz [] [] [] rfl (argFl (by (conv => lhs; whnf); all_goals rfl)) trivial
                    · replace hL1 := cond_t hb_553 hL1
                      conv => whnf
                      obtain rfl := Option.some.inj hL1
                      replace hF := fin_ret hF
                      obtain rfl := Option.some.inj hF
                      exact ret_gz [] [] [] rfl (argFl (by (conv => lhs; whnf); all_goals rfl)) trivial
              · replace hL1 := cond_f hb_501 hL1
                conv => whnf
                obtain rfl := Option.some.inj hL1
                replace hF := fin_brk hF
                try dsimp only at hF
                obtain ⟨r_390, h_r_390, hF⟩ := bind_some hF
                refine ⟨_, _, _, _, _, _, _, _, _, callX false [] [] 0 Try.func15 (by decide) rfl (law15_awake_ac r_390 h_r_390) rfl trivial rfl trivial rfl rfl rfl lend0 trivial rfl, ?_⟩
                conv => whnf
                obtain rfl := Option.some.inj hF
                exact ret_gz [] [] [] rfl (argE (by (conv => lhs; whnf); all_goals rfl) rfl) trivial
            · replace hL1 := cond_t hb_437 hL1
              conv => whnf
              refine sw_blk tab_ok follows_ok ?_
              conv => whnf
              obtain ⟨r_29, h_r_29, hL1⟩ := bind_some hL1
              refine ⟨_, _, _, _, _, _, _, _, _, callX true [0] [3] 0 Try.func23 (by decide) rfl (keep_Src_Pick_ac (⟨a_13, i_14⟩ : Src) ([(0 : Int), (1 : Int), (0 : Int), (2 : Int), (7 : Int)] : List Int) r_29 h_r_29) rfl ⟨(argP (id := 0) (by (conv => lhs; whnf); all_goals rfl) rfl), (argOL 3 (by (conv => lhs; whnf); all_goals rfl) rfl rfl (map_ni (fun _ => ⟨rfl, rfl⟩) _)), trivial⟩ rfl ⟨rfl, trivial⟩ rfl rfl rfl giveU ⟨rfl, trivial⟩ rfl, ?_⟩
              conv => whnf
              refine ⟨_, rfl, ?_⟩
              conv => whnf
              obtain ⟨r_30, h_r_30, hL1⟩ := bind_some hL1
              refine ⟨_, _, _, _, _, _, _, _, _, callX false [0] [] 0 Try.func12 (by decide) rfl (keep_Src_Range_ac r_29.2 (0 : Int) (6 : Int) r_30 h_r_30) rfl ⟨(argP (id := 0) (by (conv => lhs; whnf); all_goals rfl) rfl), (argE (by (conv => lhs; whnf); all_goals rfl) rfl), (argE (by (conv => lhs; whnf); all_goals rfl) rfl), trivial⟩ rfl ⟨rfl, trivial⟩ rfl rfl rfl lend0 ⟨rfl, trivial⟩ rfl, ?_⟩
              conv => whnf
              obtain ⟨r_31, h_r_31, hL1⟩ := bind_some hL1
              refine ⟨_, _, _, _, _, _, _, _, _, callX false [0] [] 0 Try.func10 (by decide) rfl (keep_Src_N_ac r_30.2 (10 : Int) r_31 h_r_31) rfl ⟨(argP (id := 0) (by (conv => lhs; whnf); all_goals rfl) rfl), (argE (by (conv => lhs; whnf); all_goals rfl) rfl), trivial⟩ rfl ⟨rfl, trivial⟩ rfl rfl rfl lend0 ⟨rfl, trivial⟩ rfl, ?_⟩
              conv => whnf
              refine ⟨fun hb_438 => ?_, fun hb_438 => ?_⟩
              · replace hL1 := cond_t hb_438 hL1
                conv => whnf
                refine ⟨fun hb_439 => ?_, fun hb_439 => ?_⟩
                · replace hL1 := cond_f hb_439 hL1
                  conv => whnf
                  refine ⟨fun hb_455 => ?_, fun hb_455 => ?_⟩
                  · replace hL1 := cond_t hb_455 hL1
                    conv => whnf
                    obtain ⟨r_76, h_r_76, hL1⟩ := bind_some hL1
                    refine ⟨_, _, _, _, _, _, _, _, _, callX false [0] [] 0 Try.func10 (by decide) rfl (keep_Src_N_ac r_31.2 (4 : Int) r_76 h_r_76) rfl ⟨(argP (id := 0) (by (conv => lhs; whnf); all_goals rfl) rfl), (argE (by (conv => lhs; whnf); all_goals rfl) rfl), trivial⟩ rfl ⟨rfl, trivial⟩ rfl rfl rfl lend0 ⟨rfl, trivial⟩ rfl, ?_⟩
                    conv => whnf
                    obtain ⟨D_456, cJ_456, hJ_456, hB_456, hD_456, hR_456⟩ := sub_join hL1
                    refine sw_blkj tab_ok follows_ok (fun y : Int × Int × Int × Int × Int × Int × Int × (List Check) × Int × Int × Int × Int × Int × (List Check) × (List Int) × Int × Int × Int => ⟨eL [(2, .int .i64 x_2), (3, .int .i64 x_3), (4, .int .i64 x_4), (11, .ptr 0 0), (12, .ptr 1 0), (14, .ptr 2 0), (17, .int .i64 (w64 (i_27 + r_29.1))), (18, .int .i64 i_28), (19, .int .i64 x_2), (22, .ptr 3 0), (23, .int .i64 y.2.2.2.2.2.2.2.2.2.2.2.2.2.2.2.2.1), (24, .int .i64 y.1), (25, .ptr 4 0), (26, .int .i64 y.2.2.2.2.2.2.2.2.2.2.2.2.2.2.2.2.2), (27, .int .i64 y.2.1)], hL [(0, .box [.lst 1 (y.2.2.2.2.2.2.2.2.2.2.2.2.2.2.1.map iA), .int .i64 y.2.2.2.2.2.2.2.2.2.2.2.2.2.2.2.1]), (1, .box [.int .i64 i_15, .int .i64 i_16, .int .i64 i_17, .int .i64 i_18, .int .i64 i_19, .lst 5 (a_20.map encCheck)]), (2, .box [.int .i64 i_21, .int .i64 i_22, .int .i64 i_23, .int .i64 i_24, .int .i64 i_25, .lst 5 (a_26.map encCheck)]), (3, .box [.int .i64 y.2.2.1, .int .i64 y.2.2.2.1, .int .i64 y.2.2.2.2.1, .int .i64 y.2.2.2.2.2.1, .int .i64 y.2.2.2.2.2.2.1, .lst 5 (y.2.2.2.2.2.2.2.1.map encCheck)]), (4, .box [.int .i64 y.2.2.2.2.2.2.2.2.1, .int .i64 y.2.2.2.2.2.2.2.2.2.1, .int .i64 y.2.2.2.2.2.2.2.2.2.2.1, .int .i64 y.2.2.2.2.2.2.2.2.2.2.2.1, .int .i64 y.2.2.2.2.2.2.2.2.2.2.2.2.1, .lst 5 (y.2.2.2.2.2.2.2.2.2.2.2.2.2.1.map encCheck)])], 5⟩) D_456 ?_ ?_
                    · conv => whnf
                      refine ⟨fun hb_457 => ?_, fun hb_457 => ?_⟩
                      · replace hJ_456 := cond_t hb_457 hJ_456
                        conv => whnf
                        obtain ⟨r_77, h_r_77, hJ_456⟩ := bind_some hJ_456
                        refine ⟨_, _, _, _, _, _, _, _, _, callX false [] [] 0 Try.func11 (by decide) rfl (screen_Start_ac (⟨(⟨i_15, i_16, i_17, i_18⟩ : A4_Int), i_19, a_20⟩ : Screening) x_2 x_4 r_77 h_r_77) rfl ⟨(argE (by (conv => lhs; whnf); all_goals rfl) rfl), (argE (by (conv => lhs; whnf); all_goals rfl) rfl), (argE (by (conv => lhs; whnf); all_goals rfl) rfl), trivial⟩ rfl trivial rfl rfl rfl lend0 trivial rfl, ?_⟩
                        conv => whnf
                        obtain ⟨r_78, h_r_78, hJ_456⟩ := bind_some hJ_456
                        refine ⟨_, _, _, _, _, _, _, _, _, callX false [] [] 0 Try.func24 (by decide) rfl (ref15_Start_ac (⟨(⟨i_21, i_22, i_23, i_24⟩ : A4_Int), i_25, a_26⟩ : Screening) x_2 x_4 r_78 h_r_78) rfl ⟨(argE (by (conv => lhs; whnf); all_goals rfl) rfl), (argE (by (conv => lhs; whnf); all_goals rfl) rfl), (argE (by (conv => lhs; whnf); all_goals rfl) rfl), trivial⟩ rfl trivial rfl rfl rfl lend0 trivial rfl, ?_⟩
                        conv => whnf
                        obtain rfl := Option.some.inj hJ_456
                        exact ⟨(r_77.2, r_78.2, r_77.1.Limits.e0, r_77.1.Limits.e1, r_77.1.Limits.e2, r_77.1.Limits.e3, r_77.1.Next, r_77.1.L, r_78.1.Limits.e0, r_78.1.Limits.e1, r_78.1.Limits.e2, r_78.1.Limits.e3, r_78.1.Next, r_78.1.L, r_76.2.L, r_76.2.At, (0 : Int), (0 : Int)), [0, 1, 2, 7, 8], [], [], hB_456 _ rfl, wk_mk [0, 1, 2, 7, 8] [] [] rfl ⟨argE (by (conv => lhs; whnf); all_goals rfl) rfl, argE (by (conv => lhs; whnf); all_goals rfl) rfl, argE (by (conv => lhs; whnf); all_goals rfl) rfl, argP (id := 0) (by (conv => lhs; whnf); all_goals rfl) rfl, argP (id := 1) (by (conv => lhs; whnf); all_goals rfl) rfl, argP (id := 2) (by (conv => lhs; whnf); all_goals rfl) rfl, argE (by (conv => lhs; whnf); all_goals rfl) rfl, argE (by (conv => lhs; whnf); all_goals rfl) rfl, argE (by (conv => lhs; whnf); all_goals rfl) rfl, argP (id := 7) (by (conv => lhs; whnf); all_goals rfl) rfl, argE (by (conv => lhs; whnf); all_goals rfl) rfl, argE (by (conv => lhs; whnf); all_goals rfl) rfl, argP (id := 8) (by (conv => lhs; whnf); all_goals rfl) rfl, argE (by (conv => lhs; whnf); all_goals rfl) rfl, argE (by (conv => lhs; whnf); all_goals rfl) rfl, trivial⟩ ⟨boxL rfl rfl rfl ⟨(.ni _ rfl), (.ni _ rfl), trivial⟩, boxL rfl rfl rfl ⟨(.ni _ rfl), (.ni _ rfl), (.ni _ rfl), (.ni _ rfl), (.ni _ rfl), (.ni _ rfl), trivial⟩, boxL rfl rfl rfl ⟨(.ni _ rfl), (.ni _ rfl), (.ni _ rfl), (.ni _ rfl), (.ni _ rfl), (.ni _ rfl), trivial⟩, boxL rfl rfl rfl ⟨(.ni _ rfl), (.ni _ rfl), (.ni _ rfl), (.ni _ rfl), (.ni _ rfl), (.ni _ rfl), trivial⟩, boxL rfl rfl rfl ⟨(.ni _ rfl), (.ni _ rfl), (.ni _ rfl), (.ni _ rfl), (.ni _ rfl), (.ni _ rfl), trivial⟩, trivial⟩⟩
                      · replace hJ_456 := cond_f hb_457 hJ_456
                        conv => whnf
                        refine ⟨fun hb_458 => ?_, fun hb_458 => ?_⟩
                        · replace hJ_456 := cond_t hb_458 hJ_456
                          conv => whnf
                          obtain ⟨r_79, h_r_79, hJ_456⟩ := bind_some hJ_456
                          refine ⟨_, _, _, _, _, _, _, _, _, callX false [] [] 0 Try.func13 (by decide) rfl (screen_Expire_ac (⟨(⟨i_15, i_16, i_17, i_18⟩ : A4_Int), i_19, a_20⟩ : Screening) x_4 r_79 h_r_79) rfl ⟨(argE (by (conv => lhs; whnf); all_goals rfl) rfl), (argE (by (conv => lhs; whnf); all_goals rfl) rfl), trivial⟩ rfl trivial rfl rfl rfl lend0 trivial rfl, ?_⟩
                          conv => whnf
                          obtain ⟨r_80, h_r_80, hJ_456⟩ := bind_some hJ_456
                          refine ⟨_, _, _, _, _, _, _, _, _, callX false [] [] 0 Try.func25 (by decide) rfl (ref15_Expire_ac (⟨(⟨i_21, i_22, i_23, i_24⟩ : A4_Int), i_25, a_26⟩ : Screening) x_4 r_80 h_r_80) rfl ⟨(argE (by (conv => lhs; whnf); all_goals rfl) rfl), (argE (by (conv => lhs; whnf); all_goals rfl) rfl), trivial⟩ rfl trivial rfl rfl rfl lend0 trivial rfl, ?_⟩
                          conv => whnf
                          obtain rfl := Option.some.inj hJ_456
                          exact ⟨(r_79.2, r_80.2, r_79.1.Limits.e0, r_79.1.Limits.e1, r_79.1.Limits.e2, r_79.1.Limits.e3, r_79.1.Next, r_79.1.L, r_80.1.Limits.e0, r_80.1.Limits.e1, r_80.1.Limits.e2, r_80.1.Limits.e3, r_80.1.Next, r_80.1.L, r_76.2.L, r_76.2.At, (0 : Int), (0 : Int)), [0, 1, 2, 7, 8], [], [], hB_456 _ rfl, wk_mk [0, 1, 2, 7, 8] [] [] rfl ⟨argE (by (conv => lhs; whnf); all_goals rfl) rfl, argE (by (conv => lhs; whnf); all_goals rfl) rfl, argE (by (conv => lhs; whnf); all_goals rfl) rfl, argP (id := 0) (by (conv => lhs; whnf); all_goals rfl) rfl, argP (id := 1) (by (conv => lhs; whnf); all_goals rfl) rfl, argP (id := 2) (by (conv => lhs; whnf); all_goals rfl) rfl, argE (by (conv => lhs; whnf); all_goals rfl) rfl, argE (by (conv => lhs; whnf); all_goals rfl) rfl, argE (by (conv => lhs; whnf); all_goals rfl) rfl, argP (id := 7) (by (conv => lhs; whnf); all_goals rfl) rfl, argE (by (conv => lhs; whnf); all_goals rfl) rfl, argE (by (conv => lhs; whnf); all_goals rfl) rfl, argP (id := 8) (by (conv => lhs; whnf); all_goals rfl) rfl, argE (by (conv => lhs; whnf); all_goals rfl) rfl, argE (by (conv => lhs; whnf); all_goals rfl) rfl, trivial⟩ ⟨boxL rfl rfl rfl ⟨(.ni _ rfl), (.ni _ rfl), trivial⟩, boxL rfl rfl rfl ⟨(.ni _ rfl), (.ni _ rfl), (.ni _ rfl), (.ni _ rfl), (.ni _ rfl), (.ni _ rfl), trivial⟩, boxL rfl rfl rfl ⟨(.ni _ rfl), (.ni _ rfl), (.ni _ rfl), (.ni _ rfl), (.ni _ rfl), (.ni _ rfl), trivial⟩, boxL rfl rfl rfl ⟨(.ni _ rfl), (.ni _ rfl), (.ni _ rfl), (.ni _ rfl), (.ni _ rfl), (.ni _ rfl), trivial⟩, boxL rfl rfl rfl ⟨(.ni _ rfl), (.ni _ rfl), (.ni _ rfl), (.ni _ rfl), (.ni _ rfl), (.ni _ rfl), trivial⟩, trivial⟩⟩
                        · replace hJ_456 := cond_f hb_458 hJ_456
                          conv => whnf
                          obtain ⟨r_81, h_r_81, hJ_456⟩ := bind_some hJ_456
                          refine ⟨_, _, _, _, _, _, _, _, _, callX false [0] [] 0 Try.func10 (by decide) rfl (keep_Src_N_ac r_76.2 (3 : Int) r_81 h_r_81) rfl ⟨(argP (id := 0) (by (conv => lhs; whnf); all_goals rfl) rfl), (argE (by (conv => lhs; whnf); all_goals rfl) rfl), trivial⟩ rfl ⟨rfl, trivial⟩ rfl rfl rfl lend0 ⟨rfl, trivial⟩ rfl, ?_⟩
                          conv => whnf
                          obtain ⟨r_82, h_r_82, hJ_456⟩ := bind_some hJ_456
                          refine ⟨_, _, _, _, _, _, _, _, _, callX false [] [] 0 Try.func14 (by decide) rfl (screen_Verdict_ac (⟨(⟨i_15, i_16, i_17, i_18⟩ : A4_Int), i_19, a_20⟩ : Screening) x_3 (r_81.1 == (0 : Int)) x_4 r_82 h_r_82) rfl ⟨(argE (by (conv => lhs; whnf); all_goals rfl) rfl), (argE (by (conv => lhs; whnf); all_goals rfl) rfl), (argE (by (conv => lhs; whnf); all_goals rfl) rfl), (argE (by (conv => lhs; whnf); all_goals rfl) rfl), trivial⟩ rfl trivial rfl rfl rfl lend0 trivial rfl, ?_⟩
                          conv => whnf
                          obtain ⟨r_83, h_r_83, hJ_456⟩ := bind_some hJ_456
                          refine ⟨_, _, _, _, _, _, _, _, _, callX false [] [] 0 Try.func26 (by decide) rfl (ref15_Verdict_ac (⟨(⟨i_21, i_22, i_23, i_24⟩ : A4_Int), i_25, a_26⟩ : Screening) x_3 (r_81.1 == (0 : Int)) x_4 r_83 h_r_83) rfl ⟨(argE (by (conv => lhs; whnf); all_goals rfl) rfl), (argE (by (conv => lhs; whnf); all_goals rfl) rfl), (argE (by (conv => lhs; whnf); all_goals rfl) rfl), (argE (by (conv => lhs; whnf); all_goals rfl) rfl), trivial⟩ rfl trivial rfl rfl rfl lend0 trivial rfl, ?_⟩
                          conv => whnf
                          obtain rfl := Option.some.inj hJ_456
                          exact ⟨(r_82.2.2, r_83.2.2, r_82.1.Limits.e0, r_82.1.Limits.e1, r_82.1.Limits.e2, r_82.1.Limits.e3, r_82.1.Next, r_82.1.L, r_83.1.Limits.e0, r_83.1.Limits.e1, r_83.1.Limits.e2, r_83.1.Limits.e3, r_83.1.Next, r_83.1.L, r_81.2.L, r_81.2.At, r_82.2.1, r_83.2.1), [0, 1, 2, 7, 8], [], [], hB_456 _ rfl, wk_mk [0, 1, 2, 7, 8] [] [] rfl ⟨argE (by (conv => lhs; whnf); all_goals rfl) rfl, argE (by (conv => lhs; whnf); all_goals rfl) rfl, argE (by (conv => lhs; whnf); all_goals rfl) rfl, argP (id := 0) (by (conv => lhs; whnf); all_goals rfl) rfl, argP (id := 1) (by (conv => lhs; whnf); all_goals rfl) rfl, argP (id := 2) (by (conv => lhs; whnf); all_goals rfl) rfl, argE (by (conv => lhs; whnf); all_goals rfl) rfl, argE (by (conv => lhs; whnf); all_goals rfl) rfl, argE (by (conv => lhs; whnf); all_goals rfl) rfl, argP (id := 7) (by (conv => lhs; whnf); all_goals rfl) rfl, argE (by (conv => lhs; whnf); all_goals rfl) rfl, argE (by (conv => lhs; whnf); all_goals rfl) rfl, argP (id := 8) (by (conv => lhs; whnf); all_goals rfl) rfl, argE (by (conv => lhs; whnf); all_goals rfl) rfl, argE (by (conv => lhs; whnf); all_goals rfl) rfl, trivial⟩ ⟨boxL rfl rfl rfl ⟨(.ni _ rfl), (.ni _ rfl), trivial⟩, boxL rfl rfl rfl ⟨(.ni _ rfl), (.ni _ rfl), (.ni _ rfl), (.ni _ rfl), (.ni _ rfl), (.ni _ rfl), trivial⟩, boxL rfl rfl rfl ⟨(.ni _ rfl), (.ni _ rfl), (.ni _ rfl), (.ni _ rfl), (.ni _ rfl), (.ni _ rfl), trivial⟩, boxL rfl rfl rfl ⟨(.ni _ rfl), (.ni _ rfl), (.ni _ rfl), (.ni _ rfl), (.ni _ rfl), (.ni _ rfl), trivial⟩, boxL rfl rfl rfl ⟨(.ni _ rfl), (.ni _ rfl), (.ni _ rfl), (.ni _ rfl), (.ni _ rfl), (.ni _ rfl), trivial⟩, trivial⟩⟩
                    · rintro z_102 hx_456
                      replace hL1 := hD_456 _ hx_456
                      try dsimp only at hL1
                      conv => whnf
                      refine ⟨fun hb_459 => ?_, fun hb_459 => ?_⟩
                      · replace hL1 := cond_f hb_459 hL1
                        conv => whnf
                        refine ⟨fun hb_460 => ?_, fun hb_460 => ?_⟩
                        · replace hL1 := cond_f hb_460 hL1
                          conv => whnf
                          obtain ⟨r_103, h_r_103, hL1⟩ := bind_some hL1
                          refine ⟨_, _, _, _, _, _, _, _, _, callX false [] [] 0 Try.func22 (by decide) rfl (ref15_Same_ac (⟨(⟨z_102.2.2.1, z_102.2.2.2.1, z_102.2.2.2.2.1, z_102.2.2.2.2.2.1⟩ : A4_Int), z_102.2.2.2.2.2.2.1, z_102.2.2.2.2.2.2.2.1⟩ : Screening) (⟨(⟨z_102.2.2.2.2.2.2.2.2.1, z_102.2.2.2.2.2.2.2.2.2.1, z_102.2.2.2.2.2.2.2.2.2.2.1, z_102.2.2.2.2.2.2.2.2.2.2.2.1⟩ : A4_Int), z_102.2.2.2.2.2.2.2.2.2.2.2.2.1, z_102.2.2.2.2.2.2.2.2.2.2.2.2.2.1⟩ : Screening) r_103 h_r_103) rfl ⟨(argE (by (conv => lhs; whnf); all_goals rfl) rfl), (argE (by (conv => lhs; whnf); all_goals rfl) rfl), trivial⟩ rfl trivial rfl rfl rfl lend0 trivial rfl, ?_⟩
                          conv => whnf
                          refine ⟨fun hb_461 => ?_, fun hb_461 => ?_⟩
                          · replace hL1 := cond_t hb_461 hL1
                            conv => whnf
                            obtain rfl := Option.some.inj hL1
                            replace hF := fin_ret hF
                            obtain rfl := Option.some.inj hF
                            exact ret_gz [] [] [] rfl (argFl (by (conv => lhs; whnf); all_goals rfl)) trivial
                          · replace hL1 := cond_f hb_461 hL1
                            conv => whnf
                            refine ⟨fun hb_462 => ?_, fun hb_462 => ?_⟩
                            · replace hL1 := cond_t hb_462 hL1
                              conv => whnf
                              refine ⟨by kernel_rfl, ?_⟩
                              conv => whnf
                              obtain ⟨r_104, h_r_104, hL1⟩ := bind_some hL1
                              refine ⟨_, _, _, _, _, _, _, _, _, callX false [] [] 0 Try.func16 (by decide) rfl (screen_Find_ac (⟨(⟨z_102.2.2.1, z_102.2.2.2.1, z_102.2.2.2.2.1, z_102.2.2.2.2.2.1⟩ : A4_Int), z_102.2.2.2.2.2.2.1, z_102.2.2.2.2.2.2.2.1⟩ : Screening) x_2 r_104 h_r_104) rfl ⟨(argE (by (conv => lhs; whnf); all_goals rfl) rfl), (argE (by (conv => lhs; whnf); all_goals rfl) rfl), trivial⟩ rfl trivial rfl rfl rfl lend0 trivial rfl, ?_⟩
                              conv => whnf
                              obtain ⟨r_105, h_r_105, hL1⟩ := bind_some hL1
                              refine ⟨_, _, _, _, _, _, _, _, _, callX false [] [] 0 Try.func27 (by decide) rfl (ref15_Find_ac (⟨(⟨z_102.2.2.2.2.2.2.2.2.1, z_102.2.2.2.2.2.2.2.2.2.1, z_102.2.2.2.2.2.2.2.2.2.2.1, z_102.2.2.2.2.2.2.2.2.2.2.2.1⟩ : A4_Int), z_102.2.2.2.2.2.2.2.2.2.2.2.2.1, z_102.2.2.2.2.2.2.2.2.2.2.2.2.2.1⟩ : Screening) x_2 r_105 h_r_105) rfl ⟨(argE (by (conv => lhs; whnf); all_goals rfl) rfl), (argE (by (conv => lhs; whnf); all_goals rfl) rfl), trivial⟩ rfl trivial rfl rfl rfl lend0 trivial rfl, ?_⟩
                              conv => whnf
                              refine ⟨fun hb_463 => ?_, fun hb_463 => ?_⟩
                              · replace hL1 := cond_f hb_463 hL1
                                conv => whnf
                                refine ⟨fun hb_464 => ?_, fun hb_464 => ?_⟩
                                · replace hL1 := cond_f hb_464 hL1
                                  conv => whnf
                                  obtain ⟨r_106, h_r_106, hL1⟩ := bind_some hL1
                                  refine ⟨_, _, _, _, _, _, _, _, _, callX false [] [] 0 Try.func18 (by decide) rfl (screen_Cleared_ac (⟨(⟨z_102.2.2.1, z_102.2.2.2.1, z_102.2.2.2.2.1, z_102.2.2.2.2.2.1⟩ : A4_Int), z_102.2.2.2.2.2.2.1, z_102.2.2.2.2.2.2.2.1⟩ : Screening) r_106 h_r_106) rfl ⟨(argE (by (conv => lhs; whnf); all_goals rfl) rfl), trivial⟩ rfl trivial rfl rfl rfl lend0 trivial rfl, ?_⟩
                                  conv => whnf
                                  obtain ⟨r_107, h_r_107, hL1⟩ := bind_some hL1
                                  refine ⟨_, _, _, _, _, _, _, _, _, callX false [] [] 0 Try.func29 (by decide) rfl (ref15_Cleared_ac (⟨(⟨z_102.2.2.2.2.2.2.2.2.1, z_102.2.2.2.2.2.2.2.2.2.1, z_102.2.2.2.2.2.2.2.2.2.2.1, z_102.2.2.2.2.2.2.2.2.2.2.2.1⟩ : A4_Int), z_102.2.2.2.2.2.2.2.2.2.2.2.2.1, z_102.2.2.2.2.2.2.2.2.2.2.2.2.2.1⟩ : Screening) r_107 h_r_107) rfl ⟨(argE (by (conv => lhs; whnf); all_goals rfl) rfl), trivial⟩ rfl trivial rfl rfl rfl lend0 trivial rfl, ?_⟩
                                  conv => whnf
                                  obtain ⟨r_108, h_r_108, hL1⟩ := bind_some hL1
                                  refine ⟨_, _, _, _, _, _, _, _, _, callX false [] [] 0 Try.func28 (by decide) rfl (keep_Ints_ac r_106 r_107 r_108 h_r_108) rfl ⟨(argE (by (conv => lhs; whnf); all_goals rfl) rfl), (argE (by (conv => lhs; whnf); all_goals rfl) rfl), trivial⟩ rfl trivial rfl rfl rfl lend0 trivial rfl, ?_⟩
                                  conv => whnf
                                  refine ⟨fun hb_465 => ?_, fun hb_465 => ?_⟩
                                  · replace hL1 := cond_f hb_465 hL1
                                    conv => whnf
                                    obtain ⟨r_109, h_r_109, hL1⟩ := bind_some hL1
                                    refine ⟨_, _, _, _, _, _, _, _, _, callX false [] [] 0 Try.func20 (by decide) rfl (screen_Alarms_ac (⟨(⟨z_102.2.2.1, z_102.2.2.2.1, z_102.2.2.2.2.1, z_102.2.2.2.2.2.1⟩ : A4_Int), z_102.2.2.2.2.2.2.1, z_102.2.2.2.2.2.2.2.1⟩ : Screening) r_109 h_r_109) rfl ⟨(argE (by (conv => lhs; whnf); all_goals rfl) rfl), trivial⟩ rfl trivial rfl rfl rfl lend0 trivial rfl, ?_⟩
                                    conv => whnf
                                    obtain ⟨r_110, h_r_110, hL1⟩ := bind_some hL1
                                    refine ⟨_, _, _, _, _, _, _, _, _, callX false [] [] 0 Try.func31 (by decide) rfl (ref15_Alarms_ac (⟨(⟨z_102.2.2.2.2.2.2.2.2.1, z_102.2.2.2.2.2.2.2.2.2.1, z_102.2.2.2.2.2.2.2.2.2.2.1, z_102.2.2.2.2.2.2.2.2.2.2.2.1⟩ : A4_Int), z_102.2.2.2.2.2.2.2.2.2.2.2.2.1, z_102.2.2.2.2.2.2.2.2.2.2.2.2.2.1⟩ : Screening) r_110 h_r_110) rfl ⟨(argE (by (conv => lhs; whnf); all_goals rfl) rfl), trivial⟩ rfl trivial rfl rfl rfl lend0 trivial rfl, ?_⟩
                                    conv => whnf
                                    obtain ⟨r_111, h_r_111, hL1⟩ := bind_some hL1
                                    refine ⟨_, _, _, _, _, _, _, _, _, callX false [] [] 0 Try.func30 (by decide) rfl (law15_same_ac r_109 r_110 r_111 h_r_111) rfl ⟨(argE (by (conv => lhs; whnf); all_goals rfl) rfl), (argE (by (conv => lhs; whnf); all_goals rfl) rfl), trivial⟩ rfl trivial rfl rfl rfl lend0 trivial rfl, ?_⟩
                                    conv => whnf
                                    refine ⟨by kernel_rfl, ?_⟩
                                    conv => whnf
                                    refine ⟨fun hb_466 => ?_, fun hb_466 => ?_⟩
                                    · replace hL1 := cond_t hb_466 hL1
                                      conv => whnf
                                      obtain rfl := Option.some.inj hL1
                                      replace hF := fin_ret hF
                                      obtain rfl := Option.some.inj hF
                                      exact ret_gz [] [] [] rfl (argFl (by (conv => lhs; whnf); all_goals rfl)) trivial
                                    · replace hL1 := cond_f hb_466 hL1
                                      conv => whnf
                                      refine ⟨_, rfl, ?_⟩
                                      conv => whnf
                                      exact ⟨(q_388, z_102.2.2.2.2.2.2.2.2.2.2.2.2.2.2.1, z_102.2.2.2.2.2.2.2.2.2.2.2.2.2.2.2.1, z_102.2.2.1, z_102.2.2.2.1, z_102.2.2.2.2.1, z_102.2.2.2.2.2.1, z_102.2.2.2.2.2.2.1, z_102.2.2.2.2.2.2.2.1, z_102.2.2.2.2.2.2.2.2.1, z_102.2.2.2.2.2.2.2.2.2.1, z_102.2.2.2.2.2.2.2.2.2.2.1, z_102.2.2.2.2.2.2.2.2.2.2.2.1, z_102.2.2.2.2.2.2.2.2.2.2.2.2.1, z_102.2.2.2.2.2.2.2.2.2.2.2.2.2.1, (w64 (i_27 + r_29.1)), (w64 (i_28 + (1 : Int)))), [0, 1, 2], [], [], hL1, Nat.lt_succ_self _, wk_mk [0, 1, 2] [] [] rfl ⟨argE (by (conv => lhs; whnf); all_goals rfl) rfl, argE (by (conv => lhs; whnf); all_goals rfl) rfl, argE (by (conv => lhs; whnf); all_goals rfl) rfl, argP (id := 0) (by (conv => lhs; whnf); all_goals rfl) rfl, argP (id := 1) (by (conv => lhs; whnf); all_goals rfl) rfl, argP (id := 2) (by (conv => lhs; whnf); all_goals rfl) rfl, argE (by (conv => lhs; whnf); all_goals rfl) rfl, argE (by (conv => lhs; whnf); all_goals rfl) rfl, trivial⟩ ⟨boxL rfl rfl rfl ⟨(.ni _ rfl), (.ni _ rfl), trivial⟩, boxL rfl rfl rfl ⟨(.ni _ rfl), (.ni _ rfl), (.ni _ rfl), (.ni _ rfl), (.ni _ rfl), (.ni _ rfl), trivial⟩, boxL rfl rfl rfl ⟨(.ni _ rfl), (.ni _ rfl), (.ni _ rfl), (.ni _ rfl), (.ni _ rfl), (.ni _ rfl), trivial⟩, trivial⟩⟩
                                  · replace hL1 := cond_t hb_465 hL1
                                    conv => whnf
                                    refine ⟨by kernel_rfl, ?_⟩
                                    conv => whnf
                                    obtain rfl := Option.some.inj hL1
                                    replace hF := fin_ret hF
                                    obtain rfl := Option.some.inj hF
                                    exact ret_gz [] [] [] rfl (argFl (by (conv => lhs; whnf); all_goals rfl)) trivial
                                · replace hL1 := cond_t hb_464 hL1
                                  conv => whnf
                                  refine ⟨by kernel_rfl, ?_⟩
                                  conv => whnf
                                  obtain rfl := Option.some.inj hL1
                                  replace hF := fin_ret hF
                                  obtain rfl := Option.some.inj hF
                                  exact ret_gz [] [] [] rfl (argFl (by (conv => lhs; whnf); all_goals rfl)) trivial
                              · replace hL1 := cond_t hb_463 hL1
                                conv => whnf
                                refine ⟨by kernel_rfl, ?_⟩
                                conv => whnf
                                obtain rfl := Option.some.inj hL1
                                replace hF := fin_ret hF
                                obtain rfl := Option.some.inj hF
                                exact ret_gz [] [] [] rfl (argFl (by (conv => lhs; whnf); all_goals rfl)) trivial
                            · replace hL1 := cond_f hb_462 hL1
                              conv => whnf
                              obtain ⟨r_112, h_r_112, hL1⟩ := bind_some hL1
                              refine ⟨_, _, _, _, _, _, _, _, _, callX false [] [] 0 Try.func16 (by decide) rfl (screen_Find_ac (⟨(⟨i_15, i_16, i_17, i_18⟩ : A4_Int), i_19, a_20⟩ : Screening) x_2 r_112 h_r_112) rfl ⟨(argE (by (conv => lhs; whnf); all_goals rfl) rfl), (argE (by (conv => lhs; whnf); all_goals rfl) rfl), trivial⟩ rfl trivial rfl rfl rfl lend0 trivial rfl, ?_⟩
                              conv => whnf
                              obtain ⟨r_113, h_r_113, hL1⟩ := bind_some hL1
                              refine ⟨_, _, _, _, _, _, _, _, _, callX false [] [] 0 Try.func27 (by decide) rfl (ref15_Find_ac (⟨(⟨i_21, i_22, i_23, i_24⟩ : A4_Int), i_25, a_26⟩ : Screening) x_2 r_113 h_r_113) rfl ⟨(argE (by (conv => lhs; whnf); all_goals rfl) rfl), (argE (by (conv => lhs; whnf); all_goals rfl) rfl), trivial⟩ rfl trivial rfl rfl rfl lend0 trivial rfl, ?_⟩
                              conv => whnf
                              refine ⟨fun hb_467 => ?_, fun hb_467 => ?_⟩
                              · replace hL1 := cond_f hb_467 hL1
                                conv => whnf
                                refine ⟨fun hb_468 => ?_, fun hb_468 => ?_⟩
                                · replace hL1 := cond_f hb_468 hL1
                                  conv => whnf
                                  obtain ⟨r_114, h_r_114, hL1⟩ := bind_some hL1
                                  refine ⟨_, _, _, _, _, _, _, _, _, callX false [] [] 0 Try.func18 (by decide) rfl (screen_Cleared_ac (⟨(⟨i_15, i_16, i_17, i_18⟩ : A4_Int), i_19, a_20⟩ : Screening) r_114 h_r_114) rfl ⟨(argE (by (conv => lhs; whnf); all_goals rfl) rfl), trivial⟩ rfl trivial rfl rfl rfl lend0 trivial rfl, ?_⟩
                                  conv => whnf
                                  obtain ⟨r_115, h_r_115, hL1⟩ := bind_some hL1
                                  refine ⟨_, _, _, _, _, _, _, _, _, callX false [] [] 0 Try.func29 (by decide) rfl (ref15_Cleared_ac (⟨(⟨i_21, i_22, i_23, i_24⟩ : A4_Int), i_25, a_26⟩ : Screening) r_115 h_r_115) rfl ⟨(argE (by (conv => lhs; whnf); all_goals rfl) rfl), trivial⟩ rfl trivial rfl rfl rfl lend0 trivial rfl, ?_⟩
                                  conv => whnf
                                  obtain ⟨r_116, h_r_116, hL1⟩ := bind_some hL1
                                  refine ⟨_, _, _, _, _, _, _, _, _, callX false [] [] 0 Try.func28 (by decide) rfl (keep_Ints_ac r_114 r_115 r_116 h_r_116) rfl ⟨(argE (by (conv => lhs; whnf); all_goals rfl) rfl), (argE (by (conv => lhs; whnf); all_goals rfl) rfl), trivial⟩ rfl trivial rfl rfl rfl lend0 trivial rfl, ?_⟩
                                  conv => whnf
                                  refine ⟨fun hb_469 => ?_, fun hb_469 => ?_⟩
                                  · replace hL1 := cond_f hb_469 hL1
                                    conv => whnf
                                    obtain ⟨r_117, h_r_117, hL1⟩ := bind_some hL1
                                    refine ⟨_, _, _, _, _, _, _, _, _, callX false [] [] 0 Try.func20 (by decide) rfl (screen_Alarms_ac (⟨(⟨i_15, i_16, i_17, i_18⟩ : A4_Int), i_19, a_20⟩ : Screening) r_117 h_r_117) rfl ⟨(argE (by (conv => lhs; whnf); all_goals rfl) rfl), trivial⟩ rfl trivial rfl rfl rfl lend0 trivial rfl, ?_⟩
                                    conv => whnf
                                    obtain ⟨r_118, h_r_118, hL1⟩ := bind_some hL1
                                    refine ⟨_, _, _, _, _, _, _, _, _, callX false [] [] 0 Try.func31 (by decide) rfl (ref15_Alarms_ac (⟨(⟨i_21, i_22, i_23, i_24⟩ : A4_Int), i_25, a_26⟩ : Screening) r_118 h_r_118) rfl ⟨(argE (by (conv => lhs; whnf); all_goals rfl) rfl), trivial⟩ rfl trivial rfl rfl rfl lend0 trivial rfl, ?_⟩
                                    conv => whnf
                                    obtain ⟨r_119, h_r_119, hL1⟩ := bind_some hL1
                                    refine ⟨_, _, _, _, _, _, _, _, _, callX false [] [] 0 Try.func30 (by decide) rfl (law15_same_ac r_117 r_118 r_119 h_r_119) rfl ⟨(argE (by (conv => lhs; whnf); all_goals rfl) rfl), (argE (by (conv => lhs; whnf); all_goals rfl) rfl), trivial⟩ rfl trivial rfl rfl rfl lend0 trivial rfl, ?_⟩
                                    conv => whnf
                                    refine ⟨by kernel_rfl, ?_⟩
                                    conv => whnf
                                    refine ⟨fun hb_470 => ?_, fun hb_470 => ?_⟩
                                    · replace hL1 := cond_t hb_470 hL1
                                      conv => whnf
                                      obtain rfl := Option.some.inj hL1
                                      replace hF := fin_ret hF
                                      obtain rfl := Option.some.inj hF
                                      exact ret_gz [] [] [] rfl (argFl (by (conv => lhs; whnf); all_goals rfl)) trivial
                                    · replace hL1 := cond_f hb_470 hL1
                                      conv => whnf
                                      refine ⟨_, rfl, ?_⟩
                                      conv => whnf
                                      exact ⟨(q_388, z_102.2.2.2.2.2.2.2.2.2.2.2.2.2.2.1, z_102.2.2.2.2.2.2.2.2.2.2.2.2.2.2.2.1, i_15, i_16, i_17, i_18, i_19, a_20, i_21, i_22, i_23, i_24, i_25, a_26, (w64 (i_27 + r_29.1)), (w64 (i_28 + (1 : Int)))), [0, 1, 2], [], [], hL1, Nat.lt_succ_self _, wk_mk [0, 1, 2] [] [] rfl ⟨argE (by (conv => lhs; whnf); all_goals rfl) rfl, argE (by (conv => lhs; whnf); all_goals rfl) rfl, argE (by (conv => lhs; whnf); all_goals rfl) rfl, argP (id := 0) (by (conv => lhs; whnf); all_goals rfl) rfl, argP (id := 1) (by (conv => lhs; whnf); all_goals rfl) rfl, argP (id := 2) (by (conv => lhs; whnf); all_goals rfl) rfl, argE (by (conv => lhs; whnf); all_goals rfl) rfl, argE (by (conv => lhs; whnf); all_goals rfl) rfl, trivial⟩ ⟨boxL rfl rfl rfl ⟨(.ni _ rfl), (.ni _ rfl), trivial⟩, boxL rfl rfl rfl ⟨(.ni _ rfl), (.ni _ rfl), (.ni _ rfl), (.ni _ rfl), (.ni _ rfl), (.ni _ rfl), trivial⟩, boxL rfl rfl rfl ⟨(.ni _ rfl), (.ni _ rfl), (.ni _ rfl), (.ni _ rfl), (.ni _ rfl), (.ni _ rfl), trivial⟩, trivial⟩⟩
                                  · replace hL1 := cond_t hb_469 hL1
                                    conv => whnf
                                    refine ⟨by kernel_rfl, ?_⟩
                                    conv => whnf
                                    obtain rfl := Option.some.inj hL1
                                    replace hF := fin_ret hF
                                    obtain rfl := Option.some.inj hF
                                    exact ret_gz [] [] [] rfl (argFl (by (conv => lhs; whnf); all_goals rfl)) trivial
                                · replace hL1 := cond_t hb_468 hL1
                                  conv => whnf
                                  refine ⟨by kernel_rfl, ?_⟩
                                  conv => whnf
                                  obtain rfl := Option.some.inj hL1
                                  replace hF := fin_ret hF
                                  obtain rfl := Option.some.inj hF
                                  exact ret_gz [] [] [] rfl (argFl (by (conv => lhs; whnf); all_goals rfl)) trivial
                              · replace hL1 := cond_t hb_467 hL1
                                conv => whnf
                                refine ⟨by kernel_rfl, ?_⟩
                                conv => whnf
                                obtain rfl := Option.some.inj hL1
                                replace hF := fin_ret hF
                                obtain rfl := Option.some.inj hF
                                exact ret_gz [] [] [] rfl (argFl (by (conv => lhs; whnf); all_goals rfl)) trivial
                        · replace hL1 := cond_t hb_460 hL1
                          conv => whnf
                          obtain rfl := Option.some.inj hL1
                          replace hF := fin_ret hF
                          obtain rfl := Option.some.inj hF
                          exact ret_gz [] [] [] rfl (argFl (by (conv => lhs; whnf); all_goals rfl)) trivial
                      · replace hL1 := cond_t hb_459 hL1
                        conv => whnf
                        obtain rfl := Option.some.inj hL1
                        replace hF := fin_ret hF
                        obtain rfl := Option.some.inj hF
                        exact ret_gz [] [] [] rfl (argFl (by (conv => lhs; whnf); all_goals rfl)) trivial
                  · replace hL1 := cond_f hb_455 hL1
                    conv => whnf
                    obtain ⟨r_120, h_r_120, hL1⟩ := bind_some hL1
                    refine ⟨_, _, _, _, _, _, _, _, _, callX false [0] [] 0 Try.func10 (by decide) rfl (keep_Src_N_ac r_31.2 (4 : Int) r_120 h_r_120) rfl ⟨(argP (id := 0) (by (conv => lhs; whnf); all_goals rfl) rfl), (argE (by (conv => lhs; whnf); all_goals rfl) rfl), trivial⟩ rfl ⟨rfl, trivial⟩ rfl rfl rfl lend0 ⟨rfl, trivial⟩ rfl, ?_⟩
                    conv => whnf
                    obtain ⟨D_471, cJ_471, hJ_471, hB_471, hD_471, hR_471⟩ := sub_join hL1
                    refine sw_blkj tab_ok follows_ok (fun y : Int × Int × Int × Int × Int × Int × Int × (List Check) × Int × Int × Int × Int × Int × (List Check) × (List Int) × Int × Int × Int => ⟨eL [(2, .int .i64 x_2), (3, .int .i64 x_3), (4, .int .i64 x_4), (11, .ptr 0 0), (12, .ptr 1 0), (14, .ptr 2 0), (17, .int .i64 (w64 (i_27 + r_29.1))), (18, .int .i64 i_28), (19, .int .i64 x_2), (22, .ptr 3 0), (23, .int .i64 y.2.2.2.2.2.2.2.2.2.2.2.2.2.2.2.2.1), (24, .int .i64 y.1), (25, .ptr 4 0), (26, .int .i64 y.2.2.2.2.2.2.2.2.2.2.2.2.2.2.2.2.2), (27, .int .i64 y.2.1)], hL [(0, .box [.lst 1 (y.2.2.2.2.2.2.2.2.2.2.2.2.2.2.1.map iA), .int .i64 y.2.2.2.2.2.2.2.2.2.2.2.2.2.2.2.1]), (1, .box [.int .i64 i_15, .int .i64 i_16, .int .i64 i_17, .int .i64 i_18, .int .i64 i_19, .lst 5 (a_20.map encCheck)]), (2, .box [.int .i64 i_21, .int .i64 i_22, .int .i64 i_23, .int .i64 i_24, .int .i64 i_25, .lst 5 (a_26.map encCheck)]), (3, .box [.int .i64 y.2.2.1, .int .i64 y.2.2.2.1, .int .i64 y.2.2.2.2.1, .int .i64 y.2.2.2.2.2.1, .int .i64 y.2.2.2.2.2.2.1, .lst 5 (y.2.2.2.2.2.2.2.1.map encCheck)]), (4, .box [.int .i64 y.2.2.2.2.2.2.2.2.1, .int .i64 y.2.2.2.2.2.2.2.2.2.1, .int .i64 y.2.2.2.2.2.2.2.2.2.2.1, .int .i64 y.2.2.2.2.2.2.2.2.2.2.2.1, .int .i64 y.2.2.2.2.2.2.2.2.2.2.2.2.1, .lst 5 (y.2.2.2.2.2.2.2.2.2.2.2.2.2.1.map encCheck)])], 5⟩) D_471 ?_ ?_
                    · conv => whnf
                      refine ⟨fun hb_472 => ?_, fun hb_472 => ?_⟩
                      · replace hJ_471 := cond_t hb_472 hJ_471
                        conv => whnf
                        obtain ⟨r_121, h_r_121, hJ_471⟩ := bind_some hJ_471
                        refine ⟨_, _, _, _, _, _, _, _, _, callX false [] [] 0 Try.func11 (by decide) rfl (screen_Start_ac (⟨(⟨i_15, i_16, i_17, i_18⟩ : A4_Int), i_19, a_20⟩ : Screening) x_2 (w64 (i_27 + r_29.1)) r_121 h_r_121) rfl ⟨(argE (by (conv => lhs; whnf); all_goals rfl) rfl), (argE (by (conv => lhs; whnf); all_goals rfl) rfl), (argE (by (conv => lhs; whnf); all_goals rfl) rfl), trivial⟩ rfl trivial rfl rfl rfl lend0 trivial rfl, ?_⟩
                        conv => whnf
                        obtain ⟨r_122, h_r_122, hJ_471⟩ := bind_some hJ_471
                        refine ⟨_, _, _, _, _, _, _, _, _, callX false [] [] 0 Try.func24 (by decide) rfl (ref15_Start_ac (⟨(⟨i_21, i_22, i_23, i_24⟩ : A4_Int), i_25, a_26⟩ : Screening) x_2 (w64 (i_27 + r_29.1)) r_122 h_r_122) rfl ⟨(argE (by (conv => lhs; whnf); all_goals rfl) rfl), (argE (by (conv => lhs; whnf); all_goals rfl) rfl), (argE (by (conv => lhs; whnf); all_goals rfl) rfl), trivial⟩ rfl trivial rfl rfl rfl lend0 trivial rfl, ?_⟩
                        conv => whnf
                        obtain rfl := Option.some.inj hJ_471
                        exact ⟨(r_121.2, r_122.2, r_121.1.Limits.e0, r_121.1.Limits.e1, r_121.1.Limits.e2, r_121.1.Limits.e3, r_121.1.Next, r_121.1.L, r_122.1.Limits.e0, r_122.1.Limits.e1, r_122.1.Limits.e2, r_122.1.Limits.e3, r_122.1.Next, r_122.1.L, r_120.2.L, r_120.2.At, (0 : Int), (0 : Int)), [0, 1, 2, 7, 8], [], [], hB_471 _ rfl, wk_mk [0, 1, 2, 7, 8] [] [] rfl ⟨argE (by (conv => lhs; whnf); all_goals rfl) rfl, argE (by (conv => lhs; whnf); all_goals rfl) rfl, argE (by (conv => lhs; whnf); all_goals rfl) rfl, argP (id := 0) (by (conv => lhs; whnf); all_goals rfl) rfl, argP (id := 1) (by (conv => lhs; whnf); all_goals rfl) rfl, argP (id := 2) (by (conv => lhs; whnf); all_goals rfl) rfl, argE (by (conv => lhs; whnf); all_goals rfl) rfl, argE (by (conv => lhs; whnf); all_goals rfl) rfl, argE (by (conv => lhs; whnf); all_goals rfl) rfl, argP (id := 7) (by (conv => lhs; whnf); all_goals rfl) rfl, argE (by (conv => lhs; whnf); all_goals rfl) rfl, argE (by (conv => lhs; whnf); all_goals rfl) rfl, argP (id := 8) (by (conv => lhs; whnf); all_goals rfl) rfl, argE (by (conv => lhs; whnf); all_goals rfl) rfl, argE (by (conv => lhs; whnf); all_goals rfl) rfl, trivial⟩ ⟨boxL rfl rfl rfl ⟨(.ni _ rfl), (.ni _ rfl), trivial⟩, boxL rfl rfl rfl ⟨(.ni _ rfl), (.ni _ rfl), (.ni _ rfl), (.ni _ rfl), (.ni _ rfl), (.ni _ rfl), trivial⟩, boxL rfl rfl rfl ⟨(.ni _ rfl), (.ni _ rfl), (.ni _ rfl), (.ni _ rfl), (.ni _ rfl), (.ni _ rfl), trivial⟩, boxL rfl rfl rfl ⟨(.ni _ rfl), (.ni _ rfl), (.ni _ rfl), (.ni _ rfl), (.ni _ rfl), (.ni _ rfl), trivial⟩, boxL rfl rfl rfl ⟨(.ni _ rfl), (.ni _ rfl), (.ni _ rfl), (.ni _ rfl), (.ni _ rfl), (.ni _ rfl), trivial⟩, trivial⟩⟩
                      · replace hJ_471 := cond_f hb_472 hJ_471
                        conv => whnf
                        refine ⟨fun hb_473 => ?_, fun hb_473 => ?_⟩
                        · replace hJ_471 := cond_t hb_473 hJ_471
                          conv => whnf
                          obtain ⟨r_123, h_r_123, hJ_471⟩ := bind_some hJ_471
                          refine ⟨_, _, _, _, _, _, _, _, _, callX false [] [] 0 Try.func13 (by decide) rfl (screen_Expire_ac (⟨(⟨i_15, i_16, i_17, i_18⟩ : A4_Int), i_19, a_20⟩ : Screening) (w64 (i_27 + r_29.1)) r_123 h_r_123) rfl ⟨(argE (by (conv => lhs; whnf); all_goals rfl) rfl), (argE (by (conv => lhs; whnf); all_goals rfl) rfl), trivial⟩ rfl trivial rfl rfl rfl lend0 trivial rfl, ?_⟩
                          conv => whnf
                          obtain ⟨r_124, h_r_124, hJ_471⟩ := bind_some hJ_471
                          refine ⟨_, _, _, _, _, _, _, _, _, callX false [] [] 0 Try.func25 (by decide) rfl (ref15_Expire_ac (⟨(⟨i_21, i_22, i_23, i_24⟩ : A4_Int), i_25, a_26⟩ : Screening) (w64 (i_27 + r_29.1)) r_124 h_r_124) rfl ⟨(argE (by (conv => lhs; whnf); all_goals rfl) rfl), (argE (by (conv => lhs; whnf); all_goals rfl) rfl), trivial⟩ rfl trivial rfl rfl rfl lend0 trivial rfl, ?_⟩
                          conv => whnf
                          obtain rfl := Option.some.inj hJ_471
                          exact ⟨(r_123.2, r_124.2, r_123.1.Limits.e0, r_123.1.Limits.e1, r_123.1.Limits.e2, r_123.1.Limits.e3, r_123.1.Next, r_123.1.L, r_124.1.Limits.e0, r_124.1.Limits.e1, r_124.1.Limits.e2, r_124.1.Limits.e3, r_124.1.Next, r_124.1.L, r_120.2.L, r_120.2.At, (0 : Int), (0 : Int)), [0, 1, 2, 7, 8], [], [], hB_471 _ rfl, wk_mk [0, 1, 2, 7, 8] [] [] rfl ⟨argE (by (conv => lhs; whnf); all_goals rfl) rfl, argE (by (conv => lhs; whnf); all_goals rfl) rfl, argE (by (conv => lhs; whnf); all_goals rfl) rfl, argP (id := 0) (by (conv => lhs; whnf); all_goals rfl) rfl, argP (id := 1) (by (conv => lhs; whnf); all_goals rfl) rfl, argP (id := 2) (by (conv => lhs; whnf); all_goals rfl) rfl, argE (by (conv => lhs; whnf); all_goals rfl) rfl, argE (by (conv => lhs; whnf); all_goals rfl) rfl, argE (by (conv => lhs; whnf); all_goals rfl) rfl, argP (id := 7) (by (conv => lhs; whnf); all_goals rfl) rfl, argE (by (conv => lhs; whnf); all_goals rfl) rfl, argE (by (conv => lhs; whnf); all_goals rfl) rfl, argP (id := 8) (by (conv => lhs; whnf); all_goals rfl) rfl, argE (by (conv => lhs; whnf); all_goals rfl) rfl, argE (by (conv => lhs; whnf); all_goals rfl) rfl, trivial⟩ ⟨boxL rfl rfl rfl ⟨(.ni _ rfl), (.ni _ rfl), trivial⟩, boxL rfl rfl rfl ⟨(.ni _ rfl), (.ni _ rfl), (.ni _ rfl), (.ni _ rfl), (.ni _ rfl), (.ni _ rfl), trivial⟩, boxL rfl rfl rfl ⟨(.ni _ rfl), (.ni _ rfl), (.ni _ rfl), (.ni _ rfl), (.ni _ rfl), (.ni _ rfl), trivial⟩, boxL rfl rfl rfl ⟨(.ni _ rfl), (.ni _ rfl), (.ni _ rfl), (.ni _ rfl), (.ni _ rfl), (.ni _ rfl), trivial⟩, boxL rfl rfl rfl ⟨(.ni _ rfl), (.ni _ rfl), (.ni _ rfl), (.ni _ rfl), (.ni _ rfl), (.ni _ rfl), trivial⟩, trivial⟩⟩
                        · replace hJ_471 := cond_f hb_473 hJ_471
                          conv => whnf
                          obtain ⟨r_125, h_r_125, hJ_471⟩ := bind_some hJ_471
                          refine ⟨_, _, _, _, _, _, _, _, _, callX false [0] [] 0 Try.func10 (by decide) rfl (keep_Src_N_ac r_120.2 (3 : Int) r_125 h_r_125) rfl ⟨(argP (id := 0) (by (conv => lhs; whnf); all_goals rfl) rfl), (argE (by (conv => lhs; whnf); all_goals rfl) rfl), trivial⟩ rfl ⟨rfl, trivial⟩ rfl rfl rfl lend0 ⟨rfl, trivial⟩ rfl, ?_⟩
                          conv => whnf
                          obtain ⟨r_126, h_r_126, hJ_471⟩ := bind_some hJ_471
                          refine ⟨_, _, _, _, _, _, _, _, _, callX false [] [] 0 Try.func14 (by decide) rfl (screen_Verdict_ac (⟨(⟨i_15, i_16, i_17, i_18⟩ : A4_Int), i_19, a_20⟩ : Screening) x_3 (r_125.1 == (0 : Int)) (w64 (i_27 + r_29.1)) r_126 h_r_126) rfl ⟨(argE (by (conv => lhs; whnf); all_goals rfl) rfl), (argE (by (conv => lhs; whnf); all_goals rfl) rfl), (argE (by (conv => lhs; whnf); all_goals rfl) rfl), (argE (by (conv => lhs; whnf); all_goals rfl) rfl), trivial⟩ rfl trivial rfl rfl rfl lend0 trivial rfl, ?_⟩
                          conv => whnf
                          obtain ⟨r_127, h_r_127, hJ_471⟩ := bind_some hJ_471
                          refine ⟨_, _, _, _, _, _, _, _, _, callX false [] [] 0 Try.func26 (by decide) rfl (ref15_Verdict_ac (⟨(⟨i_21, i_22, i_23, i_24⟩ : A4_Int), i_25, a_26⟩ : Screening) x_3 (r_125.1 == (0 : Int)) (w64 (i_27 + r_29.1)) r_127 h_r_127) rfl ⟨(argE (by (conv => lhs; whnf); all_goals rfl) rfl), (argE (by (conv => lhs; whnf); all_goals rfl) rfl), (argE (by (conv => lhs; whnf); all_goals rfl) rfl), (argE (by (conv => lhs; whnf); all_goals rfl) rfl), trivial⟩ rfl trivial rfl rfl rfl lend0 trivial rfl, ?_⟩
                          conv => whnf
                          obtain rfl := Option.some.inj hJ_471
                          exact ⟨(r_126.2.2, r_127.2.2, r_126.1.Limits.e0, r_126.1.Limits.e1, r_126.1.Limits.e2, r_126.1.Limits.e3, r_126.1.Next, r_126.1.L, r_127.1.Limits.e0, r_127.1.Limits.e1, r_127.1.Limits.e2, r_127.1.Limits.e3, r_127.1.Next, r_127.1.L, r_125.2.L, r_125.2.At, r_126.2.1, r_127.2.1), [0, 1, 2, 7, 8], [], [], hB_471 _ rfl, wk_mk [0, 1, 2, 7, 8] [] [] rfl ⟨argE (by (conv => lhs; whnf); all_goals rfl) rfl, argE (by (conv => lhs; whnf); all_goals rfl) rfl, argE (by (conv => lhs; whnf); all_goals rfl) rfl, argP (id := 0) (by (conv => lhs; whnf); all_goals rfl) rfl, argP (id := 1) (by (conv => lhs; whnf); all_goals rfl) rfl, argP (id := 2) (by (conv => lhs; whnf); all_goals rfl) rfl, argE (by (conv => lhs; whnf); all_goals rfl) rfl, argE (by (conv => lhs; whnf); all_goals rfl) rfl, argE (by (conv => lhs; whnf); all_goals rfl) rfl, argP (id := 7) (by (conv => lhs; whnf); all_goals rfl) rfl, argE (by (conv => lhs; whnf); all_goals rfl) rfl, argE (by (conv => lhs; whnf); all_goals rfl) rfl, argP (id := 8) (by (conv => lhs; whnf); all_goals rfl) rfl, argE (by (conv => lhs; whnf); all_goals rfl) rfl, argE (by (conv => lhs; whnf); all_goals rfl) rfl, trivial⟩ ⟨boxL rfl rfl rfl ⟨(.ni _ rfl), (.ni _ rfl), trivial⟩, boxL rfl rfl rfl ⟨(.ni _ rfl), (.ni _ rfl), (.ni _ rfl), (.ni _ rfl), (.ni _ rfl), (.ni _ rfl), trivial⟩, boxL rfl rfl rfl ⟨(.ni _ rfl), (.ni _ rfl), (.ni _ rfl), (.ni _ rfl), (.ni _ rfl), (.ni _ rfl), trivial⟩, boxL rfl rfl rfl ⟨(.ni _ rfl), (.ni _ rfl), (.ni _ rfl), (.ni _ rfl), (.ni _ rfl), (.ni _ rfl), trivial⟩, boxL rfl rfl rfl ⟨(.ni _ rfl), (.ni _ rfl), (.ni _ rfl), (.ni _ rfl), (.ni _ rfl), (.ni _ rfl), trivial⟩, trivial⟩⟩
                    · rintro z_146 hx_471
                      replace hL1 := hD_471 _ hx_471
                      try dsimp only at hL1
                      conv => whnf
                      refine ⟨fun hb_474 => ?_, fun hb_474 => ?_⟩
                      · replace hL1 := cond_f hb_474 hL1
                        conv => whnf
                        refine ⟨fun hb_475 => ?_, fun hb_475 => ?_⟩
                        · replace hL1 := cond_f hb_475 hL1
                          conv => whnf
                          obtain ⟨r_147, h_r_147, hL1⟩ := bind_some hL1
                          refine ⟨_, _, _, _, _, _, _, _, _, callX false [] [] 0 Try.func22 (by decide) rfl (ref15_Same_ac (⟨(⟨z_146.2.2.1, z_146.2.2.2.1, z_146.2.2.2.2.1, z_146.2.2.2.2.2.1⟩ : A4_Int), z_146.2.2.2.2.2.2.1, z_146.2.2.2.2.2.2.2.1⟩ : Screening) (⟨(⟨z_146.2.2.2.2.2.2.2.2.1, z_146.2.2.2.2.2.2.2.2.2.1, z_146.2.2.2.2.2.2.2.2.2.2.1, z_146.2.2.2.2.2.2.2.2.2.2.2.1⟩ : A4_Int), z_146.2.2.2.2.2.2.2.2.2.2.2.2.1, z_146.2.2.2.2.2.2.2.2.2.2.2.2.2.1⟩ : Screening) r_147 h_r_147) rfl ⟨(argE (by (conv => lhs; whnf); all_goals rfl) rfl), (argE (by (conv => lhs; whnf); all_goals rfl) rfl), trivial⟩ rfl trivial rfl rfl rfl lend0 trivial rfl, ?_⟩
                          conv => whnf
                          refine ⟨fun hb_476 => ?_, fun hb_476 => ?_⟩
                          · replace hL1 := cond_t hb_476 hL1
                            conv => whnf
                            obtain rfl := Option.some.inj hL1
                            replace hF := fin_ret hF
                            obtain rfl := Option.some.inj hF
                            exact ret_gz [] [] [] rfl (argFl (by (conv => lhs; whnf); all_goals rfl)) trivial
                          · replace hL1 := cond_f hb_476 hL1
                            conv => whnf
                            refine ⟨fun hb_477 => ?_, fun hb_477 => ?_⟩
                            · replace hL1 := cond_t hb_477 hL1
                              conv => whnf
                              refine ⟨by kernel_rfl, ?_⟩
                              conv => whnf
                              obtain ⟨r_148, h_r_148, hL1⟩ := bind_some hL1
                              refine ⟨_, _, _, _, _, _, _, _, _, callX false [] [] 0 Try.func16 (by decide) rfl (screen_Find_ac (⟨(⟨z_146.2.2.1, z_146.2.2.2.1, z_146.2.2.2.2.1, z_146.2.2.2.2.2.1⟩ : A4_Int), z_146.2.2.2.2.2.2.1, z_146.2.2.2.2.2.2.2.1⟩ : Screening) x_2 r_148 h_r_148) rfl ⟨(argE (by (conv => lhs; whnf); all_goals rfl) rfl), (argE (by (conv => lhs; whnf); all_goals rfl) rfl), trivial⟩ rfl trivial rfl rfl rfl lend0 trivial rfl, ?_⟩
                              conv => whnf
                              obtain ⟨r_149, h_r_149, hL1⟩ := bind_some hL1
                              refine ⟨_, _, _, _, _, _, _, _, _, callX false [] [] 0 Try.func27 (by decide) rfl (ref15_Find_ac (⟨(⟨z_146.2.2.2.2.2.2.2.2.1, z_146.2.2.2.2.2.2.2.2.2.1, z_146.2.2.2.2.2.2.2.2.2.2.1, z_146.2.2.2.2.2.2.2.2.2.2.2.1⟩ : A4_Int), z_146.2.2.2.2.2.2.2.2.2.2.2.2.1, z_146.2.2.2.2.2.2.2.2.2.2.2.2.2.1⟩ : Screening) x_2 r_149 h_r_149) rfl ⟨(argE (by (conv => lhs; whnf); all_goals rfl) rfl), (argE (by (conv => lhs; whnf); all_goals rfl) rfl), trivial⟩ rfl trivial rfl rfl rfl lend0 trivial rfl, ?_⟩
                              conv => whnf
                              refine ⟨fun hb_478 => ?_, fun hb_478 => ?_⟩
                              · replace hL1 := cond_f hb_478 hL1
                                conv => whnf
                                refine ⟨fun hb_479 => ?_, fun hb_479 => ?_⟩
                                · replace hL1 := cond_f hb_479 hL1
                                  conv => whnf
                                  obtain ⟨r_150, h_r_150, hL1⟩ := bind_some hL1
                                  refine ⟨_, _, _, _, _, _, _, _, _, callX false [] [] 0 Try.func18 (by decide) rfl (screen_Cleared_ac (⟨(⟨z_146.2.2.1, z_146.2.2.2.1, z_146.2.2.2.2.1, z_146.2.2.2.2.2.1⟩ : A4_Int), z_146.2.2.2.2.2.2.1, z_146.2.2.2.2.2.2.2.1⟩ : Screening) r_150 h_r_150) rfl ⟨(argE (by (conv => lhs; whnf); all_goals rfl) rfl), trivial⟩ rfl trivial rfl rfl rfl lend0 trivial rfl, ?_⟩
                                  conv => whnf
                                  obtain ⟨r_151, h_r_151, hL1⟩ := bind_some hL1
                                  refine ⟨_, _, _, _, _, _, _, _, _, callX false [] [] 0 Try.func29 (by decide) rfl (ref15_Cleared_ac (⟨(⟨z_146.2.2.2.2.2.2.2.2.1, z_146.2.2.2.2.2.2.2.2.2.1, z_146.2.2.2.2.2.2.2.2.2.2.1, z_146.2.2.2.2.2.2.2.2.2.2.2.1⟩ : A4_Int), z_146.2.2.2.2.2.2.2.2.2.2.2.2.1, z_146.2.2.2.2.2.2.2.2.2.2.2.2.2.1⟩ : Screening) r_151 h_r_151) rfl ⟨(argE (by (conv => lhs; whnf); all_goals rfl) rfl), trivial⟩ rfl trivial rfl rfl rfl lend0 trivial rfl, ?_⟩
                                  conv => whnf
                                  obtain ⟨r_152, h_r_152, hL1⟩ := bind_some hL1
                                  refine ⟨_, _, _, _, _, _, _, _, _, callX false [] [] 0 Try.func28 (by decide) rfl (keep_Ints_ac r_150 r_151 r_152 h_r_152) rfl ⟨(argE (by (conv => lhs; whnf); all_goals rfl) rfl), (argE (by (conv => lhs; whnf); all_goals rfl) rfl), trivial⟩ rfl trivial rfl rfl rfl lend0 trivial rfl, ?_⟩
                                  conv => whnf
                                  refine ⟨fun hb_480 => ?_, fun hb_480 => ?_⟩
                                  · replace hL1 := cond_f hb_480 hL1
                                    conv => whnf
                                    obtain ⟨r_153, h_r_153, hL1⟩ := bind_some hL1
                                    refine ⟨_, _, _, _, _, _, _, _, _, callX false [] [] 0 Try.func20 (by decide) rfl (screen_Alarms_ac (⟨(⟨z_146.2.2.1, z_146.2.2.2.1, z_146.2.2.2.2.1, z_146.2.2.2.2.2.1⟩ : A4_Int), z_146.2.2.2.2.2.2.1, z_146.2.2.2.2.2.2.2.1⟩ : Screening) r_153 h_r_153) rfl ⟨(argE (by (conv => lhs; whnf); all_goals rfl) rfl), trivial⟩ rfl trivial rfl rfl rfl lend0 trivial rfl, ?_⟩
                                    conv => whnf
                                    obtain ⟨r_154, h_r_154, hL1⟩ := bind_some hL1
                                    refine ⟨_, _, _, _, _, _, _, _, _, callX false [] [] 0 Try.func31 (by decide) rfl (ref15_Alarms_ac (⟨(⟨z_146.2.2.2.2.2.2.2.2.1, z_146.2.2.2.2.2.2.2.2.2.1, z_146.2.2.2.2.2.2.2.2.2.2.1, z_146.2.2.2.2.2.2.2.2.2.2.2.1⟩ : A4_Int), z_146.2.2.2.2.2.2.2.2.2.2.2.2.1, z_146.2.2.2.2.2.2.2.2.2.2.2.2.2.1⟩ : Screening) r_154 h_r_154) rfl ⟨(argE (by (conv => lhs; whnf); all_goals rfl) rfl), trivial⟩ rfl trivial rfl rfl rfl lend0 trivial rfl, ?_⟩
                                    conv => whnf
                                    obtain ⟨r_155, h_r_155, hL1⟩ := bind_some hL1
                                    refine ⟨_, _, _, _, _, _, _, _, _, callX false [] [] 0 Try.func30 (by decide) rfl (law15_same_ac r_153 r_154 r_155 h_r_155) rfl ⟨(argE (by (conv => lhs; whnf); all_goals rfl) rfl), (argE (by (conv => lhs; whnf); all_goals rfl) rfl), trivial⟩ rfl trivial rfl rfl rfl lend0 trivial rfl, ?_⟩
                                    conv => whnf
                                    refine ⟨by kernel_rfl, ?_⟩
                                    conv => whnf
                                    refine ⟨fun hb_481 => ?_, fun hb_481 => ?_⟩
                                    · replace hL1 := cond_t hb_481 hL1
                                      conv => whnf
                                      obtain rfl := Option.some.inj hL1
                                      replace hF := fin_ret hF
                                      obtain rfl := Option.some.inj hF
                                      exact ret_gz [] [] [] rfl (argFl (by (conv => lhs; whnf); all_goals rfl)) trivial
                                    · replace hL1 := cond_f hb_481 hL1
                                      conv => whnf
                                      refine ⟨_, rfl, ?_⟩
                                      conv => whnf
                                      exact ⟨(q_388, z_146.2.2.2.2.2.2.2.2.2.2.2.2.2.2.1, z_146.2.2.2.2.2.2.2.2.2.2.2.2.2.2.2.1, z_146.2.2.1, z_146.2.2.2.1, z_146.2.2.2.2.1, z_146.2.2.2.2.2.1, z_146.2.2.2.2.2.2.1, z_146.2.2.2.2.2.2.2.1, z_146.2.2.2.2.2.2.2.2.1, z_146.2.2.2.2.2.2.2.2.2.1, z_146.2.2.2.2.2.2.2.2.2.2.1, z_146.2.2.2.2.2.2.2.2.2.2.2.1, z_146.2.2.2.2.2.2.2.2.2.2.2.2.1, z_146.2.2.2.2.2.2.2.2.2.2.2.2.2.1, (w64 (i_27 + r_29.1)), (w64 (i_28 + (1 : Int)))), [0, 1, 2], [], [], hL1, Nat.lt_succ_self _, wk_mk [0, 1, 2] [] [] rfl ⟨argE (by (conv => lhs; whnf); all_goals rfl) rfl, argE (by (conv => lhs; whnf); all_goals rfl) rfl, argE (by (conv => lhs; whnf); all_goals rfl) rfl, argP (id := 0) (by (conv => lhs; whnf); all_goals rfl) rfl, argP (id := 1) (by (conv => lhs; whnf); all_goals rfl) rfl, argP (id := 2) (by (conv => lhs; whnf); all_goals rfl) rfl, argE (by (conv => lhs; whnf); all_goals rfl) rfl, argE (by (conv => lhs; whnf); all_goals rfl) rfl, trivial⟩ ⟨boxL rfl rfl rfl ⟨(.ni _ rfl), (.ni _ rfl), trivial⟩, boxL rfl rfl rfl ⟨(.ni _ rfl), (.ni _ rfl), (.ni _ rfl), (.ni _ rfl), (.ni _ rfl), (.ni _ rfl), trivial⟩, boxL rfl rfl rfl ⟨(.ni _ rfl), (.ni _ rfl), (.ni _ rfl), (.ni _ rfl), (.ni _ rfl), (.ni _ rfl), trivial⟩, trivial⟩⟩
                                  · replace hL1 := cond_t hb_480 hL1
                                    conv => whnf
                                    refine ⟨by kernel_rfl, ?_⟩
                                    conv => whnf
                                    obtain rfl := Option.some.inj hL1
                                    replace hF := fin_ret hF
                                    obtain rfl := Option.some.inj hF
                                    exact ret_gz [] [] [] rfl (argFl (by (conv => lhs; whnf); all_goals rfl)) trivial
                                · replace hL1 := cond_t hb_479 hL1
                                  conv => whnf
                                  refine ⟨by kernel_rfl, ?_⟩
                                  conv => whnf
                                  obtain rfl := Option.some.inj hL1
                                  replace hF := fin_ret hF
                                  obtain rfl := Option.some.inj hF
                                  exact ret_gz [] [] [] rfl (argFl (by (conv => lhs; whnf); all_goals rfl)) trivial
                              · replace hL1 := cond_t hb_478 hL1
                                conv => whnf
                                refine ⟨by kernel_rfl, ?_⟩
                                conv => whnf
                                obtain rfl := Option.some.inj hL1
                                replace hF := fin_ret hF
                                obtain rfl := Option.some.inj hF
                                exact ret_gz [] [] [] rfl (argFl (by (conv => lhs; whnf); all_goals rfl)) trivial
                            · replace hL1 := cond_f hb_477 hL1
                              conv => whnf
                              obtain ⟨r_156, h_r_156, hL1⟩ := bind_some hL1
                              refine ⟨_, _, _, _, _, _, _, _, _, callX false [] [] 0 Try.func16 (by decide) rfl (screen_Find_ac (⟨(⟨i_15, i_16, i_17, i_18⟩ : A4_Int), i_19, a_20⟩ : Screening) x_2 r_156 h_r_156) rfl ⟨(argE (by (conv => lhs; whnf); all_goals rfl) rfl), (argE (by (conv => lhs; whnf); all_goals rfl) rfl), trivial⟩ rfl trivial rfl rfl rfl lend0 trivial rfl, ?_⟩
                              conv => whnf
                              obtain ⟨r_157, h_r_157, hL1⟩ := bind_some hL1
                              refine ⟨_, _, _, _, _, _, _, _, _, callX false [] [] 0 Try.func27 (by decide) rfl (ref15_Find_ac (⟨(⟨i_21, i_22, i_23, i_24⟩ : A4_Int), i_25, a_26⟩ : Screening) x_2 r_157 h_r_157) rfl ⟨(argE (by (conv => lhs; whnf); all_goals rfl) rfl), (argE (by (conv => lhs; whnf); all_goals rfl) rfl), trivial⟩ rfl trivial rfl rfl rfl lend0 trivial rfl, ?_⟩
                              conv => whnf
                              refine ⟨fun hb_482 => ?_, fun hb_482 => ?_⟩
                              · replace hL1 := cond_f hb_482 hL1
                                conv => whnf
                                refine ⟨fun hb_483 => ?_, fun hb_483 => ?_⟩
                                · replace hL1 := cond_f hb_483 hL1
                                  conv => whnf
                                  obtain ⟨r_158, h_r_158, hL1⟩ := bind_some hL1
                                  refine ⟨_, _, _, _, _, _, _, _, _, callX false [] [] 0 Try.func18 (by decide) rfl (screen_Cleared_ac (⟨(⟨i_15, i_16, i_17, i_18⟩ : A4_Int), i_19, a_20⟩ : Screening) r_158 h_r_158) rfl ⟨(argE (by (conv => lhs; whnf); all_goals rfl) rfl), trivial⟩ rfl trivial rfl rfl rfl lend0 trivial rfl, ?_⟩
                                  conv => whnf
                                  obtain ⟨r_159, h_r_159, hL1⟩ := bind_some hL1
                                  refine ⟨_, _, _, _, _, _, _, _, _, callX false [] [] 0 Try.func29 (by decide) rfl (ref15_Cleared_ac (⟨(⟨i_21, i_22, i_23, i_24⟩ : A4_Int), i_25, a_26⟩ : Screening) r_159 h_r_159) rfl ⟨(argE (by (conv => lhs; whnf); all_goals rfl) rfl), trivial⟩ rfl trivial rfl rfl rfl lend0 trivial rfl, ?_⟩
                                  conv => whnf
                                  obtain ⟨r_160, h_r_160, hL1⟩ := bind_some hL1
                                  refine ⟨_, _, _, _, _, _, _, _, _, callX false [] [] 0 Try.func28 (by decide) rfl (keep_Ints_ac r_158 r_159 r_160 h_r_160) rfl ⟨(argE (by (conv => lhs; whnf); all_goals rfl) rfl), (argE (by (conv => lhs; whnf); all_goals rfl) rfl), trivial⟩ rfl trivial rfl rfl rfl lend0 trivial rfl, ?_⟩
                                  conv => whnf
                                  refine ⟨fun hb_484 => ?_, fun hb_484 => ?_⟩
                                  · replace hL1 := cond_f hb_484 hL1
                                    conv => whnf
                                    obtain ⟨r_161, h_r_161, hL1⟩ := bind_some hL1
                                    refine ⟨_, _, _, _, _, _, _, _, _, callX false [] [] 0 Try.func20 (by decide) rfl (screen_Alarms_ac (⟨(⟨i_15, i_16, i_17, i_18⟩ : A4_Int), i_19, a_20⟩ : Screening) r_161 h_r_161) rfl ⟨(argE (by (conv => lhs; whnf); all_goals rfl) rfl), trivial⟩ rfl trivial rfl rfl rfl lend0 trivial rfl, ?_⟩
                                    conv => whnf
                                    obtain ⟨r_162, h_r_162, hL1⟩ := bind_some hL1
                                    refine ⟨_, _, _, _, _, _, _, _, _, callX false [] [] 0 Try.func31 (by decide) rfl (ref15_Alarms_ac (⟨(⟨i_21, i_22, i_23, i_24⟩ : A4_Int), i_25, a_26⟩ : Screening) r_162 h_r_162) rfl ⟨(argE (by (conv => lhs; whnf); all_goals rfl) rfl), trivial⟩ rfl trivial rfl rfl rfl lend0 trivial rfl, ?_⟩
                                    conv => whnf
                                    obtain ⟨r_163, h_r_163, hL1⟩ := bind_some hL1
                                    refine ⟨_, _, _, _, _, _, _, _, _, callX false [] [] 0 Try.func30 (by decide) rfl (law15_same_ac r_161 r_162 r_163 h_r_163) rfl ⟨(argE (by (conv => lhs; whnf); all_goals rfl) rfl), (argE (by (conv => lhs; whnf); all_goals rfl) rfl), trivial⟩ rfl trivial rfl rfl rfl lend0 trivial rfl, ?_⟩
                                    conv => whnf
                                    refine ⟨by kernel_rfl, ?_⟩
                                    conv => whnf
                                    refine ⟨fun hb_485 => ?_, fun hb_485 => ?_⟩
                                    · replace hL1 := cond_t hb_485 hL1
                                      conv => whnf
                                      obtain rfl := Option.some.inj hL1
                                      replace hF := fin_ret hF
                                      obtain rfl := Option.some.inj hF
                                      exact ret_gz [] [] [] rfl (argFl (by (conv => lhs; whnf); all_goals rfl)) trivial
                                    · replace hL1 := cond_f hb_485 hL1
                                      conv => whnf
                                      refine ⟨_, rfl, ?_⟩
                                      conv => whnf
                                      exact ⟨(q_388, z_146.2.2.2.2.2.2.2.2.2.2.2.2.2.2.1, z_146.2.2.2.2.2.2.2.2.2.2.2.2.2.2.2.1, i_15, i_16, i_17, i_18, i_19, a_20, i_21, i_22, i_23, i_24, i_25, a_26, (w64 (i_27 + r_29.1)), (w64 (i_28 + (1 : Int)))), [0, 1, 2], [], [], hL1, Nat.lt_succ_self _, wk_mk [0, 1, 2] [] [] rfl ⟨argE (by (conv => lhs; whnf); all_goals rfl) rfl, argE (by (conv => lhs; whnf); all_goals rfl) rfl, argE (by (conv => lhs; whnf); all_goals rfl) rfl, argP (id := 0) (by (conv => lhs; whnf); all_goals rfl) rfl, argP (id := 1) (by (conv => lhs; whnf); all_goals rfl) rfl, argP (id := 2) (by (conv => lhs; whnf); all_goals rfl) rfl, argE (by (conv => lhs; whnf); all_goals rfl) rfl, argE (by (conv => lhs; whnf); all_goals rfl) rfl, trivial⟩ ⟨boxL rfl rfl rfl ⟨(.ni _ rfl), (.ni _ rfl), trivial⟩, boxL rfl rfl rfl ⟨(.ni _ rfl), (.ni _ rfl), (.ni _ rfl), (.ni _ rfl), (.ni _ rfl), (.ni _ rfl), trivial⟩, boxL rfl rfl rfl ⟨(.ni _ rfl), (.ni _ rfl), (.ni _ rfl), (.ni _ rfl), (.ni _ rfl), (.ni _ rfl), trivial⟩, trivial⟩⟩
                                  · replace hL1 := cond_t hb_484 hL1
                                    conv => whnf
                                    refine ⟨by kernel_rfl, ?_⟩
                                    conv => whnf
                                    obtain rfl := Option.some.inj hL1
                                    replace hF := fin_ret hF
                                    obtain rfl := Option.some.inj hF
                                    exact ret_gz [] [] [] rfl (argFl (by (conv => lhs; whnf); all_goals rfl)) trivial
                                · replace hL1 := cond_t hb_483 hL1
                                  conv => whnf
                                  refine ⟨by kernel_rfl, ?_⟩
                                  conv => whnf
                                  obtain rfl := Option.some.inj hL1
                                  replace hF := fin_ret hF
                                  obtain rfl := Option.some.inj hF
                                  exact ret_gz [] [] [] rfl (argFl (by (conv => lhs; whnf); all_goals rfl)) trivial
                              · replace hL1 := cond_t hb_482 hL1
                                conv => whnf
                                refine ⟨by kernel_rfl, ?_⟩
                                conv => whnf
                                obtain rfl := Option.some.inj hL1
                                replace hF := fin_ret hF
                                obtain rfl := Option.some.inj hF
                                exact ret_gz [] [] [] rfl (argFl (by (conv => lhs; whnf); all_goals rfl)) trivial
                        · replace hL1 := cond_t hb_475 hL1
                          conv => whnf
                          obtain rfl := Option.some.inj hL1
                          replace hF := fin_ret hF
                          obtain rfl := Option.some.inj hF
                          exact ret_gz [] [] [] rfl (argFl (by (conv => lhs; whnf); all_goals rfl)) trivial
                      · replace hL1 := cond_t hb_474 hL1
                        conv => whnf
                        obtain rfl := Option.some.inj hL1
                        replace hF := fin_ret hF
                        obtain rfl := Option.some.inj hF
                        exact ret_gz [] [] [] rfl (argFl (by (conv => lhs; whnf); all_goals rfl)) trivial
                · replace hL1 := cond_t hb_439 hL1
                  conv => whnf
                  obtain ⟨r_32, h_r_32, hL1⟩ := bind_some hL1
                  refine ⟨_, _, _, _, _, _, _, _, _, callX false [0] [] 0 Try.func10 (by decide) rfl (keep_Src_N_ac r_31.2 (4 : Int) r_32 h_r_32) rfl ⟨(argP (id := 0) (by (conv => lhs; whnf); all_goals rfl) rfl), (argE (by (conv => lhs; whnf); all_goals rfl) rfl), trivial⟩ rfl ⟨rfl, trivial⟩ rfl rfl rfl lend0 ⟨rfl, trivial⟩ rfl, ?_⟩
                  conv => whnf
                  obtain ⟨D_440, cJ_440, hJ_440, hB_440, hD_440, hR_440⟩ := sub_join hL1
                  refine sw_blkj tab_ok follows_ok (fun y : Int × Int × Int × Int × Int × Int × Int × (List Check) × Int × Int × Int × Int × Int × (List Check) × (List Int) × Int × Int × Int => ⟨eL [(2, .int .i64 x_2), (3, .int .i64 x_3), (4, .int .i64 x_4), (11, .ptr 0 0), (12, .ptr 1 0), (14, .ptr 2 0), (17, .int .i64 (w64 (i_27 + r_29.1))), (18, .int .i64 i_28), (19, .int .i64 x_2), (22, .ptr 3 0), (23, .int .i64 y.2.2.2.2.2.2.2.2.2.2.2.2.2.2.2.2.1), (24, .int .i64 y.1), (25, .ptr 4 0), (26, .int .i64 y.2.2.2.2.2.2.2.2.2.2.2.2.2.2.2.2.2), (27, .int .i64 y.2.1)], hL [(0, .box [.lst 1 (y.2.2.2.2.2.2.2.2.2.2.2.2.2.2.1.map iA), .int .i64 y.2.2.2.2.2.2.2.2.2.2.2.2.2.2.2.1]), (1, .box [.int .i64 i_15, .int .i64 i_16, .int .i64 i_17, .int .i64 i_18, .int .i64 i_19, .lst 5 (a_20.map encCheck)]), (2, .box [.int .i64 i_21, .int .i64 i_22, .int .i64 i_23, .int .i64 i_24, .int .i64 i_25, .lst 5 (a_26.map encCheck)]), (3, .box [.int .i64 y.2.2.1, .int .i64 y.2.2.2.1, .int .i64 y.2.2.2.2.1, .int .i64 y.2.2.2.2.2.1, .int .i64 y.2.2.2.2.2.2.1, .lst 5 (y.2.2.2.2.2.2.2.1.map encCheck)]), (4, .box [.int .i64 y.2.2.2.2.2.2.2.2.1, .int .i64 y.2.2.2.2.2.2.2.2.2.1, .int .i64 y.2.2.2.2.2.2.2.2.2.2.1, .int .i64 y.2.2.2.2.2.2.2.2.2.2.2.1, .int .i64 y.2.2.2.2.2.2.2.2.2.2.2.2.1, .lst 5 (y.2.2.2.2.2.2.2.2.2.2.2.2.2.1.map encCheck)])], 5⟩) D_440 ?_ ?_
                  · conv => whnf
                    refine ⟨fun hb_441 => ?_, fun hb_441 => ?_⟩
                    · replace hJ_440 := cond_t hb_441 hJ_440
                      conv => whnf
                      obtain ⟨r_33, h_r_33, hJ_440⟩ := bind_some hJ_440
                      refine ⟨_, _, _, _, _, _, _, _, _, callX false [] [] 0 Try.func11 (by decide) rfl (screen_Start_ac (⟨(⟨i_15, i_16, i_17, i_18⟩ : A4_Int), i_19, a_20⟩ : Screening) x_2 x_4 r_33 h_r_33) rfl ⟨(argE (by (conv => lhs; whnf); all_goals rfl) rfl), (argE (by (conv => lhs; whnf); all_goals rfl) rfl), (argE (by (conv => lhs; whnf); all_goals rfl) rfl), trivial⟩ rfl trivial rfl rfl rfl lend0 trivial rfl, ?_⟩
                      conv => whnf
                      obtain ⟨r_34, h_r_34, hJ_440⟩ := bind_some hJ_440
                      refine ⟨_, _, _, _, _, _, _, _, _, callX false [] [] 0 Try.func24 (by decide) rfl (ref15_Start_ac (⟨(⟨i_21, i_22, i_23, i_24⟩ : A4_Int), i_25, a_26⟩ : Screening) x_2 x_4 r_34 h_r_34) rfl ⟨(argE (by (conv => lhs; whnf); all_goals rfl) rfl), (argE (by (conv => lhs; whnf); all_goals rfl) rfl), (argE (by (conv => lhs; whnf); all_goals rfl) rfl), trivial⟩ rfl trivial rfl rfl rfl lend0 trivial rfl, ?_⟩
                      conv => whnf
                      obtain rfl := Option.some.inj hJ_440
                      exact ⟨(r_33.2, r_34.2, r_33.1.Limits.e0, r_33.1.Limits.e1, r_33.1.Limits.e2, r_33.1.Limits.e3, r_33.1.Next, r_33.1.L, r_34.1.Limits.e0, r_34.1.Limits.e1, r_34.1.Limits.e2, r_34.1.Limits.e3, r_34.1.Next, r_34.1.L, r_32.2.L, r_32.2.At, (0 : Int), (0 : Int)), [0, 1, 2, 7, 8], [], [], hB_440 _ rfl, wk_mk [0, 1, 2, 7, 8] [] [] rfl ⟨argE (by (conv => lhs; whnf); all_goals rfl) rfl, argE (by (conv => lhs; whnf); all_goals rfl) rfl, argE (by (conv => lhs; whnf); all_goals rfl) rfl, argP (id := 0) (by (conv => lhs; whnf); all_goals rfl) rfl, argP (id := 1) (by (conv => lhs; whnf); all_goals rfl) rfl, argP (id := 2) (by (conv => lhs; whnf); all_goals rfl) rfl, argE (by (conv => lhs; whnf); all_goals rfl) rfl, argE (by (conv => lhs; whnf); all_goals rfl) rfl, argE (by (conv => lhs; whnf); all_goals rfl) rfl, argP (id := 7) (by (conv => lhs; whnf); all_goals rfl) rfl, argE (by (conv => lhs; whnf); all_goals rfl) rfl, argE (by (conv => lhs; whnf); all_goals rfl) rfl, argP (id := 8) (by (conv => lhs; whnf); all_goals rfl) rfl, argE (by (conv => lhs; whnf); all_goals rfl) rfl, argE (by (conv => lhs; whnf); all_goals rfl) rfl, trivial⟩ ⟨boxL rfl rfl rfl ⟨(.ni _ rfl), (.ni _ rfl), trivial⟩, boxL rfl rfl rfl ⟨(.ni _ rfl), (.ni _ rfl), (.ni _ rfl), (.ni _ rfl), (.ni _ rfl), (.ni _ rfl), trivial⟩, boxL rfl rfl rfl ⟨(.ni _ rfl), (.ni _ rfl), (.ni _ rfl), (.ni _ rfl), (.ni _ rfl), (.ni _ rfl), trivial⟩, boxL rfl rfl rfl ⟨(.ni _ rfl), (.ni _ rfl), (.ni _ rfl), (.ni _ rfl), (.ni _ rfl), (.ni _ rfl), trivial⟩, boxL rfl rfl rfl ⟨(.ni _ rfl), (.ni _ rfl), (.ni _ rfl), (.ni _ rfl), (.ni _ rfl), (.ni _ rfl), trivial⟩, trivial⟩⟩
                    · replace hJ_440 := cond_f hb_441 hJ_440
                      conv => whnf
                      refine ⟨fun hb_442 => ?_, fun hb_442 => ?_⟩
                      · replace hJ_440 := cond_t hb_442 hJ_440
                        conv => whnf
                        obtain ⟨r_35, h_r_35, hJ_440⟩ := bind_some hJ_440
                        refine ⟨_, _, _, _, _, _, _, _, _, callX false [] [] 0 Try.func13 (by decide) rfl (screen_Expire_ac (⟨(⟨i_15, i_16, i_17, i_18⟩ : A4_Int), i_19, a_20⟩ : Screening) x_4 r_35 h_r_35) rfl ⟨(argE (by (conv => lhs; whnf); all_goals rfl) rfl), (argE (by (conv => lhs; whnf); all_goals rfl) rfl), trivial⟩ rfl trivial rfl rfl rfl lend0 trivial rfl, ?_⟩
                        conv => whnf
                        obtain ⟨r_36, h_r_36, hJ_440⟩ := bind_some hJ_440
                        refine ⟨_, _, _, _, _, _, _, _, _, callX false [] [] 0 Try.func25 (by decide) rfl (ref15_Expire_ac (⟨(⟨i_21, i_22, i_23, i_24⟩ : A4_Int), i_25, a_26⟩ : Screening) x_4 r_36 h_r_36) rfl ⟨(argE (by (conv => lhs; whnf); all_goals rfl) rfl), (argE (by (conv => lhs; whnf); all_goals rfl) rfl), trivial⟩ rfl trivial rfl rfl rfl lend0 trivial rfl, ?_⟩
                        conv => whnf
                        obtain rfl := Option.some.inj hJ_440
                        exact ⟨(r_35.2, r_36.2, r_35.1.Limits.e0, r_35.1.Limits.e1, r_35.1.Limits.e2, r_35.1.Limits.e3, r_35.1.Next, r_35.1.L, r_36.1.Limits.e0, r_36.1.Limits.e1, r_36.1.Limits.e2, r_36.1.Limits.e3, r_36.1.Next, r_36.1.L, r_32.2.L, r_32.2.At, (0 : Int), (0 : Int)), [0, 1, 2, 7, 8], [], [], hB_440 _ rfl, wk_mk [0, 1, 2, 7, 8] [] [] rfl ⟨argE (by (conv => lhs; whnf); all_goals rfl) rfl, argE (by (conv => lhs; whnf); all_goals rfl) rfl, argE (by (conv => lhs; whnf); all_goals rfl) rfl, argP (id := 0) (by (conv => lhs; whnf); all_goals rfl) rfl, argP (id := 1) (by (conv => lhs; whnf); all_goals rfl) rfl, argP (id := 2) (by (conv => lhs; whnf); all_goals rfl) rfl, argE (by (conv => lhs; whnf); all_goals rfl) rfl, argE (by (conv => lhs; whnf); all_goals rfl) rfl, argE (by (conv => lhs; whnf); all_goals rfl) rfl, argP (id := 7) (by (conv => lhs; whnf); all_goals rfl) rfl, argE (by (conv => lhs; whnf); all_goals rfl) rfl, argE (by (conv => lhs; whnf); all_goals rfl) rfl, argP (id := 8) (by (conv => lhs; whnf); all_goals rfl) rfl, argE (by (conv => lhs; whnf); all_goals rfl) rfl, argE (by (conv => lhs; whnf); all_goals rfl) rfl, trivial⟩ ⟨boxL rfl rfl rfl ⟨(.ni _ rfl), (.ni _ rfl), trivial⟩, boxL rfl rfl rfl ⟨(.ni _ rfl), (.ni _ rfl), (.ni _ rfl), (.ni _ rfl), (.ni _ rfl), (.ni _ rfl), trivial⟩, boxL rfl rfl rfl ⟨(.ni _ rfl), (.ni _ rfl), (.ni _ rfl), (.ni _ rfl), (.ni _ rfl), (.ni _ rfl), trivial⟩, boxL rfl rfl rfl ⟨(.ni _ rfl), (.ni _ rfl), (.ni _ rfl), (.ni _ rfl), (.ni _ rfl), (.ni _ rfl), trivial⟩, boxL rfl rfl rfl ⟨(.ni _ rfl), (.ni _ rfl), (.ni _ rfl), (.ni _ rfl), (.ni _ rfl), (.ni _ rfl), trivial⟩, trivial⟩⟩
                      · replace hJ_440 := cond_f hb_442 hJ_440
                        conv => whnf
                        obtain ⟨r_37, h_r_37, hJ_440⟩ := bind_some hJ_440
                        refine ⟨_, _, _, _, _, _, _, _, _, callX false [0] [] 0 Try.func10 (by decide) rfl (keep_Src_N_ac r_32.2 (3 : Int) r_37 h_r_37) rfl ⟨(argP (id := 0) (by (conv => lhs; whnf); all_goals rfl) rfl), (argE (by (conv => lhs; whnf); all_goals rfl) rfl), trivial⟩ rfl ⟨rfl, trivial⟩ rfl rfl rfl lend0 ⟨rfl, trivial⟩ rfl, ?_⟩
                        conv => whnf
                        obtain ⟨r_38, h_r_38, hJ_440⟩ := bind_some hJ_440
                        refine ⟨_, _, _, _, _, _, _, _, _, callX false [] [] 0 Try.func14 (by decide) rfl (screen_Verdict_ac (⟨(⟨i_15, i_16, i_17, i_18⟩ : A4_Int), i_19, a_20⟩ : Screening) x_3 (r_37.1 == (0 : Int)) x_4 r_38 h_r_38) rfl ⟨(argE (by (conv => lhs; whnf); all_goals rfl) rfl), (argE (by (conv => lhs; whnf); all_goals rfl) rfl), (argE (by (conv => lhs; whnf); all_goals rfl) rfl), (argE (by (conv => lhs; whnf); all_goals rfl) rfl), trivial⟩ rfl trivial rfl rfl rfl lend0 trivial rfl, ?_⟩
                        conv => whnf
                        obtain ⟨r_39, h_r_39, hJ_440⟩ := bind_some hJ_440
                        refine ⟨_, _, _, _, _, _, _, _, _, callX false [] [] 0 Try.func26 (by decide) rfl (ref15_Verdict_ac (⟨(⟨i_21, i_22, i_23, i_24⟩ : A4_Int), i_25, a_26⟩ : Screening) x_3 (r_37.1 == (0 : Int)) x_4 r_39 h_r_39) rfl ⟨(argE (by (conv => lhs; whnf); all_goals rfl) rfl), (argE (by (conv => lhs; whnf); all_goals rfl) rfl), (argE (by (conv => lhs; whnf); all_goals rfl) rfl), (argE (by (conv => lhs; whnf); all_goals rfl) rfl), trivial⟩ rfl trivial rfl rfl rfl lend0 trivial rfl, ?_⟩
                        conv => whnf
                        obtain rfl := Option.some.inj hJ_440
                        exact ⟨(r_38.2.2, r_39.2.2, r_38.1.Limits.e0, r_38.1.Limits.e1, r_38.1.Limits.e2, r_38.1.Limits.e3, r_38.1.Next, r_38.1.L, r_39.1.Limits.e0, r_39.1.Limits.e1, r_39.1.Limits.e2, r_39.1.Limits.e3, r_39.1.Next, r_39.1.L, r_37.2.L, r_37.2.At, r_38.2.1, r_39.2.1), [0, 1, 2, 7, 8], [], [], hB_440 _ rfl, wk_mk [0, 1, 2, 7, 8] [] [] rfl ⟨argE (by (conv => lhs; whnf); all_goals rfl) rfl, argE (by (conv => lhs; whnf); all_goals rfl) rfl, argE (by (conv => lhs; whnf); all_goals rfl) rfl, argP (id := 0) (by (conv => lhs; whnf); all_goals rfl) rfl, argP (id := 1) (by (conv => lhs; whnf); all_goals rfl) rfl, argP (id := 2) (by (conv => lhs; whnf); all_goals rfl) rfl, argE (by (conv => lhs; whnf); all_goals rfl) rfl, argE (by (conv => lhs; whnf); all_goals rfl) rfl, argE (by (conv => lhs; whnf); all_goals rfl) rfl, argP (id := 7) (by (conv => lhs; whnf); all_goals rfl) rfl, argE (by (conv => lhs; whnf); all_goals rfl) rfl, argE (by (conv => lhs; whnf); all_goals rfl) rfl, argP (id := 8) (by (conv => lhs; whnf); all_goals rfl) rfl, argE (by (conv => lhs; whnf); all_goals rfl) rfl, argE (by (conv => lhs; whnf); all_goals rfl) rfl, trivial⟩ ⟨boxL rfl rfl rfl ⟨(.ni _ rfl), (.ni _ rfl), trivial⟩, boxL rfl rfl rfl ⟨(.ni _ rfl), (.ni _ rfl), (.ni _ rfl), (.ni _ rfl), (.ni _ rfl), (.ni _ rfl), trivial⟩, boxL rfl rfl rfl ⟨(.ni _ rfl), (.ni _ rfl), (.ni _ rfl), (.ni _ rfl), (.ni _ rfl), (.ni _ rfl), trivial⟩, boxL rfl rfl rfl ⟨(.ni _ rfl), (.ni _ rfl), (.ni _ rfl), (.ni _ rfl), (.ni _ rfl), (.ni _ rfl), trivial⟩, boxL rfl rfl rfl ⟨(.ni _ rfl), (.ni _ rfl), (.ni _ rfl), (.ni _ rfl), (.ni _ rfl), (.ni _ rfl), trivial⟩, trivial⟩⟩
                  · rintro z_58 hx_440
                    replace hL1 := hD_440 _ hx_440
                    try dsimp only at hL1
                    conv => whnf
                    refine ⟨fun hb_443 => ?_, fun hb_443 => ?_⟩
                    · replace hL1 := cond_f hb_443 hL1
                      conv => whnf
                      refine ⟨fun hb_444 => ?_, fun hb_444 => ?_⟩
                      · replace hL1 := cond_f hb_444 hL1
                        conv => whnf
                        obtain ⟨r_59, h_r_59, hL1⟩ := bind_some hL1
                        refine ⟨_, _, _, _, _, _, _, _, _, callX false [] [] 0 Try.func22 (by decide) rfl (ref15_Same_ac (⟨(⟨z_58.2.2.1, z_58.2.2.2.1, z_58.2.2.2.2.1, z_58.2.2.2.2.2.1⟩ : A4_Int), z_58.2.2.2.2.2.2.1, z_58.2.2.2.2.2.2.2.1⟩ : Screening) (⟨(⟨z_58.2.2.2.2.2.2.2.2.1, z_58.2.2.2.2.2.2.2.2.2.1, z_58.2.2.2.2.2.2.2.2.2.2.1, z_58.2.2.2.2.2.2.2.2.2.2.2.1⟩ : A4_Int), z_58.2.2.2.2.2.2.2.2.2.2.2.2.1, z_58.2.2.2.2.2.2.2.2.2.2.2.2.2.1⟩ : Screening) r_59 h_r_59) rfl ⟨(argE (by (conv => lhs; whnf); all_goals rfl) rfl), (argE (by (conv => lhs; whnf); all_goals rfl) rfl), trivial⟩ rfl trivial rfl rfl rfl lend0 trivial rfl, ?_⟩
                        conv => whnf
                        refine ⟨fun hb_445 => ?_, fun hb_445 => ?_⟩
                        · replace hL1 := cond_t hb_445 hL1
                          conv => whnf
                          obtain rfl := Option.some.inj hL1
                          replace hF := fin_ret hF
                          obtain rfl := Option.some.inj hF
                          exact ret_gz [] [] [] rfl (argFl (by (conv => lhs; whnf); all_goals rfl)) trivial
                        · replace hL1 := cond_f hb_445 hL1
                          conv => whnf
                          refine ⟨fun hb_446 => ?_, fun hb_446 => ?_⟩
                          · replace hL1 := cond_t hb_446 hL1
                            conv => whnf
                            refine ⟨by kernel_rfl, ?_⟩
                            conv => whnf
                            obtain ⟨r_60, h_r_60, hL1⟩ := bind_some hL1
                            refine ⟨_, _, _, _, _, _, _, _, _, callX false [] [] 0 Try.func16 (by decide) rfl (screen_Find_ac (⟨(⟨z_58.2.2.1, z_58.2.2.2.1, z_58.2.2.2.2.1, z_58.2.2.2.2.2.1⟩ : A4_Int), z_58.2.2.2.2.2.2.1, z_58.2.2.2.2.2.2.2.1⟩ : Screening) x_2 r_60 h_r_60) rfl ⟨(argE (by (conv => lhs; whnf); all_goals rfl) rfl), (argE (by (conv => lhs; whnf); all_goals rfl) rfl), trivial⟩ rfl trivial rfl rfl rfl lend0 trivial rfl, ?_⟩
                            conv => whnf
                            obtain ⟨r_61, h_r_61, hL1⟩ := bind_some hL1
                            refine ⟨_, _, _, _, _, _, _, _, _, callX false [] [] 0 Try.func27 (by decide) rfl (ref15_Find_ac (⟨(⟨z_58.2.2.2.2.2.2.2.2.1, z_58.2.2.2.2.2.2.2.2.2.1, z_58.2.2.2.2.2.2.2.2.2.2.1, z_58.2.2.2.2.2.2.2.2.2.2.2.1⟩ : A4_Int), z_58.2.2.2.2.2.2.2.2.2.2.2.2.1, z_58.2.2.2.2.2.2.2.2.2.2.2.2.2.1⟩ : Screening) x_2 r_61 h_r_61) rfl ⟨(argE (by (conv => lhs; whnf); all_goals rfl) rfl), (argE (by (conv => lhs; whnf); all_goals rfl) rfl), trivial⟩ rfl trivial rfl rfl rfl lend0 trivial rfl, ?_⟩
                            conv => whnf
                            refine ⟨fun hb_447 => ?_, fun hb_447 => ?_⟩
                            · replace hL1 := cond_f hb_447 hL1
                              conv => whnf
                              refine ⟨fun hb_448 => ?_, fun hb_448 => ?_⟩
                              · replace hL1 := cond_f hb_448 hL1
                                conv => whnf
                                obtain ⟨r_62, h_r_62, hL1⟩ := bind_some hL1
                                refine ⟨_, _, _, _, _, _, _, _, _, callX false [] [] 0 Try.func18 (by decide) rfl (screen_Cleared_ac (⟨(⟨z_58.2.2.1, z_58.2.2.2.1, z_58.2.2.2.2.1, z_58.2.2.2.2.2.1⟩ : A4_Int), z_58.2.2.2.2.2.2.1, z_58.2.2.2.2.2.2.2.1⟩ : Screening) r_62 h_r_62) rfl ⟨(argE (by (conv => lhs; whnf); all_goals rfl) rfl), trivial⟩ rfl trivial rfl rfl rfl lend0 trivial rfl, ?_⟩
                                conv => whnf
                                obtain ⟨r_63, h_r_63, hL1⟩ := bind_some hL1
                                refine ⟨_, _, _, _, _, _, _, _, _, callX false [] [] 0 Try.func29 (by decide) rfl (ref15_Cleared_ac (⟨(⟨z_58.2.2.2.2.2.2.2.2.1, z_58.2.2.2.2.2.2.2.2.2.1, z_58.2.2.2.2.2.2.2.2.2.2.1, z_58.2.2.2.2.2.2.2.2.2.2.2.1⟩ : A4_Int), z_58.2.2.2.2.2.2.2.2.2.2.2.2.1, z_58.2.2.2.2.2.2.2.2.2.2.2.2.2.1⟩ : Screening) r_63 h_r_63) rfl ⟨(argE (by (conv => lhs; whnf); all_goals rfl) rfl), trivial⟩ rfl trivial rfl rfl rfl lend0 trivial rfl, ?_⟩
                                conv => whnf
                                obtain ⟨r_64, h_r_64, hL1⟩ := bind_some hL1
                                refine ⟨_, _, _, _, _, _, _, _, _, callX false [] [] 0 Try.func28 (by decide) rfl (keep_Ints_ac r_62 r_63 r_64 h_r_64) rfl ⟨(argE (by (conv => lhs; whnf); all_goals rfl) rfl), (argE (by (conv => lhs; whnf); all_goals rfl) rfl), trivial⟩ rfl trivial rfl rfl rfl lend0 trivial rfl, ?_⟩
                                conv => whnf
                                refine ⟨fun hb_449 => ?_, fun hb_449 => ?_⟩
                                · replace hL1 := cond_f hb_449 hL1
                                  conv => whnf
                                  obtain ⟨r_65, h_r_65, hL1⟩ := bind_some hL1
                                  refine ⟨_, _, _, _, _, _, _, _, _, callX false [] [] 0 Try.func20 (by decide) rfl (screen_Alarms_ac (⟨(⟨z_58.2.2.1, z_58.2.2.2.1, z_58.2.2.2.2.1, z_58.2.2.2.2.2.1⟩ : A4_Int), z_58.2.2.2.2.2.2.1, z_58.2.2.2.2.2.2.2.1⟩ : Screening) r_65 h_r_65) rfl ⟨(argE (by (conv => lhs; whnf); all_goals rfl) rfl), trivial⟩ rfl trivial rfl rfl rfl lend0 trivial rfl, ?_⟩
                                  conv => whnf
                                  obtain ⟨r_66, h_r_66, hL1⟩ := bind_some hL1
                                  refine ⟨_, _, _, _, _, _, _, _, _, callX false [] [] 0 Try.func31 (by decide) rfl (ref15_Alarms_ac (⟨(⟨z_58.2.2.2.2.2.2.2.2.1, z_58.2.2.2.2.2.2.2.2.2.1, z_58.2.2.2.2.2.2.2.2.2.2.1, z_58.2.2.2.2.2.2.2.2.2.2.2.1⟩ : A4_Int), z_58.2.2.2.2.2.2.2.2.2.2.2.2.1, z_58.2.2.2.2.2.2.2.2.2.2.2.2.2.1⟩ : Screening) r_66 h_r_66) rfl ⟨(argE (by (conv => lhs; whnf); all_goals rfl) rfl), trivial⟩ rfl trivial rfl rfl rfl lend0 trivial rfl, ?_⟩
                                  conv => whnf
                                  obtain ⟨r_67, h_r_67, hL1⟩ := bind_some hL1
                                  refine ⟨_, _, _, _, _, _, _, _, _, callX false [] [] 0 Try.func30 (by decide) rfl (law15_same_ac r_65 r_66 r_67 h_r_67) rfl ⟨(argE (by (conv => lhs; whnf); all_goals rfl) rfl), (argE (by (conv => lhs; whnf); all_goals rfl) rfl), trivial⟩ rfl trivial rfl rfl rfl lend0 trivial rfl, ?_⟩
                                  conv => whnf
                                  refine ⟨by kernel_rfl, ?_⟩
                                  conv => whnf
                                  refine ⟨fun hb_450 => ?_, fun hb_450 => ?_⟩
                                  · replace hL1 := cond_t hb_450 hL1
                                    conv => whnf
                                    obtain rfl := Option.some.inj hL1
                                    replace hF := fin_ret hF
                                    obtain rfl := Option.some.inj hF
                                    exact ret_gz [] [] [] rfl (argFl (by (conv => lhs; whnf); all_goals rfl)) trivial
                                  · replace hL1 := cond_f hb_450 hL1
                                    conv => whnf
                                    refine ⟨_, rfl, ?_⟩
                                    conv => whnf
                                    exact ⟨(q_388, z_58.2.2.2.2.2.2.2.2.2.2.2.2.2.2.1, z_58.2.2.2.2.2.2.2.2.2.2.2.2.2.2.2.1, z_58.2.2.1, z_58.2.2.2.1, z_58.2.2.2.2.1, z_58.2.2.2.2.2.1, z_58.2.2.2.2.2.2.1, z_58.2.2.2.2.2.2.2.1, z_58.2.2.2.2.2.2.2.2.1, z_58.2.2.2.2.2.2.2.2.2.1, z_58.2.2.2.2.2.2.2.2.2.2.1, z_58.2.2.2.2.2.2.2.2.2.2.2.1, z_58.2.2.2.2.2.2.2.2.2.2.2.2.1, z_58.2.2.2.2.2.2.2.2.2.2.2.2.2.1, (w64 (i_27 + r_29.1)), (w64 (i_28 + (1 : Int)))), [0, 1, 2], [], [], hL1, Nat.lt_succ_self _, wk_mk [0, 1, 2] [] [] rfl ⟨argE (by (conv => lhs; whnf); all_goals rfl) rfl, argE (by (conv => lhs; whnf); all_goals rfl) rfl, argE (by (conv => lhs; whnf); all_goals rfl) rfl, argP (id := 0) (by (conv => lhs; whnf); all_goals rfl) rfl, argP (id := 1) (by (conv => lhs; whnf); all_goals rfl) rfl, argP (id := 2) (by (conv => lhs; whnf); all_goals rfl) rfl, argE (by (conv => lhs; whnf); all_goals rfl) rfl, argE (by (conv => lhs; whnf); all_goals rfl) rfl, trivial⟩ ⟨boxL rfl rfl rfl ⟨(.ni _ rfl), (.ni _ rfl), trivial⟩, boxL rfl rfl rfl ⟨(.ni _ rfl), (.ni _ rfl), (.ni _ rfl), (.ni _ rfl), (.ni _ rfl), (.ni _ rfl), trivial⟩, boxL rfl rfl rfl ⟨(.ni _ rfl), (.ni _ rfl), (.ni _ rfl), (.ni _ rfl), (.ni _ rfl), (.ni _ rfl), trivial⟩, trivial⟩⟩
                                · replace hL1 := cond_t hb_449 hL1
                                  conv => whnf
                                  refine ⟨by kernel_rfl, ?_⟩
                                  conv => whnf
                                  obtain rfl := Option.some.inj hL1
                                  replace hF := fin_ret hF
                                  obtain rfl := Option.some.inj hF
                                  exact ret_gz [] [] [] rfl (argFl (by (conv => lhs; whnf); all_goals rfl)) trivial
                              · replace hL1 := cond_t hb_448 hL1
                                conv => whnf
                                refine ⟨by kernel_rfl, ?_⟩
                                conv => whnf
                                obtain rfl := Option.some.inj hL1
                                replace hF := fin_ret hF
                                obtain rfl := Option.some.inj hF
                                exact ret_gz [] [] [] rfl (argFl (by (conv => lhs; whnf); all_goals rfl)) trivial
                            · replace hL1 := cond_t hb_447 hL1
                              conv => whnf
                              refine ⟨by kernel_rfl, ?_⟩
                              conv => whnf
                              obtain rfl := Option.some.inj hL1
                              replace hF := fin_ret hF
                              obtain rfl := Option.some.inj hF
                              exact ret_gz [] [] [] rfl (argFl (by (conv => lhs; whnf); all_goals rfl)) trivial
                          · replace hL1 := cond_f hb_446 hL1
                            conv => whnf
                            obtain ⟨r_68, h_r_68, hL1⟩ := bind_some hL1
                            refine ⟨_, _, _, _, _, _, _, _, _, callX false [] [] 0 Try.func16 (by decide) rfl (screen_Find_ac (⟨(⟨i_15, i_16, i_17, i_18⟩ : A4_Int), i_19, a_20⟩ : Screening) x_2 r_68 h_r_68) rfl ⟨(argE (by (conv => lhs; whnf); all_goals rfl) rfl), (argE (by (conv => lhs; whnf); all_goals rfl) rfl), trivial⟩ rfl trivial rfl rfl rfl lend0 trivial rfl, ?_⟩
                            conv => whnf
                            obtain ⟨r_69, h_r_69, hL1⟩ := bind_some hL1
                            refine ⟨_, _, _, _, _, _, _, _, _, callX false [] [] 0 Try.func27 (by decide) rfl (ref15_Find_ac (⟨(⟨i_21, i_22, i_23, i_24⟩ : A4_Int), i_25, a_26⟩ : Screening) x_2 r_69 h_r_69) rfl ⟨(argE (by (conv => lhs; whnf); all_goals rfl) rfl), (argE (by (conv => lhs; whnf); all_goals rfl) rfl), trivial⟩ rfl trivial rfl rfl rfl lend0 trivial rfl, ?_⟩
                            conv => whnf
                            refine ⟨fun hb_451 => ?_, fun hb_451 => ?_⟩
                            · replace hL1 := cond_f hb_451 hL1
                              conv => whnf
                              refine ⟨fun hb_452 => ?_, fun hb_452 => ?_⟩
                              · replace hL1 := cond_f hb_452 hL1
                                conv => whnf
                                obtain ⟨r_70, h_r_70, hL1⟩ := bind_some hL1
                                refine ⟨_, _, _, _, _, _, _, _, _, callX false [] [] 0 Try.func18 (by decide) rfl (screen_Cleared_ac (⟨(⟨i_15, i_16, i_17, i_18⟩ : A4_Int), i_19, a_20⟩ : Screening) r_70 h_r_70) rfl ⟨(argE (by (conv => lhs; whnf); all_goals rfl) rfl), trivial⟩ rfl trivial rfl rfl rfl lend0 trivial rfl, ?_⟩
                                conv => whnf
                                obtain ⟨r_71, h_r_71, hL1⟩ := bind_some hL1
                                refine ⟨_, _, _, _, _, _, _, _, _, callX false [] [] 0 Try.func29 (by decide) rfl (ref15_Cleared_ac (⟨(⟨i_21, i_22, i_23, i_24⟩ : A4_Int), i_25, a_26⟩ : Screening) r_71 h_r_71) rfl ⟨(argE (by (conv => lhs; whnf); all_goals rfl) rfl), trivial⟩ rfl trivial rfl rfl rfl lend0 trivial rfl, ?_⟩
                                conv => whnf
                                obtain ⟨r_72, h_r_72, hL1⟩ := bind_some hL1
                                refine ⟨_, _, _, _, _, _, _, _, _, callX false [] [] 0 Try.func28 (by decide) rfl (keep_Ints_ac r_70 r_71 r_72 h_r_72) rfl ⟨(argE (by (conv => lhs; whnf); all_goals rfl) rfl), (argE (by (conv => lhs; whnf); all_goals rfl) rfl), trivial⟩ rfl trivial rfl rfl rfl lend0 trivial rfl, ?_⟩
                                conv => whnf
                                refine ⟨fun hb_453 => ?_, fun hb_453 => ?_⟩
                                · replace hL1 := cond_f hb_453 hL1
                                  conv => whnf
                                  obtain ⟨r_73, h_r_73, hL1⟩ := bind_some hL1
                                  refine ⟨_, _, _, _, _, _, _, _, _, callX false [] [] 0 Try.func20 (by decide) rfl (screen_Alarms_ac (⟨(⟨i_15, i_16, i_17, i_18⟩ : A4_Int), i_19, a_20⟩ : Screening) r_73 h_r_73) rfl ⟨(argE (by (conv => lhs; whnf); all_goals rfl) rfl), trivial⟩ rfl trivial rfl rfl rfl lend0 trivial rfl, ?_⟩
                                  conv => whnf
                                  obtain ⟨r_74, h_r_74, hL1⟩ := bind_some hL1
                                  refine ⟨_, _, _, _, _, _, _, _, _, callX false [] [] 0 Try.func31 (by decide) rfl (ref15_Alarms_ac (⟨(⟨i_21, i_22, i_23, i_24⟩ : A4_Int), i_25, a_26⟩ : Screening) r_74 h_r_74) rfl ⟨(argE (by (conv => lhs; whnf); all_goals rfl) rfl), trivial⟩ rfl trivial rfl rfl rfl lend0 trivial rfl, ?_⟩
                                  conv => whnf
                                  obtain ⟨r_75, h_r_75, hL1⟩ := bind_some hL1
                                  refine ⟨_, _, _, _, _, _, _, _, _, callX false [] [] 0 Try.func30 (by decide) rfl (law15_same_ac r_73 r_74 r_75 h_r_75) rfl ⟨(argE (by (conv => lhs; whnf); all_goals rfl) rfl), (argE (by (conv => lhs; whnf); all_goals rfl) rfl), trivial⟩ rfl trivial rfl rfl rfl lend0 trivial rfl, ?_⟩
                                  conv => whnf
                                  refine ⟨by kernel_rfl, ?_⟩
                                  conv => whnf
                                  refine ⟨fun hb_454 => ?_, fun hb_454 => ?_⟩
                                  · replace hL1 := cond_t hb_454 hL1
                                    conv => whnf
                                    obtain rfl := Option.some.inj hL1
                                    replace hF := fin_ret hF
                                    obtain rfl := Option.some.inj hF
                                    exact ret_gz [] [] [] rfl (argFl (by (conv => lhs; whnf); all_goals rfl)) trivial
                                  · replace hL1 := cond_f hb_454 hL1
                                    conv => whnf
                                    refine ⟨_, rfl, ?_⟩
                                    conv => whnf
                                    exact ⟨(q_388, z_58.2.2.2.2.2.2.2.2.2.2.2.2.2.2.1, z_58.2.2.2.2.2.2.2.2.2.2.2.2.2.2.2.1, i_15, i_16, i_17, i_18, i_19, a_20, i_21, i_22, i_23, i_24, i_25, a_26, (w64 (i_27 + r_29.1)), (w64 (i_28 + (1 : Int)))), [0, 1, 2], [], [], hL1, Nat.lt_succ_self _, wk_mk [0, 1, 2] [] [] rfl ⟨argE (by (conv => lhs; whnf); all_goals rfl) rfl, argE (by (conv => lhs; whnf); all_goals rfl) rfl, argE (by (conv => lhs; whnf); all_goals rfl) rfl, argP (id := 0) (by (conv => lhs; whnf); all_goals rfl) rfl, argP (id := 1) (by (conv => lhs; whnf); all_goals rfl) rfl, argP (id := 2) (by (conv => lhs; whnf); all_goals rfl) rfl, argE (by (conv => lhs; whnf); all_goals rfl) rfl, argE (by (conv => lhs; whnf); all_goals rfl) rfl, trivial⟩ ⟨boxL rfl rfl rfl ⟨(.ni _ rfl), (.ni _ rfl), trivial⟩, boxL rfl rfl rfl ⟨(.ni _ rfl), (.ni _ rfl), (.ni _ rfl), (.ni _ rfl), (.ni _ rfl), (.ni _ rfl), trivial⟩, boxL rfl rfl rfl ⟨(.ni _ rfl), (.ni _ rfl), (.ni _ rfl), (.ni _ rfl), (.ni _ rfl), (.ni _ rfl), trivial⟩, trivial⟩⟩
                                · replace hL1 := cond_t hb_453 hL1
                                  conv => whnf
                                  refine ⟨by kernel_rfl, ?_⟩
                                  conv => whnf
                                  obtain rfl := Option.some.inj hL1
                                  replace hF := fin_ret hF
                                  obtain rfl := Option.some.inj hF
                                  exact ret_gz [] [] [] rfl (argFl (by (conv => lhs; whnf); all_goals rfl)) trivial
                              · replace hL1 := cond_t hb_452 hL1
                                conv => whnf
                                refine ⟨by kernel_rfl, ?_⟩
                                conv => whnf
                                obtain rfl := Option.some.inj hL1
                                replace hF := fin_ret hF
                                obtain rfl := Option.some.inj hF
                                exact ret_gz [] [] [] rfl (argFl (by (conv => lhs; whnf); all_goals rfl)) trivial
                            · replace hL1 := cond_t hb_451 hL1
                              conv => whnf
                              refine ⟨by kernel_rfl, ?_⟩
                              conv => whnf
                              obtain rfl := Option.some.inj hL1
                              replace hF := fin_ret hF
                              obtain rfl := Option.some.inj hF
                              exact ret_gz [] [] [] rfl (argFl (by (conv => lhs; whnf); all_goals rfl)) trivial
                      · replace hL1 := cond_t hb_444 hL1
                        conv => whnf
                        obtain rfl := Option.some.inj hL1
                        replace hF := fin_ret hF
                        obtain rfl := Option.some.inj hF
                        exact ret_gz [] [] [] rfl (argFl (by (conv => lhs; whnf); all_goals rfl)) trivial
                    · replace hL1 := cond_t hb_443 hL1
                      conv => whnf
                      obtain rfl := Option.some.inj hL1
                      replace hF := fin_ret hF
                      obtain rfl := Option.some.inj hF
                      exact ret_gz [] [] [] rfl (argFl (by (conv => lhs; whnf); all_goals rfl)) trivial
              · replace hL1 := cond_f hb_438 hL1
                conv => whnf
                obtain ⟨r_164, h_r_164, hL1⟩ := bind_some hL1
                refine ⟨_, _, _, _, _, _, _, _, _, callX false [0] [] 0 Try.func10 (by decide) rfl (keep_Src_N_ac r_31.2 (4 : Int) r_164 h_r_164) rfl ⟨(argP (id := 0) (by (conv => lhs; whnf); all_goals rfl) rfl), (argE (by (conv => lhs; whnf); all_goals rfl) rfl), trivial⟩ rfl ⟨rfl, trivial⟩ rfl rfl rfl lend0 ⟨rfl, trivial⟩ rfl, ?_⟩
                conv => whnf
                obtain ⟨D_486, cJ_486, hJ_486, hB_486, hD_486, hR_486⟩ := sub_join hL1
                refine sw_blkj tab_ok follows_ok (fun y : Int × Int × Int × Int × Int × Int × Int × (List Check) × Int × Int × Int × Int × Int × (List Check) × (List Int) × Int × Int × Int => ⟨eL [(2, .int .i64 x_2), (3, .int .i64 x_3), (4, .int .i64 x_4), (11, .ptr 0 0), (12, .ptr 1 0), (14, .ptr 2 0), (17, .int .i64 (w64 (i_27 + r_29.1))), (18, .int .i64 i_28), (19, .int .i64 r_30.1), (22, .ptr 3 0), (23, .int .i64 y.2.2.2.2.2.2.2.2.2.2.2.2.2.2.2.2.1), (24, .int .i64 y.1), (25, .ptr 4 0), (26, .int .i64 y.2.2.2.2.2.2.2.2.2.2.2.2.2.2.2.2.2), (27, .int .i64 y.2.1)], hL [(0, .box [.lst 1 (y.2.2.2.2.2.2.2.2.2.2.2.2.2.2.1.map iA), .int .i64 y.2.2.2.2.2.2.2.2.2.2.2.2.2.2.2.1]), (1, .box [.int .i64 i_15, .int .i64 i_16, .int .i64 i_17, .int .i64 i_18, .int .i64 i_19, .lst 5 (a_20.map encCheck)]), (2, .box [.int .i64 i_21, .int .i64 i_22, .int .i64 i_23, .int .i64 i_24, .int .i64 i_25, .lst 5 (a_26.map encCheck)]), (3, .box [.int .i64 y.2.2.1, .int .i64 y.2.2.2.1, .int .i64 y.2.2.2.2.1, .int .i64 y.2.2.2.2.2.1, .int .i64 y.2.2.2.2.2.2.1, .lst 5 (y.2.2.2.2.2.2.2.1.map encCheck)]), (4, .box [.int .i64 y.2.2.2.2.2.2.2.2.1, .int .i64 y.2.2.2.2.2.2.2.2.2.1, .int .i64 y.2.2.2.2.2.2.2.2.2.2.1, .int .i64 y.2.2.2.2.2.2.2.2.2.2.2.1, .int .i64 y.2.2.2.2.2.2.2.2.2.2.2.2.1, .lst 5 (y.2.2.2.2.2.2.2.2.2.2.2.2.2.1.map encCheck)])], 5⟩) D_486 ?_ ?_
                · conv => whnf
                  refine ⟨fun hb_487 => ?_, fun hb_487 => ?_⟩
                  · replace hJ_486 := cond_t hb_487 hJ_486
                    conv => whnf
                    obtain ⟨r_165, h_r_165, hJ_486⟩ := bind_some hJ_486
                    refine ⟨_, _, _, _, _, _, _, _, _, callX false [] [] 0 Try.func11 (by decide) rfl (screen_Start_ac (⟨(⟨i_15, i_16, i_17, i_18⟩ : A4_Int), i_19, a_20⟩ : Screening) r_30.1 (w64 (i_27 + r_29.1)) r_165 h_r_165) rfl ⟨(argE (by (conv => lhs; whnf); all_goals rfl) rfl), (argE (by (conv => lhs; whnf); all_goals rfl) rfl), (argE (by (conv => lhs; whnf); all_goals rfl) rfl), trivial⟩ rfl trivial rfl rfl rfl lend0 trivial rfl, ?_⟩
                    conv => whnf
                    obtain ⟨r_166, h_r_166, hJ_486⟩ := bind_some hJ_486
                    refine ⟨_, _, _, _, _, _, _, _, _, callX false [] [] 0 Try.func24 (by decide) rfl (ref15_Start_ac (⟨(⟨i_21, i_22, i_23, i_24⟩ : A4_Int), i_25, a_26⟩ : Screening) r_30.1 (w64 (i_27 + r_29.1)) r_166 h_r_166) rfl ⟨(argE (by (conv => lhs; whnf); all_goals rfl) rfl), (argE (by (conv => lhs; whnf); all_goals rfl) rfl), (argE (by (conv => lhs; whnf); all_goals rfl) rfl), trivial⟩ rfl trivial rfl rfl rfl lend0 trivial rfl, ?_⟩
                    conv => whnf
                    obtain rfl := Option.some.inj hJ_486
                    exact ⟨(r_165.2, r_166.2, r_165.1.Limits.e0, r_165.1.Limits.e1, r_165.1.Limits.e2, r_165.1.Limits.e3, r_165.1.Next, r_165.1.L, r_166.1.Limits.e0, r_166.1.Limits.e1, r_166.1.Limits.e2, r_166.1.Limits.e3, r_166.1.Next, r_166.1.L, r_164.2.L, r_164.2.At, (0 : Int), (0 : Int)), [0, 1, 2, 7, 8], [], [], hB_486 _ rfl, wk_mk [0, 1, 2, 7, 8] [] [] rfl ⟨argE (by (conv => lhs; whnf); all_goals rfl) rfl, argE (by (conv => lhs; whnf); all_goals rfl) rfl, argE (by (conv => lhs; whnf); all_goals rfl) rfl, argP (id := 0) (by (conv => lhs; whnf); all_goals rfl) rfl, argP (id := 1) (by (conv => lhs; whnf); all_goals rfl) rfl, argP (id := 2) (by (conv => lhs; whnf); all_goals rfl) rfl, argE (by (conv => lhs; whnf); all_goals rfl) rfl, argE (by (conv => lhs; whnf); all_goals rfl) rfl, argE (by (conv => lhs; whnf); all_goals rfl) rfl, argP (id := 7) (by (conv => lhs; whnf); all_goals rfl) rfl, argE (by (conv => lhs; whnf); all_goals rfl) rfl, argE (by (conv => lhs; whnf); all_goals rfl) rfl, argP (id := 8) (by (conv => lhs; whnf); all_goals rfl) rfl, argE (by (conv => lhs; whnf); all_goals rfl) rfl, argE (by (conv => lhs; whnf); all_goals rfl) rfl, trivial⟩ ⟨boxL rfl rfl rfl ⟨(.ni _ rfl), (.ni _ rfl), trivial⟩, boxL rfl rfl rfl ⟨(.ni _ rfl), (.ni _ rfl), (.ni _ rfl), (.ni _ rfl), (.ni _ rfl), (.ni _ rfl), trivial⟩, boxL rfl rfl rfl ⟨(.ni _ rfl), (.ni _ rfl), (.ni _ rfl), (.ni _ rfl), (.ni _ rfl), (.ni _ rfl), trivial⟩, boxL rfl rfl rfl ⟨(.ni _ rfl), (.ni _ rfl), (.ni _ rfl), (.ni _ rfl), (.ni _ rfl), (.ni _ rfl), trivial⟩, boxL rfl rfl rfl ⟨(.ni _ rfl), (.ni _ rfl), (.ni _ rfl), (.ni _ rfl), (.ni _ rfl), (.ni _ rfl), trivial⟩, trivial⟩⟩
                  · replace hJ_486 := cond_f hb_487 hJ_486
                    conv => whnf
                    refine ⟨fun hb_488 => ?_, fun hb_488 => ?_⟩
                    · replace hJ_486 := cond_t hb_488 hJ_486
                      conv => whnf
                      obtain ⟨r_167, h_r_167, hJ_486⟩ := bind_some hJ_486
                      refine ⟨_, _, _, _, _, _, _, _, _, callX false [] [] 0 Try.func13 (by decide) rfl (screen_Expire_ac (⟨(⟨i_15, i_16, i_17, i_18⟩ : A4_Int), i_19, a_20⟩ : Screening) (w64 (i_27 + r_29.1)) r_167 h_r_167) rfl ⟨(argE (by (conv => lhs; whnf); all_goals rfl) rfl), (argE (by (conv => lhs; whnf); all_goals rfl) rfl), trivial⟩ rfl trivial rfl rfl rfl lend0 trivial rfl, ?_⟩
                      conv => whnf
                      obtain ⟨r_168, h_r_168, hJ_486⟩ := bind_some hJ_486
                      refine ⟨_, _, _, _, _, _, _, _, _, callX false [] [] 0 Try.func25 (by decide) rfl (ref15_Expire_ac (⟨(⟨i_21, i_22, i_23, i_24⟩ : A4_Int), i_25, a_26⟩ : Screening) (w64 (i_27 + r_29.1)) r_168 h_r_168) rfl ⟨(argE (by (conv => lhs; whnf); all_goals rfl) rfl), (argE (by (conv => lhs; whnf); all_goals rfl) rfl), trivial⟩ rfl trivial rfl rfl rfl lend0 trivial rfl, ?_⟩
                      conv => whnf
                      obtain rfl := Option.some.inj hJ_486
                      exact ⟨(r_167.2, r_168.2, r_167.1.Limits.e0, r_167.1.Limits.e1, r_167.1.Limits.e2, r_167.1.Limits.e3, r_167.1.Next, r_167.1.L, r_168.1.Limits.e0, r_168.1.Limits.e1, r_168.1.Limits.e2, r_168.1.Limits.e3, r_168.1.Next, r_168.1.L, r_164.2.L, r_164.2.At, (0 : Int), (0 : Int)), [0, 1, 2, 7, 8], [], [], hB_486 _ rfl, wk_mk [0, 1, 2, 7, 8] [] [] rfl ⟨argE (by (conv => lhs; whnf); all_goals rfl) rfl, argE (by (conv => lhs; whnf); all_goals rfl) rfl, argE (by (conv => lhs; whnf); all_goals rfl) rfl, argP (id := 0) (by (conv => lhs; whnf); all_goals rfl) rfl, argP (id := 1) (by (conv => lhs; whnf); all_goals rfl) rfl, argP (id := 2) (by (conv => lhs; whnf); all_goals rfl) rfl, argE (by (conv => lhs; whnf); all_goals rfl) rfl, argE (by (conv => lhs; whnf); all_goals rfl) rfl, argE (by (conv => lhs; whnf); all_goals rfl) rfl, argP (id := 7) (by (conv => lhs; whnf); all_goals rfl) rfl, argE (by (conv => lhs; whnf); all_goals rfl) rfl, argE (by (conv => lhs; whnf); all_goals rfl) rfl, argP (id := 8) (by (conv => lhs; whnf); all_goals rfl) rfl, argE (by (conv => lhs; whnf); all_goals rfl) rfl, argE (by (conv => lhs; whnf); all_goals rfl) rfl, trivial⟩ ⟨boxL rfl rfl rfl ⟨(.ni _ rfl), (.ni _ rfl), trivial⟩, boxL rfl rfl rfl ⟨(.ni _ rfl), (.ni _ rfl), (.ni _ rfl), (.ni _ rfl), (.ni _ rfl), (.ni _ rfl), trivial⟩, boxL rfl rfl rfl ⟨(.ni _ rfl), (.ni _ rfl), (.ni _ rfl), (.ni _ rfl), (.ni _ rfl), (.ni _ rfl), trivial⟩, boxL rfl rfl rfl ⟨(.ni _ rfl), (.ni _ rfl), (.ni _ rfl), (.ni _ rfl), (.ni _ rfl), (.ni _ rfl), trivial⟩, boxL rfl rfl rfl ⟨(.ni _ rfl), (.ni _ rfl), (.ni _ rfl), (.ni _ rfl), (.ni _ rfl), (.ni _ rfl), trivial⟩, trivial⟩⟩
                    · replace hJ_486 := cond_f hb_488 hJ_486
                      conv => whnf
                      obtain ⟨r_169, h_r_169, hJ_486⟩ := bind_some hJ_486
                      refine ⟨_, _, _, _, _, _, _, _, _, callX false [0] [] 0 Try.func10 (by decide) rfl (keep_Src_N_ac r_164.2 (3 : Int) r_169 h_r_169) rfl ⟨(argP (id := 0) (by (conv => lhs; whnf); all_goals rfl) rfl), (argE (by (conv => lhs; whnf); all_goals rfl) rfl), trivial⟩ rfl ⟨rfl, trivial⟩ rfl rfl rfl lend0 ⟨rfl, trivial⟩ rfl, ?_⟩
                      conv => whnf
                      obtain ⟨r_170, h_r_170, hJ_486⟩ := bind_some hJ_486
                      refine ⟨_, _, _, _, _, _, _, _, _, callX false [] [] 0 Try.func14 (by decide) rfl (screen_Verdict_ac (⟨(⟨i_15, i_16, i_17, i_18⟩ : A4_Int), i_19, a_20⟩ : Screening) r_31.1 (r_169.1 == (0 : Int)) (w64 (i_27 + r_29.1)) r_170 h_r_170) rfl ⟨(argE (by (conv => lhs; whnf); all_goals rfl) rfl), (argE (by (conv => lhs; whnf); all_goals rfl) rfl), (argE (by (conv => lhs; whnf); all_goals rfl) rfl), (argE (by (conv => lhs; whnf); all_goals rfl) rfl), trivial⟩ rfl trivial rfl rfl rfl lend0 trivial rfl, ?_⟩
                      conv => whnf
                      obtain ⟨r_171, h_r_171, hJ_486⟩ := bind_some hJ_486
                      refine ⟨_, _, _, _, _, _, _, _, _, callX false [] [] 0 Try.func26 (by decide) rfl (ref15_Verdict_ac (⟨(⟨i_21, i_22, i_23, i_24⟩ : A4_Int), i_25, a_26⟩ : Screening) r_31.1 (r_169.1 == (0 : Int)) (w64 (i_27 + r_29.1)) r_171 h_r_171) rfl ⟨(argE (by (conv => lhs; whnf); all_goals rfl) rfl), (argE (by (conv => lhs; whnf); all_goals rfl) rfl), (argE (by (conv => lhs; whnf); all_goals rfl) rfl), (argE (by (conv => lhs; whnf); all_goals rfl) rfl), trivial⟩ rfl trivial rfl rfl rfl lend0 trivial rfl, ?_⟩
                      conv => whnf
                      obtain rfl := Option.some.inj hJ_486
                      exact ⟨(r_170.2.2, r_171.2.2, r_170.1.Limits.e0, r_170.1.Limits.e1, r_170.1.Limits.e2, r_170.1.Limits.e3, r_170.1.Next, r_170.1.L, r_171.1.Limits.e0, r_171.1.Limits.e1, r_171.1.Limits.e2, r_171.1.Limits.e3, r_171.1.Next, r_171.1.L, r_169.2.L, r_169.2.At, r_170.2.1, r_171.2.1), [0, 1, 2, 7, 8], [], [], hB_486 _ rfl, wk_mk [0, 1, 2, 7, 8] [] [] rfl ⟨argE (by (conv => lhs; whnf); all_goals rfl) rfl, argE (by (conv => lhs; whnf); all_goals rfl) rfl, argE (by (conv => lhs; whnf); all_goals rfl) rfl, argP (id := 0) (by (conv => lhs; whnf); all_goals rfl) rfl, argP (id := 1) (by (conv => lhs; whnf); all_goals rfl) rfl, argP (id := 2) (by (conv => lhs; whnf); all_goals rfl) rfl, argE (by (conv => lhs; whnf); all_goals rfl) rfl, argE (by (conv => lhs; whnf); all_goals rfl) rfl, argE (by (conv => lhs; whnf); all_goals rfl) rfl, argP (id := 7) (by (conv => lhs; whnf); all_goals rfl) rfl, argE (by (conv => lhs; whnf); all_goals rfl) rfl, argE (by (conv => lhs; whnf); all_goals rfl) rfl, argP (id := 8) (by (conv => lhs; whnf); all_goals rfl) rfl, argE (by (conv => lhs; whnf); all_goals rfl) rfl, argE (by (conv => lhs; whnf); all_goals rfl) rfl, trivial⟩ ⟨boxL rfl rfl rfl ⟨(.ni _ rfl), (.ni _ rfl), trivial⟩, boxL rfl rfl rfl ⟨(.ni _ rfl), (.ni _ rfl), (.ni _ rfl), (.ni _ rfl), (.ni _ rfl), (.ni _ rfl), trivial⟩, boxL rfl rfl rfl ⟨(.ni _ rfl), (.ni _ rfl), (.ni _ rfl), (.ni _ rfl), (.ni _ rfl), (.ni _ rfl), trivial⟩, boxL rfl rfl rfl ⟨(.ni _ rfl), (.ni _ rfl), (.ni _ rfl), (.ni _ rfl), (.ni _ rfl), (.ni _ rfl), trivial⟩, boxL rfl rfl rfl ⟨(.ni _ rfl), (.ni _ rfl), (.ni _ rfl), (.ni _ rfl), (.ni _ rfl), (.ni _ rfl), trivial⟩, trivial⟩⟩
                · rintro z_190 hx_486
                  replace hL1 := hD_486 _ hx_486
                  try dsimp only at hL1
                  conv => whnf
                  refine ⟨fun hb_489 => ?_, fun hb_489 => ?_⟩
                  · replace hL1 := cond_f hb_489 hL1
                    conv => whnf
                    refine ⟨fun hb_490 => ?_, fun hb_490 => ?_⟩
                    · replace hL1 := cond_f hb_490 hL1
                      conv => whnf
                      obtain ⟨r_191, h_r_191, hL1⟩ := bind_some hL1
                      refine ⟨_, _, _, _, _, _, _, _, _, callX false [] [] 0 Try.func22 (by decide) rfl (ref15_Same_ac (⟨(⟨z_190.2.2.1, z_190.2.2.2.1, z_190.2.2.2.2.1, z_190.2.2.2.2.2.1⟩ : A4_Int), z_190.2.2.2.2.2.2.1, z_190.2.2.2.2.2.2.2.1⟩ : Screening) (⟨(⟨z_190.2.2.2.2.2.2.2.2.1, z_190.2.2.2.2.2.2.2.2.2.1, z_190.2.2.2.2.2.2.2.2.2.2.1, z_190.2.2.2.2.2.2.2.2.2.2.2.1⟩ : A4_Int), z_190.2.2.2.2.2.2.2.2.2.2.2.2.1, z_190.2.2.2.2.2.2.2.2.2.2.2.2.2.1⟩ : Screening) r_191 h_r_191) rfl ⟨(argE (by (conv => lhs; whnf); all_goals rfl) rfl), (argE (by (conv => lhs; whnf); all_goals rfl) rfl), trivial⟩ rfl trivial rfl rfl rfl lend0 trivial rfl, ?_⟩
                      conv => whnf
                      refine ⟨fun hb_491 => ?_, fun hb_491 => ?_⟩
                      · replace hL1 := cond_t hb_491 hL1
                        conv => whnf
                        obtain rfl := Option.some.inj hL1
                        replace hF := fin_ret hF
                        obtain rfl := Option.some.inj hF
                        exact ret_gz [] [] [] rfl (argFl (by (conv => lhs; whnf); all_goals rfl)) trivial
                      · replace hL1 := cond_f hb_491 hL1
                        conv => whnf
                        refine ⟨fun hb_492 => ?_, fun hb_492 => ?_⟩
                        · replace hL1 := cond_t hb_492 hL1
                          conv => whnf
                          refine ⟨by kernel_rfl, ?_⟩
                          conv => whnf
                          obtain ⟨r_192, h_r_192, hL1⟩ := bind_some hL1
                          refine ⟨_, _, _, _, _, _, _, _, _, callX false [] [] 0 Try.func16 (by decide) rfl (screen_Find_ac (⟨(⟨z_190.2.2.1, z_190.2.2.2.1, z_190.2.2.2.2.1, z_190.2.2.2.2.2.1⟩ : A4_Int), z_190.2.2.2.2.2.2.1, z_190.2.2.2.2.2.2.2.1⟩ : Screening) r_30.1 r_192 h_r_192) rfl ⟨(argE (by (conv => lhs; whnf); all_goals rfl) rfl), (argE (by (conv => lhs; whnf); all_goals rfl) rfl), trivial⟩ rfl trivial rfl rfl rfl lend0 trivial rfl, ?_⟩
                          conv => whnf
                          obtain ⟨r_193, h_r_193, hL1⟩ := bind_some hL1
                          refine ⟨_, _, _, _, _, _, _, _, _, callX false [] [] 0 Try.func27 (by decide) rfl (ref15_Find_ac (⟨(⟨z_190.2.2.2.2.2.2.2.2.1, z_190.2.2.2.2.2.2.2.2.2.1, z_190.2.2.2.2.2.2.2.2.2.2.1, z_190.2.2.2.2.2.2.2.2.2.2.2.1⟩ : A4_Int), z_190.2.2.2.2.2.2.2.2.2.2.2.2.1, z_190.2.2.2.2.2.2.2.2.2.2.2.2.2.1⟩ : Screening) r_30.1 r_193 h_r_193) rfl ⟨(argE (by (conv => lhs; whnf); all_goals rfl) rfl), (argE (by (conv => lhs; whnf); all_goals rfl) rfl), trivial⟩ rfl trivial rfl rfl rfl lend0 trivial rfl, ?_⟩
                          conv => whnf
                          refine ⟨fun hb_493 => ?_, fun hb_493 => ?_⟩
                          · replace hL1 := cond_f hb_493 hL1
                            conv => whnf
                            refine ⟨fun hb_494 => ?_, fun hb_494 => ?_⟩
                            · replace hL1 := cond_f hb_494 hL1
                              conv => whnf
                              obtain ⟨r_194, h_r_194, hL1⟩ := bind_some hL1
                              refine ⟨_, _, _, _, _, _, _, _, _, callX false [] [] 0 Try.func18 (by decide) rfl (screen_Cleared_ac (⟨(⟨z_190.2.2.1, z_190.2.2.2.1, z_190.2.2.2.2.1, z_190.2.2.2.2.2.1⟩ : A4_Int), z_190.2.2.2.2.2.2.1, z_190.2.2.2.2.2.2.2.1⟩ : Screening) r_194 h_r_194) rfl ⟨(argE (by (conv => lhs; whnf); all_goals rfl) rfl), trivial⟩ rfl trivial rfl rfl rfl lend0 trivial rfl, ?_⟩
                              conv => whnf
                              obtain ⟨r_195, h_r_195, hL1⟩ := bind_some hL1
                              refine ⟨_, _, _, _, _, _, _, _, _, callX false [] [] 0 Try.func29 (by decide) rfl (ref15_Cleared_ac (⟨(⟨z_190.2.2.2.2.2.2.2.2.1, z_190.2.2.2.2.2.2.2.2.2.1, z_190.2.2.2.2.2.2.2.2.2.2.1, z_190.2.2.2.2.2.2.2.2.2.2.2.1⟩ : A4_Int), z_190.2.2.2.2.2.2.2.2.2.2.2.2.1, z_190.2.2.2.2.2.2.2.2.2.2.2.2.2.1⟩ : Screening) r_195 h_r_195) rfl ⟨(argE (by (conv => lhs; whnf); all_goals rfl) rfl), trivial⟩ rfl trivial rfl rfl rfl lend0 trivial rfl, ?_⟩
                              conv => whnf
                              obtain ⟨r_196, h_r_196, hL1⟩ := bind_some hL1
                              refine ⟨_, _, _, _, _, _, _, _, _, callX false [] [] 0 Try.func28 (by decide) rfl (keep_Ints_ac r_194 r_195 r_196 h_r_196) rfl ⟨(argE (by (conv => lhs; whnf); all_goals rfl) rfl), (argE (by (conv => lhs; whnf); all_goals rfl) rfl), trivial⟩ rfl trivial rfl rfl rfl lend0 trivial rfl, ?_⟩
                              conv => whnf
                              refine ⟨fun hb_495 => ?_, fun hb_495 => ?_⟩
                              · replace hL1 := cond_f hb_495 hL1
                                conv => whnf
                                obtain ⟨r_197, h_r_197, hL1⟩ := bind_some hL1
                                refine ⟨_, _, _, _, _, _, _, _, _, callX false [] [] 0 Try.func20 (by decide) rfl (screen_Alarms_ac (⟨(⟨z_190.2.2.1, z_190.2.2.2.1, z_190.2.2.2.2.1, z_190.2.2.2.2.2.1⟩ : A4_Int), z_190.2.2.2.2.2.2.1, z_190.2.2.2.2.2.2.2.1⟩ : Screening) r_197 h_r_197) rfl ⟨(argE (by (conv => lhs; whnf); all_goals rfl) rfl), trivial⟩ rfl trivial rfl rfl rfl lend0 trivial rfl, ?_⟩
                                conv => whnf
                                obtain ⟨r_198, h_r_198, hL1⟩ := bind_some hL1
                                refine ⟨_, _, _, _, _, _, _, _, _, callX false [] [] 0 Try.func31 (by decide) rfl (ref15_Alarms_ac (⟨(⟨z_190.2.2.2.2.2.2.2.2.1, z_190.2.2.2.2.2.2.2.2.2.1, z_190.2.2.2.2.2.2.2.2.2.2.1, z_190.2.2.2.2.2.2.2.2.2.2.2.1⟩ : A4_Int), z_190.2.2.2.2.2.2.2.2.2.2.2.2.1, z_190.2.2.2.2.2.2.2.2.2.2.2.2.2.1⟩ : Screening) r_198 h_r_198) rfl ⟨(argE (by (conv => lhs; whnf); all_goals rfl) rfl), trivial⟩ rfl trivial rfl rfl rfl lend0 trivial rfl, ?_⟩
                                conv => whnf
                                obtain ⟨r_199, h_r_199, hL1⟩ := bind_some hL1
                                refine ⟨_, _, _, _, _, _, _, _, _, callX false [] [] 0 Try.func30 (by decide) rfl (law15_same_ac r_197 r_198 r_199 h_r_199) rfl ⟨(argE (by (conv => lhs; whnf); all_goals rfl) rfl), (argE (by (conv => lhs; whnf); all_goals rfl) rfl), trivial⟩ rfl trivial rfl rfl rfl lend0 trivial rfl, ?_⟩
                                conv => whnf
                                refine ⟨by kernel_rfl, ?_⟩
                                conv => whnf
                                refine ⟨fun hb_496 => ?_, fun hb_496 => ?_⟩
                                · replace hL1 := cond_t hb_496 hL1
                                  conv => whnf
                                  obtain rfl := Option.some.inj hL1
                                  replace hF := fin_ret hF
                                  obtain rfl := Option.some.inj hF
                                  exact ret_gz [] [] [] rfl (argFl (by (conv => lhs; whnf); all_goals rfl)) trivial
                                · replace hL1 := cond_f hb_496 hL1
                                  conv => whnf
                                  refine ⟨_, rfl, ?_⟩
                                  conv => whnf
                                  exact ⟨(q_388, z_190.2.2.2.2.2.2.2.2.2.2.2.2.2.2.1, z_190.2.2.2.2.2.2.2.2.2.2.2.2.2.2.2.1, z_190.2.2.1, z_190.2.2.2.1, z_190.2.2.2.2.1, z_190.2.2.2.2.2.1, z_190.2.2.2.2.2.2.1, z_190.2.2.2.2.2.2.2.1, z_190.2.2.2.2.2.2.2.2.1, z_190.2.2.2.2.2.2.2.2.2.1, z_190.2.2.2.2.2.2.2.2.2.2.1, z_190.2.2.2.2.2.2.2.2.2.2.2.1, z_190.2.2.2.2.2.2.2.2.2.2.2.2.1, z_190.2.2.2.2.2.2.2.2.2.2.2.2.2.1, (w64 (i_27 + r_29.1)), (w64 (i_28 + (1 : Int)))), [0, 1, 2], [], [], hL1, Nat.lt_succ_self _, wk_mk [0, 1, 2] [] [] rfl ⟨argE (by (conv => lhs; whnf); all_goals rfl) rfl, argE (by (conv => lhs; whnf); all_goals rfl) rfl, argE (by (conv => lhs; whnf); all_goals rfl) rfl, argP (id := 0) (by (conv => lhs; whnf); all_goals rfl) rfl, argP (id := 1) (by (conv => lhs; whnf); all_goals rfl) rfl, argP (id := 2) (by (conv => lhs; whnf); all_goals rfl) rfl, argE (by (conv => lhs; whnf); all_goals rfl) rfl, argE (by (conv => lhs; whnf); all_goals rfl) rfl, trivial⟩ ⟨boxL rfl rfl rfl ⟨(.ni _ rfl), (.ni _ rfl), trivial⟩, boxL rfl rfl rfl ⟨(.ni _ rfl), (.ni _ rfl), (.ni _ rfl), (.ni _ rfl), (.ni _ rfl), (.ni _ rfl), trivial⟩, boxL rfl rfl rfl ⟨(.ni _ rfl), (.ni _ rfl), (.ni _ rfl), (.ni _ rfl), (.ni _ rfl), (.ni _ rfl), trivial⟩, trivial⟩⟩
                              · replace hL1 := cond_t hb_495 hL1
                                conv => whnf
                                refine ⟨by kernel_rfl, ?_⟩
                                conv => whnf
                                obtain rfl := Option.some.inj hL1
                                replace hF := fin_ret hF
                                obtain rfl := Option.some.inj hF
                                exact ret_gz [] [] [] rfl (argFl (by (conv => lhs; whnf); all_goals rfl)) trivial
                            · replace hL1 := cond_t hb_494 hL1
                              conv => whnf
                              refine ⟨by kernel_rfl, ?_⟩
                              conv => whnf
                              obtain rfl := Option.some.inj hL1
                              replace hF := fin_ret hF
                              obtain rfl := Option.some.inj hF
                              exact ret_gz [] [] [] rfl (argFl (by (conv => lhs; whnf); all_goals rfl)) trivial
                          · replace hL1 := cond_t hb_493 hL1
                            conv => whnf
                            refine ⟨by kernel_rfl, ?_⟩
                            conv => whnf
                            obtain rfl := Option.some.inj hL1
                            replace hF := fin_ret hF
                            obtain rfl := Option.some.inj hF
                            exact ret_gz [] [] [] rfl (argFl (by (conv => lhs; whnf); all_goals rfl)) trivial
                        · replace hL1 := cond_f hb_492 hL1
                          conv => whnf
                          obtain ⟨r_200, h_r_200, hL1⟩ := bind_some hL1
                          refine ⟨_, _, _, _, _, _, _, _, _, callX false [] [] 0 Try.func16 (by decide) rfl (screen_Find_ac (⟨(⟨i_15, i_16, i_17, i_18⟩ : A4_Int), i_19, a_20⟩ : Screening) r_30.1 r_200 h_r_200) rfl ⟨(argE (by (conv => lhs; whnf); all_goals rfl) rfl), (argE (by (conv => lhs; whnf); all_goals rfl) rfl), trivial⟩ rfl trivial rfl rfl rfl lend0 trivial rfl, ?_⟩
                          conv => whnf
                          obtain ⟨r_201, h_r_201, hL1⟩ := bind_some hL1
                          refine ⟨_, _, _, _, _, _, _, _, _, callX false [] [] 0 Try.func27 (by decide) rfl (ref15_Find_ac (⟨(⟨i_21, i_22, i_23, i_24⟩ : A4_Int), i_25, a_26⟩ : Screening) r_30.1 r_201 h_r_201) rfl ⟨(argE (by (conv => lhs; whnf); all_goals rfl) rfl), (argE (by (conv => lhs; whnf); all_goals rfl) rfl), trivial⟩ rfl trivial rfl rfl rfl lend0 trivial rfl, ?_⟩
                          conv => whnf
                          refine ⟨fun hb_497 => ?_, fun hb_497 => ?_⟩
                          · replace hL1 := cond_f hb_497 hL1
                            conv => whnf
                            refine ⟨fun hb_498 => ?_, fun hb_498 => ?_⟩
                            · replace hL1 := cond_f hb_498 hL1
                              conv => whnf
                              obtain ⟨r_202, h_r_202, hL1⟩ := bind_some hL1
                              refine ⟨_, _, _, _, _, _, _, _, _, callX false [] [] 0 Try.func18 (by decide) rfl (screen_Cleared_ac (⟨(⟨i_15, i_16, i_17, i_18⟩ : A4_Int), i_19, a_20⟩ : Screening) r_202 h_r_202) rfl ⟨(argE (by (conv => lhs; whnf); all_goals rfl) rfl), trivial⟩ rfl trivial rfl rfl rfl lend0 trivial rfl, ?_⟩
                              conv => whnf
                              obtain ⟨r_203, h_r_203, hL1⟩ := bind_some hL1
                              refine ⟨_, _, _, _, _, _, _, _, _, callX false [] [] 0 Try.func29 (by decide) rfl (ref15_Cleared_ac (⟨(⟨i_21, i_22, i_23, i_24⟩ : A4_Int), i_25, a_26⟩ : Screening) r_203 h_r_203) rfl ⟨(argE (by (conv => lhs; whnf); all_goals rfl) rfl), trivial⟩ rfl trivial rfl rfl rfl lend0 trivial rfl, ?_⟩
                              conv => whnf
                              obtain ⟨r_204, h_r_204, hL1⟩ := bind_some hL1
                              refine ⟨_, _, _, _, _, _, _, _, _, callX false [] [] 0 Try.func28 (by decide) rfl (keep_Ints_ac r_202 r_203 r_204 h_r_204) rfl ⟨(argE (by (conv => lhs; whnf); all_goals rfl) rfl), (argE (by (conv => lhs; whnf); all_goals rfl) rfl), trivial⟩ rfl trivial rfl rfl rfl lend0 trivial rfl, ?_⟩
                              conv => whnf
                              refine ⟨fun hb_499 => ?_, fun hb_499 => ?_⟩
                              · replace hL1 := cond_f hb_499 hL1
                                conv => whnf
                                obtain ⟨r_205, h_r_205, hL1⟩ := bind_some hL1
                                refine ⟨_, _, _, _, _, _, _, _, _, callX false [] [] 0 Try.func20 (by decide) rfl (screen_Alarms_ac (⟨(⟨i_15, i_16, i_17, i_18⟩ : A4_Int), i_19, a_20⟩ : Screening) r_205 h_r_205) rfl ⟨(argE (by (conv => lhs; whnf); all_goals rfl) rfl), trivial⟩ rfl trivial rfl rfl rfl lend0 trivial rfl, ?_⟩
                                conv => whnf
                                obtain ⟨r_206, h_r_206, hL1⟩ := bind_some hL1
                                refine ⟨_, _, _, _, _, _, _, _, _, callX false [] [] 0 Try.func31 (by decide) rfl (ref15_Alarms_ac (⟨(⟨i_21, i_22, i_23, i_24⟩ : A4_Int), i_25, a_26⟩ : Screening) r_206 h_r_206) rfl ⟨(argE (by (conv => lhs; whnf); all_goals rfl) rfl), trivial⟩ rfl trivial rfl rfl rfl lend0 trivial rfl, ?_⟩
                                conv => whnf
                                obtain ⟨r_207, h_r_207, hL1⟩ := bind_some hL1
                                refine ⟨_, _, _, _, _, _, _, _, _, callX false [] [] 0 Try.func30 (by decide) rfl (law15_same_ac r_205 r_206 r_207 h_r_207) rfl ⟨(argE (by (conv => lhs; whnf); all_goals rfl) rfl), (argE (by (conv => lhs; whnf); all_goals rfl) rfl), trivial⟩ rfl trivial rfl rfl rfl lend0 trivial rfl, ?_⟩
                                conv => whnf
                                refine ⟨by kernel_rfl, ?_⟩
                                conv => whnf
                                refine ⟨fun hb_500 => ?_, fun hb_500 => ?_⟩
                                · replace hL1 := cond_t hb_500 hL1
                                  conv => whnf
                                  obtain rfl := Option.some.inj hL1
                                  replace hF := fin_ret hF
                                  obtain rfl := Option.some.inj hF
                                  exact ret_gz [] [] [] rfl (argFl (by (conv => lhs; whnf); all_goals rfl)) trivial
                                · replace hL1 := cond_f hb_500 hL1
                                  conv => whnf
                                  refine ⟨_, rfl, ?_⟩
                                  conv => whnf
                                  exact ⟨(q_388, z_190.2.2.2.2.2.2.2.2.2.2.2.2.2.2.1, z_190.2.2.2.2.2.2.2.2.2.2.2.2.2.2.2.1, i_15, i_16, i_17, i_18, i_19, a_20, i_21, i_22, i_23, i_24, i_25, a_26, (w64 (i_27 + r_29.1)), (w64 (i_28 + (1 : Int)))), [0, 1, 2], [], [], hL1, Nat.lt_succ_self _, wk_mk [0, 1, 2] [] [] rfl ⟨argE (by (conv => lhs; whnf); all_goals rfl) rfl, argE (by (conv => lhs; whnf); all_goals rfl) rfl, argE (by (conv => lhs; whnf); all_goals rfl) rfl, argP (id := 0) (by (conv => lhs; whnf); all_goals rfl) rfl, argP (id := 1) (by (conv => lhs; whnf); all_goals rfl) rfl, argP (id := 2) (by (conv => lhs; whnf); all_goals rfl) rfl, argE (by (conv => lhs; whnf); all_goals rfl) rfl, argE (by (conv => lhs; whnf); all_goals rfl) rfl, trivial⟩ ⟨boxL rfl rfl rfl ⟨(.ni _ rfl), (.ni _ rfl), trivial⟩, boxL rfl rfl rfl ⟨(.ni _ rfl), (.ni _ rfl), (.ni _ rfl), (.ni _ rfl), (.ni _ rfl), (.ni _ rfl), trivial⟩, boxL rfl rfl rfl ⟨(.ni _ rfl), (.ni _ rfl), (.ni _ rfl), (.ni _ rfl), (.ni _ rfl), (.ni _ rfl), trivial⟩, trivial⟩⟩
                              · replace hL1 := cond_t hb_499 hL1
                                conv => whnf
                                refine ⟨by kernel_rfl, ?_⟩
                                conv => whnf
                                obtain rfl := Option.some.inj hL1
                                replace hF := fin_ret hF
                                obtain rfl := Option.some.inj hF
                                exact ret_gz [] [] [] rfl (argFl (by (conv => lhs; whnf); all_goals rfl)) trivial
                            · replace hL1 := cond_t hb_498 hL1
                              conv => whnf
                              refine ⟨by kernel_rfl, ?_⟩
                              conv => whnf
                              obtain rfl := Option.some.inj hL1
                              replace hF := fin_ret hF
                              obtain rfl := Option.some.inj hF
                              exact ret_gz [] [] [] rfl (argFl (by (conv => lhs; whnf); all_goals rfl)) trivial
                          · replace hL1 := cond_t hb_497 hL1
                            conv => whnf
                            refine ⟨by kernel_rfl, ?_⟩
                            conv => whnf
                            obtain rfl := Option.some.inj hL1
                            replace hF := fin_ret hF
                            obtain rfl := Option.some.inj hF
                            exact ret_gz [] [] [] rfl (argFl (by (conv => lhs; whnf); all_goals rfl)) trivial
                    · replace hL1 := cond_t hb_490 hL1
                      conv => whnf
                      obtain rfl := Option.some.inj hL1
                      replace hF := fin_ret hF
                      obtain rfl := Option.some.inj hF
                      exact ret_gz [] [] [] rfl (argFl (by (conv => lhs; whnf); all_goals rfl)) trivial
                  · replace hL1 := cond_t hb_489 hL1
                    conv => whnf
                    obtain rfl := Option.some.inj hL1
                    replace hF := fin_ret hF
                    obtain rfl := Option.some.inj hF
                    exact ret_gz [] [] [] rfl (argFl (by (conv => lhs; whnf); all_goals rfl)) trivial
          · replace hL1 := cond_f hb_436 hL1
            conv => whnf
            obtain rfl := Option.some.inj hL1
            replace hF := fin_brk hF
            try dsimp only at hF
            obtain ⟨r_390, h_r_390, hF⟩ := bind_some hF
            refine ⟨_, _, _, _, _, _, _, _, _, callX false [] [] 0 Try.func15 (by decide) rfl (law15_awake_ac r_390 h_r_390) rfl trivial rfl trivial rfl rfl rfl lend0 trivial rfl, ?_⟩
            conv => whnf
            obtain rfl := Option.some.inj hF
            exact ret_gz [] [] [] rfl (argE (by (conv => lhs; whnf); all_goals rfl) rfl) trivial
      · replace hF := cond_t hb_434 hF
        conv => whnf
        obtain rfl := Option.some.inj hF
        exact ret_gz [] [] [] rfl (argFl (by (conv => lhs; whnf); all_goals rfl)) trivial
  · replace hF := cond_t hb_432 hF
    conv => whnf
    obtain rfl := Option.some.inj hF
    exact ret_gz [] [] [] rfl (argFl (by (conv => lhs; whnf); all_goals rfl)) trivial
end Go.Proofs.Ytidhgcgbdjjdlaa.Ex
