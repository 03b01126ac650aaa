/- The functions of the program compute what was printed; walks printed by a program. -/
import Derived.Test.YtidhgcgbdjjdlaaExF
import Derived.Test.YtidhgcgbdjjdlaaExP1
import Derived.Test.YtidhgcgbdjjdlaaExP2
namespace Go.Proofs.Ytidhgcgbdjjdlaa.Ex
open Go.RowKit Go.Proofs.Ytidhgcgbdjjdlaa.Ax
set_option linter.unusedVariables false
set_option linter.unusedSimpArgs false
set_option maxRecDepth 100000 in
set_option maxHeartbeats 40000000 in
theorem law15_ScreenBound_ac (x_0 : Int) (x_1 : Int) (x_2 : Int) (x_3 : Int) (x_4 : Int) (x_5 : Int) (r : Bool) (hF : law15_ScreenBound x_0 x_1 x_2 x_3 x_4 x_5 = some r) : AC Try.prog 5 [.int .i64 x_0, .int .i64 x_1, .int .i64 x_2, .int .i64 x_3, .int .i64 x_4, .int .i64 x_5] [] (.bool r) [] := by
  refine ac_of tab_ok follows_ok Try.func5 rfl Try.ntmps5 rfl ?_
  unfold law15_ScreenBound at hF
  conv => whnf
  obtain ⟨r_1, h_r_1, hF⟩ := bind_some hF
  refine ⟨_, _, _, _, _, _, _, _, _, callX false [] [] 0 Try.func19 (by decide) rfl (keep_Mod_ac x_0 (12 : Int) r_1 h_r_1) rfl ⟨(argE (by (conv => lhs; whnf); all_goals rfl) rfl), (argE (by (conv => lhs; whnf); all_goals rfl) rfl), trivial⟩ rfl trivial rfl rfl rfl lend0 trivial rfl, ?_⟩
  conv => whnf
  obtain ⟨r_2, h_r_2, hF⟩ := bind_some hF
  refine ⟨_, _, _, _, _, _, _, _, _, callX false [] [] 0 Try.func19 (by decide) rfl (keep_Mod_ac x_1 (12 : Int) r_2 h_r_2) rfl ⟨(argE (by (conv => lhs; whnf); all_goals rfl) rfl), (argE (by (conv => lhs; whnf); all_goals rfl) rfl), trivial⟩ rfl trivial rfl rfl rfl lend0 trivial rfl, ?_⟩
  conv => whnf
  obtain ⟨r_3, h_r_3, hF⟩ := bind_some hF
  refine ⟨_, _, _, _, _, _, _, _, _, callX false [] [] 0 Try.func19 (by decide) rfl (keep_Mod_ac x_2 (12 : Int) r_3 h_r_3) rfl ⟨(argE (by (conv => lhs; whnf); all_goals rfl) rfl), (argE (by (conv => lhs; whnf); all_goals rfl) rfl), trivial⟩ rfl trivial rfl rfl rfl lend0 trivial rfl, ?_⟩
  conv => whnf
  obtain ⟨r_4, h_r_4, hF⟩ := bind_some hF
  refine ⟨_, _, _, _, _, _, _, _, _, callX false [] [] 0 Try.func19 (by decide) rfl (keep_Mod_ac x_3 (12 : Int) r_4 h_r_4) rfl ⟨(argE (by (conv => lhs; whnf); all_goals rfl) rfl), (argE (by (conv => lhs; whnf); all_goals rfl) rfl), trivial⟩ rfl trivial rfl rfl rfl lend0 trivial rfl, ?_⟩
  conv => whnf
  refine .inr ?_
  conv => whnf
  obtain ⟨r_5, h_r_5, hF⟩ := bind_some hF
  refine ⟨_, _, _, _, _, _, _, _, _, callX false [] [] 0 Try.func19 (by decide) rfl (keep_Mod_ac x_4 (40 : Int) r_5 h_r_5) rfl ⟨(argE (by (conv => lhs; whnf); all_goals rfl) rfl), (argE (by (conv => lhs; whnf); all_goals rfl) rfl), trivial⟩ rfl trivial rfl rfl rfl lend0 trivial rfl, ?_⟩
  conv => whnf
  refine ⟨_, rfl, ?_⟩
  conv => whnf
  obtain ⟨r_6, h_r_6, hF⟩ := bind_some hF
  refine ⟨_, _, _, _, _, _, _, _, _, callX false [] [] 0 Try.func19 (by decide) rfl (keep_Mod_ac x_5 (1000 : Int) r_6 h_r_6) rfl ⟨(argE (by (conv => lhs; whnf); all_goals rfl) rfl), (argE (by (conv => lhs; whnf); all_goals rfl) rfl), trivial⟩ rfl trivial rfl rfl rfl lend0 trivial rfl, ?_⟩
  conv => whnf
  obtain ⟨r_7, h_r_7, hF⟩ := bind_some hF
  refine ⟨_, _, _, _, _, _, _, _, _, callX false [] [] 0 Try.func8 (by decide) rfl (screen_New_ac (⟨r_1, r_2, r_3, r_4⟩ : A4_Int) r_7 h_r_7) rfl ⟨(argE (by (conv => lhs; whnf); all_goals rfl) rfl), trivial⟩ rfl trivial rfl rfl rfl lend0 trivial rfl, ?_⟩
  conv => whnf
  obtain ⟨r_8, h_r_8, hF⟩ := bind_some hF
  refine ⟨_, _, _, _, _, _, _, _, _, callX false [] [] 0 Try.func11 (by decide) rfl (screen_Start_ac r_7.1 (w64 ((1 : Int) + r_5)) r_6 r_8 h_r_8) rfl ⟨(argE (by (conv => lhs; whnf); all_goals rfl) rfl), (argE (by (conv => lhs; whnf); all_goals rfl) rfl), (argE (by (conv => lhs; whnf); all_goals rfl) rfl), trivial⟩ rfl trivial rfl rfl rfl lend0 trivial rfl, ?_⟩
  conv => whnf
  refine ⟨fun hb_23 => ?_, fun hb_23 => ?_⟩
  · replace hF := cond_f hb_23 hF
    conv => whnf
    refine ⟨fun hb_24 => ?_, fun hb_24 => ?_⟩
    · replace hF := cond_t hb_24 hF
      conv => whnf
      obtain rfl := Option.some.inj hF
      exact ret_gz [] [] [] rfl (argFl (by (conv => lhs; whnf); all_goals rfl)) trivial
    · replace hF := cond_f hb_24 hF
      conv => whnf
      refine ⟨0, rfl, by decide, ?_⟩
      conv => whnf
      refine ⟨_, rfl, ?_⟩
      conv => whnf
      refine ⟨1, rfl, by decide, ?_⟩
      conv => whnf
      refine ⟨_, rfl, ?_⟩
      conv => whnf
      refine ⟨2, rfl, by decide, ?_⟩
      conv => whnf
      refine ⟨_, rfl, ?_⟩
      conv => whnf
      refine ⟨3, rfl, by decide, ?_⟩
      conv => whnf
      refine ⟨_, rfl, ?_⟩
      conv => whnf
      obtain ⟨c_1, hc_1, hF⟩ := fin_some hF
      refine sw_loop tab_ok follows_ok (fun y : Nat × Int × Int × Int × Int × Int × (List Check) × Int => law15_ScreenBound_L1 r_1 r_2 r_3 r_4 r_5 r_6 y.1 y.2.1 y.2.2.1 y.2.2.2.1 y.2.2.2.2.1 y.2.2.2.2.2.1 y.2.2.2.2.2.2.1 y.2.2.2.2.2.2.2 = some c_1) (fun y => ⟨eL [(4, .int .i64 (w64 ((1 : Int) + r_5))), (5, .int .i64 r_6), (14, .ptr 0 0), (17, .int .i64 (w64 ((w64 ((w64 ((w64 ((4 : Int) + r_1)) + r_2)) + r_3)) + r_4))), (18, .int .i64 y.2.2.2.2.2.2.2)], hL [(0, .box [.int .i64 y.2.1, .int .i64 y.2.2.1, .int .i64 y.2.2.2.1, .int .i64 y.2.2.2.2.1, .int .i64 y.2.2.2.2.2.1, .lst 5 (y.2.2.2.2.2.2.1.map encCheck)])], 1⟩) (fun y => y.1) (9223372036854775807, r_8.1.Limits.e0, r_8.1.Limits.e1, r_8.1.Limits.e2, r_8.1.Limits.e3, r_8.1.Next, r_8.1.L, (0 : Int)) hc_1 (wk_mk [8] [] [] rfl ⟨argE (by (conv => lhs; whnf); all_goals rfl) rfl, argE (by (conv => lhs; whnf); all_goals rfl) rfl, argP (id := 8) (by (conv => lhs; whnf); all_goals rfl) rfl, argE (by (conv => lhs; whnf); all_goals rfl) rfl, argE (by (conv => lhs; whnf); all_goals rfl) rfl, trivial⟩ ⟨boxL rfl rfl rfl ⟨(.ni _ rfl), (.ni _ rfl), (.ni _ rfl), (.ni _ rfl), (.ni _ rfl), (.ni _ rfl), trivial⟩, trivial⟩) ?_
      rintro ⟨q_18, i_9, i_10, i_11, i_12, i_13, a_14, i_15⟩ hL1
      try dsimp only at hL1
      rcases q_18 with _ | q_18
      · rw [law15_ScreenBound_L1.eq_1] at hL1
        cases hL1
      rw [law15_ScreenBound_L1.eq_2] at hL1
      show awp _ _ _ _ _ _ ⟨eL [(4, .int .i64 (w64 ((1 : Int) + r_5))), (5, .int .i64 r_6), (14, .ptr 0 0), (17, .int .i64 (w64 ((w64 ((w64 ((w64 ((4 : Int) + r_1)) + r_2)) + r_3)) + r_4))), (18, .int .i64 i_15)], hL [(0, .box [.int .i64 i_9, .int .i64 i_10, .int .i64 i_11, .int .i64 i_12, .int .i64 i_13, .lst 5 (a_14.map encCheck)])], 1⟩
      conv => whnf
      refine ⟨fun hb_25 => ?_, fun hb_25 => ?_⟩
      · replace hL1 := cond_t hb_25 hL1
        conv => whnf
        obtain ⟨r_16, h_r_16, hL1⟩ := bind_some hL1
        refine ⟨_, _, _, _, _, _, _, _, _, callX false [] [] 0 Try.func16 (by decide) rfl (screen_Find_ac (⟨(⟨i_9, i_10, i_11, i_12⟩ : A4_Int), i_13, a_14⟩ : Screening) (w64 ((1 : Int) + r_5)) r_16 h_r_16) rfl ⟨(argE (by (conv => lhs; whnf); all_goals rfl) rfl), (argE (by (conv => lhs; whnf); all_goals rfl) rfl), trivial⟩ rfl trivial rfl rfl rfl lend0 trivial rfl, ?_⟩
        conv => whnf
        refine ⟨fun hb_26 => ?_, fun hb_26 => ?_⟩
        · replace hL1 := cond_f hb_26 hL1
          conv => whnf
          refine ⟨fun hb_27 => ?_, fun hb_27 => ?_⟩
          · replace hL1 := cond_t hb_27 hL1
            conv => whnf
            obtain rfl := Option.some.inj hL1
            replace hF := fin_ret hF
            obtain rfl := Option.some.inj hF
            exact ret_gz [] [] [] rfl (argFl (by (conv => lhs; whnf); all_goals rfl)) trivial
          · replace hL1 := cond_f hb_27 hL1
            conv => whnf
            refine ⟨_, rfl, ?_⟩
            conv => whnf
            obtain ⟨r_17, h_r_17, hL1⟩ := bind_some hL1
            refine ⟨_, _, _, _, _, _, _, _, _, callX false [] [] 0 Try.func13 (by decide) rfl (screen_Expire_ac (⟨(⟨i_9, i_10, i_11, i_12⟩ : A4_Int), i_13, a_14⟩ : Screening) (w64 (r_6 + i_15)) r_17 h_r_17) rfl ⟨(argE (by (conv => lhs; whnf); all_goals rfl) rfl), (argE (by (conv => lhs; whnf); all_goals rfl) rfl), trivial⟩ rfl trivial rfl rfl rfl lend0 trivial rfl, ?_⟩
            conv => whnf
            refine ⟨fun hb_28 => ?_, fun hb_28 => ?_⟩
            · replace hL1 := cond_t hb_28 hL1
              conv => whnf
              obtain rfl := Option.some.inj hL1
              replace hF := fin_ret hF
              obtain rfl := Option.some.inj hF
              exact ret_gz [] [] [] rfl (argFl (by (conv => lhs; whnf); all_goals rfl)) trivial
            · replace hL1 := cond_f hb_28 hL1
              conv => whnf
              refine ⟨_, rfl, ?_⟩
              conv => whnf
              exact ⟨(q_18, r_17.1.Limits.e0, r_17.1.Limits.e1, r_17.1.Limits.e2, r_17.1.Limits.e3, r_17.1.Next, r_17.1.L, (w64 (i_15 + (1 : Int)))), [0], [], [], hL1, Nat.lt_succ_self _, wk_mk [0] [] [] rfl ⟨argE (by (conv => lhs; whnf); all_goals rfl) rfl, argE (by (conv => lhs; whnf); all_goals rfl) rfl, argP (id := 0) (by (conv => lhs; whnf); all_goals rfl) rfl, argE (by (conv => lhs; whnf); all_goals rfl) rfl, argE (by (conv => lhs; whnf); all_goals rfl) rfl, trivial⟩ ⟨boxL rfl rfl rfl ⟨(.ni _ rfl), (.ni _ rfl), (.ni _ rfl), (.ni _ rfl), (.ni _ rfl), (.ni _ rfl), trivial⟩, trivial⟩⟩
        · replace hL1 := cond_t hb_26 hL1
          conv => whnf
          obtain rfl := Option.some.inj hL1
          replace hF := fin_ret hF
          obtain rfl := Option.some.inj hF
          exact ret_gz [] [] [] rfl (argFl (by (conv => lhs; whnf); all_goals rfl)) trivial
      · replace hL1 := cond_f hb_25 hL1
        conv => whnf
        obtain rfl := Option.some.inj hL1
        replace hF := fin_brk hF
        try dsimp only at hF
        obtain ⟨r_20, h_r_20, hF⟩ := bind_some hF
        refine ⟨_, _, _, _, _, _, _, _, _, callX false [] [] 0 Try.func16 (by decide) rfl (screen_Find_ac (⟨(⟨i_9, i_10, i_11, i_12⟩ : A4_Int), i_13, a_14⟩ : Screening) (w64 ((1 : Int) + r_5)) r_20 h_r_20) rfl ⟨(argE (by (conv => lhs; whnf); all_goals rfl) rfl), (argE (by (conv => lhs; whnf); all_goals rfl) rfl), trivial⟩ rfl trivial rfl rfl rfl lend0 trivial rfl, ?_⟩
        conv => whnf
        refine ⟨fun hb_29 => ?_, fun hb_29 => ?_⟩
        · replace hF := cond_t hb_29 hF
          conv => whnf
          refine ⟨fun hb_30 => ?_, fun hb_30 => ?_⟩
          · replace hF := cond_t hb_30 hF
            conv => whnf
            refine ⟨fun hb_31 => ?_, fun hb_31 => ?_⟩
            · replace hF := cond_t hb_31 hF
              conv => whnf
              obtain ⟨r_21, h_r_21, hF⟩ := bind_some hF
              refine ⟨_, _, _, _, _, _, _, _, _, callX false [] [] 0 Try.func20 (by decide) rfl (screen_Alarms_ac (⟨(⟨i_9, i_10, i_11, i_12⟩ : A4_Int), i_13, a_14⟩ : Screening) r_21 h_r_21) rfl ⟨(argE (by (conv => lhs; whnf); all_goals rfl) rfl), trivial⟩ rfl trivial rfl rfl rfl lend0 trivial rfl, ?_⟩
              conv => whnf
              refine len_q (enc := encAlarm) (l := r_21) rfl ?_
              conv => whnf
              refine ⟨fun hb_32 => ?_, fun hb_32 => ?_⟩
              · replace hF := cond_t hb_32 hF
                conv => whnf
                obtain ⟨r_22, h_r_22, hF⟩ := bind_some hF
                refine ⟨_, _, _, _, _, _, _, _, _, callX false [] [] 0 Try.func15 (by decide) rfl (law15_awake_ac r_22 h_r_22) rfl trivial rfl trivial rfl rfl rfl lend0 trivial rfl, ?_⟩
                conv => whnf
                obtain rfl := Option.some.inj hF
                exact ret_gz [] [] [] rfl (argE (by (conv => lhs; whnf); all_goals rfl) rfl) trivial
              · replace hF := cond_f hb_32 hF
                conv => whnf
                obtain rfl := Option.some.inj hF
                exact ret_gz [] [] [] rfl (argFl (by (conv => lhs; whnf); all_goals rfl)) trivial
            · replace hF := cond_f hb_31 hF
              conv => whnf
              obtain rfl := Option.some.inj hF
              exact ret_gz [] [] [] rfl (argFl (by (conv => lhs; whnf); all_goals rfl)) trivial
          · replace hF := cond_f hb_30 hF
            conv => whnf
            obtain rfl := Option.some.inj hF
            exact ret_gz [] [] [] rfl (argFl (by (conv => lhs; whnf); all_goals rfl)) trivial
        · replace hF := cond_f hb_29 hF
          conv => whnf
          obtain rfl := Option.some.inj hF
          exact ret_gz [] [] [] rfl (argFl (by (conv => lhs; whnf); all_goals rfl)) trivial
  · replace hF := cond_t hb_23 hF
    conv => whnf
    obtain rfl := Option.some.inj hF
    exact ret_gz [] [] [] rfl (argFl (by (conv => lhs; whnf); all_goals rfl)) trivial
end Go.Proofs.Ytidhgcgbdjjdlaa.Ex
