/- The functions of the program compute what was printed; walks printed by a program. -/
import Derived.Test.YtkajegjghfbgaaaExF
import Derived.Test.YtkajegjghfbgaaaExP1
import Derived.Test.YtkajegjghfbgaaaExP2
namespace Go.Proofs.Ytkajegjghfbgaaa.Ex
open Go.RowKit Go.Proofs.Ytkajegjghfbgaaa.Ax
set_option linter.unusedVariables false
set_option linter.unusedSimpArgs false
set_option maxRecDepth 100000 in
set_option maxHeartbeats 40000000 in
theorem law24_ConnectTriangle_ac (x_0 : (List Int)) (r : Bool) (hF : law24_ConnectTriangle x_0 = some r) : AC Try.prog 5 [.lst 1 (x_0.map iA)] [] (.bool r) [] := by
  refine ac_of tab_ok follows_ok Try.func5 rfl Try.ntmps5 rfl ?_
  unfold law24_ConnectTriangle at hF
  conv => whnf
  obtain ⟨r_1, h_r_1, hF⟩ := bind_some hF
  refine ⟨_, _, _, _, _, _, _, _, _, callX false [] [] 1 Try.func11 (by decide) rfl (keep_New_ac x_0 r_1 h_r_1) rfl ⟨(argE (by (conv => lhs; whnf); all_goals rfl) rfl), trivial⟩ rfl trivial rfl rfl rfl lend0 ⟨rfl, trivial⟩ rfl, ?_⟩
  conv => whnf
  obtain ⟨r_2, h_r_2, hF⟩ := bind_some hF
  refine ⟨_, _, _, _, _, _, _, _, _, callX false [0] [] 0 Try.func12 (by decide) rfl (keep_Src_Minimums_ac r_1 r_2 h_r_2) rfl ⟨(argP (id := 0) (by (conv => lhs; whnf); all_goals rfl) rfl), trivial⟩ rfl ⟨rfl, trivial⟩ rfl rfl rfl lend0 ⟨rfl, trivial⟩ rfl, ?_⟩
  conv => whnf
  obtain ⟨c_1, hc_1, hF⟩ := fin_some hF
  refine sw_loop tab_ok follows_ok (fun y : Nat × Int => law24_ConnectTriangle_L1 r_2 y.1 y.2 = some c_1) (fun y => ⟨eL [(4, .lst 3 (r_2.1.map encMinimum)), (5, .int .i64 y.2)], hL [], 0⟩) (fun y => y.1) (9223372036854775807, (0 : Int)) hc_1 (wk_mk [] [] [] rfl ⟨argE (by (conv => lhs; whnf); all_goals rfl) rfl, argE (by (conv => lhs; whnf); all_goals rfl) rfl, trivial⟩ trivial) ?_
  rintro ⟨q_13, i_3⟩ hL1
  try dsimp only at hL1
  rcases q_13 with _ | q_13
  · rw [law24_ConnectTriangle_L1.eq_1] at hL1
    cases hL1
  rw [law24_ConnectTriangle_L1.eq_2] at hL1
  show awp _ _ _ _ _ _ ⟨eL [(4, .lst 3 (r_2.1.map encMinimum)), (5, .int .i64 i_3)], hL [], 0⟩
  conv => whnf
  refine ⟨fun hb_236 => ?_, fun hb_236 => ?_⟩
  · replace hL1 := cond_t hb_236 hL1
    conv => whnf
    obtain ⟨c_2, hc_2, hL1⟩ := sub_some hL1
    refine sw_loop tab_ok follows_ok (fun y : Nat × Int => law24_ConnectTriangle_L2 r_2 i_3 y.1 y.2 = some c_2) (fun y => ⟨eL [(4, .lst 3 (r_2.1.map encMinimum)), (5, .int .i64 i_3), (6, .int .i64 y.2)], hL [], 0⟩) (fun y => y.1) (9223372036854775807, (0 : Int)) hc_2 (wk_mk [] [] [] rfl ⟨argE (by (conv => lhs; whnf); all_goals rfl) rfl, argE (by (conv => lhs; whnf); all_goals rfl) rfl, argE (by (conv => lhs; whnf); all_goals rfl) rfl, trivial⟩ trivial) ?_
    rintro ⟨q_11, i_4⟩ hL2
    try dsimp only at hL2
    rcases q_11 with _ | q_11
    · rw [law24_ConnectTriangle_L2.eq_1] at hL2
      cases hL2
    rw [law24_ConnectTriangle_L2.eq_2] at hL2
    show awp _ _ _ _ _ _ ⟨eL [(4, .lst 3 (r_2.1.map encMinimum)), (5, .int .i64 i_3), (6, .int .i64 i_4)], hL [], 0⟩
    conv => whnf
    refine ⟨fun hb_237 => ?_, fun hb_237 => ?_⟩
    · replace hL2 := cond_t hb_237 hL2
      conv => whnf
      obtain ⟨c_3, hc_3, hL2⟩ := sub_some hL2
      refine sw_loop tab_ok follows_ok (fun y : Nat × Int => law24_ConnectTriangle_L3 r_2 i_3 i_4 y.1 y.2 = some c_3) (fun y => ⟨eL [(4, .lst 3 (r_2.1.map encMinimum)), (5, .int .i64 i_3), (6, .int .i64 i_4), (7, .int .i64 y.2)], hL [], 0⟩) (fun y => y.1) (9223372036854775807, (0 : Int)) hc_3 (wk_mk [] [] [] rfl ⟨argE (by (conv => lhs; whnf); all_goals rfl) rfl, argE (by (conv => lhs; whnf); all_goals rfl) rfl, argE (by (conv => lhs; whnf); all_goals rfl) rfl, argE (by (conv => lhs; whnf); all_goals rfl) rfl, trivial⟩ trivial) ?_
      rintro ⟨q_9, i_5⟩ hL3
      try dsimp only at hL3
      rcases q_9 with _ | q_9
      · rw [law24_ConnectTriangle_L3.eq_1] at hL3
        cases hL3
      rw [law24_ConnectTriangle_L3.eq_2] at hL3
      show awp _ _ _ _ _ _ ⟨eL [(4, .lst 3 (r_2.1.map encMinimum)), (5, .int .i64 i_3), (6, .int .i64 i_4), (7, .int .i64 i_5)], hL [], 0⟩
      conv => whnf
      refine ⟨fun hb_238 => ?_, fun hb_238 => ?_⟩
      · replace hL3 := cond_t hb_238 hL3
        conv => whnf
        obtain ⟨r_6, h_r_6, hL3⟩ := bind_some hL3
        refine ⟨_, _, _, _, _, _, _, _, _, callX false [] [] 0 Try.func16 (by decide) rfl (connect_Least_ac r_2.1 i_3 i_4 r_6 h_r_6) rfl ⟨(argE (by (conv => lhs; whnf); all_goals rfl) rfl), (argE (by (conv => lhs; whnf); all_goals rfl) rfl), (argE (by (conv => lhs; whnf); all_goals rfl) rfl), trivial⟩ rfl trivial rfl rfl rfl lend0 trivial rfl, ?_⟩
        conv => whnf
        obtain ⟨r_7, h_r_7, hL3⟩ := bind_some hL3
        refine ⟨_, _, _, _, _, _, _, _, _, callX false [] [] 0 Try.func16 (by decide) rfl (connect_Least_ac r_2.1 i_4 i_5 r_7 h_r_7) rfl ⟨(argE (by (conv => lhs; whnf); all_goals rfl) rfl), (argE (by (conv => lhs; whnf); all_goals rfl) rfl), (argE (by (conv => lhs; whnf); all_goals rfl) rfl), trivial⟩ rfl trivial rfl rfl rfl lend0 trivial rfl, ?_⟩
        conv => whnf
        obtain ⟨r_8, h_r_8, hL3⟩ := bind_some hL3
        refine ⟨_, _, _, _, _, _, _, _, _, callX false [] [] 0 Try.func16 (by decide) rfl (connect_Least_ac r_2.1 i_3 i_5 r_8 h_r_8) rfl ⟨(argE (by (conv => lhs; whnf); all_goals rfl) rfl), (argE (by (conv => lhs; whnf); all_goals rfl) rfl), (argE (by (conv => lhs; whnf); all_goals rfl) rfl), trivial⟩ rfl trivial rfl rfl rfl lend0 trivial rfl, ?_⟩
        conv => whnf
        refine ⟨fun hb_239 => ?_, fun hb_239 => ?_⟩
        · replace hL3 := cond_t hb_239 hL3
          conv => whnf
          refine ⟨fun hb_240 => ?_, fun hb_240 => ?_⟩
          · replace hL3 := cond_t hb_240 hL3
            conv => whnf
            refine ⟨fun hb_241 => ?_, fun hb_241 => ?_⟩
            · replace hL3 := cond_f hb_241 hL3
              conv => whnf
              refine ⟨_, rfl, ?_⟩
              conv => whnf
              refine ⟨fun hb_242 => ?_, fun hb_242 => ?_⟩
              · replace hL3 := cond_t hb_242 hL3
                conv => whnf
                obtain rfl := Option.some.inj hL3
                replace hL2 := sub_ret hL2
                obtain rfl := Option.some.inj hL2
                replace hL1 := sub_ret hL1
                obtain rfl := Option.some.inj hL1
                replace hF := fin_ret hF
                obtain rfl := Option.some.inj hF
                exact ret_gz [] [] [] rfl (argFl (by (conv => lhs; whnf); all_goals rfl)) trivial
              · replace hL3 := cond_f hb_242 hL3
                conv => whnf
                refine ⟨_, rfl, ?_⟩
                conv => whnf
                exact ⟨(q_9, (w64 (i_5 + (1 : Int)))), [], [], [], hL3, Nat.lt_succ_self _, wk_mk [] [] [] rfl ⟨argE (by (conv => lhs; whnf); all_goals rfl) rfl, argE (by (conv => lhs; whnf); all_goals rfl) rfl, argE (by (conv => lhs; whnf); all_goals rfl) rfl, argE (by (conv => lhs; whnf); all_goals rfl) rfl, trivial⟩ trivial⟩
            · replace hL3 := cond_t hb_241 hL3
              conv => whnf
              obtain rfl := Option.some.inj hL3
              replace hL2 := sub_ret hL2
              obtain rfl := Option.some.inj hL2
              replace hL1 := sub_ret hL1
              obtain rfl := Option.some.inj hL1
              replace hF := fin_ret hF
              obtain rfl := Option.some.inj hF
              exact ret_gz [] [] [] rfl (argFl (by (conv => lhs; whnf); all_goals rfl)) trivial
          · replace hL3 := cond_f hb_240 hL3
            conv => whnf
            refine ⟨_, rfl, ?_⟩
            conv => whnf
            exact ⟨(q_9, (w64 (i_5 + (1 : Int)))), [], [], [], hL3, Nat.lt_succ_self _, wk_mk [] [] [] rfl ⟨argE (by (conv => lhs; whnf); all_goals rfl) rfl, argE (by (conv => lhs; whnf); all_goals rfl) rfl, argE (by (conv => lhs; whnf); all_goals rfl) rfl, argE (by (conv => lhs; whnf); all_goals rfl) rfl, trivial⟩ trivial⟩
        · replace hL3 := cond_f hb_239 hL3
          conv => whnf
          refine ⟨_, rfl, ?_⟩
          conv => whnf
          exact ⟨(q_9, (w64 (i_5 + (1 : Int)))), [], [], [], hL3, Nat.lt_succ_self _, wk_mk [] [] [] rfl ⟨argE (by (conv => lhs; whnf); all_goals rfl) rfl, argE (by (conv => lhs; whnf); all_goals rfl) rfl, argE (by (conv => lhs; whnf); all_goals rfl) rfl, argE (by (conv => lhs; whnf); all_goals rfl) rfl, trivial⟩ trivial⟩
      · replace hL3 := cond_f hb_238 hL3
        conv => whnf
        obtain rfl := Option.some.inj hL3
        replace hL2 := sub_brk hL2
        try dsimp only at hL2
        refine ⟨_, rfl, ?_⟩
        conv => whnf
        exact ⟨(q_11, (w64 (i_4 + (1 : Int)))), [], [], [], hL2, Nat.lt_succ_self _, wk_mk [] [] [] rfl ⟨argE (by (conv => lhs; whnf); all_goals rfl) rfl, argE (by (conv => lhs; whnf); all_goals rfl) rfl, argE (by (conv => lhs; whnf); all_goals rfl) rfl, trivial⟩ trivial⟩
    · replace hL2 := cond_f hb_237 hL2
      conv => whnf
      obtain rfl := Option.some.inj hL2
      replace hL1 := sub_brk hL1
      try dsimp only at hL1
      refine ⟨_, rfl, ?_⟩
      conv => whnf
      exact ⟨(q_13, (w64 (i_3 + (1 : Int)))), [], [], [], hL1, Nat.lt_succ_self _, wk_mk [] [] [] rfl ⟨argE (by (conv => lhs; whnf); all_goals rfl) rfl, argE (by (conv => lhs; whnf); all_goals rfl) rfl, trivial⟩ trivial⟩
  · replace hL1 := cond_f hb_236 hL1
    conv => whnf
    obtain rfl := Option.some.inj hL1
    replace hF := fin_brk hF
    try dsimp only at hF
    obtain ⟨r_15, h_r_15, hF⟩ := bind_some hF
    refine ⟨_, _, _, _, _, _, _, _, _, callX false [] [] 0 Try.func18 (by decide) rfl (law24_awake_ac r_15 h_r_15) rfl trivial rfl trivial rfl rfl rfl lend0 trivial rfl, ?_⟩
    conv => whnf
    obtain rfl := Option.some.inj hF
    exact ret_gz [] [] [] rfl (argE (by (conv => lhs; whnf); all_goals rfl) rfl) trivial
end Go.Proofs.Ytkajegjghfbgaaa.Ex
