/- The functions of the program compute what was printed; walks printed by a program. -/
import Derived.Test.YtkefkegknacpjaaExF
import Derived.Test.YtkefkegknacpjaaExP1
import Derived.Test.YtkefkegknacpjaaExP2
namespace Go.Proofs.Ytkefkegknacpjaa.Ex
open Go.RowKit Go.Proofs.Ytkefkegknacpjaa.Ax
set_option linter.unusedVariables false
set_option linter.unusedSimpArgs false
set_option maxRecDepth 100000 in
set_option maxHeartbeats 40000000 in
theorem law17_LanesKeeps_ac (x_0 : (List Int)) (x_1 : Int) (r : Bool) (hF : law17_LanesKeeps x_0 x_1 = some r) : AC Try.prog 8 [.lst 1 (x_0.map iA), .int .i64 x_1] [] (.bool r) [] := by
  refine ac_of tab_ok follows_ok Try.func8 rfl Try.ntmps8 rfl ?_
  unfold law17_LanesKeeps at hF
  conv => whnf
  obtain ⟨r_1, h_r_1, hF⟩ := bind_some hF
  refine ⟨_, _, _, _, _, _, _, _, _, callX false [] [] 1 Try.func21 (by decide) rfl (keep_New_ac x_0 r_1 h_r_1) rfl ⟨(argE (by (conv => lhs; whnf); all_goals rfl) rfl), trivial⟩ rfl trivial rfl rfl rfl lend0 ⟨rfl, trivial⟩ rfl, ?_⟩
  conv => whnf
  obtain ⟨r_2, h_r_2, hF⟩ := bind_some hF
  refine ⟨_, _, _, _, _, _, _, _, _, callX false [] [] 0 Try.func23 (by decide) rfl (lanes_New_ac (2 : Int) (6 : Int) r_2 h_r_2) rfl ⟨(argE (by (conv => lhs; whnf); all_goals rfl) rfl), (argE (by (conv => lhs; whnf); all_goals rfl) rfl), trivial⟩ rfl trivial rfl rfl rfl lend0 trivial rfl, ?_⟩
  conv => whnf
  refine ⟨fun hb_50 => ?_, fun hb_50 => ?_⟩
  · replace hF := cond_t hb_50 hF
    conv => whnf
    obtain rfl := Option.some.inj hF
    exact ret_gz [] [] [] rfl (argFl (by (conv => lhs; whnf); all_goals rfl)) trivial
  · replace hF := cond_f hb_50 hF
    conv => whnf
    obtain ⟨r_3, h_r_3, hF⟩ := bind_some hF
    refine ⟨_, _, _, _, _, _, _, _, _, callX false [0] [] 0 Try.func26 (by decide) rfl (keep_Src_Range_ac r_1 (1 : Int) (10 : Int) r_3 h_r_3) rfl ⟨(argP (id := 0) (by (conv => lhs; whnf); all_goals rfl) rfl), (argE (by (conv => lhs; whnf); all_goals rfl) rfl), (argE (by (conv => lhs; whnf); all_goals rfl) rfl), trivial⟩ rfl ⟨rfl, trivial⟩ rfl rfl rfl lend0 ⟨rfl, trivial⟩ rfl, ?_⟩
    conv => whnf
    obtain ⟨c_1, hc_1, hF⟩ := fin_some hF
    refine sw_loop tab_ok follows_ok (fun y : Nat × (List Int) × Int × Int × (List (List Stored)) × Int => law17_LanesKeeps_L1 r_3 y.1 y.2.1 y.2.2.1 y.2.2.2.1 y.2.2.2.2.1 y.2.2.2.2.2 = some c_1) (fun y => ⟨eL [(1, .int .i64 x_1), (5, .ptr 0 0), (6, .ptr 1 0), (8, .int .i64 r_3.1), (9, .int .i64 y.2.2.2.2.2)], hL [(0, .box [.lst 1 (y.2.1.map iA), .int .i64 y.2.2.1]), (1, .box [.int .i64 y.2.2.2.1, .lst 1 (y.2.2.2.2.1.map (lA 2 encStored))])], 2⟩) (fun y => y.1) (9223372036854775807, r_3.2.L, r_3.2.At, r_2.1.Depth, r_2.1.L, (1 : Int)) hc_1 (wk_mk [0, 3] [] [] rfl ⟨argE (by (conv => lhs; whnf); all_goals rfl) rfl, argP (id := 0) (by (conv => lhs; whnf); all_goals rfl) rfl, argP (id := 3) (by (conv => lhs; whnf); all_goals rfl) rfl, argE (by (conv => lhs; whnf); all_goals rfl) rfl, argE (by (conv => lhs; whnf); all_goals rfl) rfl, trivial⟩ ⟨boxL rfl rfl rfl ⟨(.ni _ rfl), (.ni _ rfl), trivial⟩, boxL rfl rfl rfl ⟨(.ni _ rfl), (.ni _ rfl), trivial⟩, trivial⟩) ?_
    rintro ⟨q_11, a_4, i_5, i_6, a_7, i_8⟩ hL1
    try dsimp only at hL1
    rcases q_11 with _ | q_11
    · rw [law17_LanesKeeps_L1.eq_1] at hL1
      cases hL1
    rw [law17_LanesKeeps_L1.eq_2] at hL1
    show awp _ _ _ _ _ _ ⟨eL [(1, .int .i64 x_1), (5, .ptr 0 0), (6, .ptr 1 0), (8, .int .i64 r_3.1), (9, .int .i64 i_8)], hL [(0, .box [.lst 1 (a_4.map iA), .int .i64 i_5]), (1, .box [.int .i64 i_6, .lst 1 (a_7.map (lA 2 encStored))])], 2⟩
    conv => whnf
    refine ⟨fun hb_51 => ?_, fun hb_51 => ?_⟩
    · replace hL1 := cond_t hb_51 hL1
      conv => whnf
      obtain ⟨r_9, h_r_9, hL1⟩ := bind_some hL1
      refine ⟨_, _, _, _, _, _, _, _, _, callX false [0] [] 0 Try.func22 (by decide) rfl (keep_Src_N_ac (⟨a_4, i_5⟩ : Src) (5 : Int) r_9 h_r_9) rfl ⟨(argP (id := 0) (by (conv => lhs; whnf); all_goals rfl) rfl), (argE (by (conv => lhs; whnf); all_goals rfl) rfl), trivial⟩ rfl ⟨rfl, trivial⟩ rfl rfl rfl lend0 ⟨rfl, trivial⟩ rfl, ?_⟩
      conv => whnf
      obtain ⟨r_10, h_r_10, hL1⟩ := bind_some hL1
      refine ⟨_, _, _, _, _, _, _, _, _, callX false [] [] 0 Try.func30 (by decide) rfl (lanes_Put_ac (⟨i_6, a_7⟩ : Lanes) (⟨i_8, r_9.1⟩ : Stored) r_10 h_r_10) rfl ⟨(argE (by (conv => lhs; whnf); all_goals rfl) rfl), (argE (by (conv => lhs; whnf); all_goals rfl) rfl), trivial⟩ rfl trivial rfl rfl rfl lend0 trivial rfl, ?_⟩
      conv => whnf
      refine ⟨by kernel_rfl, ?_⟩
      conv => whnf
      refine ⟨fun hb_52 => ?_, fun hb_52 => ?_⟩
      · replace hL1 := cond_t hb_52 hL1
        conv => whnf
        obtain rfl := Option.some.inj hL1
        replace hF := fin_ret hF
        obtain rfl := Option.some.inj hF
        exact ret_gz [] [] [] rfl (argFl (by (conv => lhs; whnf); all_goals rfl)) trivial
      · replace hL1 := cond_f hb_52 hL1
        conv => whnf
        refine ⟨_, rfl, ?_⟩
        conv => whnf
        exact ⟨(q_11, r_9.2.L, r_9.2.At, r_10.1.Depth, r_10.1.L, (w64 (i_8 + (1 : Int)))), [0, 1], [], [], hL1, Nat.lt_succ_self _, wk_mk [0, 1] [] [] rfl ⟨argE (by (conv => lhs; whnf); all_goals rfl) rfl, argP (id := 0) (by (conv => lhs; whnf); all_goals rfl) rfl, argP (id := 1) (by (conv => lhs; whnf); all_goals rfl) rfl, argE (by (conv => lhs; whnf); all_goals rfl) rfl, argE (by (conv => lhs; whnf); all_goals rfl) rfl, trivial⟩ ⟨boxL rfl rfl rfl ⟨(.ni _ rfl), (.ni _ rfl), trivial⟩, boxL rfl rfl rfl ⟨(.ni _ rfl), (.ni _ rfl), trivial⟩, trivial⟩⟩
    · replace hL1 := cond_f hb_51 hL1
      conv => whnf
      obtain rfl := Option.some.inj hL1
      replace hF := fin_brk hF
      try dsimp only at hF
      obtain ⟨r_13, h_r_13, hF⟩ := bind_some hF
      refine ⟨_, _, _, _, _, _, _, _, _, callX false [] [] 0 Try.func20 (by decide) rfl (keep_Mod_ac x_1 r_3.1 r_13 h_r_13) rfl ⟨(argE (by (conv => lhs; whnf); all_goals rfl) rfl), (argE (by (conv => lhs; whnf); all_goals rfl) rfl), trivial⟩ rfl trivial rfl rfl rfl lend0 trivial rfl, ?_⟩
      conv => whnf
      refine ⟨_, rfl, ?_⟩
      conv => whnf
      obtain ⟨r_14, h_r_14, hF⟩ := bind_some hF
      refine ⟨_, _, _, _, _, _, _, _, _, callX false [] [] 0 Try.func28 (by decide) rfl (lanes_Take_ac (⟨i_6, a_7⟩ : Lanes) (w64 ((1 : Int) + r_13)) r_14 h_r_14) rfl ⟨(argE (by (conv => lhs; whnf); all_goals rfl) rfl), (argE (by (conv => lhs; whnf); all_goals rfl) rfl), trivial⟩ rfl trivial rfl rfl rfl lend0 trivial rfl, ?_⟩
      conv => whnf
      refine ⟨fun hb_53 => ?_, fun hb_53 => ?_⟩
      · replace hF := cond_f hb_53 hF
        conv => whnf
        obtain ⟨r_15, h_r_15, hF⟩ := bind_some hF
        refine ⟨_, _, _, _, _, _, _, _, _, callX false [] [] 0 Try.func32 (by decide) rfl (ref17_In_ac r_14.1 (w64 ((1 : Int) + r_13)) r_15 h_r_15) rfl ⟨(argE (by (conv => lhs; whnf); all_goals rfl) rfl), (argE (by (conv => lhs; whnf); all_goals rfl) rfl), trivial⟩ rfl trivial rfl rfl rfl lend0 trivial rfl, ?_⟩
        conv => whnf
        refine ⟨fun hb_54 => ?_, fun hb_54 => ?_⟩
        · replace hF := cond_t hb_54 hF
          conv => whnf
          obtain rfl := Option.some.inj hF
          exact ret_gz [] [] [] rfl (argFl (by (conv => lhs; whnf); all_goals rfl)) trivial
        · replace hF := cond_f hb_54 hF
          conv => whnf
          obtain ⟨c_2, hc_2, hF⟩ := fin_some hF
          refine sw_loop tab_ok follows_ok (fun y : Nat × Int => law17_LanesKeeps_L2 r_3 (i_6, a_7) r_13 r_14 y.1 y.2 = some c_2) (fun y => ⟨eL [(6, .ptr 0 0), (8, .int .i64 r_3.1), (13, .int .i64 (w64 ((1 : Int) + r_13))), (14, .ptr 1 0), (15, .lst 1 (r_14.2.1.map iA)), (17, .int .i64 y.2)], hL [(0, .box [.int .i64 i_6, .lst 1 (a_7.map (lA 2 encStored))]), (1, .box [.int .i64 r_14.1.Depth, .lst 1 (r_14.1.L.map (lA 2 encStored))])], 2⟩) (fun y => y.1) (9223372036854775807, (1 : Int)) hc_2 (wk_mk [1, 4] [] [] rfl ⟨argP (id := 1) (by (conv => lhs; whnf); all_goals rfl) rfl, argE (by (conv => lhs; whnf); all_goals rfl) rfl, argE (by (conv => lhs; whnf); all_goals rfl) rfl, argP (id := 4) (by (conv => lhs; whnf); all_goals rfl) rfl, argE (by (conv => lhs; whnf); all_goals rfl) rfl, argE (by (conv => lhs; whnf); all_goals rfl) rfl, trivial⟩ ⟨boxL rfl rfl rfl ⟨(.ni _ rfl), (.ni _ rfl), trivial⟩, boxL rfl rfl rfl ⟨(.ni _ rfl), (.ni _ rfl), trivial⟩, trivial⟩) ?_
          rintro ⟨q_22, i_16⟩ hL1
          try dsimp only at hL1
          rcases q_22 with _ | q_22
          · rw [law17_LanesKeeps_L2.eq_1] at hL1
            cases hL1
          rw [law17_LanesKeeps_L2.eq_2] at hL1
          show awp _ _ _ _ _ _ ⟨eL [(6, .ptr 0 0), (8, .int .i64 r_3.1), (13, .int .i64 (w64 ((1 : Int) + r_13))), (14, .ptr 1 0), (15, .lst 1 (r_14.2.1.map iA)), (17, .int .i64 i_16)], hL [(0, .box [.int .i64 i_6, .lst 1 (a_7.map (lA 2 encStored))]), (1, .box [.int .i64 r_14.1.Depth, .lst 1 (r_14.1.L.map (lA 2 encStored))])], 2⟩
          conv => whnf
          refine ⟨fun hb_55 => ?_, fun hb_55 => ?_⟩
          · replace hL1 := cond_t hb_55 hL1
            conv => whnf
            refine ⟨fun hb_56 => ?_, fun hb_56 => ?_⟩
            · replace hL1 := cond_t hb_56 hL1
              conv => whnf
              obtain ⟨r_17, h_r_17, hL1⟩ := bind_some hL1
              refine ⟨_, _, _, _, _, _, _, _, _, callX false [] [] 0 Try.func32 (by decide) rfl (ref17_In_ac r_14.1 i_16 r_17 h_r_17) rfl ⟨(argE (by (conv => lhs; whnf); all_goals rfl) rfl), (argE (by (conv => lhs; whnf); all_goals rfl) rfl), trivial⟩ rfl trivial rfl rfl rfl lend0 trivial rfl, ?_⟩
              conv => whnf
              refine ⟨fun hb_57 => ?_, fun hb_57 => ?_⟩
              · replace hL1 := cond_f hb_57 hL1
                conv => whnf
                obtain ⟨r_18, h_r_18, hL1⟩ := bind_some hL1
                refine ⟨_, _, _, _, _, _, _, _, _, callX false [] [] 0 Try.func33 (by decide) rfl (keep_In_ac r_14.2.1 i_16 r_18 h_r_18) rfl ⟨(argE (by (conv => lhs; whnf); all_goals rfl) rfl), (argE (by (conv => lhs; whnf); all_goals rfl) rfl), trivial⟩ rfl trivial rfl rfl rfl lend0 trivial rfl, ?_⟩
                conv => whnf
                refine ⟨fun hb_58 => ?_, fun hb_58 => ?_⟩
                · replace hL1 := cond_t hb_58 hL1
                  conv => whnf
                  obtain ⟨r_19, h_r_19, hL1⟩ := bind_some hL1
                  refine ⟨_, _, _, _, _, _, _, _, _, callX false [] [] 0 Try.func32 (by decide) rfl (ref17_In_ac (⟨i_6, a_7⟩ : Lanes) i_16 r_19 h_r_19) rfl ⟨(argE (by (conv => lhs; whnf); all_goals rfl) rfl), (argE (by (conv => lhs; whnf); all_goals rfl) rfl), trivial⟩ rfl trivial rfl rfl rfl lend0 trivial rfl, ?_⟩
                  conv => whnf
                  refine ⟨fun hb_59 => ?_, fun hb_59 => ?_⟩
                  · replace hL1 := cond_t hb_59 hL1
                    conv => whnf
                    obtain rfl := Option.some.inj hL1
                    replace hF := fin_ret hF
                    obtain rfl := Option.some.inj hF
                    exact ret_gz [] [] [] rfl (argFl (by (conv => lhs; whnf); all_goals rfl)) trivial
                  · replace hL1 := cond_f hb_59 hL1
                    conv => whnf
                    refine ⟨_, rfl, ?_⟩
                    conv => whnf
                    exact ⟨(q_22, (w64 (i_16 + (1 : Int)))), [0, 1], [], [], hL1, Nat.lt_succ_self _, wk_mk [0, 1] [] [] rfl ⟨argP (id := 0) (by (conv => lhs; whnf); all_goals rfl) rfl, argE (by (conv => lhs; whnf); all_goals rfl) rfl, argE (by (conv => lhs; whnf); all_goals rfl) rfl, argP (id := 1) (by (conv => lhs; whnf); all_goals rfl) rfl, argE (by (conv => lhs; whnf); all_goals rfl) rfl, argE (by (conv => lhs; whnf); all_goals rfl) rfl, trivial⟩ ⟨boxL rfl rfl rfl ⟨(.ni _ rfl), (.ni _ rfl), trivial⟩, boxL rfl rfl rfl ⟨(.ni _ rfl), (.ni _ rfl), trivial⟩, trivial⟩⟩
                · replace hL1 := cond_f hb_58 hL1
                  conv => whnf
                  refine ⟨_, rfl, ?_⟩
                  conv => whnf
                  exact ⟨(q_22, (w64 (i_16 + (1 : Int)))), [0, 1], [], [], hL1, Nat.lt_succ_self _, wk_mk [0, 1] [] [] rfl ⟨argP (id := 0) (by (conv => lhs; whnf); all_goals rfl) rfl, argE (by (conv => lhs; whnf); all_goals rfl) rfl, argE (by (conv => lhs; whnf); all_goals rfl) rfl, argP (id := 1) (by (conv => lhs; whnf); all_goals rfl) rfl, argE (by (conv => lhs; whnf); all_goals rfl) rfl, argE (by (conv => lhs; whnf); all_goals rfl) rfl, trivial⟩ ⟨boxL rfl rfl rfl ⟨(.ni _ rfl), (.ni _ rfl), trivial⟩, boxL rfl rfl rfl ⟨(.ni _ rfl), (.ni _ rfl), trivial⟩, trivial⟩⟩
              · replace hL1 := cond_t hb_57 hL1
                conv => whnf
                obtain rfl := Option.some.inj hL1
                replace hF := fin_ret hF
                obtain rfl := Option.some.inj hF
                exact ret_gz [] [] [] rfl (argFl (by (conv => lhs; whnf); all_goals rfl)) trivial
            · replace hL1 := cond_f hb_56 hL1
              conv => whnf
              obtain ⟨r_20, h_r_20, hL1⟩ := bind_some hL1
              refine ⟨_, _, _, _, _, _, _, _, _, callX false [] [] 0 Try.func33 (by decide) rfl (keep_In_ac r_14.2.1 i_16 r_20 h_r_20) rfl ⟨(argE (by (conv => lhs; whnf); all_goals rfl) rfl), (argE (by (conv => lhs; whnf); all_goals rfl) rfl), trivial⟩ rfl trivial rfl rfl rfl lend0 trivial rfl, ?_⟩
              conv => whnf
              refine ⟨fun hb_60 => ?_, fun hb_60 => ?_⟩
              · replace hL1 := cond_t hb_60 hL1
                conv => whnf
                obtain ⟨r_21, h_r_21, hL1⟩ := bind_some hL1
                refine ⟨_, _, _, _, _, _, _, _, _, callX false [] [] 0 Try.func32 (by decide) rfl (ref17_In_ac (⟨i_6, a_7⟩ : Lanes) i_16 r_21 h_r_21) rfl ⟨(argE (by (conv => lhs; whnf); all_goals rfl) rfl), (argE (by (conv => lhs; whnf); all_goals rfl) rfl), trivial⟩ rfl trivial rfl rfl rfl lend0 trivial rfl, ?_⟩
                conv => whnf
                refine ⟨fun hb_61 => ?_, fun hb_61 => ?_⟩
                · replace hL1 := cond_t hb_61 hL1
                  conv => whnf
                  obtain rfl := Option.some.inj hL1
                  replace hF := fin_ret hF
                  obtain rfl := Option.some.inj hF
                  exact ret_gz [] [] [] rfl (argFl (by (conv => lhs; whnf); all_goals rfl)) trivial
                · replace hL1 := cond_f hb_61 hL1
                  conv => whnf
                  refine ⟨_, rfl, ?_⟩
                  conv => whnf
                  exact ⟨(q_22, (w64 (i_16 + (1 : Int)))), [0, 1], [], [], hL1, Nat.lt_succ_self _, wk_mk [0, 1] [] [] rfl ⟨argP (id := 0) (by (conv => lhs; whnf); all_goals rfl) rfl, argE (by (conv => lhs; whnf); all_goals rfl) rfl, argE (by (conv => lhs; whnf); all_goals rfl) rfl, argP (id := 1) (by (conv => lhs; whnf); all_goals rfl) rfl, argE (by (conv => lhs; whnf); all_goals rfl) rfl, argE (by (conv => lhs; whnf); all_goals rfl) rfl, trivial⟩ ⟨boxL rfl rfl rfl ⟨(.ni _ rfl), (.ni _ rfl), trivial⟩, boxL rfl rfl rfl ⟨(.ni _ rfl), (.ni _ rfl), trivial⟩, trivial⟩⟩
              · replace hL1 := cond_f hb_60 hL1
                conv => whnf
                refine ⟨_, rfl, ?_⟩
                conv => whnf
                exact ⟨(q_22, (w64 (i_16 + (1 : Int)))), [0, 1], [], [], hL1, Nat.lt_succ_self _, wk_mk [0, 1] [] [] rfl ⟨argP (id := 0) (by (conv => lhs; whnf); all_goals rfl) rfl, argE (by (conv => lhs; whnf); all_goals rfl) rfl, argE (by (conv => lhs; whnf); all_goals rfl) rfl, argP (id := 1) (by (conv => lhs; whnf); all_goals rfl) rfl, argE (by (conv => lhs; whnf); all_goals rfl) rfl, argE (by (conv => lhs; whnf); all_goals rfl) rfl, trivial⟩ ⟨boxL rfl rfl rfl ⟨(.ni _ rfl), (.ni _ rfl), trivial⟩, boxL rfl rfl rfl ⟨(.ni _ rfl), (.ni _ rfl), trivial⟩, trivial⟩⟩
          · replace hL1 := cond_f hb_55 hL1
            conv => whnf
            obtain rfl := Option.some.inj hL1
            replace hF := fin_brk hF
            try dsimp only at hF
            obtain ⟨l_24, h_l_24, hF⟩ := bind_some hF
            refine ap_q (enc := iA) (l := ([] : List Int)) (y := r_14.2.1) h_l_24 rfl rfl (by decide) ?_
            conv => whnf
            obtain ⟨l_25, h_l_25, hF⟩ := bind_some hF
            refine ap_q (enc := iA) (l := l_24) (y := ([(w64 ((1 : Int) + r_13))] : List Int)) h_l_25 rfl rfl (by decide) ?_
            conv => whnf
            refine len_q (enc := iA) (l := l_25) rfl ?_
            conv => whnf
            obtain ⟨c_3, hc_3, hF⟩ := fin_some hF
            refine sw_br 6 (sz := 1) (xs := l_25.map iA) (by (conv => lhs; whnf); all_goals rfl) (fun hb => ?_)
            have hbd_k_29 : l_25.length ≤ 9223372036854775807 := bnd_len (enc := iA) (hb)
            refine sw_loop tab_ok follows_ok (fun y : Nat × Int × (List (List Stored)) => y.1 ≤ l_25.length ∧ law17_LanesKeeps_L3 (l_25.drop y.1) y.1 y.2.1 y.2.2 = some c_3) (fun y => ⟨eL [(18, .ptr 0 0), (101, .osl 1), (102, .int .i64 (l_25.length : Int)), (103, .int .i64 (y.1 : Int))], hL [(0, .box [.int .i64 y.2.1, .lst 1 (y.2.2.map (lA 2 encStored))]), (1, .row 1 (l_25.map iA))], 2⟩) (fun y => l_25.length - y.1) (0, i_6, a_7) ⟨Nat.zero_le _, hc_3⟩ (wk_mk [2, 6] [] [] rfl ⟨argP (id := 2) (by (conv => lhs; whnf); all_goals rfl) rfl, argO (id := 6) (by (conv => lhs; whnf); all_goals rfl) rfl, argE (by (conv => lhs; whnf); all_goals rfl) rfl, argE (by (conv => lhs; whnf); all_goals rfl) rfl, trivial⟩ ⟨boxL rfl rfl rfl ⟨(.ni _ rfl), (.ni _ rfl), trivial⟩, blkR (fun _ => ⟨rfl, rfl⟩) rfl rfl, trivial⟩) ?_
            rintro ⟨k_29, i_26, a_27⟩ ⟨hk_k_29, hL1⟩
            try dsimp only at hk_k_29 hL1
            show awp _ _ _ _ _ _ ⟨eL [(18, .ptr 0 0), (101, .osl 1), (102, .int .i64 (l_25.length : Int)), (103, .int .i64 (k_29 : Int))], hL [(0, .box [.int .i64 i_26, .lst 1 (a_27.map (lA 2 encStored))]), (1, .row 1 (l_25.map iA))], 2⟩
            conv => whnf
            refine ⟨fun h => ?_, fun h => ?_⟩
            · have hlt_k_29 : k_29 < l_25.length := by have h := of_decide_eq_true h; omega
              obtain ⟨e_30, h_e_30⟩ : ∃ y, l_25[k_29]? = some y := ⟨_, List.getElem?_eq_getElem hlt_k_29⟩
              rw [drop_cons h_e_30, law17_LanesKeeps_L3.eq_2] at hL1
              conv => whnf
              refine ⟨k_29, rfl, by rw [List.length_map]; exact hlt_k_29, ?_⟩
              conv => whnf
              refine ⟨_, ix_map (enc := iA) h_e_30, ?_⟩
              conv => whnf
              obtain ⟨r_31, h_r_31, hL1⟩ := bind_some hL1
              refine ⟨_, _, _, _, _, _, _, _, _, callX false [] [] 0 Try.func28 (by decide) rfl (lanes_Take_ac (⟨i_26, a_27⟩ : Lanes) e_30 r_31 h_r_31) rfl ⟨(argE (by (conv => lhs; whnf); all_goals rfl) rfl), (argE (by (conv => lhs; whnf); all_goals rfl) rfl), trivial⟩ rfl trivial rfl rfl rfl lend0 trivial rfl, ?_⟩
              conv => whnf
              refine ⟨fun hb_62 => ?_, fun hb_62 => ?_⟩
              · replace hL1 := cond_f hb_62 hL1
                conv => whnf
                refine len_q (enc := iA) (l := r_31.2.1) rfl ?_
                conv => whnf
                refine ⟨fun hb_63 => ?_, fun hb_63 => ?_⟩
                · replace hL1 := cond_t hb_63 hL1
                  conv => whnf
                  obtain rfl := Option.some.inj hL1
                  replace hF := fin_ret hF
                  obtain rfl := Option.some.inj hF
                  exact ret_gz [] [] [] rfl (argFl (by (conv => lhs; whnf); all_goals rfl)) trivial
                · replace hL1 := cond_f hb_63 hL1
                  conv => whnf
                  refine ⟨((k_29 + 1 : Nat) : Int), wrapE (by omega) (by omega) (by omega), ?_⟩
                  conv => whnf
                  exact ⟨(k_29 + 1, r_31.1.Depth, r_31.1.L), [0, 1], [], [], ⟨hlt_k_29, hL1⟩, by show l_25.length - (k_29 + 1) < l_25.length - k_29; omega, wk_mk [0, 1] [] [] rfl ⟨argP (id := 0) (by (conv => lhs; whnf); all_goals rfl) rfl, argO (id := 1) (by (conv => lhs; whnf); all_goals rfl) rfl, argE (by (conv => lhs; whnf); all_goals rfl) rfl, argE (by (conv => lhs; whnf); all_goals rfl) rfl, trivial⟩ ⟨boxL rfl rfl rfl ⟨(.ni _ rfl), (.ni _ rfl), trivial⟩, blkR (fun _ => ⟨rfl, rfl⟩) rfl rfl, trivial⟩⟩
              · replace hL1 := cond_t hb_62 hL1
                conv => whnf
                obtain rfl := Option.some.inj hL1
                replace hF := fin_ret hF
                obtain rfl := Option.some.inj hF
                exact ret_gz [] [] [] rfl (argFl (by (conv => lhs; whnf); all_goals rfl)) trivial
            · rw [drop_nil (show l_25.length ≤ k_29 by have h := of_decide_eq_false h; omega), law17_LanesKeeps_L3.eq_1] at hL1
              conv => whnf
              obtain rfl := Option.some.inj hL1
              replace hF := fin_brk hF
              try dsimp only at hF
              obtain ⟨r_34, h_r_34, hF⟩ := bind_some hF
              refine ⟨_, _, _, _, _, _, _, _, _, callX false [] [] 0 Try.func9 (by decide) rfl (law17_awake_ac r_34 h_r_34) rfl trivial rfl trivial rfl rfl rfl lend0 trivial rfl, ?_⟩
              conv => whnf
              obtain rfl := Option.some.inj hF
              exact ret_gz [] [] [] rfl (argE (by (conv => lhs; whnf); all_goals rfl) rfl) trivial
      · replace hF := cond_t hb_53 hF
        conv => whnf
        obtain rfl := Option.some.inj hF
        exact ret_gz [] [] [] rfl (argFl (by (conv => lhs; whnf); all_goals rfl)) trivial
end Go.Proofs.Ytkefkegknacpjaa.Ex
