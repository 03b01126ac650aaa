/- The functions of the program compute what was printed; walks printed by a program. -/
import Derived.Test.YtkefkegknacpjaaExF
import Derived.Test.YtkefkegknacpjaaExP1
import Derived.Test.YtkefkegknacpjaaExP2
namespace Go.Proofs.Ytkefkegknacpjaa.Ex
open Go.RowKit Go.Proofs.Ytkefkegknacpjaa.Ax
set_option linter.unusedVariables false
set_option linter.unusedSimpArgs false
set_option maxRecDepth 100000 in
set_option maxHeartbeats 40000000 in
theorem law17_LanesStore_ac (x_0 : (List Int)) (x_1 : Int) (x_2 : Int) (x_3 : Stored) (r : Bool) (hF : law17_LanesStore x_0 x_1 x_2 x_3 = some r) : AC Try.prog 6 [.lst 1 (x_0.map iA), .int .i64 x_1, .int .i64 x_2, .agg (encStored x_3)] [] (.bool r) [] := by
  refine ac_of tab_ok follows_ok Try.func6 rfl Try.ntmps6 rfl ?_
  unfold law17_LanesStore at hF
  conv => whnf
  obtain ⟨r_1, h_r_1, hF⟩ := bind_some hF
  refine ⟨_, _, _, _, _, _, _, _, _, callX false [] [] 1 Try.func21 (by decide) rfl (keep_New_ac x_0 r_1 h_r_1) rfl ⟨(argE (by (conv => lhs; whnf); all_goals rfl) rfl), trivial⟩ rfl trivial rfl rfl rfl lend0 ⟨rfl, trivial⟩ rfl, ?_⟩
  conv => whnf
  obtain ⟨r_2, h_r_2, hF⟩ := bind_some hF
  refine ⟨_, _, _, _, _, _, _, _, _, callX false [] [] 0 Try.func23 (by decide) rfl (lanes_New_ac x_1 x_2 r_2 h_r_2) rfl ⟨(argE (by (conv => lhs; whnf); all_goals rfl) rfl), (argE (by (conv => lhs; whnf); all_goals rfl) rfl), trivial⟩ rfl trivial rfl rfl rfl lend0 trivial rfl, ?_⟩
  conv => whnf
  obtain ⟨r_3, h_r_3, hF⟩ := bind_some hF
  refine ⟨_, _, _, _, _, _, _, _, _, callX false [] [] 0 Try.func24 (by decide) rfl (ref17_New_ac x_1 x_2 r_3 h_r_3) rfl ⟨(argE (by (conv => lhs; whnf); all_goals rfl) rfl), (argE (by (conv => lhs; whnf); all_goals rfl) rfl), trivial⟩ rfl trivial rfl rfl rfl lend0 trivial rfl, ?_⟩
  conv => whnf
  refine ⟨fun hb_137 => ?_, fun hb_137 => ?_⟩
  · replace hF := cond_f hb_137 hF
    conv => whnf
    obtain ⟨r_4, h_r_4, hF⟩ := bind_some hF
    refine ⟨_, _, _, _, _, _, _, _, _, callX false [] [] 0 Try.func25 (by decide) rfl (ref17_Same_ac r_2.1 r_3.1 r_4 h_r_4) rfl ⟨(argE (by (conv => lhs; whnf); all_goals rfl) rfl), (argE (by (conv => lhs; whnf); all_goals rfl) rfl), trivial⟩ rfl trivial rfl rfl rfl lend0 trivial rfl, ?_⟩
    conv => whnf
    refine ⟨fun hb_138 => ?_, fun hb_138 => ?_⟩
    · replace hF := cond_t hb_138 hF
      conv => whnf
      obtain rfl := Option.some.inj hF
      exact ret_gz [] [] [] rfl (argFl (by (conv => lhs; whnf); all_goals rfl)) trivial
    · replace hF := cond_f hb_138 hF
      conv => whnf
      obtain ⟨r_5, h_r_5, hF⟩ := bind_some hF
      refine ⟨_, _, _, _, _, _, _, _, _, callX false [1] [] 0 Try.func26 (by decide) rfl (keep_Src_Range_ac r_1 (1 : Int) (4 : Int) r_5 h_r_5) rfl ⟨(argP (id := 1) (by (conv => lhs; whnf); all_goals rfl) rfl), (argE (by (conv => lhs; whnf); all_goals rfl) rfl), (argE (by (conv => lhs; whnf); all_goals rfl) rfl), trivial⟩ rfl ⟨rfl, trivial⟩ rfl rfl rfl lend0 ⟨rfl, trivial⟩ rfl, ?_⟩
      conv => whnf
      obtain ⟨r_6, h_r_6, hF⟩ := bind_some hF
      refine ⟨_, _, _, _, _, _, _, _, _, callX false [1] [] 0 Try.func26 (by decide) rfl (keep_Src_Range_ac r_5.2 (1 : Int) (4 : Int) r_6 h_r_6) rfl ⟨(argP (id := 1) (by (conv => lhs; whnf); all_goals rfl) rfl), (argE (by (conv => lhs; whnf); all_goals rfl) rfl), (argE (by (conv => lhs; whnf); all_goals rfl) rfl), trivial⟩ rfl ⟨rfl, trivial⟩ rfl rfl rfl lend0 ⟨rfl, trivial⟩ rfl, ?_⟩
      conv => whnf
      obtain ⟨r_7, h_r_7, hF⟩ := bind_some hF
      refine ⟨_, _, _, _, _, _, _, _, _, callX false [] [] 0 Try.func23 (by decide) rfl (lanes_New_ac r_5.1 r_6.1 r_7 h_r_7) rfl ⟨(argE (by (conv => lhs; whnf); all_goals rfl) rfl), (argE (by (conv => lhs; whnf); all_goals rfl) rfl), trivial⟩ rfl trivial rfl rfl rfl lend0 trivial rfl, ?_⟩
      conv => whnf
      obtain ⟨r_8, h_r_8, hF⟩ := bind_some hF
      refine ⟨_, _, _, _, _, _, _, _, _, callX false [] [] 0 Try.func24 (by decide) rfl (ref17_New_ac r_5.1 r_6.1 r_8 h_r_8) rfl ⟨(argE (by (conv => lhs; whnf); all_goals rfl) rfl), (argE (by (conv => lhs; whnf); all_goals rfl) rfl), trivial⟩ rfl trivial rfl rfl rfl lend0 trivial rfl, ?_⟩
      conv => whnf
      refine ⟨fun hb_139 => ?_, fun hb_139 => ?_⟩
      · replace hF := cond_f hb_139 hF
        conv => whnf
        obtain ⟨r_9, h_r_9, hF⟩ := bind_some hF
        refine ⟨_, _, _, _, _, _, _, _, _, callX false [] [] 0 Try.func25 (by decide) rfl (ref17_Same_ac r_7.1 r_8.1 r_9 h_r_9) rfl ⟨(argE (by (conv => lhs; whnf); all_goals rfl) rfl), (argE (by (conv => lhs; whnf); all_goals rfl) rfl), trivial⟩ rfl trivial rfl rfl rfl lend0 trivial rfl, ?_⟩
        conv => whnf
        refine ⟨fun hb_140 => ?_, fun hb_140 => ?_⟩
        · replace hF := cond_t hb_140 hF
          conv => whnf
          obtain rfl := Option.some.inj hF
          exact ret_gz [] [] [] rfl (argFl (by (conv => lhs; whnf); all_goals rfl)) trivial
        · replace hF := cond_f hb_140 hF
          conv => whnf
          obtain ⟨c_1, hc_1, hF⟩ := fin_some hF
          refine sw_loop tab_ok follows_ok (fun y : Nat × (List Int) × Int × Int × (List (List Stored)) × Int × (List (List Stored)) × Int => law17_LanesStore_L1 x_3 y.1 y.2.1 y.2.2.1 y.2.2.2.1 y.2.2.2.2.1 y.2.2.2.2.2.1 y.2.2.2.2.2.2.1 y.2.2.2.2.2.2.2 = some c_1) (fun y => ⟨eL [(7, .ptr 0 0), (9, .ptr 1 0), (10, .ptr 2 0), (12, .ptr 3 0), (16, .int .i64 y.2.2.2.2.2.2.2)], hL [(0, .box [.int .i64 x_3.Bag, .int .i64 x_3.Due]), (1, .box [.lst 1 (y.2.1.map iA), .int .i64 y.2.2.1]), (2, .box [.int .i64 y.2.2.2.1, .lst 1 (y.2.2.2.2.1.map (lA 2 encStored))]), (3, .box [.int .i64 y.2.2.2.2.2.1, .lst 1 (y.2.2.2.2.2.2.1.map (lA 2 encStored))])], 4⟩) (fun y => y.1) (9223372036854775807, r_6.2.L, r_6.2.At, r_7.1.Depth, r_7.1.L, r_8.1.Depth, r_8.1.L, (0 : Int)) hc_1 (wk_mk [0, 1, 4, 6] [] [] rfl ⟨argP (id := 0) (by (conv => lhs; whnf); all_goals rfl) rfl, argP (id := 1) (by (conv => lhs; whnf); all_goals rfl) rfl, argP (id := 4) (by (conv => lhs; whnf); all_goals rfl) rfl, argP (id := 6) (by (conv => lhs; whnf); all_goals rfl) rfl, argE (by (conv => lhs; whnf); all_goals rfl) rfl, trivial⟩ ⟨boxL rfl rfl rfl ⟨(.ni _ rfl), (.ni _ rfl), trivial⟩, boxL rfl rfl rfl ⟨(.ni _ rfl), (.ni _ rfl), trivial⟩, boxL rfl rfl rfl ⟨(.ni _ rfl), (.ni _ rfl), trivial⟩, boxL rfl rfl rfl ⟨(.ni _ rfl), (.ni _ rfl), trivial⟩, trivial⟩) ?_
          rintro ⟨q_54, a_10, i_11, i_12, a_13, i_14, a_15, i_16⟩ hL1
          try dsimp only at hL1
          rcases q_54 with _ | q_54
          · rw [law17_LanesStore_L1.eq_1] at hL1
            cases hL1
          rw [law17_LanesStore_L1.eq_2] at hL1
          show awp _ _ _ _ _ _ ⟨eL [(7, .ptr 0 0), (9, .ptr 1 0), (10, .ptr 2 0), (12, .ptr 3 0), (16, .int .i64 i_16)], hL [(0, .box [.int .i64 x_3.Bag, .int .i64 x_3.Due]), (1, .box [.lst 1 (a_10.map iA), .int .i64 i_11]), (2, .box [.int .i64 i_12, .lst 1 (a_13.map (lA 2 encStored))]), (3, .box [.int .i64 i_14, .lst 1 (a_15.map (lA 2 encStored))])], 4⟩
          conv => whnf
          refine ⟨fun hb_141 => ?_, fun hb_141 => ?_⟩
          · replace hL1 := cond_t hb_141 hL1
            conv => whnf
            refine ⟨fun hb_142 => ?_, fun hb_142 => ?_⟩
            · replace hL1 := cond_f hb_142 hL1
              conv => whnf
              obtain ⟨r_35, h_r_35, hL1⟩ := bind_some hL1
              refine ⟨_, _, _, _, _, _, _, _, _, callX false [] [1] 0 Try.func27 (by decide) rfl (keep_Src_More_ac (⟨a_10, i_11⟩ : Src) r_35 h_r_35) rfl ⟨(argIb 1 _ (by (conv => lhs; whnf); all_goals rfl) rfl rfl rfl rfl), trivial⟩ rfl trivial rfl rfl rfl (lendF rfl) trivial rfl, ?_⟩
              conv => whnf
              refine ⟨fun hb_162 => ?_, fun hb_162 => ?_⟩
              · replace hL1 := cond_t hb_162 hL1
                conv => whnf
                obtain ⟨r_36, h_r_36, hL1⟩ := bind_some hL1
                refine ⟨_, _, _, _, _, _, _, _, _, callX false [1] [] 0 Try.func26 (by decide) rfl (keep_Src_Range_ac (⟨a_10, i_11⟩ : Src) (0 : Int) (14 : Int) r_36 h_r_36) rfl ⟨(argP (id := 1) (by (conv => lhs; whnf); all_goals rfl) rfl), (argE (by (conv => lhs; whnf); all_goals rfl) rfl), (argE (by (conv => lhs; whnf); all_goals rfl) rfl), trivial⟩ rfl ⟨rfl, trivial⟩ rfl rfl rfl lend0 ⟨rfl, trivial⟩ rfl, ?_⟩
                conv => whnf
                obtain ⟨r_37, h_r_37, hL1⟩ := bind_some hL1
                refine ⟨_, _, _, _, _, _, _, _, _, callX false [1] [] 0 Try.func22 (by decide) rfl (keep_Src_N_ac r_36.2 (9 : Int) r_37 h_r_37) rfl ⟨(argP (id := 1) (by (conv => lhs; whnf); all_goals rfl) rfl), (argE (by (conv => lhs; whnf); all_goals rfl) rfl), trivial⟩ rfl ⟨rfl, trivial⟩ rfl rfl rfl lend0 ⟨rfl, trivial⟩ rfl, ?_⟩
                conv => whnf
                refine ⟨fun hb_163 => ?_, fun hb_163 => ?_⟩
                · replace hL1 := cond_t hb_163 hL1
                  conv => whnf
                  obtain ⟨r_38, h_r_38, hL1⟩ := bind_some hL1
                  refine ⟨_, _, _, _, _, _, _, _, _, callX false [1] [] 0 Try.func22 (by decide) rfl (keep_Src_N_ac r_37.2 (3 : Int) r_38 h_r_38) rfl ⟨(argP (id := 1) (by (conv => lhs; whnf); all_goals rfl) rfl), (argE (by (conv => lhs; whnf); all_goals rfl) rfl), trivial⟩ rfl ⟨rfl, trivial⟩ rfl rfl rfl lend0 ⟨rfl, trivial⟩ rfl, ?_⟩
                  conv => whnf
                  refine ⟨fun hb_164 => ?_, fun hb_164 => ?_⟩
                  · replace hL1 := cond_t hb_164 hL1
                    conv => whnf
                    obtain ⟨r_39, h_r_39, hL1⟩ := bind_some hL1
                    refine ⟨_, _, _, _, _, _, _, _, _, callX false [] [] 0 Try.func28 (by decide) rfl (lanes_Take_ac (⟨i_12, a_13⟩ : Lanes) x_3.Bag r_39 h_r_39) rfl ⟨(argE (by (conv => lhs; whnf); all_goals rfl) rfl), (argE (by (conv => lhs; whnf); all_goals rfl) rfl), trivial⟩ rfl trivial rfl rfl rfl lend0 trivial rfl, ?_⟩
                    conv => whnf
                    obtain ⟨r_40, h_r_40, hL1⟩ := bind_some hL1
                    refine ⟨_, _, _, _, _, _, _, _, _, callX false [] [] 0 Try.func29 (by decide) rfl (ref17_Take_ac (⟨i_14, a_15⟩ : Lanes) x_3.Bag r_40 h_r_40) rfl ⟨(argE (by (conv => lhs; whnf); all_goals rfl) rfl), (argE (by (conv => lhs; whnf); all_goals rfl) rfl), trivial⟩ rfl trivial rfl rfl rfl lend0 trivial rfl, ?_⟩
                    conv => whnf
                    refine ⟨fun hb_165 => ?_, fun hb_165 => ?_⟩
                    · replace hL1 := cond_f hb_165 hL1
                      conv => whnf
                      obtain ⟨r_41, h_r_41, hL1⟩ := bind_some hL1
                      refine ⟨_, _, _, _, _, _, _, _, _, callX false [] [] 0 Try.func25 (by decide) rfl (ref17_Same_ac r_39.1 r_40.1 r_41 h_r_41) rfl ⟨(argE (by (conv => lhs; whnf); all_goals rfl) rfl), (argE (by (conv => lhs; whnf); all_goals rfl) rfl), trivial⟩ rfl trivial rfl rfl rfl lend0 trivial rfl, ?_⟩
                      conv => whnf
                      refine ⟨fun hb_166 => ?_, fun hb_166 => ?_⟩
                      · replace hL1 := cond_f hb_166 hL1
                        conv => whnf
                        obtain ⟨r_42, h_r_42, hL1⟩ := bind_some hL1
                        refine ⟨_, _, _, _, _, _, _, _, _, callX false [] [] 0 Try.func13 (by decide) rfl (keep_Ints_ac r_39.2.1 r_40.2.1 r_42 h_r_42) rfl ⟨(argE (by (conv => lhs; whnf); all_goals rfl) rfl), (argE (by (conv => lhs; whnf); all_goals rfl) rfl), trivial⟩ rfl trivial rfl rfl rfl lend0 trivial rfl, ?_⟩
                        conv => whnf
                        refine ⟨fun hb_167 => ?_, fun hb_167 => ?_⟩
                        · replace hL1 := cond_t hb_167 hL1
                          conv => whnf
                          obtain rfl := Option.some.inj hL1
                          replace hF := fin_ret hF
                          obtain rfl := Option.some.inj hF
                          exact ret_gz [] [] [] rfl (argFl (by (conv => lhs; whnf); all_goals rfl)) trivial
                        · replace hL1 := cond_f hb_167 hL1
                          conv => whnf
                          refine ⟨fun hb_168 => ?_, fun hb_168 => ?_⟩
                          · replace hL1 := cond_t hb_168 hL1
                            conv => whnf
                            refine ⟨by kernel_rfl, ?_⟩
                            conv => whnf
                            refine ⟨_, rfl, ?_⟩
                            conv => whnf
                            exact ⟨(q_54, r_38.2.L, r_38.2.At, r_39.1.Depth, r_39.1.L, r_40.1.Depth, r_40.1.L, (w64 (i_16 + (1 : Int)))), [0, 1, 2, 3], [], [], hL1, Nat.lt_succ_self _, wk_mk [0, 1, 2, 3] [] [] rfl ⟨argP (id := 0) (by (conv => lhs; whnf); all_goals rfl) rfl, argP (id := 1) (by (conv => lhs; whnf); all_goals rfl) rfl, argP (id := 2) (by (conv => lhs; whnf); all_goals rfl) rfl, argP (id := 3) (by (conv => lhs; whnf); all_goals rfl) rfl, argE (by (conv => lhs; whnf); all_goals rfl) rfl, trivial⟩ ⟨boxL rfl rfl rfl ⟨(.ni _ rfl), (.ni _ rfl), trivial⟩, boxL rfl rfl rfl ⟨(.ni _ rfl), (.ni _ rfl), trivial⟩, boxL rfl rfl rfl ⟨(.ni _ rfl), (.ni _ rfl), trivial⟩, boxL rfl rfl rfl ⟨(.ni _ rfl), (.ni _ rfl), trivial⟩, trivial⟩⟩
                          · replace hL1 := cond_f hb_168 hL1
                            conv => whnf
                            refine ⟨_, rfl, ?_⟩
                            conv => whnf
                            exact ⟨(q_54, r_38.2.L, r_38.2.At, i_12, a_13, i_14, a_15, (w64 (i_16 + (1 : Int)))), [0, 1, 2, 3], [], [], hL1, Nat.lt_succ_self _, wk_mk [0, 1, 2, 3] [] [] rfl ⟨argP (id := 0) (by (conv => lhs; whnf); all_goals rfl) rfl, argP (id := 1) (by (conv => lhs; whnf); all_goals rfl) rfl, argP (id := 2) (by (conv => lhs; whnf); all_goals rfl) rfl, argP (id := 3) (by (conv => lhs; whnf); all_goals rfl) rfl, argE (by (conv => lhs; whnf); all_goals rfl) rfl, trivial⟩ ⟨boxL rfl rfl rfl ⟨(.ni _ rfl), (.ni _ rfl), trivial⟩, boxL rfl rfl rfl ⟨(.ni _ rfl), (.ni _ rfl), trivial⟩, boxL rfl rfl rfl ⟨(.ni _ rfl), (.ni _ rfl), trivial⟩, boxL rfl rfl rfl ⟨(.ni _ rfl), (.ni _ rfl), trivial⟩, trivial⟩⟩
                      · replace hL1 := cond_t hb_166 hL1
                        conv => whnf
                        obtain rfl := Option.some.inj hL1
                        replace hF := fin_ret hF
                        obtain rfl := Option.some.inj hF
                        exact ret_gz [] [] [] rfl (argFl (by (conv => lhs; whnf); all_goals rfl)) trivial
                    · replace hL1 := cond_t hb_165 hL1
                      conv => whnf
                      obtain rfl := Option.some.inj hL1
                      replace hF := fin_ret hF
                      obtain rfl := Option.some.inj hF
                      exact ret_gz [] [] [] rfl (argFl (by (conv => lhs; whnf); all_goals rfl)) trivial
                  · replace hL1 := cond_f hb_164 hL1
                    conv => whnf
                    obtain ⟨r_43, h_r_43, hL1⟩ := bind_some hL1
                    refine ⟨_, _, _, _, _, _, _, _, _, callX false [] [] 0 Try.func30 (by decide) rfl (lanes_Put_ac (⟨i_12, a_13⟩ : Lanes) x_3 r_43 h_r_43) rfl ⟨(argE (by (conv => lhs; whnf); all_goals rfl) rfl), (argE (by (conv => lhs; whnf); all_goals rfl) rfl), trivial⟩ rfl trivial rfl rfl rfl lend0 trivial rfl, ?_⟩
                    conv => whnf
                    obtain ⟨r_44, h_r_44, hL1⟩ := bind_some hL1
                    refine ⟨_, _, _, _, _, _, _, _, _, callX false [] [] 0 Try.func31 (by decide) rfl (ref17_Put_ac (⟨i_14, a_15⟩ : Lanes) x_3 r_44 h_r_44) rfl ⟨(argE (by (conv => lhs; whnf); all_goals rfl) rfl), (argE (by (conv => lhs; whnf); all_goals rfl) rfl), trivial⟩ rfl trivial rfl rfl rfl lend0 trivial rfl, ?_⟩
                    conv => whnf
                    refine ⟨fun hb_169 => ?_, fun hb_169 => ?_⟩
                    · replace hL1 := cond_f hb_169 hL1
                      conv => whnf
                      refine ⟨fun hb_170 => ?_, fun hb_170 => ?_⟩
                      · replace hL1 := cond_f hb_170 hL1
                        conv => whnf
                        obtain ⟨r_45, h_r_45, hL1⟩ := bind_some hL1
                        refine ⟨_, _, _, _, _, _, _, _, _, callX false [] [] 0 Try.func25 (by decide) rfl (ref17_Same_ac r_43.1 r_44.1 r_45 h_r_45) rfl ⟨(argE (by (conv => lhs; whnf); all_goals rfl) rfl), (argE (by (conv => lhs; whnf); all_goals rfl) rfl), trivial⟩ rfl trivial rfl rfl rfl lend0 trivial rfl, ?_⟩
                        conv => whnf
                        refine ⟨fun hb_171 => ?_, fun hb_171 => ?_⟩
                        · replace hL1 := cond_t hb_171 hL1
                          conv => whnf
                          obtain rfl := Option.some.inj hL1
                          replace hF := fin_ret hF
                          obtain rfl := Option.some.inj hF
                          exact ret_gz [] [] [] rfl (argFl (by (conv => lhs; whnf); all_goals rfl)) trivial
                        · replace hL1 := cond_f hb_171 hL1
                          conv => whnf
                          refine ⟨fun hb_172 => ?_, fun hb_172 => ?_⟩
                          · replace hL1 := cond_t hb_172 hL1
                            conv => whnf
                            refine ⟨by kernel_rfl, ?_⟩
                            conv => whnf
                            refine ⟨_, rfl, ?_⟩
                            conv => whnf
                            exact ⟨(q_54, r_38.2.L, r_38.2.At, r_43.1.Depth, r_43.1.L, r_44.1.Depth, r_44.1.L, (w64 (i_16 + (1 : Int)))), [0, 1, 2, 3], [], [], hL1, Nat.lt_succ_self _, wk_mk [0, 1, 2, 3] [] [] rfl ⟨argP (id := 0) (by (conv => lhs; whnf); all_goals rfl) rfl, argP (id := 1) (by (conv => lhs; whnf); all_goals rfl) rfl, argP (id := 2) (by (conv => lhs; whnf); all_goals rfl) rfl, argP (id := 3) (by (conv => lhs; whnf); all_goals rfl) rfl, argE (by (conv => lhs; whnf); all_goals rfl) rfl, trivial⟩ ⟨boxL rfl rfl rfl ⟨(.ni _ rfl), (.ni _ rfl), trivial⟩, boxL rfl rfl rfl ⟨(.ni _ rfl), (.ni _ rfl), trivial⟩, boxL rfl rfl rfl ⟨(.ni _ rfl), (.ni _ rfl), trivial⟩, boxL rfl rfl rfl ⟨(.ni _ rfl), (.ni _ rfl), trivial⟩, trivial⟩⟩
                          · replace hL1 := cond_f hb_172 hL1
                            conv => whnf
                            refine ⟨_, rfl, ?_⟩
                            conv => whnf
                            exact ⟨(q_54, r_38.2.L, r_38.2.At, i_12, a_13, i_14, a_15, (w64 (i_16 + (1 : Int)))), [0, 1, 2, 3], [], [], hL1, Nat.lt_succ_self _, wk_mk [0, 1, 2, 3] [] [] rfl ⟨argP (id := 0) (by (conv => lhs; whnf); all_goals rfl) rfl, argP (id := 1) (by (conv => lhs; whnf); all_goals rfl) rfl, argP (id := 2) (by (conv => lhs; whnf); all_goals rfl) rfl, argP (id := 3) (by (conv => lhs; whnf); all_goals rfl) rfl, argE (by (conv => lhs; whnf); all_goals rfl) rfl, trivial⟩ ⟨boxL rfl rfl rfl ⟨(.ni _ rfl), (.ni _ rfl), trivial⟩, boxL rfl rfl rfl ⟨(.ni _ rfl), (.ni _ rfl), trivial⟩, boxL rfl rfl rfl ⟨(.ni _ rfl), (.ni _ rfl), trivial⟩, boxL rfl rfl rfl ⟨(.ni _ rfl), (.ni _ rfl), trivial⟩, trivial⟩⟩
                      · replace hL1 := cond_t hb_170 hL1
                        conv => whnf
                        obtain rfl := Option.some.inj hL1
                        replace hF := fin_ret hF
                        obtain rfl := Option.some.inj hF
                        exact ret_gz [] [] [] rfl (argFl (by (conv => lhs; whnf); all_goals rfl)) trivial
                    · replace hL1 := cond_t hb_169 hL1
                      conv => whnf
                      obtain rfl := Option.some.inj hL1
                      replace hF := fin_ret hF
                      obtain rfl := Option.some.inj hF
                      exact ret_gz [] [] [] rfl (argFl (by (conv => lhs; whnf); all_goals rfl)) trivial
                · replace hL1 := cond_f hb_163 hL1
                  conv => whnf
                  obtain ⟨r_46, h_r_46, hL1⟩ := bind_some hL1
                  refine ⟨_, _, _, _, _, _, _, _, _, callX false [1] [] 0 Try.func22 (by decide) rfl (keep_Src_N_ac r_37.2 (3 : Int) r_46 h_r_46) rfl ⟨(argP (id := 1) (by (conv => lhs; whnf); all_goals rfl) rfl), (argE (by (conv => lhs; whnf); all_goals rfl) rfl), trivial⟩ rfl ⟨rfl, trivial⟩ rfl rfl rfl lend0 ⟨rfl, trivial⟩ rfl, ?_⟩
                  conv => whnf
                  refine ⟨fun hb_173 => ?_, fun hb_173 => ?_⟩
                  · replace hL1 := cond_t hb_173 hL1
                    conv => whnf
                    obtain ⟨r_47, h_r_47, hL1⟩ := bind_some hL1
                    refine ⟨_, _, _, _, _, _, _, _, _, callX false [] [] 0 Try.func28 (by decide) rfl (lanes_Take_ac (⟨i_12, a_13⟩ : Lanes) r_36.1 r_47 h_r_47) rfl ⟨(argE (by (conv => lhs; whnf); all_goals rfl) rfl), (argE (by (conv => lhs; whnf); all_goals rfl) rfl), trivial⟩ rfl trivial rfl rfl rfl lend0 trivial rfl, ?_⟩
                    conv => whnf
                    obtain ⟨r_48, h_r_48, hL1⟩ := bind_some hL1
                    refine ⟨_, _, _, _, _, _, _, _, _, callX false [] [] 0 Try.func29 (by decide) rfl (ref17_Take_ac (⟨i_14, a_15⟩ : Lanes) r_36.1 r_48 h_r_48) rfl ⟨(argE (by (conv => lhs; whnf); all_goals rfl) rfl), (argE (by (conv => lhs; whnf); all_goals rfl) rfl), trivial⟩ rfl trivial rfl rfl rfl lend0 trivial rfl, ?_⟩
                    conv => whnf
                    refine ⟨fun hb_174 => ?_, fun hb_174 => ?_⟩
                    · replace hL1 := cond_f hb_174 hL1
                      conv => whnf
                      obtain ⟨r_49, h_r_49, hL1⟩ := bind_some hL1
                      refine ⟨_, _, _, _, _, _, _, _, _, callX false [] [] 0 Try.func25 (by decide) rfl (ref17_Same_ac r_47.1 r_48.1 r_49 h_r_49) rfl ⟨(argE (by (conv => lhs; whnf); all_goals rfl) rfl), (argE (by (conv => lhs; whnf); all_goals rfl) rfl), trivial⟩ rfl trivial rfl rfl rfl lend0 trivial rfl, ?_⟩
                      conv => whnf
                      refine ⟨fun hb_175 => ?_, fun hb_175 => ?_⟩
                      · replace hL1 := cond_f hb_175 hL1
                        conv => whnf
                        obtain ⟨r_50, h_r_50, hL1⟩ := bind_some hL1
                        refine ⟨_, _, _, _, _, _, _, _, _, callX false [] [] 0 Try.func13 (by decide) rfl (keep_Ints_ac r_47.2.1 r_48.2.1 r_50 h_r_50) rfl ⟨(argE (by (conv => lhs; whnf); all_goals rfl) rfl), (argE (by (conv => lhs; whnf); all_goals rfl) rfl), trivial⟩ rfl trivial rfl rfl rfl lend0 trivial rfl, ?_⟩
                        conv => whnf
                        refine ⟨fun hb_176 => ?_, fun hb_176 => ?_⟩
                        · replace hL1 := cond_t hb_176 hL1
                          conv => whnf
                          obtain rfl := Option.some.inj hL1
                          replace hF := fin_ret hF
                          obtain rfl := Option.some.inj hF
                          exact ret_gz [] [] [] rfl (argFl (by (conv => lhs; whnf); all_goals rfl)) trivial
                        · replace hL1 := cond_f hb_176 hL1
                          conv => whnf
                          refine ⟨fun hb_177 => ?_, fun hb_177 => ?_⟩
                          · replace hL1 := cond_t hb_177 hL1
                            conv => whnf
                            refine ⟨by kernel_rfl, ?_⟩
                            conv => whnf
                            refine ⟨_, rfl, ?_⟩
                            conv => whnf
                            exact ⟨(q_54, r_46.2.L, r_46.2.At, r_47.1.Depth, r_47.1.L, r_48.1.Depth, r_48.1.L, (w64 (i_16 + (1 : Int)))), [0, 1, 2, 3], [], [], hL1, Nat.lt_succ_self _, wk_mk [0, 1, 2, 3] [] [] rfl ⟨argP (id := 0) (by (conv => lhs; whnf); all_goals rfl) rfl, argP (id := 1) (by (conv => lhs; whnf); all_goals rfl) rfl, argP (id := 2) (by (conv => lhs; whnf); all_goals rfl) rfl, argP (id := 3) (by (conv => lhs; whnf); all_goals rfl) rfl, argE (by (conv => lhs; whnf); all_goals rfl) rfl, trivial⟩ ⟨boxL rfl rfl rfl ⟨(.ni _ rfl), (.ni _ rfl), trivial⟩, boxL rfl rfl rfl ⟨(.ni _ rfl), (.ni _ rfl), trivial⟩, boxL rfl rfl rfl ⟨(.ni _ rfl), (.ni _ rfl), trivial⟩, boxL rfl rfl rfl ⟨(.ni _ rfl), (.ni _ rfl), trivial⟩, trivial⟩⟩
                          · replace hL1 := cond_f hb_177 hL1
                            conv => whnf
                            refine ⟨_, rfl, ?_⟩
                            conv => whnf
                            exact ⟨(q_54, r_46.2.L, r_46.2.At, i_12, a_13, i_14, a_15, (w64 (i_16 + (1 : Int)))), [0, 1, 2, 3], [], [], hL1, Nat.lt_succ_self _, wk_mk [0, 1, 2, 3] [] [] rfl ⟨argP (id := 0) (by (conv => lhs; whnf); all_goals rfl) rfl, argP (id := 1) (by (conv => lhs; whnf); all_goals rfl) rfl, argP (id := 2) (by (conv => lhs; whnf); all_goals rfl) rfl, argP (id := 3) (by (conv => lhs; whnf); all_goals rfl) rfl, argE (by (conv => lhs; whnf); all_goals rfl) rfl, trivial⟩ ⟨boxL rfl rfl rfl ⟨(.ni _ rfl), (.ni _ rfl), trivial⟩, boxL rfl rfl rfl ⟨(.ni _ rfl), (.ni _ rfl), trivial⟩, boxL rfl rfl rfl ⟨(.ni _ rfl), (.ni _ rfl), trivial⟩, boxL rfl rfl rfl ⟨(.ni _ rfl), (.ni _ rfl), trivial⟩, trivial⟩⟩
                      · replace hL1 := cond_t hb_175 hL1
                        conv => whnf
                        obtain rfl := Option.some.inj hL1
                        replace hF := fin_ret hF
                        obtain rfl := Option.some.inj hF
                        exact ret_gz [] [] [] rfl (argFl (by (conv => lhs; whnf); all_goals rfl)) trivial
                    · replace hL1 := cond_t hb_174 hL1
                      conv => whnf
                      obtain rfl := Option.some.inj hL1
                      replace hF := fin_ret hF
                      obtain rfl := Option.some.inj hF
                      exact ret_gz [] [] [] rfl (argFl (by (conv => lhs; whnf); all_goals rfl)) trivial
                  · replace hL1 := cond_f hb_173 hL1
                    conv => whnf
                    obtain ⟨r_51, h_r_51, hL1⟩ := bind_some hL1
                    refine ⟨_, _, _, _, _, _, _, _, _, callX false [] [] 0 Try.func30 (by decide) rfl (lanes_Put_ac (⟨i_12, a_13⟩ : Lanes) (⟨r_36.1, r_37.1⟩ : Stored) r_51 h_r_51) rfl ⟨(argE (by (conv => lhs; whnf); all_goals rfl) rfl), (argE (by (conv => lhs; whnf); all_goals rfl) rfl), trivial⟩ rfl trivial rfl rfl rfl lend0 trivial rfl, ?_⟩
                    conv => whnf
                    obtain ⟨r_52, h_r_52, hL1⟩ := bind_some hL1
                    refine ⟨_, _, _, _, _, _, _, _, _, callX false [] [] 0 Try.func31 (by decide) rfl (ref17_Put_ac (⟨i_14, a_15⟩ : Lanes) (⟨r_36.1, r_37.1⟩ : Stored) r_52 h_r_52) rfl ⟨(argE (by (conv => lhs; whnf); all_goals rfl) rfl), (argE (by (conv => lhs; whnf); all_goals rfl) rfl), trivial⟩ rfl trivial rfl rfl rfl lend0 trivial rfl, ?_⟩
                    conv => whnf
                    refine ⟨fun hb_178 => ?_, fun hb_178 => ?_⟩
                    · replace hL1 := cond_f hb_178 hL1
                      conv => whnf
                      refine ⟨fun hb_179 => ?_, fun hb_179 => ?_⟩
                      · replace hL1 := cond_f hb_179 hL1
                        conv => whnf
                        obtain ⟨r_53, h_r_53, hL1⟩ := bind_some hL1
                        refine ⟨_, _, _, _, _, _, _, _, _, callX false [] [] 0 Try.func25 (by decide) rfl (ref17_Same_ac r_51.1 r_52.1 r_53 h_r_53) rfl ⟨(argE (by (conv => lhs; whnf); all_goals rfl) rfl), (argE (by (conv => lhs; whnf); all_goals rfl) rfl), trivial⟩ rfl trivial rfl rfl rfl lend0 trivial rfl, ?_⟩
                        conv => whnf
                        refine ⟨fun hb_180 => ?_, fun hb_180 => ?_⟩
                        · replace hL1 := cond_t hb_180 hL1
                          conv => whnf
                          obtain rfl := Option.some.inj hL1
                          replace hF := fin_ret hF
                          obtain rfl := Option.some.inj hF
                          exact ret_gz [] [] [] rfl (argFl (by (conv => lhs; whnf); all_goals rfl)) trivial
                        · replace hL1 := cond_f hb_180 hL1
                          conv => whnf
                          refine ⟨fun hb_181 => ?_, fun hb_181 => ?_⟩
                          · replace hL1 := cond_t hb_181 hL1
                            conv => whnf
                            refine ⟨by kernel_rfl, ?_⟩
                            conv => whnf
                            refine ⟨_, rfl, ?_⟩
                            conv => whnf
                            exact ⟨(q_54, r_46.2.L, r_46.2.At, r_51.1.Depth, r_51.1.L, r_52.1.Depth, r_52.1.L, (w64 (i_16 + (1 : Int)))), [0, 1, 2, 3], [], [], hL1, Nat.lt_succ_self _, wk_mk [0, 1, 2, 3] [] [] rfl ⟨argP (id := 0) (by (conv => lhs; whnf); all_goals rfl) rfl, argP (id := 1) (by (conv => lhs; whnf); all_goals rfl) rfl, argP (id := 2) (by (conv => lhs; whnf); all_goals rfl) rfl, argP (id := 3) (by (conv => lhs; whnf); all_goals rfl) rfl, argE (by (conv => lhs; whnf); all_goals rfl) rfl, trivial⟩ ⟨boxL rfl rfl rfl ⟨(.ni _ rfl), (.ni _ rfl), trivial⟩, boxL rfl rfl rfl ⟨(.ni _ rfl), (.ni _ rfl), trivial⟩, boxL rfl rfl rfl ⟨(.ni _ rfl), (.ni _ rfl), trivial⟩, boxL rfl rfl rfl ⟨(.ni _ rfl), (.ni _ rfl), trivial⟩, trivial⟩⟩
                          · replace hL1 := cond_f hb_181 hL1
                            conv => whnf
                            refine ⟨_, rfl, ?_⟩
                            conv => whnf
                            exact ⟨(q_54, r_46.2.L, r_46.2.At, i_12, a_13, i_14, a_15, (w64 (i_16 + (1 : Int)))), [0, 1, 2, 3], [], [], hL1, Nat.lt_succ_self _, wk_mk [0, 1, 2, 3] [] [] rfl ⟨argP (id := 0) (by (conv => lhs; whnf); all_goals rfl) rfl, argP (id := 1) (by (conv => lhs; whnf); all_goals rfl) rfl, argP (id := 2) (by (conv => lhs; whnf); all_goals rfl) rfl, argP (id := 3) (by (conv => lhs; whnf); all_goals rfl) rfl, argE (by (conv => lhs; whnf); all_goals rfl) rfl, trivial⟩ ⟨boxL rfl rfl rfl ⟨(.ni _ rfl), (.ni _ rfl), trivial⟩, boxL rfl rfl rfl ⟨(.ni _ rfl), (.ni _ rfl), trivial⟩, boxL rfl rfl rfl ⟨(.ni _ rfl), (.ni _ rfl), trivial⟩, boxL rfl rfl rfl ⟨(.ni _ rfl), (.ni _ rfl), trivial⟩, trivial⟩⟩
                      · replace hL1 := cond_t hb_179 hL1
                        conv => whnf
                        obtain rfl := Option.some.inj hL1
                        replace hF := fin_ret hF
                        obtain rfl := Option.some.inj hF
                        exact ret_gz [] [] [] rfl (argFl (by (conv => lhs; whnf); all_goals rfl)) trivial
                    · replace hL1 := cond_t hb_178 hL1
                      conv => whnf
                      obtain rfl := Option.some.inj hL1
                      replace hF := fin_ret hF
                      obtain rfl := Option.some.inj hF
                      exact ret_gz [] [] [] rfl (argFl (by (conv => lhs; whnf); all_goals rfl)) trivial
              · replace hL1 := cond_f hb_162 hL1
                conv => whnf
                obtain rfl := Option.some.inj hL1
                replace hF := fin_brk hF
                try dsimp only at hF
                obtain ⟨r_56, h_r_56, hF⟩ := bind_some hF
                refine ⟨_, _, _, _, _, _, _, _, _, callX false [] [] 0 Try.func9 (by decide) rfl (law17_awake_ac r_56 h_r_56) rfl trivial rfl trivial rfl rfl rfl lend0 trivial rfl, ?_⟩
                conv => whnf
                obtain rfl := Option.some.inj hF
                exact ret_gz [] [] [] rfl (argE (by (conv => lhs; whnf); all_goals rfl) rfl) trivial
            · replace hL1 := cond_t hb_142 hL1
              conv => whnf
              obtain ⟨r_17, h_r_17, hL1⟩ := bind_some hL1
              refine ⟨_, _, _, _, _, _, _, _, _, callX false [1] [] 0 Try.func26 (by decide) rfl (keep_Src_Range_ac (⟨a_10, i_11⟩ : Src) (0 : Int) (14 : Int) r_17 h_r_17) rfl ⟨(argP (id := 1) (by (conv => lhs; whnf); all_goals rfl) rfl), (argE (by (conv => lhs; whnf); all_goals rfl) rfl), (argE (by (conv => lhs; whnf); all_goals rfl) rfl), trivial⟩ rfl ⟨rfl, trivial⟩ rfl rfl rfl lend0 ⟨rfl, trivial⟩ rfl, ?_⟩
              conv => whnf
              obtain ⟨r_18, h_r_18, hL1⟩ := bind_some hL1
              refine ⟨_, _, _, _, _, _, _, _, _, callX false [1] [] 0 Try.func22 (by decide) rfl (keep_Src_N_ac r_17.2 (9 : Int) r_18 h_r_18) rfl ⟨(argP (id := 1) (by (conv => lhs; whnf); all_goals rfl) rfl), (argE (by (conv => lhs; whnf); all_goals rfl) rfl), trivial⟩ rfl ⟨rfl, trivial⟩ rfl rfl rfl lend0 ⟨rfl, trivial⟩ rfl, ?_⟩
              conv => whnf
              refine ⟨fun hb_143 => ?_, fun hb_143 => ?_⟩
              · replace hL1 := cond_t hb_143 hL1
                conv => whnf
                obtain ⟨r_19, h_r_19, hL1⟩ := bind_some hL1
                refine ⟨_, _, _, _, _, _, _, _, _, callX false [1] [] 0 Try.func22 (by decide) rfl (keep_Src_N_ac r_18.2 (3 : Int) r_19 h_r_19) rfl ⟨(argP (id := 1) (by (conv => lhs; whnf); all_goals rfl) rfl), (argE (by (conv => lhs; whnf); all_goals rfl) rfl), trivial⟩ rfl ⟨rfl, trivial⟩ rfl rfl rfl lend0 ⟨rfl, trivial⟩ rfl, ?_⟩
                conv => whnf
                refine ⟨fun hb_144 => ?_, fun hb_144 => ?_⟩
                · replace hL1 := cond_t hb_144 hL1
                  conv => whnf
                  obtain ⟨r_20, h_r_20, hL1⟩ := bind_some hL1
                  refine ⟨_, _, _, _, _, _, _, _, _, callX false [] [] 0 Try.func28 (by decide) rfl (lanes_Take_ac (⟨i_12, a_13⟩ : Lanes) x_3.Bag r_20 h_r_20) rfl ⟨(argE (by (conv => lhs; whnf); all_goals rfl) rfl), (argE (by (conv => lhs; whnf); all_goals rfl) rfl), trivial⟩ rfl trivial rfl rfl rfl lend0 trivial rfl, ?_⟩
                  conv => whnf
                  obtain ⟨r_21, h_r_21, hL1⟩ := bind_some hL1
                  refine ⟨_, _, _, _, _, _, _, _, _, callX false [] [] 0 Try.func29 (by decide) rfl (ref17_Take_ac (⟨i_14, a_15⟩ : Lanes) x_3.Bag r_21 h_r_21) rfl ⟨(argE (by (conv => lhs; whnf); all_goals rfl) rfl), (argE (by (conv => lhs; whnf); all_goals rfl) rfl), trivial⟩ rfl trivial rfl rfl rfl lend0 trivial rfl, ?_⟩
                  conv => whnf
                  refine ⟨fun hb_145 => ?_, fun hb_145 => ?_⟩
                  · replace hL1 := cond_f hb_145 hL1
                    conv => whnf
                    obtain ⟨r_22, h_r_22, hL1⟩ := bind_some hL1
                    refine ⟨_, _, _, _, _, _, _, _, _, callX false [] [] 0 Try.func25 (by decide) rfl (ref17_Same_ac r_20.1 r_21.1 r_22 h_r_22) rfl ⟨(argE (by (conv => lhs; whnf); all_goals rfl) rfl), (argE (by (conv => lhs; whnf); all_goals rfl) rfl), trivial⟩ rfl trivial rfl rfl rfl lend0 trivial rfl, ?_⟩
                    conv => whnf
                    refine ⟨fun hb_146 => ?_, fun hb_146 => ?_⟩
                    · replace hL1 := cond_f hb_146 hL1
                      conv => whnf
                      obtain ⟨r_23, h_r_23, hL1⟩ := bind_some hL1
                      refine ⟨_, _, _, _, _, _, _, _, _, callX false [] [] 0 Try.func13 (by decide) rfl (keep_Ints_ac r_20.2.1 r_21.2.1 r_23 h_r_23) rfl ⟨(argE (by (conv => lhs; whnf); all_goals rfl) rfl), (argE (by (conv => lhs; whnf); all_goals rfl) rfl), trivial⟩ rfl trivial rfl rfl rfl lend0 trivial rfl, ?_⟩
                      conv => whnf
                      refine ⟨fun hb_147 => ?_, fun hb_147 => ?_⟩
                      · replace hL1 := cond_t hb_147 hL1
                        conv => whnf
                        obtain rfl := Option.some.inj hL1
                        replace hF := fin_ret hF
                        obtain rfl := Option.some.inj hF
                        exact ret_gz [] [] [] rfl (argFl (by (conv => lhs; whnf); all_goals rfl)) trivial
                      · replace hL1 := cond_f hb_147 hL1
                        conv => whnf
                        refine ⟨fun hb_148 => ?_, fun hb_148 => ?_⟩
                        · replace hL1 := cond_t hb_148 hL1
                          conv => whnf
                          refine ⟨by kernel_rfl, ?_⟩
                          conv => whnf
                          refine ⟨_, rfl, ?_⟩
                          conv => whnf
                          exact ⟨(q_54, r_19.2.L, r_19.2.At, r_20.1.Depth, r_20.1.L, r_21.1.Depth, r_21.1.L, (w64 (i_16 + (1 : Int)))), [0, 1, 2, 3], [], [], hL1, Nat.lt_succ_self _, wk_mk [0, 1, 2, 3] [] [] rfl ⟨argP (id := 0) (by (conv => lhs; whnf); all_goals rfl) rfl, argP (id := 1) (by (conv => lhs; whnf); all_goals rfl) rfl, argP (id := 2) (by (conv => lhs; whnf); all_goals rfl) rfl, argP (id := 3) (by (conv => lhs; whnf); all_goals rfl) rfl, argE (by (conv => lhs; whnf); all_goals rfl) rfl, trivial⟩ ⟨boxL rfl rfl rfl ⟨(.ni _ rfl), (.ni _ rfl), trivial⟩, boxL rfl rfl rfl ⟨(.ni _ rfl), (.ni _ rfl), trivial⟩, boxL rfl rfl rfl ⟨(.ni _ rfl), (.ni _ rfl), trivial⟩, boxL rfl rfl rfl ⟨(.ni _ rfl), (.ni _ rfl), trivial⟩, trivial⟩⟩
                        · replace hL1 := cond_f hb_148 hL1
                          conv => whnf
                          refine ⟨_, rfl, ?_⟩
                          conv => whnf
                          exact ⟨(q_54, r_19.2.L, r_19.2.At, i_12, a_13, i_14, a_15, (w64 (i_16 + (1 : Int)))), [0, 1, 2, 3], [], [], hL1, Nat.lt_succ_self _, wk_mk [0, 1, 2, 3] [] [] rfl ⟨argP (id := 0) (by (conv => lhs; whnf); all_goals rfl) rfl, argP (id := 1) (by (conv => lhs; whnf); all_goals rfl) rfl, argP (id := 2) (by (conv => lhs; whnf); all_goals rfl) rfl, argP (id := 3) (by (conv => lhs; whnf); all_goals rfl) rfl, argE (by (conv => lhs; whnf); all_goals rfl) rfl, trivial⟩ ⟨boxL rfl rfl rfl ⟨(.ni _ rfl), (.ni _ rfl), trivial⟩, boxL rfl rfl rfl ⟨(.ni _ rfl), (.ni _ rfl), trivial⟩, boxL rfl rfl rfl ⟨(.ni _ rfl), (.ni _ rfl), trivial⟩, boxL rfl rfl rfl ⟨(.ni _ rfl), (.ni _ rfl), trivial⟩, trivial⟩⟩
                    · replace hL1 := cond_t hb_146 hL1
                      conv => whnf
                      obtain rfl := Option.some.inj hL1
                      replace hF := fin_ret hF
                      obtain rfl := Option.some.inj hF
                      exact ret_gz [] [] [] rfl (argFl (by (conv => lhs; whnf); all_goals rfl)) trivial
                  · replace hL1 := cond_t hb_145 hL1
                    conv => whnf
                    obtain rfl := Option.some.inj hL1
                    replace hF := fin_ret hF
                    obtain rfl := Option.some.inj hF
                    exact ret_gz [] [] [] rfl (argFl (by (conv => lhs; whnf); all_goals rfl)) trivial
                · replace hL1 := cond_f hb_144 hL1
                  conv => whnf
                  obtain ⟨r_24, h_r_24, hL1⟩ := bind_some hL1
                  refine ⟨_, _, _, _, _, _, _, _, _, callX false [] [] 0 Try.func30 (by decide) rfl (lanes_Put_ac (⟨i_12, a_13⟩ : Lanes) x_3 r_24 h_r_24) rfl ⟨(argE (by (conv => lhs; whnf); all_goals rfl) rfl), (argE (by (conv => lhs; whnf); all_goals rfl) rfl), trivial⟩ rfl trivial rfl rfl rfl lend0 trivial rfl, ?_⟩
                  conv => whnf
                  obtain ⟨r_25, h_r_25, hL1⟩ := bind_some hL1
                  refine ⟨_, _, _, _, _, _, _, _, _, callX false [] [] 0 Try.func31 (by decide) rfl (ref17_Put_ac (⟨i_14, a_15⟩ : Lanes) x_3 r_25 h_r_25) rfl ⟨(argE (by (conv => lhs; whnf); all_goals rfl) rfl), (argE (by (conv => lhs; whnf); all_goals rfl) rfl), trivial⟩ rfl trivial rfl rfl rfl lend0 trivial rfl, ?_⟩
                  conv => whnf
                  refine ⟨fun hb_149 => ?_, fun hb_149 => ?_⟩
                  · replace hL1 := cond_f hb_149 hL1
                    conv => whnf
                    refine ⟨fun hb_150 => ?_, fun hb_150 => ?_⟩
                    · replace hL1 := cond_f hb_150 hL1
                      conv => whnf
                      obtain ⟨r_26, h_r_26, hL1⟩ := bind_some hL1
                      refine ⟨_, _, _, _, _, _, _, _, _, callX false [] [] 0 Try.func25 (by decide) rfl (ref17_Same_ac r_24.1 r_25.1 r_26 h_r_26) rfl ⟨(argE (by (conv => lhs; whnf); all_goals rfl) rfl), (argE (by (conv => lhs; whnf); all_goals rfl) rfl), trivial⟩ rfl trivial rfl rfl rfl lend0 trivial rfl, ?_⟩
                      conv => whnf
                      refine ⟨fun hb_151 => ?_, fun hb_151 => ?_⟩
                      · replace hL1 := cond_t hb_151 hL1
                        conv => whnf
                        obtain rfl := Option.some.inj hL1
                        replace hF := fin_ret hF
                        obtain rfl := Option.some.inj hF
                        exact ret_gz [] [] [] rfl (argFl (by (conv => lhs; whnf); all_goals rfl)) trivial
                      · replace hL1 := cond_f hb_151 hL1
                        conv => whnf
                        refine ⟨fun hb_152 => ?_, fun hb_152 => ?_⟩
                        · replace hL1 := cond_t hb_152 hL1
                          conv => whnf
                          refine ⟨by kernel_rfl, ?_⟩
                          conv => whnf
                          refine ⟨_, rfl, ?_⟩
                          conv => whnf
                          exact ⟨(q_54, r_19.2.L, r_19.2.At, r_24.1.Depth, r_24.1.L, r_25.1.Depth, r_25.1.L, (w64 (i_16 + (1 : Int)))), [0, 1, 2, 3], [], [], hL1, Nat.lt_succ_self _, wk_mk [0, 1, 2, 3] [] [] rfl ⟨argP (id := 0) (by (conv => lhs; whnf); all_goals rfl) rfl, argP (id := 1) (by (conv => lhs; whnf); all_goals rfl) rfl, argP (id := 2) (by (conv => lhs; whnf); all_goals rfl) rfl, argP (id := 3) (by (conv => lhs; whnf); all_goals rfl) rfl, argE (by (conv => lhs; whnf); all_goals rfl) rfl, trivial⟩ ⟨boxL rfl rfl rfl ⟨(.ni _ rfl), (.ni _ rfl), trivial⟩, boxL rfl rfl rfl ⟨(.ni _ rfl), (.ni _ rfl), trivial⟩, boxL rfl rfl rfl ⟨(.ni _ rfl), (.ni _ rfl), trivial⟩, boxL rfl rfl rfl ⟨(.ni _ rfl), (.ni _ rfl), trivial⟩, trivial⟩⟩
                        · replace hL1 := cond_f hb_152 hL1
                          conv => whnf
                          refine ⟨_, rfl, ?_⟩
                          conv => whnf
                          exact ⟨(q_54, r_19.2.L, r_19.2.At, i_12, a_13, i_14, a_15, (w64 (i_16 + (1 : Int)))), [0, 1, 2, 3], [], [], hL1, Nat.lt_succ_self _, wk_mk [0, 1, 2, 3] [] [] rfl ⟨argP (id := 0) (by (conv => lhs; whnf); all_goals rfl) rfl, argP (id := 1) (by (conv => lhs; whnf); all_goals rfl) rfl, argP (id := 2) (by (conv => lhs; whnf); all_goals rfl) rfl, argP (id := 3) (by (conv => lhs; whnf); all_goals rfl) rfl, argE (by (conv => lhs; whnf); all_goals rfl) rfl, trivial⟩ ⟨boxL rfl rfl rfl ⟨(.ni _ rfl), (.ni _ rfl), trivial⟩, boxL rfl rfl rfl ⟨(.ni _ rfl), (.ni _ rfl), trivial⟩, boxL rfl rfl rfl ⟨(.ni _ rfl), (.ni _ rfl), trivial⟩, boxL rfl rfl rfl ⟨(.ni _ rfl), (.ni _ rfl), trivial⟩, trivial⟩⟩
                    · replace hL1 := cond_t hb_150 hL1
                      conv => whnf
                      obtain rfl := Option.some.inj hL1
                      replace hF := fin_ret hF
                      obtain rfl := Option.some.inj hF
                      exact ret_gz [] [] [] rfl (argFl (by (conv => lhs; whnf); all_goals rfl)) trivial
                  · replace hL1 := cond_t hb_149 hL1
                    conv => whnf
                    obtain rfl := Option.some.inj hL1
                    replace hF := fin_ret hF
                    obtain rfl := Option.some.inj hF
                    exact ret_gz [] [] [] rfl (argFl (by (conv => lhs; whnf); all_goals rfl)) trivial
              · replace hL1 := cond_f hb_143 hL1
                conv => whnf
                obtain ⟨r_27, h_r_27, hL1⟩ := bind_some hL1
                refine ⟨_, _, _, _, _, _, _, _, _, callX false [1] [] 0 Try.func22 (by decide) rfl (keep_Src_N_ac r_18.2 (3 : Int) r_27 h_r_27) rfl ⟨(argP (id := 1) (by (conv => lhs; whnf); all_goals rfl) rfl), (argE (by (conv => lhs; whnf); all_goals rfl) rfl), trivial⟩ rfl ⟨rfl, trivial⟩ rfl rfl rfl lend0 ⟨rfl, trivial⟩ rfl, ?_⟩
                conv => whnf
                refine ⟨fun hb_153 => ?_, fun hb_153 => ?_⟩
                · replace hL1 := cond_t hb_153 hL1
                  conv => whnf
                  obtain ⟨r_28, h_r_28, hL1⟩ := bind_some hL1
                  refine ⟨_, _, _, _, _, _, _, _, _, callX false [] [] 0 Try.func28 (by decide) rfl (lanes_Take_ac (⟨i_12, a_13⟩ : Lanes) r_17.1 r_28 h_r_28) rfl ⟨(argE (by (conv => lhs; whnf); all_goals rfl) rfl), (argE (by (conv => lhs; whnf); all_goals rfl) rfl), trivial⟩ rfl trivial rfl rfl rfl lend0 trivial rfl, ?_⟩
                  conv => whnf
                  obtain ⟨r_29, h_r_29, hL1⟩ := bind_some hL1
                  refine ⟨_, _, _, _, _, _, _, _, _, callX false [] [] 0 Try.func29 (by decide) rfl (ref17_Take_ac (⟨i_14, a_15⟩ : Lanes) r_17.1 r_29 h_r_29) rfl ⟨(argE (by (conv => lhs; whnf); all_goals rfl) rfl), (argE (by (conv => lhs; whnf); all_goals rfl) rfl), trivial⟩ rfl trivial rfl rfl rfl lend0 trivial rfl, ?_⟩
                  conv => whnf
                  refine ⟨fun hb_154 => ?_, fun hb_154 => ?_⟩
                  · replace hL1 := cond_f hb_154 hL1
                    conv => whnf
                    obtain ⟨r_30, h_r_30, hL1⟩ := bind_some hL1
                    refine ⟨_, _, _, _, _, _, _, _, _, callX false [] [] 0 Try.func25 (by decide) rfl (ref17_Same_ac r_28.1 r_29.1 r_30 h_r_30) rfl ⟨(argE (by (conv => lhs; whnf); all_goals rfl) rfl), (argE (by (conv => lhs; whnf); all_goals rfl) rfl), trivial⟩ rfl trivial rfl rfl rfl lend0 trivial rfl, ?_⟩
                    conv => whnf
                    refine ⟨fun hb_155 => ?_, fun hb_155 => ?_⟩
                    · replace hL1 := cond_f hb_155 hL1
                      conv => whnf
                      obtain ⟨r_31, h_r_31, hL1⟩ := bind_some hL1
                      refine ⟨_, _, _, _, _, _, _, _, _, callX false [] [] 0 Try.func13 (by decide) rfl (keep_Ints_ac r_28.2.1 r_29.2.1 r_31 h_r_31) rfl ⟨(argE (by (conv => lhs; whnf); all_goals rfl) rfl), (argE (by (conv => lhs; whnf); all_goals rfl) rfl), trivial⟩ rfl trivial rfl rfl rfl lend0 trivial rfl, ?_⟩
                      conv => whnf
                      refine ⟨fun hb_156 => ?_, fun hb_156 => ?_⟩
                      · replace hL1 := cond_t hb_156 hL1
                        conv => whnf
                        obtain rfl := Option.some.inj hL1
                        replace hF := fin_ret hF
                        obtain rfl := Option.some.inj hF
                        exact ret_gz [] [] [] rfl (argFl (by (conv => lhs; whnf); all_goals rfl)) trivial
                      · replace hL1 := cond_f hb_156 hL1
                        conv => whnf
                        refine ⟨fun hb_157 => ?_, fun hb_157 => ?_⟩
                        · replace hL1 := cond_t hb_157 hL1
                          conv => whnf
                          refine ⟨by kernel_rfl, ?_⟩
                          conv => whnf
                          refine ⟨_, rfl, ?_⟩
                          conv => whnf
                          exact ⟨(q_54, r_27.2.L, r_27.2.At, r_28.1.Depth, r_28.1.L, r_29.1.Depth, r_29.1.L, (w64 (i_16 + (1 : Int)))), [0, 1, 2, 3], [], [], hL1, Nat.lt_succ_self _, wk_mk [0, 1, 2, 3] [] [] rfl ⟨argP (id := 0) (by (conv => lhs; whnf); all_goals rfl) rfl, argP (id := 1) (by (conv => lhs; whnf); all_goals rfl) rfl, argP (id := 2) (by (conv => lhs; whnf); all_goals rfl) rfl, argP (id := 3) (by (conv => lhs; whnf); all_goals rfl) rfl, argE (by (conv => lhs; whnf); all_goals rfl) rfl, trivial⟩ ⟨boxL rfl rfl rfl ⟨(.ni _ rfl), (.ni _ rfl), trivial⟩, boxL rfl rfl rfl ⟨(.ni _ rfl), (.ni _ rfl), trivial⟩, boxL rfl rfl rfl ⟨(.ni _ rfl), (.ni _ rfl), trivial⟩, boxL rfl rfl rfl ⟨(.ni _ rfl), (.ni _ rfl), trivial⟩, trivial⟩⟩
                        · replace hL1 := cond_f hb_157 hL1
                          conv => whnf
                          refine ⟨_, rfl, ?_⟩
                          conv => whnf
                          exact ⟨(q_54, r_27.2.L, r_27.2.At, i_12, a_13, i_14, a_15, (w64 (i_16 + (1 : Int)))), [0, 1, 2, 3], [], [], hL1, Nat.lt_succ_self _, wk_mk [0, 1, 2, 3] [] [] rfl ⟨argP (id := 0) (by (conv => lhs; whnf); all_goals rfl) rfl, argP (id := 1) (by (conv => lhs; whnf); all_goals rfl) rfl, argP (id := 2) (by (conv => lhs; whnf); all_goals rfl) rfl, argP (id := 3) (by (conv => lhs; whnf); all_goals rfl) rfl, argE (by (conv => lhs; whnf); all_goals rfl) rfl, trivial⟩ ⟨boxL rfl rfl rfl ⟨(.ni _ rfl), (.ni _ rfl), trivial⟩, boxL rfl rfl rfl ⟨(.ni _ rfl), (.ni _ rfl), trivial⟩, boxL rfl rfl rfl ⟨(.ni _ rfl), (.ni _ rfl), trivial⟩, boxL rfl rfl rfl ⟨(.ni _ rfl), (.ni _ rfl), trivial⟩, trivial⟩⟩
                    · replace hL1 := cond_t hb_155 hL1
                      conv => whnf
                      obtain rfl := Option.some.inj hL1
                      replace hF := fin_ret hF
                      obtain rfl := Option.some.inj hF
                      exact ret_gz [] [] [] rfl (argFl (by (conv => lhs; whnf); all_goals rfl)) trivial
                  · replace hL1 := cond_t hb_154 hL1
                    conv => whnf
                    obtain rfl := Option.some.inj hL1
                    replace hF := fin_ret hF
                    obtain rfl := Option.some.inj hF
                    exact ret_gz [] [] [] rfl (argFl (by (conv => lhs; whnf); all_goals rfl)) trivial
                · replace hL1 := cond_f hb_153 hL1
                  conv => whnf
                  obtain ⟨r_32, h_r_32, hL1⟩ := bind_some hL1
                  refine ⟨_, _, _, _, _, _, _, _, _, callX false [] [] 0 Try.func30 (by decide) rfl (lanes_Put_ac (⟨i_12, a_13⟩ : Lanes) (⟨r_17.1, r_18.1⟩ : Stored) r_32 h_r_32) rfl ⟨(argE (by (conv => lhs; whnf); all_goals rfl) rfl), (argE (by (conv => lhs; whnf); all_goals rfl) rfl), trivial⟩ rfl trivial rfl rfl rfl lend0 trivial rfl, ?_⟩
                  conv => whnf
                  obtain ⟨r_33, h_r_33, hL1⟩ := bind_some hL1
                  refine ⟨_, _, _, _, _, _, _, _, _, callX false [] [] 0 Try.func31 (by decide) rfl (ref17_Put_ac (⟨i_14, a_15⟩ : Lanes) (⟨r_17.1, r_18.1⟩ : Stored) r_33 h_r_33) rfl ⟨(argE (by (conv => lhs; whnf); all_goals rfl) rfl), (argE (by (conv => lhs; whnf); all_goals rfl) rfl), trivial⟩ rfl trivial rfl rfl rfl lend0 trivial rfl, ?_⟩
                  conv => whnf
                  refine ⟨fun hb_158 => ?_, fun hb_158 => ?_⟩
                  · replace hL1 := cond_f hb_158 hL1
                    conv => whnf
                    refine ⟨fun hb_159 => ?_, fun hb_159 => ?_⟩
                    · replace hL1 := cond_f hb_159 hL1
                      conv => whnf
                      obtain ⟨r_34, h_r_34, hL1⟩ := bind_some hL1
                      refine ⟨_, _, _, _, _, _, _, _, _, callX false [] [] 0 Try.func25 (by decide) rfl (ref17_Same_ac r_32.1 r_33.1 r_34 h_r_34) rfl ⟨(argE (by (conv => lhs; whnf); all_goals rfl) rfl), (argE (by (conv => lhs; whnf); all_goals rfl) rfl), trivial⟩ rfl trivial rfl rfl rfl lend0 trivial rfl, ?_⟩
                      conv => whnf
                      refine ⟨fun hb_160 => ?_, fun hb_160 => ?_⟩
                      · replace hL1 := cond_t hb_160 hL1
                        conv => whnf
                        obtain rfl := Option.some.inj hL1
                        replace hF := fin_ret hF
                        obtain rfl := Option.some.inj hF
                        exact ret_gz [] [] [] rfl (argFl (by (conv => lhs; whnf); all_goals rfl)) trivial
                      · replace hL1 := cond_f hb_160 hL1
                        conv => whnf
                        refine ⟨fun hb_161 => ?_, fun hb_161 => ?_⟩
                        · replace hL1 := cond_t hb_161 hL1
                          conv => whnf
                          refine ⟨by kernel_rfl, ?_⟩
                          conv => whnf
                          refine ⟨_, rfl, ?_⟩
                          conv => whnf
                          exact ⟨(q_54, r_27.2.L, r_27.2.At, r_32.1.Depth, r_32.1.L, r_33.1.Depth, r_33.1.L, (w64 (i_16 + (1 : Int)))), [0, 1, 2, 3], [], [], hL1, Nat.lt_succ_self _, wk_mk [0, 1, 2, 3] [] [] rfl ⟨argP (id := 0) (by (conv => lhs; whnf); all_goals rfl) rfl, argP (id := 1) (by (conv => lhs; whnf); all_goals rfl) rfl, argP (id := 2) (by (conv => lhs; whnf); all_goals rfl) rfl, argP (id := 3) (by (conv => lhs; whnf); all_goals rfl) rfl, argE (by (conv => lhs; whnf); all_goals rfl) rfl, trivial⟩ ⟨boxL rfl rfl rfl ⟨(.ni _ rfl), (.ni _ rfl), trivial⟩, boxL rfl rfl rfl ⟨(.ni _ rfl), (.ni _ rfl), trivial⟩, boxL rfl rfl rfl ⟨(.ni _ rfl), (.ni _ rfl), trivial⟩, boxL rfl rfl rfl ⟨(.ni _ rfl), (.ni _ rfl), trivial⟩, trivial⟩⟩
                        · replace hL1 := cond_f hb_161 hL1
                          conv => whnf
                          refine ⟨_, rfl, ?_⟩
                          conv => whnf
                          exact ⟨(q_54, r_27.2.L, r_27.2.At, i_12, a_13, i_14, a_15, (w64 (i_16 + (1 : Int)))), [0, 1, 2, 3], [], [], hL1, Nat.lt_succ_self _, wk_mk [0, 1, 2, 3] [] [] rfl ⟨argP (id := 0) (by (conv => lhs; whnf); all_goals rfl) rfl, argP (id := 1) (by (conv => lhs; whnf); all_goals rfl) rfl, argP (id := 2) (by (conv => lhs; whnf); all_goals rfl) rfl, argP (id := 3) (by (conv => lhs; whnf); all_goals rfl) rfl, argE (by (conv => lhs; whnf); all_goals rfl) rfl, trivial⟩ ⟨boxL rfl rfl rfl ⟨(.ni _ rfl), (.ni _ rfl), trivial⟩, boxL rfl rfl rfl ⟨(.ni _ rfl), (.ni _ rfl), trivial⟩, boxL rfl rfl rfl ⟨(.ni _ rfl), (.ni _ rfl), trivial⟩, boxL rfl rfl rfl ⟨(.ni _ rfl), (.ni _ rfl), trivial⟩, trivial⟩⟩
                    · replace hL1 := cond_t hb_159 hL1
                      conv => whnf
                      obtain rfl := Option.some.inj hL1
                      replace hF := fin_ret hF
                      obtain rfl := Option.some.inj hF
                      exact ret_gz [] [] [] rfl (argFl (by (conv => lhs; whnf); all_goals rfl)) trivial
                  · replace hL1 := cond_t hb_158 hL1
                    conv => whnf
                    obtain rfl := Option.some.inj hL1
                    replace hF := fin_ret hF
                    obtain rfl := Option.some.inj hF
                    exact ret_gz [] [] [] rfl (argFl (by (conv => lhs; whnf); all_goals rfl)) trivial
          · replace hL1 := cond_f hb_141 hL1
            conv => whnf
            obtain rfl := Option.some.inj hL1
            replace hF := fin_brk hF
            try dsimp only at hF
            obtain ⟨r_56, h_r_56, hF⟩ := bind_some hF
            refine ⟨_, _, _, _, _, _, _, _, _, callX false [] [] 0 Try.func9 (by decide) rfl (law17_awake_ac r_56 h_r_56) rfl trivial rfl trivial rfl rfl rfl lend0 trivial rfl, ?_⟩
            conv => whnf
            obtain rfl := Option.some.inj hF
            exact ret_gz [] [] [] rfl (argE (by (conv => lhs; whnf); all_goals rfl) rfl) trivial
      · replace hF := cond_t hb_139 hF
        conv => whnf
        obtain rfl := Option.some.inj hF
        exact ret_gz [] [] [] rfl (argFl (by (conv => lhs; whnf); all_goals rfl)) trivial
  · replace hF := cond_t hb_137 hF
    conv => whnf
    obtain rfl := Option.some.inj hF
    exact ret_gz [] [] [] rfl (argFl (by (conv => lhs; whnf); all_goals rfl)) trivial
end Go.Proofs.Ytkefkegknacpjaa.Ex
