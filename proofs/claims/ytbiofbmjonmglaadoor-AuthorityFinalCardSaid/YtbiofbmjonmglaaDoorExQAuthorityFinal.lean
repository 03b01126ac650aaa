/- The functions of the program compute what was printed; walks printed by a program. -/
import Derived.Test.YtbiofbmjonmglaaDoorExF
import Derived.Test.YtbiofbmjonmglaaDoorExP1
import Derived.Test.YtbiofbmjonmglaaDoorExP3
namespace Go.Proofs.YtbiofbmjonmglaaDoor.Ex
open Go.RowKit Go.Proofs.YtbiofbmjonmglaaDoor.Ax
set_option linter.unusedVariables false
set_option linter.unusedSimpArgs false
set_option maxRecDepth 100000 in
set_option maxHeartbeats 40000000 in
theorem law26_AuthorityFinal_ac (x_0 : (List Int)) (x_1 : Int) (x_2 : Int) (r : Bool) (hF : law26_AuthorityFinal x_0 x_1 x_2 = some r) : AC Tryd.prog 4 [.lst 1 (x_0.map iA), .int .i64 x_1, .int .i64 x_2] [] (.bool r) [] := by
  refine ac_of tab_ok follows_ok Tryd.func4 rfl Tryd.ntmps4 rfl ?_
  unfold law26_AuthorityFinal at hF
  conv => whnf
  obtain ⟨r_1, h_r_1, hF⟩ := bind_some hF
  refine ⟨_, _, _, _, _, _, _, _, _, callX false [] [] 1 Tryd.func11 (by decide) rfl (keep_New_ac x_0 r_1 h_r_1) rfl ⟨(argE (by (conv => lhs; whnf); all_goals rfl) rfl), trivial⟩ rfl trivial rfl rfl rfl lend0 ⟨rfl, trivial⟩ rfl, ?_⟩
  conv => whnf
  obtain ⟨r_2, h_r_2, hF⟩ := bind_some hF
  refine ⟨_, _, _, _, _, _, _, _, _, callX false [0] [] 0 Tryd.func16 (by decide) rfl (keep_Src_Manifests_ac r_1 r_2 h_r_2) rfl ⟨(argP (id := 0) (by (conv => lhs; whnf); all_goals rfl) rfl), trivial⟩ rfl ⟨rfl, trivial⟩ rfl rfl rfl lend0 ⟨rfl, trivial⟩ rfl, ?_⟩
  conv => whnf
  obtain ⟨r_3, h_r_3, hF⟩ := bind_some hF
  refine ⟨_, _, _, _, _, _, _, _, _, callX false [] [] 0 Tryd.func17 (by decide) rfl (law26_flights_ac r_3 h_r_3) rfl trivial rfl trivial rfl rfl rfl lend0 trivial rfl, ?_⟩
  conv => whnf
  obtain ⟨l_4, h_l_4, hF⟩ := bind_some hF
  refine ap_q (enc := encDeparture) (l := ([] : List Departure)) (y := r_3) h_l_4 rfl rfl (by decide) ?_
  conv => whnf
  obtain ⟨c_1, hc_1, hF⟩ := fin_some hF
  refine sw_loop tab_ok follows_ok (fun y : Nat × (List Int) × Int × Int => law26_AuthorityFinal_L1 x_1 x_2 r_2 l_4 y.1 y.2.1 y.2.2.1 y.2.2.2 = some c_1) (fun y => ⟨eL [(1, .int .i64 x_1), (2, .int .i64 x_2), (7, .ptr 0 0), (8, .lst 7 (r_2.1.map encManifest)), (9, .osl 1), (10, .int .i64 y.2.2.2)], hL [(0, .box [.lst 1 (y.2.1.map iA), .int .i64 y.2.2.1]), (1, .row 10 (l_4.map encDeparture))], 2⟩) (fun y => y.1) (9223372036854775807, r_2.2.L, r_2.2.At, (0 : Int)) hc_1 (wk_mk [0, 5] [] [] rfl ⟨argE (by (conv => lhs; whnf); all_goals rfl) rfl, argE (by (conv => lhs; whnf); all_goals rfl) rfl, argP (id := 0) (by (conv => lhs; whnf); all_goals rfl) rfl, argE (by (conv => lhs; whnf); all_goals rfl) rfl, argO (id := 5) (by (conv => lhs; whnf); all_goals rfl) rfl, argE (by (conv => lhs; whnf); all_goals rfl) rfl, trivial⟩ ⟨boxL rfl rfl rfl ⟨(.ni _ rfl), (.ni _ rfl), trivial⟩, blkR (fun _ => ⟨rfl, rfl⟩) rfl rfl, trivial⟩) ?_
  rintro ⟨q_20, a_5, i_6, i_7⟩ hL1
  try dsimp only at hL1
  rcases q_20 with _ | q_20
  · rw [law26_AuthorityFinal_L1.eq_1] at hL1
    cases hL1
  rw [law26_AuthorityFinal_L1.eq_2] at hL1
  show awp _ _ _ _ _ _ ⟨eL [(1, .int .i64 x_1), (2, .int .i64 x_2), (7, .ptr 0 0), (8, .lst 7 (r_2.1.map encManifest)), (9, .osl 1), (10, .int .i64 i_7)], hL [(0, .box [.lst 1 (a_5.map iA), .int .i64 i_6]), (1, .row 10 (l_4.map encDeparture))], 2⟩
  conv => whnf
  refine ⟨fun hb_52 => ?_, fun hb_52 => ?_⟩
  · replace hL1 := cond_t hb_52 hL1
    conv => whnf
    obtain ⟨r_8, h_r_8, hL1⟩ := bind_some hL1
    refine ⟨_, _, _, _, _, _, _, _, _, callX false [0] [] 0 Tryd.func13 (by decide) rfl (keep_Src_Facts_ac (⟨a_5, i_6⟩ : Src) r_8 h_r_8) rfl ⟨(argP (id := 0) (by (conv => lhs; whnf); all_goals rfl) rfl), trivial⟩ rfl ⟨rfl, trivial⟩ rfl rfl rfl lend0 ⟨rfl, trivial⟩ rfl, ?_⟩
    conv => whnf
    obtain ⟨r_9, h_r_9, hL1⟩ := bind_some hL1
    refine ⟨_, _, _, _, _, _, _, _, _, callX false [] [1] 0 Tryd.func19 (by decide) rfl (authority_Decide_ac r_8.1 r_2.1 l_4 r_8.1.Bag.Out.Flight x_1 true r_9 h_r_9) rfl ⟨(argE (by (conv => lhs; whnf); all_goals rfl) rfl), (argE (by (conv => lhs; whnf); all_goals rfl) rfl), (argOL 1 (by (conv => lhs; whnf); all_goals rfl) rfl rfl (map_ni (fun _ => ⟨rfl, rfl⟩) _)), (argE (by (conv => lhs; whnf); all_goals rfl) rfl), (argE (by (conv => lhs; whnf); all_goals rfl) rfl), (argT (by (conv => lhs; whnf); all_goals rfl)), trivial⟩ rfl trivial rfl rfl rfl (lendF rfl) trivial rfl, ?_⟩
    conv => whnf
    obtain ⟨r_10, h_r_10, hL1⟩ := bind_some hL1
    refine ⟨_, _, _, _, _, _, _, _, _, callX false [] [1] 0 Tryd.func19 (by decide) rfl (authority_Decide_ac r_8.1 r_2.1 l_4 r_8.1.Bag.Out.Flight x_2 false r_10 h_r_10) rfl ⟨(argE (by (conv => lhs; whnf); all_goals rfl) rfl), (argE (by (conv => lhs; whnf); all_goals rfl) rfl), (argOL 1 (by (conv => lhs; whnf); all_goals rfl) rfl rfl (map_ni (fun _ => ⟨rfl, rfl⟩) _)), (argE (by (conv => lhs; whnf); all_goals rfl) rfl), (argE (by (conv => lhs; whnf); all_goals rfl) rfl), (argFl (by (conv => lhs; whnf); all_goals rfl)), trivial⟩ rfl trivial rfl rfl rfl (lendF rfl) trivial rfl, ?_⟩
    conv => whnf
    obtain ⟨r_11, h_r_11, hL1⟩ := bind_some hL1
    refine ⟨_, _, _, _, _, _, _, _, _, callX false [] [1] 0 Tryd.func22 (by decide) rfl (ref20_Find_ac l_4 r_8.1.Bag.Out.Flight r_11 h_r_11) rfl ⟨(argOL 1 (by (conv => lhs; whnf); all_goals rfl) rfl rfl (map_ni (fun _ => ⟨rfl, rfl⟩) _)), (argE (by (conv => lhs; whnf); all_goals rfl) rfl), trivial⟩ rfl trivial rfl rfl rfl (lendF rfl) trivial rfl, ?_⟩
    conv => whnf
    refine ⟨fun hb_53 => ?_, fun hb_53 => ?_⟩
    · replace hL1 := cond_f hb_53 hL1
      conv => whnf
      refine ⟨fun hb_54 => ?_, fun hb_54 => ?_⟩
      · replace hL1 := cond_t hb_54 hL1
        conv => whnf
        obtain ⟨e_12, h_e_12, hL1⟩ := bind_some hL1
        refine ixo_q (enc := encDeparture) (l := l_4) h_e_12 rfl (fun m_e_12 hm_e_12 hx_e_12 => ?_)
        conv => whnf
        refine ⟨_, ix_map (enc := encDeparture) hx_e_12, ?_⟩
        conv => whnf
        obtain ⟨r_13, h_r_13, hL1⟩ := bind_some hL1
        refine ⟨_, _, _, _, _, _, _, _, _, callX false [] [] 0 Tryd.func23 (by decide) rfl (schedule_IsClosed_ac e_12 x_2 r_13 h_r_13) rfl ⟨(argE (by (conv => lhs; whnf); all_goals rfl) rfl), (argE (by (conv => lhs; whnf); all_goals rfl) rfl), trivial⟩ rfl trivial rfl rfl rfl lend0 trivial rfl, ?_⟩
        conv => whnf
        refine ⟨fun hb_55 => ?_, fun hb_55 => ?_⟩
        · replace hL1 := cond_t hb_55 hL1
          conv => whnf
          refine ⟨fun hb_56 => ?_, fun hb_56 => ?_⟩
          · replace hL1 := cond_f hb_56 hL1
            conv => whnf
            refine ⟨fun h => ?_, fun h => ?_⟩
            · conv => whnf
              refine ⟨fun hb_57 => ?_, fun hb_57 => ?_⟩
              · replace hL1 := cond_t hb_57 hL1
                conv => whnf
                refine ⟨fun hb_58 => ?_, fun hb_58 => ?_⟩
                · replace hL1 := cond_f hb_58 hL1
                  conv => whnf
                  refine ⟨fun h => ?_, fun h => ?_⟩
                  · conv => whnf
                    obtain ⟨e_14, h_e_14, hL1⟩ := bind_some hL1
                    refine ixo_q (enc := encDeparture) (l := l_4) h_e_14 rfl (fun m_e_14 hm_e_14 hx_e_14 => ?_)
                    conv => whnf
                    refine ⟨_, ix_map (enc := encDeparture) hx_e_14, ?_⟩
                    conv => whnf
                    obtain ⟨r_15, h_r_15, hL1⟩ := bind_some hL1
                    refine ⟨_, _, _, _, _, _, _, _, _, callX false [] [] 0 Tryd.func23 (by decide) rfl (schedule_IsClosed_ac e_14 x_2 r_15 h_r_15) rfl ⟨(argE (by (conv => lhs; whnf); all_goals rfl) rfl), (argE (by (conv => lhs; whnf); all_goals rfl) rfl), trivial⟩ rfl trivial rfl rfl rfl lend0 trivial rfl, ?_⟩
                    conv => whnf
                    refine ⟨fun hb_59 => ?_, fun hb_59 => ?_⟩
                    · replace hL1 := cond_t hb_59 hL1
                      conv => whnf
                      obtain rfl := Option.some.inj hL1
                      replace hF := fin_ret hF
                      obtain rfl := Option.some.inj hF
                      exact ret_gz [] [] [] rfl (argFl (by (conv => lhs; whnf); all_goals rfl)) trivial
                    · replace hL1 := cond_f hb_59 hL1
                      conv => whnf
                      refine ⟨_, rfl, ?_⟩
                      conv => whnf
                      exact ⟨(q_20, r_8.2.L, r_8.2.At, (w64 (i_7 + (1 : Int)))), [0, 1], [], [], hL1, Nat.lt_succ_self _, wk_mk [0, 1] [] [] rfl ⟨argE (by (conv => lhs; whnf); all_goals rfl) rfl, argE (by (conv => lhs; whnf); all_goals rfl) rfl, argP (id := 0) (by (conv => lhs; whnf); all_goals rfl) rfl, argE (by (conv => lhs; whnf); all_goals rfl) rfl, argO (id := 1) (by (conv => lhs; whnf); all_goals rfl) rfl, argE (by (conv => lhs; whnf); all_goals rfl) rfl, trivial⟩ ⟨boxL rfl rfl rfl ⟨(.ni _ rfl), (.ni _ rfl), trivial⟩, blkR (fun _ => ⟨rfl, rfl⟩) rfl rfl, trivial⟩⟩
                  · cases (hb_57).symm.trans h
                · replace hL1 := cond_t hb_58 hL1
                  conv => whnf
                  obtain rfl := Option.some.inj hL1
                  replace hF := fin_ret hF
                  obtain rfl := Option.some.inj hF
                  exact ret_gz [] [] [] rfl (argFl (by (conv => lhs; whnf); all_goals rfl)) trivial
              · replace hL1 := cond_f hb_57 hL1
                conv => whnf
                refine ⟨fun h => ?_, fun h => ?_⟩
                · cases (hb_57).symm.trans h
                · conv => whnf
                  refine ⟨_, rfl, ?_⟩
                  conv => whnf
                  exact ⟨(q_20, r_8.2.L, r_8.2.At, (w64 (i_7 + (1 : Int)))), [0, 1], [], [], hL1, Nat.lt_succ_self _, wk_mk [0, 1] [] [] rfl ⟨argE (by (conv => lhs; whnf); all_goals rfl) rfl, argE (by (conv => lhs; whnf); all_goals rfl) rfl, argP (id := 0) (by (conv => lhs; whnf); all_goals rfl) rfl, argE (by (conv => lhs; whnf); all_goals rfl) rfl, argO (id := 1) (by (conv => lhs; whnf); all_goals rfl) rfl, argE (by (conv => lhs; whnf); all_goals rfl) rfl, trivial⟩ ⟨boxL rfl rfl rfl ⟨(.ni _ rfl), (.ni _ rfl), trivial⟩, blkR (fun _ => ⟨rfl, rfl⟩) rfl rfl, trivial⟩⟩
            · cases (hb_54).symm.trans h
          · replace hL1 := cond_t hb_56 hL1
            conv => whnf
            obtain rfl := Option.some.inj hL1
            replace hF := fin_ret hF
            obtain rfl := Option.some.inj hF
            exact ret_gz [] [] [] rfl (argFl (by (conv => lhs; whnf); all_goals rfl)) trivial
        · replace hL1 := cond_f hb_55 hL1
          conv => whnf
          refine ⟨fun h => ?_, fun h => ?_⟩
          · conv => whnf
            refine ⟨fun hb_60 => ?_, fun hb_60 => ?_⟩
            · replace hL1 := cond_t hb_60 hL1
              conv => whnf
              refine ⟨fun hb_61 => ?_, fun hb_61 => ?_⟩
              · replace hL1 := cond_f hb_61 hL1
                conv => whnf
                refine ⟨fun h => ?_, fun h => ?_⟩
                · conv => whnf
                  obtain ⟨e_16, h_e_16, hL1⟩ := bind_some hL1
                  refine ixo_q (enc := encDeparture) (l := l_4) h_e_16 rfl (fun m_e_16 hm_e_16 hx_e_16 => ?_)
                  conv => whnf
                  refine ⟨_, ix_map (enc := encDeparture) hx_e_16, ?_⟩
                  conv => whnf
                  obtain ⟨r_17, h_r_17, hL1⟩ := bind_some hL1
                  refine ⟨_, _, _, _, _, _, _, _, _, callX false [] [] 0 Tryd.func23 (by decide) rfl (schedule_IsClosed_ac e_16 x_2 r_17 h_r_17) rfl ⟨(argE (by (conv => lhs; whnf); all_goals rfl) rfl), (argE (by (conv => lhs; whnf); all_goals rfl) rfl), trivial⟩ rfl trivial rfl rfl rfl lend0 trivial rfl, ?_⟩
                  conv => whnf
                  refine ⟨fun hb_62 => ?_, fun hb_62 => ?_⟩
                  · replace hL1 := cond_t hb_62 hL1
                    conv => whnf
                    obtain rfl := Option.some.inj hL1
                    replace hF := fin_ret hF
                    obtain rfl := Option.some.inj hF
                    exact ret_gz [] [] [] rfl (argFl (by (conv => lhs; whnf); all_goals rfl)) trivial
                  · replace hL1 := cond_f hb_62 hL1
                    conv => whnf
                    refine ⟨_, rfl, ?_⟩
                    conv => whnf
                    exact ⟨(q_20, r_8.2.L, r_8.2.At, (w64 (i_7 + (1 : Int)))), [0, 1], [], [], hL1, Nat.lt_succ_self _, wk_mk [0, 1] [] [] rfl ⟨argE (by (conv => lhs; whnf); all_goals rfl) rfl, argE (by (conv => lhs; whnf); all_goals rfl) rfl, argP (id := 0) (by (conv => lhs; whnf); all_goals rfl) rfl, argE (by (conv => lhs; whnf); all_goals rfl) rfl, argO (id := 1) (by (conv => lhs; whnf); all_goals rfl) rfl, argE (by (conv => lhs; whnf); all_goals rfl) rfl, trivial⟩ ⟨boxL rfl rfl rfl ⟨(.ni _ rfl), (.ni _ rfl), trivial⟩, blkR (fun _ => ⟨rfl, rfl⟩) rfl rfl, trivial⟩⟩
                · cases (hb_60).symm.trans h
              · replace hL1 := cond_t hb_61 hL1
                conv => whnf
                obtain rfl := Option.some.inj hL1
                replace hF := fin_ret hF
                obtain rfl := Option.some.inj hF
                exact ret_gz [] [] [] rfl (argFl (by (conv => lhs; whnf); all_goals rfl)) trivial
            · replace hL1 := cond_f hb_60 hL1
              conv => whnf
              refine ⟨fun h => ?_, fun h => ?_⟩
              · cases (hb_60).symm.trans h
              · conv => whnf
                refine ⟨_, rfl, ?_⟩
                conv => whnf
                exact ⟨(q_20, r_8.2.L, r_8.2.At, (w64 (i_7 + (1 : Int)))), [0, 1], [], [], hL1, Nat.lt_succ_self _, wk_mk [0, 1] [] [] rfl ⟨argE (by (conv => lhs; whnf); all_goals rfl) rfl, argE (by (conv => lhs; whnf); all_goals rfl) rfl, argP (id := 0) (by (conv => lhs; whnf); all_goals rfl) rfl, argE (by (conv => lhs; whnf); all_goals rfl) rfl, argO (id := 1) (by (conv => lhs; whnf); all_goals rfl) rfl, argE (by (conv => lhs; whnf); all_goals rfl) rfl, trivial⟩ ⟨boxL rfl rfl rfl ⟨(.ni _ rfl), (.ni _ rfl), trivial⟩, blkR (fun _ => ⟨rfl, rfl⟩) rfl rfl, trivial⟩⟩
          · cases (hb_54).symm.trans h
      · replace hL1 := cond_f hb_54 hL1
        conv => whnf
        refine ⟨fun h => ?_, fun h => ?_⟩
        · cases (hb_54).symm.trans h
        · conv => whnf
          refine ⟨fun hb_63 => ?_, fun hb_63 => ?_⟩
          · replace hL1 := cond_t hb_63 hL1
            conv => whnf
            obtain ⟨e_18, h_e_18, hL1⟩ := bind_some hL1
            refine ixo_q (enc := encDeparture) (l := l_4) h_e_18 rfl (fun m_e_18 hm_e_18 hx_e_18 => ?_)
            conv => whnf
            refine ⟨_, ix_map (enc := encDeparture) hx_e_18, ?_⟩
            conv => whnf
            obtain ⟨r_19, h_r_19, hL1⟩ := bind_some hL1
            refine ⟨_, _, _, _, _, _, _, _, _, callX false [] [] 0 Tryd.func23 (by decide) rfl (schedule_IsClosed_ac e_18 x_2 r_19 h_r_19) rfl ⟨(argE (by (conv => lhs; whnf); all_goals rfl) rfl), (argE (by (conv => lhs; whnf); all_goals rfl) rfl), trivial⟩ rfl trivial rfl rfl rfl lend0 trivial rfl, ?_⟩
            conv => whnf
            refine ⟨fun hb_64 => ?_, fun hb_64 => ?_⟩
            · replace hL1 := cond_t hb_64 hL1
              conv => whnf
              obtain rfl := Option.some.inj hL1
              replace hF := fin_ret hF
              obtain rfl := Option.some.inj hF
              exact ret_gz [] [] [] rfl (argFl (by (conv => lhs; whnf); all_goals rfl)) trivial
            · replace hL1 := cond_f hb_64 hL1
              conv => whnf
              refine ⟨_, rfl, ?_⟩
              conv => whnf
              exact ⟨(q_20, r_8.2.L, r_8.2.At, (w64 (i_7 + (1 : Int)))), [0, 1], [], [], hL1, Nat.lt_succ_self _, wk_mk [0, 1] [] [] rfl ⟨argE (by (conv => lhs; whnf); all_goals rfl) rfl, argE (by (conv => lhs; whnf); all_goals rfl) rfl, argP (id := 0) (by (conv => lhs; whnf); all_goals rfl) rfl, argE (by (conv => lhs; whnf); all_goals rfl) rfl, argO (id := 1) (by (conv => lhs; whnf); all_goals rfl) rfl, argE (by (conv => lhs; whnf); all_goals rfl) rfl, trivial⟩ ⟨boxL rfl rfl rfl ⟨(.ni _ rfl), (.ni _ rfl), trivial⟩, blkR (fun _ => ⟨rfl, rfl⟩) rfl rfl, trivial⟩⟩
          · replace hL1 := cond_f hb_63 hL1
            conv => whnf
            refine ⟨_, rfl, ?_⟩
            conv => whnf
            exact ⟨(q_20, r_8.2.L, r_8.2.At, (w64 (i_7 + (1 : Int)))), [0, 1], [], [], hL1, Nat.lt_succ_self _, wk_mk [0, 1] [] [] rfl ⟨argE (by (conv => lhs; whnf); all_goals rfl) rfl, argE (by (conv => lhs; whnf); all_goals rfl) rfl, argP (id := 0) (by (conv => lhs; whnf); all_goals rfl) rfl, argE (by (conv => lhs; whnf); all_goals rfl) rfl, argO (id := 1) (by (conv => lhs; whnf); all_goals rfl) rfl, argE (by (conv => lhs; whnf); all_goals rfl) rfl, trivial⟩ ⟨boxL rfl rfl rfl ⟨(.ni _ rfl), (.ni _ rfl), trivial⟩, blkR (fun _ => ⟨rfl, rfl⟩) rfl rfl, trivial⟩⟩
    · replace hL1 := cond_t hb_53 hL1
      conv => whnf
      obtain rfl := Option.some.inj hL1
      replace hF := fin_ret hF
      obtain rfl := Option.some.inj hF
      exact ret_gz [] [] [] rfl (argFl (by (conv => lhs; whnf); all_goals rfl)) trivial
  · replace hL1 := cond_f hb_52 hL1
    conv => whnf
    obtain rfl := Option.some.inj hL1
    replace hF := fin_brk hF
    try dsimp only at hF
    obtain ⟨r_22, h_r_22, hF⟩ := bind_some hF
    refine ⟨_, _, _, _, _, _, _, _, _, callX false [] [] 0 Tryd.func21 (by decide) rfl (law26_awake_ac r_22 h_r_22) rfl trivial rfl trivial rfl rfl rfl lend0 trivial rfl, ?_⟩
    conv => whnf
    obtain rfl := Option.some.inj hF
    exact ret_gz [] [] [] rfl (argE (by (conv => lhs; whnf); all_goals rfl) rfl) trivial
end Go.Proofs.YtbiofbmjonmglaaDoor.Ex
