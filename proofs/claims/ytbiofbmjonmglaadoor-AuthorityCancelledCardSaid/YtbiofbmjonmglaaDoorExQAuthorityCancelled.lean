/- The functions of the program compute what was printed; walks printed by a program. -/
import Derived.Test.YtbiofbmjonmglaaDoorExF
import Derived.Test.YtbiofbmjonmglaaDoorExP1
import Derived.Test.YtbiofbmjonmglaaDoorExP3
namespace Go.Proofs.YtbiofbmjonmglaaDoor.Ex
open Go.RowKit Go.Proofs.YtbiofbmjonmglaaDoor.Ax
set_option linter.unusedVariables false
set_option linter.unusedSimpArgs false
set_option maxRecDepth 100000 in
set_option maxHeartbeats 40000000 in
theorem law26_AuthorityCancelled_ac (x_0 : (List Int)) (x_1 : Int) (x_2 : Bool) (r : Bool) (hF : law26_AuthorityCancelled x_0 x_1 x_2 = some r) : AC Tryd.prog 9 [.lst 1 (x_0.map iA), .int .i64 x_1, .bool x_2] [] (.bool r) [] := by
  refine ac_of tab_ok follows_ok Tryd.func9 rfl Tryd.ntmps9 rfl ?_
  unfold law26_AuthorityCancelled at hF
  conv => whnf
  obtain ⟨r_1, h_r_1, hF⟩ := bind_some hF
  refine ⟨_, _, _, _, _, _, _, _, _, callX false [] [] 1 Tryd.func11 (by decide) rfl (keep_New_ac x_0 r_1 h_r_1) rfl ⟨(argE (by (conv => lhs; whnf); all_goals rfl) rfl), trivial⟩ rfl trivial rfl rfl rfl lend0 ⟨rfl, trivial⟩ rfl, ?_⟩
  conv => whnf
  obtain ⟨r_2, h_r_2, hF⟩ := bind_some hF
  refine ⟨_, _, _, _, _, _, _, _, _, callX false [0] [] 0 Tryd.func16 (by decide) rfl (keep_Src_Manifests_ac r_1 r_2 h_r_2) rfl ⟨(argP (id := 0) (by (conv => lhs; whnf); all_goals rfl) rfl), trivial⟩ rfl ⟨rfl, trivial⟩ rfl rfl rfl lend0 ⟨rfl, trivial⟩ rfl, ?_⟩
  conv => whnf
  obtain ⟨r_3, h_r_3, hF⟩ := bind_some hF
  refine ⟨_, _, _, _, _, _, _, _, _, callX false [] [] 0 Tryd.func17 (by decide) rfl (law26_flights_ac r_3 h_r_3) rfl trivial rfl trivial rfl rfl rfl lend0 trivial rfl, ?_⟩
  conv => whnf
  obtain ⟨r_4, h_r_4, hF⟩ := bind_some hF
  refine ⟨_, _, _, _, _, _, _, _, _, callX false [0] [] 0 Tryd.func15 (by decide) rfl (keep_Src_N_ac r_2.2 (3 : Int) r_4 h_r_4) rfl ⟨(argP (id := 0) (by (conv => lhs; whnf); all_goals rfl) rfl), (argE (by (conv => lhs; whnf); all_goals rfl) rfl), trivial⟩ rfl ⟨rfl, trivial⟩ rfl rfl rfl lend0 ⟨rfl, trivial⟩ rfl, ?_⟩
  conv => whnf
  obtain ⟨r_5, h_r_5, hF⟩ := bind_some hF
  refine ⟨_, _, _, _, _, _, _, _, _, callX false [] [] 0 Tryd.func28 (by decide) rfl (keep_Flights_ac r_4.1 r_5 h_r_5) rfl ⟨(argE (by (conv => lhs; whnf); all_goals rfl) rfl), trivial⟩ rfl trivial rfl rfl rfl lend0 trivial rfl, ?_⟩
  conv => whnf
  obtain ⟨r_6, h_r_6, hF⟩ := bind_some hF
  refine ⟨_, _, _, _, _, _, _, _, _, callX false [] [] 0 Tryd.func32 (by decide) rfl (schedule_Apply_ac r_3 (⟨(4 : Int), (0 : Int), r_5⟩ : Revision) x_1 r_6 h_r_6) rfl ⟨(argE (by (conv => lhs; whnf); all_goals rfl) rfl), (argE (by (conv => lhs; whnf); all_goals rfl) rfl), (argE (by (conv => lhs; whnf); all_goals rfl) rfl), trivial⟩ rfl trivial rfl rfl rfl lend0 trivial rfl, ?_⟩
  conv => whnf
  obtain ⟨r_7, h_r_7, hF⟩ := bind_some hF
  refine ⟨_, _, _, _, _, _, _, _, _, callX false [] [] 0 Tryd.func32 (by decide) rfl (schedule_Apply_ac r_6.1 (⟨(5 : Int), (0 : Int), r_5⟩ : Revision) x_1 r_7 h_r_7) rfl ⟨(argE (by (conv => lhs; whnf); all_goals rfl) rfl), (argE (by (conv => lhs; whnf); all_goals rfl) rfl), (argE (by (conv => lhs; whnf); all_goals rfl) rfl), trivial⟩ rfl trivial rfl rfl rfl lend0 trivial rfl, ?_⟩
  conv => whnf
  obtain ⟨r_8, h_r_8, hF⟩ := bind_some hF
  refine ⟨_, _, _, _, _, _, _, _, _, callX false [] [] 0 Tryd.func33 (by decide) rfl (schedule_Depart_ac r_3 r_5 (40 : Int) r_8 h_r_8) rfl ⟨(argE (by (conv => lhs; whnf); all_goals rfl) rfl), (argE (by (conv => lhs; whnf); all_goals rfl) rfl), (argE (by (conv => lhs; whnf); all_goals rfl) rfl), trivial⟩ rfl trivial rfl rfl rfl lend0 trivial rfl, ?_⟩
  conv => whnf
  refine ⟨fun hb_19 => ?_, fun hb_19 => ?_⟩
  · replace hF := cond_f hb_19 hF
    conv => whnf
    refine ⟨fun hb_20 => ?_, fun hb_20 => ?_⟩
    · replace hF := cond_f hb_20 hF
      conv => whnf
      refine ⟨fun hb_21 => ?_, fun hb_21 => ?_⟩
      · replace hF := cond_t hb_21 hF
        conv => whnf
        obtain rfl := Option.some.inj hF
        exact ret_gz [] [] [] rfl (argFl (by (conv => lhs; whnf); all_goals rfl)) trivial
      · replace hF := cond_f hb_21 hF
        conv => whnf
        obtain ⟨c_1, hc_1, hF⟩ := fin_some hF
        refine sw_loop tab_ok follows_ok (fun y : Nat × (List Int) × Int × Int => law26_AuthorityCancelled_L1 x_1 x_2 r_2 r_3 r_5 r_6 r_7 r_8 y.1 y.2.1 y.2.2.1 y.2.2.2 = some c_1) (fun y => ⟨eL [(1, .int .i64 x_1), (2, .bool x_2), (7, .ptr 0 0), (8, .lst 7 (r_2.1.map encManifest)), (9, .lst 10 (r_3.map encDeparture)), (10, .ptr 1 0), (11, .lst 10 (r_6.1.map encDeparture)), (13, .lst 10 (r_7.1.map encDeparture)), (15, .lst 10 (r_8.1.map encDeparture)), (17, .int .i64 y.2.2.2)], hL [(0, .box [.lst 1 (y.2.1.map iA), .int .i64 y.2.2.1]), (1, .box [.str r_5.Carrier, .int .i64 r_5.Number, .str r_5.Suffix, .int .i64 r_5.Day])], 2⟩) (fun y => y.1) (9223372036854775807, r_4.2.L, r_4.2.At, (0 : Int)) hc_1 (wk_mk [0, 6] [] [] rfl ⟨argE (by (conv => lhs; whnf); all_goals rfl) rfl, argE (by (conv => lhs; whnf); all_goals rfl) rfl, argP (id := 0) (by (conv => lhs; whnf); all_goals rfl) rfl, argE (by (conv => lhs; whnf); all_goals rfl) rfl, argE (by (conv => lhs; whnf); all_goals rfl) rfl, argP (id := 6) (by (conv => lhs; whnf); all_goals rfl) rfl, argE (by (conv => lhs; whnf); all_goals rfl) rfl, argE (by (conv => lhs; whnf); all_goals rfl) rfl, argE (by (conv => lhs; whnf); all_goals rfl) rfl, argE (by (conv => lhs; whnf); all_goals rfl) rfl, trivial⟩ ⟨boxL rfl rfl rfl ⟨(.ni _ rfl), (.ni _ rfl), trivial⟩, boxL rfl rfl rfl ⟨(.ni _ rfl), (.ni _ rfl), (.ni _ rfl), (.ni _ rfl), trivial⟩, trivial⟩) ?_
        rintro ⟨q_17, a_9, i_10, i_11⟩ hL1
        try dsimp only at hL1
        rcases q_17 with _ | q_17
        · rw [law26_AuthorityCancelled_L1.eq_1] at hL1
          cases hL1
        rw [law26_AuthorityCancelled_L1.eq_2] at hL1
        show awp _ _ _ _ _ _ ⟨eL [(1, .int .i64 x_1), (2, .bool x_2), (7, .ptr 0 0), (8, .lst 7 (r_2.1.map encManifest)), (9, .lst 10 (r_3.map encDeparture)), (10, .ptr 1 0), (11, .lst 10 (r_6.1.map encDeparture)), (13, .lst 10 (r_7.1.map encDeparture)), (15, .lst 10 (r_8.1.map encDeparture)), (17, .int .i64 i_11)], hL [(0, .box [.lst 1 (a_9.map iA), .int .i64 i_10]), (1, .box [.str r_5.Carrier, .int .i64 r_5.Number, .str r_5.Suffix, .int .i64 r_5.Day])], 2⟩
        conv => whnf
        refine ⟨fun hb_22 => ?_, fun hb_22 => ?_⟩
        · replace hL1 := cond_t hb_22 hL1
          conv => whnf
          obtain ⟨r_12, h_r_12, hL1⟩ := bind_some hL1
          refine ⟨_, _, _, _, _, _, _, _, _, callX false [0] [] 0 Tryd.func13 (by decide) rfl (keep_Src_Facts_ac (⟨a_9, i_10⟩ : Src) r_12 h_r_12) rfl ⟨(argP (id := 0) (by (conv => lhs; whnf); all_goals rfl) rfl), trivial⟩ rfl ⟨rfl, trivial⟩ rfl rfl rfl lend0 ⟨rfl, trivial⟩ rfl, ?_⟩
          conv => whnf
          obtain ⟨r_13, h_r_13, hL1⟩ := bind_some hL1
          refine ⟨_, _, _, _, _, _, _, _, _, callX false [] [] 0 Tryd.func19 (by decide) rfl (authority_Decide_ac (⟨r_12.1.Known, (⟨r_12.1.Bag.Plate, r_12.1.Bag.In, (⟨r_5, r_12.1.Bag.Out.Port, r_12.1.Bag.Out.Class⟩ : Leg), r_12.1.Bag.Onward, r_12.1.Bag.Sequence, r_12.1.Bag.Status, r_12.1.Bag.Weight, r_12.1.Bag.Load, r_12.1.Bag.Surname, r_12.1.Bag.Given, r_12.1.Bag.Exception, r_12.1.Bag.Node, r_12.1.Bag.Unloaded⟩ : Bag), r_12.1.Copies, r_12.1.Cleared⟩ : Facts) r_2.1 r_6.1 r_5 x_1 x_2 r_13 h_r_13) rfl ⟨(argE (by (conv => lhs; whnf); all_goals rfl) rfl), (argE (by (conv => lhs; whnf); all_goals rfl) rfl), (argE (by (conv => lhs; whnf); all_goals rfl) rfl), (argE (by (conv => lhs; whnf); all_goals rfl) rfl), (argE (by (conv => lhs; whnf); all_goals rfl) rfl), (argE (by (conv => lhs; whnf); all_goals rfl) rfl), trivial⟩ rfl trivial rfl rfl rfl lend0 trivial rfl, ?_⟩
          conv => whnf
          refine ⟨fun hb_23 => ?_, fun hb_23 => ?_⟩
          · replace hL1 := cond_f hb_23 hL1
            conv => whnf
            obtain ⟨r_14, h_r_14, hL1⟩ := bind_some hL1
            refine ⟨_, _, _, _, _, _, _, _, _, callX false [] [] 0 Tryd.func19 (by decide) rfl (authority_Decide_ac (⟨r_12.1.Known, (⟨r_12.1.Bag.Plate, r_12.1.Bag.In, (⟨r_5, r_12.1.Bag.Out.Port, r_12.1.Bag.Out.Class⟩ : Leg), r_12.1.Bag.Onward, r_12.1.Bag.Sequence, r_12.1.Bag.Status, r_12.1.Bag.Weight, r_12.1.Bag.Load, r_12.1.Bag.Surname, r_12.1.Bag.Given, r_12.1.Bag.Exception, r_12.1.Bag.Node, r_12.1.Bag.Unloaded⟩ : Bag), r_12.1.Copies, r_12.1.Cleared⟩ : Facts) r_2.1 r_8.1 r_5 x_1 x_2 r_14 h_r_14) rfl ⟨(argE (by (conv => lhs; whnf); all_goals rfl) rfl), (argE (by (conv => lhs; whnf); all_goals rfl) rfl), (argE (by (conv => lhs; whnf); all_goals rfl) rfl), (argE (by (conv => lhs; whnf); all_goals rfl) rfl), (argE (by (conv => lhs; whnf); all_goals rfl) rfl), (argE (by (conv => lhs; whnf); all_goals rfl) rfl), trivial⟩ rfl trivial rfl rfl rfl lend0 trivial rfl, ?_⟩
            conv => whnf
            refine ⟨fun hb_24 => ?_, fun hb_24 => ?_⟩
            · replace hL1 := cond_f hb_24 hL1
              conv => whnf
              obtain ⟨r_15, h_r_15, hL1⟩ := bind_some hL1
              refine ⟨_, _, _, _, _, _, _, _, _, callX false [] [] 0 Tryd.func19 (by decide) rfl (authority_Decide_ac (⟨r_12.1.Known, (⟨r_12.1.Bag.Plate, r_12.1.Bag.In, (⟨r_5, r_12.1.Bag.Out.Port, r_12.1.Bag.Out.Class⟩ : Leg), r_12.1.Bag.Onward, r_12.1.Bag.Sequence, r_12.1.Bag.Status, r_12.1.Bag.Weight, r_12.1.Bag.Load, r_12.1.Bag.Surname, r_12.1.Bag.Given, r_12.1.Bag.Exception, r_12.1.Bag.Node, r_12.1.Bag.Unloaded⟩ : Bag), r_12.1.Copies, r_12.1.Cleared⟩ : Facts) r_2.1 r_7.1 r_5 x_1 x_2 r_15 h_r_15) rfl ⟨(argE (by (conv => lhs; whnf); all_goals rfl) rfl), (argE (by (conv => lhs; whnf); all_goals rfl) rfl), (argE (by (conv => lhs; whnf); all_goals rfl) rfl), (argE (by (conv => lhs; whnf); all_goals rfl) rfl), (argE (by (conv => lhs; whnf); all_goals rfl) rfl), (argE (by (conv => lhs; whnf); all_goals rfl) rfl), trivial⟩ rfl trivial rfl rfl rfl lend0 trivial rfl, ?_⟩
              conv => whnf
              obtain ⟨r_16, h_r_16, hL1⟩ := bind_some hL1
              refine ⟨_, _, _, _, _, _, _, _, _, callX false [] [] 0 Tryd.func19 (by decide) rfl (authority_Decide_ac (⟨r_12.1.Known, (⟨r_12.1.Bag.Plate, r_12.1.Bag.In, (⟨r_5, r_12.1.Bag.Out.Port, r_12.1.Bag.Out.Class⟩ : Leg), r_12.1.Bag.Onward, r_12.1.Bag.Sequence, r_12.1.Bag.Status, r_12.1.Bag.Weight, r_12.1.Bag.Load, r_12.1.Bag.Surname, r_12.1.Bag.Given, r_12.1.Bag.Exception, r_12.1.Bag.Node, r_12.1.Bag.Unloaded⟩ : Bag), r_12.1.Copies, r_12.1.Cleared⟩ : Facts) r_2.1 r_3 r_5 x_1 x_2 r_16 h_r_16) rfl ⟨(argE (by (conv => lhs; whnf); all_goals rfl) rfl), (argE (by (conv => lhs; whnf); all_goals rfl) rfl), (argE (by (conv => lhs; whnf); all_goals rfl) rfl), (argE (by (conv => lhs; whnf); all_goals rfl) rfl), (argE (by (conv => lhs; whnf); all_goals rfl) rfl), (argE (by (conv => lhs; whnf); all_goals rfl) rfl), trivial⟩ rfl trivial rfl rfl rfl lend0 trivial rfl, ?_⟩
              conv => whnf
              refine ⟨by kernel_rfl, ?_⟩
              conv => whnf
              refine ⟨fun hb_25 => ?_, fun hb_25 => ?_⟩
              · replace hL1 := cond_t hb_25 hL1
                conv => whnf
                obtain rfl := Option.some.inj hL1
                replace hF := fin_ret hF
                obtain rfl := Option.some.inj hF
                exact ret_gz [] [] [] rfl (argFl (by (conv => lhs; whnf); all_goals rfl)) trivial
              · replace hL1 := cond_f hb_25 hL1
                conv => whnf
                refine ⟨_, rfl, ?_⟩
                conv => whnf
                exact ⟨(q_17, r_12.2.L, r_12.2.At, (w64 (i_11 + (1 : Int)))), [0, 1], [], [], hL1, Nat.lt_succ_self _, wk_mk [0, 1] [] [] rfl ⟨argE (by (conv => lhs; whnf); all_goals rfl) rfl, argE (by (conv => lhs; whnf); all_goals rfl) rfl, argP (id := 0) (by (conv => lhs; whnf); all_goals rfl) rfl, argE (by (conv => lhs; whnf); all_goals rfl) rfl, argE (by (conv => lhs; whnf); all_goals rfl) rfl, argP (id := 1) (by (conv => lhs; whnf); all_goals rfl) rfl, argE (by (conv => lhs; whnf); all_goals rfl) rfl, argE (by (conv => lhs; whnf); all_goals rfl) rfl, argE (by (conv => lhs; whnf); all_goals rfl) rfl, argE (by (conv => lhs; whnf); all_goals rfl) rfl, trivial⟩ ⟨boxL rfl rfl rfl ⟨(.ni _ rfl), (.ni _ rfl), trivial⟩, boxL rfl rfl rfl ⟨(.ni _ rfl), (.ni _ rfl), (.ni _ rfl), (.ni _ rfl), trivial⟩, trivial⟩⟩
            · replace hL1 := cond_t hb_24 hL1
              conv => whnf
              refine ⟨by kernel_rfl, ?_⟩
              conv => whnf
              obtain rfl := Option.some.inj hL1
              replace hF := fin_ret hF
              obtain rfl := Option.some.inj hF
              exact ret_gz [] [] [] rfl (argFl (by (conv => lhs; whnf); all_goals rfl)) trivial
          · replace hL1 := cond_t hb_23 hL1
            conv => whnf
            refine ⟨by kernel_rfl, ?_⟩
            conv => whnf
            obtain rfl := Option.some.inj hL1
            replace hF := fin_ret hF
            obtain rfl := Option.some.inj hF
            exact ret_gz [] [] [] rfl (argFl (by (conv => lhs; whnf); all_goals rfl)) trivial
        · replace hL1 := cond_f hb_22 hL1
          conv => whnf
          obtain rfl := Option.some.inj hL1
          replace hF := fin_brk hF
          try dsimp only at hF
          obtain ⟨r_19, h_r_19, hF⟩ := bind_some hF
          refine ⟨_, _, _, _, _, _, _, _, _, callX false [] [] 0 Tryd.func21 (by decide) rfl (law26_awake_ac r_19 h_r_19) rfl trivial rfl trivial rfl rfl rfl lend0 trivial rfl, ?_⟩
          conv => whnf
          obtain rfl := Option.some.inj hF
          exact ret_gz [] [] [] rfl (argE (by (conv => lhs; whnf); all_goals rfl) rfl) trivial
    · replace hF := cond_t hb_20 hF
      conv => whnf
      obtain rfl := Option.some.inj hF
      exact ret_gz [] [] [] rfl (argFl (by (conv => lhs; whnf); all_goals rfl)) trivial
  · replace hF := cond_t hb_19 hF
    conv => whnf
    obtain rfl := Option.some.inj hF
    exact ret_gz [] [] [] rfl (argFl (by (conv => lhs; whnf); all_goals rfl)) trivial
end Go.Proofs.YtbiofbmjonmglaaDoor.Ex
