/- The functions of the program compute what was printed; walks printed by a program. -/
import Derived.Test.YtpipggnfbgjefaaExF
import Derived.Test.YtpipggnfbgjefaaExP1
import Derived.Test.YtpipggnfbgjefaaExP2
import Derived.Test.YtpipggnfbgjefaaExP3
namespace Go.Proofs.Ytpipggnfbgjefaa.Ex
open Go.RowKit Go.Proofs.Ytpipggnfbgjefaa.Ax
set_option linter.unusedVariables false
set_option linter.unusedSimpArgs false
set_option maxRecDepth 100000 in
set_option maxHeartbeats 40000000 in
theorem law05_InboxConflicts_ac (x_0 : (List Int)) (x_1 : Int) (r : Bool) (hF : law05_InboxConflicts x_0 x_1 = some r) : AC Try.prog 5 [.lst 1 (x_0.map iA), .int .i64 x_1] [] (.bool r) [] := by
  refine ac_of tab_ok follows_ok Try.func5 rfl Try.ntmps5 rfl ?_
  unfold law05_InboxConflicts at hF
  conv => whnf
  obtain ⟨r_1, h_r_1, hF⟩ := bind_some hF
  refine ⟨_, _, _, _, _, _, _, _, _, callX false [] [] 1 Try.func10 (by decide) rfl (keep_New_ac x_0 r_1 h_r_1) rfl ⟨(argE (by (conv => lhs; whnf); all_goals rfl) rfl), trivial⟩ rfl trivial rfl rfl rfl lend0 ⟨rfl, trivial⟩ rfl, ?_⟩
  conv => whnf
  obtain ⟨r_2, h_r_2, hF⟩ := bind_some hF
  refine ⟨_, _, _, _, _, _, _, _, _, callX false [] [] 0 Try.func9 (by decide) rfl (inbox_New_ac (8 : Int) r_2 h_r_2) rfl ⟨(argE (by (conv => lhs; whnf); all_goals rfl) rfl), trivial⟩ rfl trivial rfl rfl rfl lend0 trivial rfl, ?_⟩
  conv => whnf
  refine ⟨fun hb_31 => ?_, fun hb_31 => ?_⟩
  · replace hF := cond_t hb_31 hF
    conv => whnf
    obtain rfl := Option.some.inj hF
    exact ret_gz [] [] [] rfl (argFl (by (conv => lhs; whnf); all_goals rfl)) trivial
  · replace hF := cond_f hb_31 hF
    conv => whnf
    obtain ⟨r_3, h_r_3, hF⟩ := bind_some hF
    refine ⟨_, _, _, _, _, _, _, _, _, callX false [] [] 0 Try.func8 (by decide) rfl (keep_Mod_ac x_1 (7 : Int) r_3 h_r_3) rfl ⟨(argE (by (conv => lhs; whnf); all_goals rfl) rfl), (argE (by (conv => lhs; whnf); all_goals rfl) rfl), trivial⟩ rfl trivial rfl rfl rfl lend0 trivial rfl, ?_⟩
    conv => whnf
    refine ⟨_, rfl, ?_⟩
    conv => whnf
    obtain ⟨r_4, h_r_4, hF⟩ := bind_some hF
    refine ⟨_, _, _, _, _, _, _, _, _, callX false [0] [] 0 Try.func18 (by decide) rfl (keep_Src_Message_ac r_1 (0 : Int) r_4 h_r_4) rfl ⟨(argP (id := 0) (by (conv => lhs; whnf); all_goals rfl) rfl), (argE (by (conv => lhs; whnf); all_goals rfl) rfl), trivial⟩ rfl ⟨rfl, trivial⟩ rfl rfl rfl lend0 ⟨rfl, trivial⟩ rfl, ?_⟩
    conv => whnf
    refine ⟨by kernel_rfl, ?_⟩
    conv => whnf
    refine ⟨fun hb_32 => ?_, fun hb_32 => ?_⟩
    · replace hF := cond_t hb_32 hF
      conv => whnf
      obtain ⟨l_5, h_l_5, hF⟩ := bind_some hF
      refine ap_q (enc := iA) (l := ([] : List Int)) (y := r_4.1.List) h_l_5 rfl rfl (by decide) ?_
      conv => whnf
      refine len_q (enc := iA) (l := l_5) rfl ?_
      conv => whnf
      refine ⟨fun hb_33 => ?_, fun hb_33 => ?_⟩
      · replace hF := cond_t hb_33 hF
        conv => whnf
        obtain ⟨r_6, h_r_6, hF⟩ := bind_some hF
        refine ⟨_, _, _, _, _, _, _, _, _, callX false [] [] 0 Try.func13 (by decide) rfl (inbox_Receive_ac r_2.1 (⟨r_4.1.Kind, r_4.1.Do, r_4.1.Port, (w64 ((2 : Int) + r_3)), r_4.1.In, r_4.1.Out, r_4.1.Onward, r_4.1.First, r_4.1.Count, r_4.1.Load, r_4.1.Status, r_4.1.Sequence, r_4.1.Weight, r_4.1.Surname, r_4.1.Given, r_4.1.Exception, r_4.1.Node, r_4.1.List⟩ : Message) r_6 h_r_6) rfl ⟨(argE (by (conv => lhs; whnf); all_goals rfl) rfl), (argE (by (conv => lhs; whnf); all_goals rfl) rfl), trivial⟩ rfl trivial rfl rfl rfl lend0 trivial rfl, ?_⟩
        conv => whnf
        obtain ⟨r_7, h_r_7, hF⟩ := bind_some hF
        refine ⟨_, _, _, _, _, _, _, _, _, callX true [] [10] 0 Try.func13 (by decide) rfl (inbox_Receive_ac r_6.1 (⟨r_4.1.Kind, r_4.1.Do, r_4.1.Port, (w64 ((2 : Int) + r_3)), r_4.1.In, r_4.1.Out, r_4.1.Onward, r_4.1.First, r_4.1.Count, r_4.1.Load, r_4.1.Status, r_4.1.Sequence, r_4.1.Weight, r_4.1.Surname, r_4.1.Given, r_4.1.Exception, r_4.1.Node, ([(7 : Int)] : List Int)⟩ : Message) r_7 h_r_7) rfl ⟨(argE (by (conv => lhs; whnf); all_goals rfl) rfl), (argA (c := [.int .i64 r_4.1.Kind, .int .i64 r_4.1.Do, .str r_4.1.Port, .int .i64 (w64 ((2 : Int) + r_3)), .str r_4.1.In.Flight.Carrier, .int .i64 r_4.1.In.Flight.Number, .str r_4.1.In.Flight.Suffix, .int .i64 r_4.1.In.Flight.Day, .str r_4.1.In.Port, .str r_4.1.In.Class, .str r_4.1.Out.Flight.Carrier, .int .i64 r_4.1.Out.Flight.Number, .str r_4.1.Out.Flight.Suffix, .int .i64 r_4.1.Out.Flight.Day, .str r_4.1.Out.Port, .str r_4.1.Out.Class, .lst 6 (r_4.1.Onward.map encLeg), .int .i64 r_4.1.First.Lead, .int .i64 r_4.1.First.Airline, .int .i64 r_4.1.First.Serial, .int .i64 r_4.1.Count, .bool r_4.1.Load, .int .i64 r_4.1.Status, .int .i64 r_4.1.Sequence, .int .i64 r_4.1.Weight, .str r_4.1.Surname, .str r_4.1.Given, .int .i64 r_4.1.Exception, .str r_4.1.Node, .osl 10]) (by (conv => lhs; whnf); all_goals rfl) rfl ⟨(.ni _ rfl), (.ni _ rfl), (.ni _ rfl), (.ni _ rfl), (.ni _ rfl), (.ni _ rfl), (.ni _ rfl), (.ni _ rfl), (.ni _ rfl), (.ni _ rfl), (.ni _ rfl), (.ni _ rfl), (.ni _ rfl), (.ni _ rfl), (.ni _ rfl), (.ni _ rfl), (.ni _ rfl), (.ni _ rfl), (.ni _ rfl), (.ni _ rfl), (.ni _ rfl), (.ni _ rfl), (.ni _ rfl), (.ni _ rfl), (.ni _ rfl), (.ni _ rfl), (.ni _ rfl), (.ni _ rfl), (.ni _ rfl), (.osl 10 1 _ (by simp) rfl (map_ni (fun _ => ⟨rfl, rfl⟩) _)), trivial⟩), trivial⟩ rfl trivial rfl rfl rfl giveU trivial rfl, ?_⟩
        conv => whnf
        obtain ⟨r_8, h_r_8, hF⟩ := bind_some hF
        refine ⟨_, _, _, _, _, _, _, _, _, callX false [] [] 0 Try.func13 (by decide) rfl (inbox_Receive_ac r_7.1 (⟨r_4.1.Kind, r_4.1.Do, r_4.1.Port, (w64 ((2 : Int) + r_3)), r_4.1.In, r_4.1.Out, r_4.1.Onward, r_4.1.First, r_4.1.Count, r_4.1.Load, r_4.1.Status, r_4.1.Sequence, r_4.1.Weight, r_4.1.Surname, r_4.1.Given, r_4.1.Exception, r_4.1.Node, r_4.1.List⟩ : Message) r_8 h_r_8) rfl ⟨(argE (by (conv => lhs; whnf); all_goals rfl) rfl), (argE (by (conv => lhs; whnf); all_goals rfl) rfl), trivial⟩ rfl trivial rfl rfl rfl lend0 trivial rfl, ?_⟩
        conv => whnf
        refine ⟨fun hb_34 => ?_, fun hb_34 => ?_⟩
        · replace hF := cond_t hb_34 hF
          conv => whnf
          refine ⟨fun hb_35 => ?_, fun hb_35 => ?_⟩
          · replace hF := cond_t hb_35 hF
            conv => whnf
            refine ⟨fun hb_36 => ?_, fun hb_36 => ?_⟩
            · replace hF := cond_t hb_36 hF
              conv => whnf
              refine ⟨fun hb_37 => ?_, fun hb_37 => ?_⟩
              · replace hF := cond_t hb_37 hF
                conv => whnf
                refine ⟨fun hb_38 => ?_, fun hb_38 => ?_⟩
                · replace hF := cond_t hb_38 hF
                  conv => whnf
                  refine ⟨fun hb_39 => ?_, fun hb_39 => ?_⟩
                  · replace hF := cond_t hb_39 hF
                    conv => whnf
                    refine len_q (enc := encMessage) (l := r_7.2.1) rfl ?_
                    conv => whnf
                    refine ⟨fun hb_40 => ?_, fun hb_40 => ?_⟩
                    · replace hF := cond_t hb_40 hF
                      conv => whnf
                      obtain ⟨r_9, h_r_9, hF⟩ := bind_some hF
                      refine ⟨_, _, _, _, _, _, _, _, _, callX false [] [] 0 Try.func21 (by decide) rfl (ref05_Same_ac r_6.1 r_7.1 r_9 h_r_9) rfl ⟨(argE (by (conv => lhs; whnf); all_goals rfl) rfl), (argE (by (conv => lhs; whnf); all_goals rfl) rfl), trivial⟩ rfl trivial rfl rfl rfl lend0 trivial rfl, ?_⟩
                      conv => whnf
                      refine ⟨fun hb_41 => ?_, fun hb_41 => ?_⟩
                      · replace hF := cond_t hb_41 hF
                        conv => whnf
                        obtain ⟨r_10, h_r_10, hF⟩ := bind_some hF
                        refine ⟨_, _, _, _, _, _, _, _, _, callX false [] [] 0 Try.func21 (by decide) rfl (ref05_Same_ac r_6.1 r_8.1 r_10 h_r_10) rfl ⟨(argE (by (conv => lhs; whnf); all_goals rfl) rfl), (argE (by (conv => lhs; whnf); all_goals rfl) rfl), trivial⟩ rfl trivial rfl rfl rfl lend0 trivial rfl, ?_⟩
                        conv => whnf
                        refine ⟨fun hb_42 => ?_, fun hb_42 => ?_⟩
                        · replace hF := cond_t hb_42 hF
                          conv => whnf
                          obtain ⟨r_11, h_r_11, hF⟩ := bind_some hF
                          refine ⟨_, _, _, _, _, _, _, _, _, callX false [] [] 0 Try.func17 (by decide) rfl (law05_awake_ac r_11 h_r_11) rfl trivial rfl trivial rfl rfl rfl lend0 trivial rfl, ?_⟩
                          conv => whnf
                          obtain rfl := Option.some.inj hF
                          exact ret_gz [] [] [] rfl (argE (by (conv => lhs; whnf); all_goals rfl) rfl) trivial
                        · replace hF := cond_f hb_42 hF
                          conv => whnf
                          obtain rfl := Option.some.inj hF
                          exact ret_gz [] [] [] rfl (argFl (by (conv => lhs; whnf); all_goals rfl)) trivial
                      · replace hF := cond_f hb_41 hF
                        conv => whnf
                        obtain rfl := Option.some.inj hF
                        exact ret_gz [] [] [] rfl (argFl (by (conv => lhs; whnf); all_goals rfl)) trivial
                    · replace hF := cond_f hb_40 hF
                      conv => whnf
                      obtain rfl := Option.some.inj hF
                      exact ret_gz [] [] [] rfl (argFl (by (conv => lhs; whnf); all_goals rfl)) trivial
                  · replace hF := cond_f hb_39 hF
                    conv => whnf
                    obtain rfl := Option.some.inj hF
                    exact ret_gz [] [] [] rfl (argFl (by (conv => lhs; whnf); all_goals rfl)) trivial
                · replace hF := cond_f hb_38 hF
                  conv => whnf
                  obtain rfl := Option.some.inj hF
                  exact ret_gz [] [] [] rfl (argFl (by (conv => lhs; whnf); all_goals rfl)) trivial
              · replace hF := cond_f hb_37 hF
                conv => whnf
                obtain rfl := Option.some.inj hF
                exact ret_gz [] [] [] rfl (argFl (by (conv => lhs; whnf); all_goals rfl)) trivial
            · replace hF := cond_f hb_36 hF
              conv => whnf
              obtain rfl := Option.some.inj hF
              exact ret_gz [] [] [] rfl (argFl (by (conv => lhs; whnf); all_goals rfl)) trivial
          · replace hF := cond_f hb_35 hF
            conv => whnf
            obtain rfl := Option.some.inj hF
            exact ret_gz [] [] [] rfl (argFl (by (conv => lhs; whnf); all_goals rfl)) trivial
        · replace hF := cond_f hb_34 hF
          conv => whnf
          obtain rfl := Option.some.inj hF
          exact ret_gz [] [] [] rfl (argFl (by (conv => lhs; whnf); all_goals rfl)) trivial
      · replace hF := cond_f hb_33 hF
        conv => whnf
        obtain ⟨l_12, h_l_12, hF⟩ := bind_some hF
        refine sub_q10 (enc := iA) (l := l_5) h_l_12 rfl (fun n_l_12 f_l_12 => ?_)
        conv => whnf
        obtain ⟨r_13, h_r_13, hF⟩ := bind_some hF
        refine ⟨_, _, _, _, _, _, _, _, _, callX false [] [] 0 Try.func13 (by decide) rfl (inbox_Receive_ac r_2.1 (⟨r_4.1.Kind, r_4.1.Do, r_4.1.Port, (w64 ((2 : Int) + r_3)), r_4.1.In, r_4.1.Out, r_4.1.Onward, r_4.1.First, r_4.1.Count, r_4.1.Load, r_4.1.Status, r_4.1.Sequence, r_4.1.Weight, r_4.1.Surname, r_4.1.Given, r_4.1.Exception, r_4.1.Node, r_4.1.List⟩ : Message) r_13 h_r_13) rfl ⟨(argE (by (conv => lhs; whnf); all_goals rfl) rfl), (argE (by (conv => lhs; whnf); all_goals rfl) rfl), trivial⟩ rfl trivial rfl rfl rfl lend0 trivial rfl, ?_⟩
        conv => whnf
        obtain ⟨r_14, h_r_14, hF⟩ := bind_some hF
        refine ⟨_, _, _, _, _, _, _, _, _, callX true [] [9] 0 Try.func13 (by decide) rfl (inbox_Receive_ac r_13.1 (⟨r_4.1.Kind, r_4.1.Do, r_4.1.Port, (w64 ((2 : Int) + r_3)), r_4.1.In, r_4.1.Out, r_4.1.Onward, r_4.1.First, r_4.1.Count, r_4.1.Load, r_4.1.Status, r_4.1.Sequence, r_4.1.Weight, r_4.1.Surname, r_4.1.Given, r_4.1.Exception, r_4.1.Node, l_12⟩ : Message) r_14 h_r_14) rfl ⟨(argE (by (conv => lhs; whnf); all_goals rfl) rfl), (argA (c := [.int .i64 r_4.1.Kind, .int .i64 r_4.1.Do, .str r_4.1.Port, .int .i64 (w64 ((2 : Int) + r_3)), .str r_4.1.In.Flight.Carrier, .int .i64 r_4.1.In.Flight.Number, .str r_4.1.In.Flight.Suffix, .int .i64 r_4.1.In.Flight.Day, .str r_4.1.In.Port, .str r_4.1.In.Class, .str r_4.1.Out.Flight.Carrier, .int .i64 r_4.1.Out.Flight.Number, .str r_4.1.Out.Flight.Suffix, .int .i64 r_4.1.Out.Flight.Day, .str r_4.1.Out.Port, .str r_4.1.Out.Class, .lst 6 (r_4.1.Onward.map encLeg), .int .i64 r_4.1.First.Lead, .int .i64 r_4.1.First.Airline, .int .i64 r_4.1.First.Serial, .int .i64 r_4.1.Count, .bool r_4.1.Load, .int .i64 r_4.1.Status, .int .i64 r_4.1.Sequence, .int .i64 r_4.1.Weight, .str r_4.1.Surname, .str r_4.1.Given, .int .i64 r_4.1.Exception, .str r_4.1.Node, .sub 9 1 n_l_12 ((l_5.map iA).length) none]) (by (conv => lhs; whnf); all_goals rfl) rfl ⟨(.ni _ rfl), (.ni _ rfl), (.ni _ rfl), (.ni _ rfl), (.ni _ rfl), (.ni _ rfl), (.ni _ rfl), (.ni _ rfl), (.ni _ rfl), (.ni _ rfl), (.ni _ rfl), (.ni _ rfl), (.ni _ rfl), (.ni _ rfl), (.ni _ rfl), (.ni _ rfl), (.ni _ rfl), (.ni _ rfl), (.ni _ rfl), (.ni _ rfl), (.ni _ rfl), (.ni _ rfl), (.ni _ rfl), (.ni _ rfl), (.ni _ rfl), (.ni _ rfl), (.ni _ rfl), (.ni _ rfl), (.ni _ rfl), (argS rfl rfl (fun _ => ⟨rfl, rfl⟩) f_l_12 (.inl rfl)), trivial⟩), trivial⟩ rfl trivial rfl rfl rfl giveU trivial rfl, ?_⟩
        conv => whnf
        obtain ⟨r_15, h_r_15, hF⟩ := bind_some hF
        refine ⟨_, _, _, _, _, _, _, _, _, callX false [] [] 0 Try.func13 (by decide) rfl (inbox_Receive_ac r_14.1 (⟨r_4.1.Kind, r_4.1.Do, r_4.1.Port, (w64 ((2 : Int) + r_3)), r_4.1.In, r_4.1.Out, r_4.1.Onward, r_4.1.First, r_4.1.Count, r_4.1.Load, r_4.1.Status, r_4.1.Sequence, r_4.1.Weight, r_4.1.Surname, r_4.1.Given, r_4.1.Exception, r_4.1.Node, r_4.1.List⟩ : Message) r_15 h_r_15) rfl ⟨(argE (by (conv => lhs; whnf); all_goals rfl) rfl), (argE (by (conv => lhs; whnf); all_goals rfl) rfl), trivial⟩ rfl trivial rfl rfl rfl lend0 trivial rfl, ?_⟩
        conv => whnf
        refine ⟨fun hb_43 => ?_, fun hb_43 => ?_⟩
        · replace hF := cond_t hb_43 hF
          conv => whnf
          refine ⟨fun hb_44 => ?_, fun hb_44 => ?_⟩
          · replace hF := cond_t hb_44 hF
            conv => whnf
            refine ⟨fun hb_45 => ?_, fun hb_45 => ?_⟩
            · replace hF := cond_t hb_45 hF
              conv => whnf
              refine ⟨fun hb_46 => ?_, fun hb_46 => ?_⟩
              · replace hF := cond_t hb_46 hF
                conv => whnf
                refine ⟨fun hb_47 => ?_, fun hb_47 => ?_⟩
                · replace hF := cond_t hb_47 hF
                  conv => whnf
                  refine ⟨fun hb_48 => ?_, fun hb_48 => ?_⟩
                  · replace hF := cond_t hb_48 hF
                    conv => whnf
                    refine len_q (enc := encMessage) (l := r_14.2.1) rfl ?_
                    conv => whnf
                    refine ⟨fun hb_49 => ?_, fun hb_49 => ?_⟩
                    · replace hF := cond_t hb_49 hF
                      conv => whnf
                      obtain ⟨r_16, h_r_16, hF⟩ := bind_some hF
                      refine ⟨_, _, _, _, _, _, _, _, _, callX false [] [] 0 Try.func21 (by decide) rfl (ref05_Same_ac r_13.1 r_14.1 r_16 h_r_16) rfl ⟨(argE (by (conv => lhs; whnf); all_goals rfl) rfl), (argE (by (conv => lhs; whnf); all_goals rfl) rfl), trivial⟩ rfl trivial rfl rfl rfl lend0 trivial rfl, ?_⟩
                      conv => whnf
                      refine ⟨fun hb_50 => ?_, fun hb_50 => ?_⟩
                      · replace hF := cond_t hb_50 hF
                        conv => whnf
                        obtain ⟨r_17, h_r_17, hF⟩ := bind_some hF
                        refine ⟨_, _, _, _, _, _, _, _, _, callX false [] [] 0 Try.func21 (by decide) rfl (ref05_Same_ac r_13.1 r_15.1 r_17 h_r_17) rfl ⟨(argE (by (conv => lhs; whnf); all_goals rfl) rfl), (argE (by (conv => lhs; whnf); all_goals rfl) rfl), trivial⟩ rfl trivial rfl rfl rfl lend0 trivial rfl, ?_⟩
                        conv => whnf
                        refine ⟨fun hb_51 => ?_, fun hb_51 => ?_⟩
                        · replace hF := cond_t hb_51 hF
                          conv => whnf
                          obtain ⟨r_18, h_r_18, hF⟩ := bind_some hF
                          refine ⟨_, _, _, _, _, _, _, _, _, callX false [] [] 0 Try.func17 (by decide) rfl (law05_awake_ac r_18 h_r_18) rfl trivial rfl trivial rfl rfl rfl lend0 trivial rfl, ?_⟩
                          conv => whnf
                          obtain rfl := Option.some.inj hF
                          exact ret_gz [] [] [] rfl (argE (by (conv => lhs; whnf); all_goals rfl) rfl) trivial
                        · replace hF := cond_f hb_51 hF
                          conv => whnf
                          obtain rfl := Option.some.inj hF
                          exact ret_gz [] [] [] rfl (argFl (by (conv => lhs; whnf); all_goals rfl)) trivial
                      · replace hF := cond_f hb_50 hF
                        conv => whnf
                        obtain rfl := Option.some.inj hF
                        exact ret_gz [] [] [] rfl (argFl (by (conv => lhs; whnf); all_goals rfl)) trivial
                    · replace hF := cond_f hb_49 hF
                      conv => whnf
                      obtain rfl := Option.some.inj hF
                      exact ret_gz [] [] [] rfl (argFl (by (conv => lhs; whnf); all_goals rfl)) trivial
                  · replace hF := cond_f hb_48 hF
                    conv => whnf
                    obtain rfl := Option.some.inj hF
                    exact ret_gz [] [] [] rfl (argFl (by (conv => lhs; whnf); all_goals rfl)) trivial
                · replace hF := cond_f hb_47 hF
                  conv => whnf
                  obtain rfl := Option.some.inj hF
                  exact ret_gz [] [] [] rfl (argFl (by (conv => lhs; whnf); all_goals rfl)) trivial
              · replace hF := cond_f hb_46 hF
                conv => whnf
                obtain rfl := Option.some.inj hF
                exact ret_gz [] [] [] rfl (argFl (by (conv => lhs; whnf); all_goals rfl)) trivial
            · replace hF := cond_f hb_45 hF
              conv => whnf
              obtain rfl := Option.some.inj hF
              exact ret_gz [] [] [] rfl (argFl (by (conv => lhs; whnf); all_goals rfl)) trivial
          · replace hF := cond_f hb_44 hF
            conv => whnf
            obtain rfl := Option.some.inj hF
            exact ret_gz [] [] [] rfl (argFl (by (conv => lhs; whnf); all_goals rfl)) trivial
        · replace hF := cond_f hb_43 hF
          conv => whnf
          obtain rfl := Option.some.inj hF
          exact ret_gz [] [] [] rfl (argFl (by (conv => lhs; whnf); all_goals rfl)) trivial
    · replace hF := cond_f hb_32 hF
      conv => whnf
      refine ⟨by decide, _, rfl, ?_⟩
      conv => whnf
      refine ⟨_, rfl, ?_⟩
      conv => whnf
      obtain ⟨r_19, h_r_19, hF⟩ := bind_some hF
      refine ⟨_, _, _, _, _, _, _, _, _, callX false [] [] 0 Try.func13 (by decide) rfl (inbox_Receive_ac r_2.1 (⟨r_4.1.Kind, r_4.1.Do, r_4.1.Port, (w64 ((2 : Int) + r_3)), r_4.1.In, r_4.1.Out, r_4.1.Onward, r_4.1.First, r_4.1.Count, r_4.1.Load, r_4.1.Status, r_4.1.Sequence, r_4.1.Weight, r_4.1.Surname, r_4.1.Given, r_4.1.Exception, r_4.1.Node, r_4.1.List⟩ : Message) r_19 h_r_19) rfl ⟨(argE (by (conv => lhs; whnf); all_goals rfl) rfl), (argE (by (conv => lhs; whnf); all_goals rfl) rfl), trivial⟩ rfl trivial rfl rfl rfl lend0 trivial rfl, ?_⟩
      conv => whnf
      obtain ⟨r_20, h_r_20, hF⟩ := bind_some hF
      refine ⟨_, _, _, _, _, _, _, _, _, callX false [] [] 0 Try.func13 (by decide) rfl (inbox_Receive_ac r_19.1 (⟨r_4.1.Kind, r_4.1.Do, r_4.1.Port, (w64 ((2 : Int) + r_3)), r_4.1.In, r_4.1.Out, r_4.1.Onward, r_4.1.First, (w64 ((r_4.1.Count.tmod (3 : Int)) + (1 : Int))), r_4.1.Load, r_4.1.Status, r_4.1.Sequence, r_4.1.Weight, r_4.1.Surname, r_4.1.Given, r_4.1.Exception, r_4.1.Node, r_4.1.List⟩ : Message) r_20 h_r_20) rfl ⟨(argE (by (conv => lhs; whnf); all_goals rfl) rfl), (argE (by (conv => lhs; whnf); all_goals rfl) rfl), trivial⟩ rfl trivial rfl rfl rfl lend0 trivial rfl, ?_⟩
      conv => whnf
      obtain ⟨r_21, h_r_21, hF⟩ := bind_some hF
      refine ⟨_, _, _, _, _, _, _, _, _, callX false [] [] 0 Try.func13 (by decide) rfl (inbox_Receive_ac r_20.1 (⟨r_4.1.Kind, r_4.1.Do, r_4.1.Port, (w64 ((2 : Int) + r_3)), r_4.1.In, r_4.1.Out, r_4.1.Onward, r_4.1.First, r_4.1.Count, r_4.1.Load, r_4.1.Status, r_4.1.Sequence, r_4.1.Weight, r_4.1.Surname, r_4.1.Given, r_4.1.Exception, r_4.1.Node, r_4.1.List⟩ : Message) r_21 h_r_21) rfl ⟨(argE (by (conv => lhs; whnf); all_goals rfl) rfl), (argE (by (conv => lhs; whnf); all_goals rfl) rfl), trivial⟩ rfl trivial rfl rfl rfl lend0 trivial rfl, ?_⟩
      conv => whnf
      refine ⟨fun hb_52 => ?_, fun hb_52 => ?_⟩
      · replace hF := cond_t hb_52 hF
        conv => whnf
        refine ⟨fun hb_53 => ?_, fun hb_53 => ?_⟩
        · replace hF := cond_t hb_53 hF
          conv => whnf
          refine ⟨fun hb_54 => ?_, fun hb_54 => ?_⟩
          · replace hF := cond_t hb_54 hF
            conv => whnf
            refine ⟨fun hb_55 => ?_, fun hb_55 => ?_⟩
            · replace hF := cond_t hb_55 hF
              conv => whnf
              refine ⟨fun hb_56 => ?_, fun hb_56 => ?_⟩
              · replace hF := cond_t hb_56 hF
                conv => whnf
                refine ⟨fun hb_57 => ?_, fun hb_57 => ?_⟩
                · replace hF := cond_t hb_57 hF
                  conv => whnf
                  refine len_q (enc := encMessage) (l := r_20.2.1) rfl ?_
                  conv => whnf
                  refine ⟨fun hb_58 => ?_, fun hb_58 => ?_⟩
                  · replace hF := cond_t hb_58 hF
                    conv => whnf
                    obtain ⟨r_22, h_r_22, hF⟩ := bind_some hF
                    refine ⟨_, _, _, _, _, _, _, _, _, callX false [] [] 0 Try.func21 (by decide) rfl (ref05_Same_ac r_19.1 r_20.1 r_22 h_r_22) rfl ⟨(argE (by (conv => lhs; whnf); all_goals rfl) rfl), (argE (by (conv => lhs; whnf); all_goals rfl) rfl), trivial⟩ rfl trivial rfl rfl rfl lend0 trivial rfl, ?_⟩
                    conv => whnf
                    refine ⟨fun hb_59 => ?_, fun hb_59 => ?_⟩
                    · replace hF := cond_t hb_59 hF
                      conv => whnf
                      obtain ⟨r_23, h_r_23, hF⟩ := bind_some hF
                      refine ⟨_, _, _, _, _, _, _, _, _, callX false [] [] 0 Try.func21 (by decide) rfl (ref05_Same_ac r_19.1 r_21.1 r_23 h_r_23) rfl ⟨(argE (by (conv => lhs; whnf); all_goals rfl) rfl), (argE (by (conv => lhs; whnf); all_goals rfl) rfl), trivial⟩ rfl trivial rfl rfl rfl lend0 trivial rfl, ?_⟩
                      conv => whnf
                      refine ⟨fun hb_60 => ?_, fun hb_60 => ?_⟩
                      · replace hF := cond_t hb_60 hF
                        conv => whnf
                        obtain ⟨r_24, h_r_24, hF⟩ := bind_some hF
                        refine ⟨_, _, _, _, _, _, _, _, _, callX false [] [] 0 Try.func17 (by decide) rfl (law05_awake_ac r_24 h_r_24) rfl trivial rfl trivial rfl rfl rfl lend0 trivial rfl, ?_⟩
                        conv => whnf
                        obtain rfl := Option.some.inj hF
                        exact ret_gz [] [] [] rfl (argE (by (conv => lhs; whnf); all_goals rfl) rfl) trivial
                      · replace hF := cond_f hb_60 hF
                        conv => whnf
                        obtain rfl := Option.some.inj hF
                        exact ret_gz [] [] [] rfl (argFl (by (conv => lhs; whnf); all_goals rfl)) trivial
                    · replace hF := cond_f hb_59 hF
                      conv => whnf
                      obtain rfl := Option.some.inj hF
                      exact ret_gz [] [] [] rfl (argFl (by (conv => lhs; whnf); all_goals rfl)) trivial
                  · replace hF := cond_f hb_58 hF
                    conv => whnf
                    obtain rfl := Option.some.inj hF
                    exact ret_gz [] [] [] rfl (argFl (by (conv => lhs; whnf); all_goals rfl)) trivial
                · replace hF := cond_f hb_57 hF
                  conv => whnf
                  obtain rfl := Option.some.inj hF
                  exact ret_gz [] [] [] rfl (argFl (by (conv => lhs; whnf); all_goals rfl)) trivial
              · replace hF := cond_f hb_56 hF
                conv => whnf
                obtain rfl := Option.some.inj hF
                exact ret_gz [] [] [] rfl (argFl (by (conv => lhs; whnf); all_goals rfl)) trivial
            · replace hF := cond_f hb_55 hF
              conv => whnf
              obtain rfl := Option.some.inj hF
              exact ret_gz [] [] [] rfl (argFl (by (conv => lhs; whnf); all_goals rfl)) trivial
          · replace hF := cond_f hb_54 hF
            conv => whnf
            obtain rfl := Option.some.inj hF
            exact ret_gz [] [] [] rfl (argFl (by (conv => lhs; whnf); all_goals rfl)) trivial
        · replace hF := cond_f hb_53 hF
          conv => whnf
          obtain rfl := Option.some.inj hF
          exact ret_gz [] [] [] rfl (argFl (by (conv => lhs; whnf); all_goals rfl)) trivial
      · replace hF := cond_f hb_52 hF
        conv => whnf
        obtain rfl := Option.some.inj hF
        exact ret_gz [] [] [] rfl (argFl (by (conv => lhs; whnf); all_goals rfl)) trivial
end Go.Proofs.Ytpipggnfbgjefaa.Ex
