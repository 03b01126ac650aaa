/- The functions of the program compute what was printed; walks printed by a program. -/
import Derived.Test.YtajmhegkkbnkcaaExF
import Derived.Test.YtajmhegkkbnkcaaUni
import Derived.Test.YtajmhegkkbnkcaaExP1
namespace Go.Proofs.Ytajmhegkkbnkcaa.Ex
open Go.RowKit Go.Proofs.Ytajmhegkkbnkcaa.Ax
set_option linter.unusedVariables false
set_option linter.unusedSimpArgs false
set_option maxRecDepth 100000 in
set_option maxHeartbeats 40000000 in
theorem message_ranged_ac (x_0 : Message) (r : Bool) (hF : message_ranged x_0 = some r) : AC Try.prog 60 [.agg (encMessage x_0)] [] (.bool r) [] := by
  refine ac_of tab_ok follows_ok Try.func60 rfl Try.ntmps60 rfl ?_
  unfold message_ranged at hF
  conv => whnf
  obtain ⟨r_1, h_r_1, hF⟩ := bind_some hF
  refine ⟨_, _, _, _, _, _, _, _, _, callX false [] [] 0 Try.func56 (by decide) rfl (message_in_ac x_0.Number (1 : Int) (9999 : Int) r_1 h_r_1) rfl ⟨(argE (by (conv => lhs; whnf); all_goals rfl) rfl), (argE (by (conv => lhs; whnf); all_goals rfl) rfl), (argE (by (conv => lhs; whnf); all_goals rfl) rfl), trivial⟩ rfl trivial rfl rfl rfl lend0 trivial rfl, ?_⟩
  conv => whnf
  refine ⟨fun hb_14 => ?_, fun hb_14 => ?_⟩
  · replace hF := cond_f hb_14 hF
    conv => whnf
    obtain ⟨r_2, h_r_2, hF⟩ := bind_some hF
    refine ⟨_, _, _, _, _, _, _, _, _, callX false [] [] 0 Try.func56 (by decide) rfl (message_in_ac x_0.Do (0 : Int) (2 : Int) r_2 h_r_2) rfl ⟨(argE (by (conv => lhs; whnf); all_goals rfl) rfl), (argE (by (conv => lhs; whnf); all_goals rfl) rfl), (argE (by (conv => lhs; whnf); all_goals rfl) rfl), trivial⟩ rfl trivial rfl rfl rfl lend0 trivial rfl, ?_⟩
    conv => whnf
    refine ⟨fun hb_15 => ?_, fun hb_15 => ?_⟩
    · replace hF := cond_f hb_15 hF
      conv => whnf
      obtain ⟨r_3, h_r_3, hF⟩ := bind_some hF
      refine ⟨_, _, _, _, _, _, _, _, _, callX false [] [] 0 Try.func56 (by decide) rfl (message_in_ac x_0.Weight (0 : Int) (999 : Int) r_3 h_r_3) rfl ⟨(argE (by (conv => lhs; whnf); all_goals rfl) rfl), (argE (by (conv => lhs; whnf); all_goals rfl) rfl), (argE (by (conv => lhs; whnf); all_goals rfl) rfl), trivial⟩ rfl trivial rfl rfl rfl lend0 trivial rfl, ?_⟩
      conv => whnf
      refine ⟨fun hb_16 => ?_, fun hb_16 => ?_⟩
      · replace hF := cond_f hb_16 hF
        conv => whnf
        obtain ⟨r_4, h_r_4, hF⟩ := bind_some hF
        refine ⟨_, _, _, _, _, _, _, _, _, callX false [] [] 0 Try.func56 (by decide) rfl (message_in_ac x_0.Exception (0 : Int) (3 : Int) r_4 h_r_4) rfl ⟨(argE (by (conv => lhs; whnf); all_goals rfl) rfl), (argE (by (conv => lhs; whnf); all_goals rfl) rfl), (argE (by (conv => lhs; whnf); all_goals rfl) rfl), trivial⟩ rfl trivial rfl rfl rfl lend0 trivial rfl, ?_⟩
        conv => whnf
        refine ⟨fun hb_17 => ?_, fun hb_17 => ?_⟩
        · replace hF := cond_t hb_17 hF
          conv => whnf
          obtain rfl := Option.some.inj hF
          exact ret_gz [] [] [] rfl (argFl (by (conv => lhs; whnf); all_goals rfl)) trivial
        · replace hF := cond_f hb_17 hF
          conv => whnf
          refine ⟨fun hb_18 => ?_, fun hb_18 => ?_⟩
          · replace hF := cond_t hb_18 hF
            conv => whnf
            obtain ⟨r_5, h_r_5, hF⟩ := bind_some hF
            refine ⟨_, _, _, _, _, _, _, _, _, callX false [] [] 0 Try.func83 (by decide) rfl (plate_Valid_ac x_0.First r_5 h_r_5) rfl ⟨(argE (by (conv => lhs; whnf); all_goals rfl) rfl), trivial⟩ rfl trivial rfl rfl rfl lend0 trivial rfl, ?_⟩
            conv => whnf
            refine ⟨fun hb_19 => ?_, fun hb_19 => ?_⟩
            · replace hF := cond_f hb_19 hF
              conv => whnf
              obtain ⟨r_6, h_r_6, hF⟩ := bind_some hF
              refine ⟨_, _, _, _, _, _, _, _, _, callX false [] [] 0 Try.func56 (by decide) rfl (message_in_ac x_0.Count (1 : Int) (99 : Int) r_6 h_r_6) rfl ⟨(argE (by (conv => lhs; whnf); all_goals rfl) rfl), (argE (by (conv => lhs; whnf); all_goals rfl) rfl), (argE (by (conv => lhs; whnf); all_goals rfl) rfl), trivial⟩ rfl trivial rfl rfl rfl lend0 trivial rfl, ?_⟩
              conv => whnf
              refine ⟨fun hb_20 => ?_, fun hb_20 => ?_⟩
              · replace hF := cond_t hb_20 hF
                conv => whnf
                obtain rfl := Option.some.inj hF
                exact ret_gz [] [] [] rfl (argFl (by (conv => lhs; whnf); all_goals rfl)) trivial
              · replace hF := cond_f hb_20 hF
                conv => whnf
                obtain ⟨r_7, h_r_7, hF⟩ := bind_some hF
                refine ⟨_, _, _, _, _, _, _, _, _, callX false [] [] 0 Try.func81 (by decide) rfl (message_describes_ac x_0.Kind r_7 h_r_7) rfl ⟨(argE (by (conv => lhs; whnf); all_goals rfl) rfl), trivial⟩ rfl trivial rfl rfl rfl lend0 trivial rfl, ?_⟩
                conv => whnf
                refine ⟨fun hb_21 => ?_, fun hb_21 => ?_⟩
                · replace hF := cond_t hb_21 hF
                  conv => whnf
                  obtain ⟨r_8, h_r_8, hF⟩ := bind_some hF
                  refine ⟨_, _, _, _, _, _, _, _, _, callX false [] [] 0 Try.func56 (by decide) rfl (message_in_ac x_0.Status (1 : Int) (4 : Int) r_8 h_r_8) rfl ⟨(argE (by (conv => lhs; whnf); all_goals rfl) rfl), (argE (by (conv => lhs; whnf); all_goals rfl) rfl), (argE (by (conv => lhs; whnf); all_goals rfl) rfl), trivial⟩ rfl trivial rfl rfl rfl lend0 trivial rfl, ?_⟩
                  conv => whnf
                  refine ⟨fun hb_22 => ?_, fun hb_22 => ?_⟩
                  · replace hF := cond_f hb_22 hF
                    conv => whnf
                    obtain ⟨r_9, h_r_9, hF⟩ := bind_some hF
                    refine ⟨_, _, _, _, _, _, _, _, _, callX false [] [] 0 Try.func56 (by decide) rfl (message_in_ac x_0.Sequence (1 : Int) (999 : Int) r_9 h_r_9) rfl ⟨(argE (by (conv => lhs; whnf); all_goals rfl) rfl), (argE (by (conv => lhs; whnf); all_goals rfl) rfl), (argE (by (conv => lhs; whnf); all_goals rfl) rfl), trivial⟩ rfl trivial rfl rfl rfl lend0 trivial rfl, ?_⟩
                    conv => whnf
                    refine ⟨fun hb_23 => ?_, fun hb_23 => ?_⟩
                    · replace hF := cond_t hb_23 hF
                      conv => whnf
                      obtain rfl := Option.some.inj hF
                      exact ret_gz [] [] [] rfl (argFl (by (conv => lhs; whnf); all_goals rfl)) trivial
                    · replace hF := cond_f hb_23 hF
                      conv => whnf
                      obtain ⟨r_10, h_r_10, hF⟩ := bind_some hF
                      refine ⟨_, _, _, _, _, _, _, _, _, callX false [] [] 0 Try.func84 (by decide) rfl (slices_ContainsFunc_int_ac x_0.List r_10 h_r_10) rfl ⟨(argE (by (conv => lhs; whnf); all_goals rfl) rfl), (argE (by (conv => lhs; whnf); all_goals rfl) rfl), trivial⟩ rfl trivial rfl rfl rfl lend0 trivial rfl, ?_⟩
                      conv => whnf
                      obtain rfl := Option.some.inj hF
                      exact ret_gz [] [] [] rfl (argE (by (conv => lhs; whnf); all_goals rfl) rfl) trivial
                  · replace hF := cond_t hb_22 hF
                    conv => whnf
                    obtain rfl := Option.some.inj hF
                    exact ret_gz [] [] [] rfl (argFl (by (conv => lhs; whnf); all_goals rfl)) trivial
                · replace hF := cond_f hb_21 hF
                  conv => whnf
                  obtain ⟨r_11, h_r_11, hF⟩ := bind_some hF
                  refine ⟨_, _, _, _, _, _, _, _, _, callX false [] [] 0 Try.func84 (by decide) rfl (slices_ContainsFunc_int_ac x_0.List r_11 h_r_11) rfl ⟨(argE (by (conv => lhs; whnf); all_goals rfl) rfl), (argE (by (conv => lhs; whnf); all_goals rfl) rfl), trivial⟩ rfl trivial rfl rfl rfl lend0 trivial rfl, ?_⟩
                  conv => whnf
                  obtain rfl := Option.some.inj hF
                  exact ret_gz [] [] [] rfl (argE (by (conv => lhs; whnf); all_goals rfl) rfl) trivial
            · replace hF := cond_t hb_19 hF
              conv => whnf
              obtain rfl := Option.some.inj hF
              exact ret_gz [] [] [] rfl (argFl (by (conv => lhs; whnf); all_goals rfl)) trivial
          · replace hF := cond_f hb_18 hF
            conv => whnf
            obtain ⟨r_12, h_r_12, hF⟩ := bind_some hF
            refine ⟨_, _, _, _, _, _, _, _, _, callX false [] [] 0 Try.func81 (by decide) rfl (message_describes_ac x_0.Kind r_12 h_r_12) rfl ⟨(argE (by (conv => lhs; whnf); all_goals rfl) rfl), trivial⟩ rfl trivial rfl rfl rfl lend0 trivial rfl, ?_⟩
            conv => whnf
            refine ⟨fun hb_24 => ?_, fun hb_24 => ?_⟩
            · replace hF := cond_t hb_24 hF
              conv => whnf
              obtain ⟨r_13, h_r_13, hF⟩ := bind_some hF
              refine ⟨_, _, _, _, _, _, _, _, _, callX false [] [] 0 Try.func56 (by decide) rfl (message_in_ac x_0.Status (1 : Int) (4 : Int) r_13 h_r_13) rfl ⟨(argE (by (conv => lhs; whnf); all_goals rfl) rfl), (argE (by (conv => lhs; whnf); all_goals rfl) rfl), (argE (by (conv => lhs; whnf); all_goals rfl) rfl), trivial⟩ rfl trivial rfl rfl rfl lend0 trivial rfl, ?_⟩
              conv => whnf
              refine ⟨fun hb_25 => ?_, fun hb_25 => ?_⟩
              · replace hF := cond_f hb_25 hF
                conv => whnf
                obtain ⟨r_14, h_r_14, hF⟩ := bind_some hF
                refine ⟨_, _, _, _, _, _, _, _, _, callX false [] [] 0 Try.func56 (by decide) rfl (message_in_ac x_0.Sequence (1 : Int) (999 : Int) r_14 h_r_14) rfl ⟨(argE (by (conv => lhs; whnf); all_goals rfl) rfl), (argE (by (conv => lhs; whnf); all_goals rfl) rfl), (argE (by (conv => lhs; whnf); all_goals rfl) rfl), trivial⟩ rfl trivial rfl rfl rfl lend0 trivial rfl, ?_⟩
                conv => whnf
                refine ⟨fun hb_26 => ?_, fun hb_26 => ?_⟩
                · replace hF := cond_t hb_26 hF
                  conv => whnf
                  obtain rfl := Option.some.inj hF
                  exact ret_gz [] [] [] rfl (argFl (by (conv => lhs; whnf); all_goals rfl)) trivial
                · replace hF := cond_f hb_26 hF
                  conv => whnf
                  obtain ⟨r_15, h_r_15, hF⟩ := bind_some hF
                  refine ⟨_, _, _, _, _, _, _, _, _, callX false [] [] 0 Try.func84 (by decide) rfl (slices_ContainsFunc_int_ac x_0.List r_15 h_r_15) rfl ⟨(argE (by (conv => lhs; whnf); all_goals rfl) rfl), (argE (by (conv => lhs; whnf); all_goals rfl) rfl), trivial⟩ rfl trivial rfl rfl rfl lend0 trivial rfl, ?_⟩
                  conv => whnf
                  obtain rfl := Option.some.inj hF
                  exact ret_gz [] [] [] rfl (argE (by (conv => lhs; whnf); all_goals rfl) rfl) trivial
              · replace hF := cond_t hb_25 hF
                conv => whnf
                obtain rfl := Option.some.inj hF
                exact ret_gz [] [] [] rfl (argFl (by (conv => lhs; whnf); all_goals rfl)) trivial
            · replace hF := cond_f hb_24 hF
              conv => whnf
              obtain ⟨r_16, h_r_16, hF⟩ := bind_some hF
              refine ⟨_, _, _, _, _, _, _, _, _, callX false [] [] 0 Try.func84 (by decide) rfl (slices_ContainsFunc_int_ac x_0.List r_16 h_r_16) rfl ⟨(argE (by (conv => lhs; whnf); all_goals rfl) rfl), (argE (by (conv => lhs; whnf); all_goals rfl) rfl), trivial⟩ rfl trivial rfl rfl rfl lend0 trivial rfl, ?_⟩
              conv => whnf
              obtain rfl := Option.some.inj hF
              exact ret_gz [] [] [] rfl (argE (by (conv => lhs; whnf); all_goals rfl) rfl) trivial
      · replace hF := cond_t hb_16 hF
        conv => whnf
        obtain rfl := Option.some.inj hF
        exact ret_gz [] [] [] rfl (argFl (by (conv => lhs; whnf); all_goals rfl)) trivial
    · replace hF := cond_t hb_15 hF
      conv => whnf
      obtain rfl := Option.some.inj hF
      exact ret_gz [] [] [] rfl (argFl (by (conv => lhs; whnf); all_goals rfl)) trivial
  · replace hF := cond_t hb_14 hF
    conv => whnf
    obtain rfl := Option.some.inj hF
    exact ret_gz [] [] [] rfl (argFl (by (conv => lhs; whnf); all_goals rfl)) trivial

set_option maxRecDepth 100000 in
set_option maxHeartbeats 40000000 in
theorem message_Validate_ac (x_0 : Message) (r : Int) (hF : message_Validate x_0 = some r) : AC Try.prog 42 [.agg (encMessage x_0)] [] (.int .i64 r) [] := by
  refine ac_of tab_ok follows_ok Try.func42 rfl Try.ntmps42 rfl ?_
  unfold message_Validate at hF
  conv => whnf
  obtain ⟨r_1, h_r_1, hF⟩ := bind_some hF
  refine ⟨_, _, _, _, _, _, _, _, _, callX false [] [] 0 Try.func56 (by decide) rfl (message_in_ac x_0.Kind (1 : Int) (5 : Int) r_1 h_r_1) rfl ⟨(argE (by (conv => lhs; whnf); all_goals rfl) rfl), (argE (by (conv => lhs; whnf); all_goals rfl) rfl), (argE (by (conv => lhs; whnf); all_goals rfl) rfl), trivial⟩ rfl trivial rfl rfl rfl lend0 trivial rfl, ?_⟩
  conv => whnf
  refine ⟨fun hb_15 => ?_, fun hb_15 => ?_⟩
  · replace hF := cond_t hb_15 hF
    conv => whnf
    obtain rfl := Option.some.inj hF
    exact ret_gz [] [] [] rfl (argE (by (conv => lhs; whnf); all_goals rfl) rfl) trivial
  · replace hF := cond_f hb_15 hF
    conv => whnf
    obtain ⟨r_2, h_r_2, hF⟩ := bind_some hF
    refine ⟨_, _, _, _, _, _, _, _, _, callX false [] [] 0 Try.func58 (by decide) rfl (message_own_ac x_0 r_2 h_r_2) rfl ⟨(argE (by (conv => lhs; whnf); all_goals rfl) rfl), trivial⟩ rfl trivial rfl rfl rfl lend0 trivial rfl, ?_⟩
    conv => whnf
    obtain ⟨r_3, h_r_3, hF⟩ := bind_some hF
    refine ⟨_, _, _, _, _, _, _, _, _, callX false [] [] 0 Try.func57 (by decide) rfl (message_Same_ac x_0 r_2 r_3 h_r_3) rfl ⟨(argE (by (conv => lhs; whnf); all_goals rfl) rfl), (argE (by (conv => lhs; whnf); all_goals rfl) rfl), trivial⟩ rfl trivial rfl rfl rfl lend0 trivial rfl, ?_⟩
    conv => whnf
    refine ⟨by kernel_rfl, ?_⟩
    conv => whnf
    refine ⟨fun hb_16 => ?_, fun hb_16 => ?_⟩
    · replace hF := cond_t hb_16 hF
      conv => whnf
      obtain rfl := Option.some.inj hF
      exact ret_gz [] [] [] rfl (argE (by (conv => lhs; whnf); all_goals rfl) rfl) trivial
    · replace hF := cond_f hb_16 hF
      conv => whnf
      refine len_q (enc := encLeg) (l := x_0.Onward) rfl ?_
      conv => whnf
      refine ⟨fun hb_17 => ?_, fun hb_17 => ?_⟩
      · replace hF := cond_f hb_17 hF
        conv => whnf
        refine len_q (enc := iA) (l := x_0.List) rfl ?_
        conv => whnf
        refine ⟨fun hb_18 => ?_, fun hb_18 => ?_⟩
        · replace hF := cond_t hb_18 hF
          conv => whnf
          obtain rfl := Option.some.inj hF
          exact ret_gz [] [] [] rfl (argE (by (conv => lhs; whnf); all_goals rfl) rfl) trivial
        · replace hF := cond_f hb_18 hF
          conv => whnf
          obtain ⟨r_4, h_r_4, hF⟩ := bind_some hF
          refine ⟨_, _, _, _, _, _, _, _, _, callX false [] [] 0 Try.func59 (by decide) rfl (message_shaped_ac x_0 r_4 h_r_4) rfl ⟨(argE (by (conv => lhs; whnf); all_goals rfl) rfl), trivial⟩ rfl trivial rfl rfl rfl lend0 trivial rfl, ?_⟩
          conv => whnf
          refine ⟨fun hb_19 => ?_, fun hb_19 => ?_⟩
          · replace hF := cond_t hb_19 hF
            conv => whnf
            obtain rfl := Option.some.inj hF
            exact ret_gz [] [] [] rfl (argE (by (conv => lhs; whnf); all_goals rfl) rfl) trivial
          · replace hF := cond_f hb_19 hF
            conv => whnf
            obtain ⟨r_5, h_r_5, hF⟩ := bind_some hF
            refine ⟨_, _, _, _, _, _, _, _, _, callX false [] [] 0 Try.func60 (by decide) rfl (message_ranged_ac x_0 r_5 h_r_5) rfl ⟨(argE (by (conv => lhs; whnf); all_goals rfl) rfl), trivial⟩ rfl trivial rfl rfl rfl lend0 trivial rfl, ?_⟩
            conv => whnf
            refine ⟨fun hb_20 => ?_, fun hb_20 => ?_⟩
            · replace hF := cond_t hb_20 hF
              conv => whnf
              obtain rfl := Option.some.inj hF
              exact ret_gz [] [] [] rfl (argE (by (conv => lhs; whnf); all_goals rfl) rfl) trivial
            · replace hF := cond_f hb_20 hF
              conv => whnf
              obtain ⟨c_1, hc_1, hF⟩ := fin_some hF
              refine sw_loop tab_ok follows_ok (fun y : Nat × Int => message_Validate_L1 x_0 y.1 y.2 = some c_1) (fun y => ⟨eL [(1, .ptr 0 0), (3, .int .i64 y.2)], hL [(0, .box [.int .i64 x_0.Kind, .int .i64 x_0.Do, .str x_0.Port, .int .i64 x_0.Number, .str x_0.In.Flight.Carrier, .int .i64 x_0.In.Flight.Number, .str x_0.In.Flight.Suffix, .int .i64 x_0.In.Flight.Day, .str x_0.In.Port, .str x_0.In.Class, .str x_0.Out.Flight.Carrier, .int .i64 x_0.Out.Flight.Number, .str x_0.Out.Flight.Suffix, .int .i64 x_0.Out.Flight.Day, .str x_0.Out.Port, .str x_0.Out.Class, .lst 6 (x_0.Onward.map encLeg), .int .i64 x_0.First.Lead, .int .i64 x_0.First.Airline, .int .i64 x_0.First.Serial, .int .i64 x_0.Count, .bool x_0.Load, .int .i64 x_0.Status, .int .i64 x_0.Sequence, .int .i64 x_0.Weight, .str x_0.Surname, .str x_0.Given, .int .i64 x_0.Exception, .str x_0.Node, .lst 1 (x_0.List.map iA)])], 1⟩) (fun y => y.1) (9223372036854775807, (1 : Int)) hc_1 (wk_mk [0] [] [] rfl ⟨argP (id := 0) (by (conv => lhs; whnf); all_goals rfl) rfl, argE (by (conv => lhs; whnf); all_goals rfl) rfl, trivial⟩ ⟨boxL rfl rfl rfl ⟨(.ni _ rfl), (.ni _ rfl), (.ni _ rfl), (.ni _ rfl), (.ni _ rfl), (.ni _ rfl), (.ni _ rfl), (.ni _ rfl), (.ni _ rfl), (.ni _ rfl), (.ni _ rfl), (.ni _ rfl), (.ni _ rfl), (.ni _ rfl), (.ni _ rfl), (.ni _ rfl), (.ni _ rfl), (.ni _ rfl), (.ni _ rfl), (.ni _ rfl), (.ni _ rfl), (.ni _ rfl), (.ni _ rfl), (.ni _ rfl), (.ni _ rfl), (.ni _ rfl), (.ni _ rfl), (.ni _ rfl), (.ni _ rfl), (.ni _ rfl), trivial⟩, trivial⟩) ?_
              rintro ⟨q_9, i_6⟩ hL1
              try dsimp only at hL1
              rcases q_9 with _ | q_9
              · rw [message_Validate_L1.eq_1] at hL1
                cases hL1
              rw [message_Validate_L1.eq_2] at hL1
              show awp _ _ _ _ _ _ ⟨eL [(1, .ptr 0 0), (3, .int .i64 i_6)], hL [(0, .box [.int .i64 x_0.Kind, .int .i64 x_0.Do, .str x_0.Port, .int .i64 x_0.Number, .str x_0.In.Flight.Carrier, .int .i64 x_0.In.Flight.Number, .str x_0.In.Flight.Suffix, .int .i64 x_0.In.Flight.Day, .str x_0.In.Port, .str x_0.In.Class, .str x_0.Out.Flight.Carrier, .int .i64 x_0.Out.Flight.Number, .str x_0.Out.Flight.Suffix, .int .i64 x_0.Out.Flight.Day, .str x_0.Out.Port, .str x_0.Out.Class, .lst 6 (x_0.Onward.map encLeg), .int .i64 x_0.First.Lead, .int .i64 x_0.First.Airline, .int .i64 x_0.First.Serial, .int .i64 x_0.Count, .bool x_0.Load, .int .i64 x_0.Status, .int .i64 x_0.Sequence, .int .i64 x_0.Weight, .str x_0.Surname, .str x_0.Given, .int .i64 x_0.Exception, .str x_0.Node, .lst 1 (x_0.List.map iA)])], 1⟩
              conv => whnf
              refine len_q (enc := iA) (l := x_0.List) rfl ?_
              conv => whnf
              refine ⟨fun hb_21 => ?_, fun hb_21 => ?_⟩
              · replace hL1 := cond_t hb_21 hL1
                conv => whnf
                refine ⟨_, rfl, ?_⟩
                conv => whnf
                obtain ⟨e_7, h_e_7, hL1⟩ := bind_some hL1
                refine ix_q (enc := iA) (l := x_0.List) h_e_7 rfl (fun m_e_7 hm_e_7 hx_e_7 => ?_)
                conv => whnf
                obtain ⟨e_8, h_e_8, hL1⟩ := bind_some hL1
                refine ix_q (enc := iA) (l := x_0.List) h_e_8 rfl (fun m_e_8 hm_e_8 hx_e_8 => ?_)
                conv => whnf
                refine ⟨by kernel_rfl, ?_⟩
                conv => whnf
                refine ⟨fun hb_22 => ?_, fun hb_22 => ?_⟩
                · replace hL1 := cond_t hb_22 hL1
                  conv => whnf
                  obtain rfl := Option.some.inj hL1
                  replace hF := fin_ret hF
                  obtain rfl := Option.some.inj hF
                  exact ret_gz [] [] [] rfl (argE (by (conv => lhs; whnf); all_goals rfl) rfl) trivial
                · replace hL1 := cond_f hb_22 hL1
                  conv => whnf
                  refine ⟨_, rfl, ?_⟩
                  conv => whnf
                  exact ⟨(q_9, (w64 (i_6 + (1 : Int)))), [0], [], [], hL1, Nat.lt_succ_self _, wk_mk [0] [] [] rfl ⟨argP (id := 0) (by (conv => lhs; whnf); all_goals rfl) rfl, argE (by (conv => lhs; whnf); all_goals rfl) rfl, trivial⟩ ⟨boxL rfl rfl rfl ⟨(.ni _ rfl), (.ni _ rfl), (.ni _ rfl), (.ni _ rfl), (.ni _ rfl), (.ni _ rfl), (.ni _ rfl), (.ni _ rfl), (.ni _ rfl), (.ni _ rfl), (.ni _ rfl), (.ni _ rfl), (.ni _ rfl), (.ni _ rfl), (.ni _ rfl), (.ni _ rfl), (.ni _ rfl), (.ni _ rfl), (.ni _ rfl), (.ni _ rfl), (.ni _ rfl), (.ni _ rfl), (.ni _ rfl), (.ni _ rfl), (.ni _ rfl), (.ni _ rfl), (.ni _ rfl), (.ni _ rfl), (.ni _ rfl), (.ni _ rfl), trivial⟩, trivial⟩⟩
              · replace hL1 := cond_f hb_21 hL1
                conv => whnf
                obtain rfl := Option.some.inj hL1
                replace hF := fin_brk hF
                try dsimp only at hF
                obtain rfl := Option.some.inj hF
                exact ret_gz [] [] [] rfl (argE (by (conv => lhs; whnf); all_goals rfl) rfl) trivial
      · replace hF := cond_t hb_17 hF
        conv => whnf
        obtain rfl := Option.some.inj hF
        exact ret_gz [] [] [] rfl (argE (by (conv => lhs; whnf); all_goals rfl) rfl) trivial

set_option maxRecDepth 100000 in
set_option maxHeartbeats 40000000 in
theorem slices_Clone_int_ac (x_0 : (List Int)) (r : (List Int)) (hF : slices_Clone_int x_0 = some r) : AC Try.prog 86 [.lst 1 (x_0.map iA)] [] (.osl 0) [.row 1 (r.map iA)] := by
  refine ac_of tab_ok follows_ok Try.func86 rfl Try.ntmps86 rfl ?_
  unfold slices_Clone_int at hF
  conv => whnf
  intro b hb
  conv => whnf
  refine ⟨fun h => ?_, fun h => ?_⟩
  · have hx : x_0 = [] := List.map_eq_nil_iff.1 (hb h)
    subst hx
    obtain ⟨h1, rfl⟩ := apL_some hF
    conv => whnf
    exact ret_gz [] [0] [] rfl (argZ (by (conv => lhs; whnf); all_goals rfl) rfl) ⟨blkZ rfl, trivial⟩
  · conv => whnf
    refine ap_q (enc := iA) (l := ([] : List Int)) (y := x_0) hF rfl rfl (by decide) ?_
    conv => whnf
    exact ret_gz [1] [] [] rfl (argO (id := 1) (by (conv => lhs; whnf); all_goals rfl) rfl) ⟨blkR (fun _ => ⟨rfl, rfl⟩) rfl rfl, trivial⟩

set_option maxRecDepth 100000 in
set_option maxHeartbeats 40000000 in
theorem boarding_copied_ac (x_0 : Manifest) (r : Manifest) (hF : boarding_copied x_0 = some r) : AC Try.prog 61 [.agg (encManifest x_0)] [] (.agg (encManifest r)) [] := by
  refine ac_of tab_ok follows_ok Try.func61 rfl Try.ntmps61 rfl ?_
  unfold boarding_copied at hF
  conv => whnf
  obtain ⟨r_1, h_r_1, hF⟩ := bind_some hF
  refine ⟨_, _, _, _, _, _, _, _, _, callX false [] [] 1 Try.func86 (by decide) rfl (slices_Clone_int_ac x_0.Boarded r_1 h_r_1) rfl ⟨(argE (by (conv => lhs; whnf); all_goals rfl) rfl), trivial⟩ rfl trivial rfl rfl rfl lend0 ⟨renR (fun _ => ⟨rfl, rfl⟩), trivial⟩ rfl, ?_⟩
  conv => whnf
  obtain ⟨r_2, h_r_2, hF⟩ := bind_some hF
  refine ⟨_, _, _, _, _, _, _, _, _, callX false [] [] 1 Try.func86 (by decide) rfl (slices_Clone_int_ac x_0.Ever r_2 h_r_2) rfl ⟨(argE (by (conv => lhs; whnf); all_goals rfl) rfl), trivial⟩ rfl trivial rfl rfl rfl lend0 ⟨renR (fun _ => ⟨rfl, rfl⟩), trivial⟩ rfl, ?_⟩
  conv => whnf
  refine ⟨by kernel_rfl, ?_⟩
  conv => whnf
  obtain rfl := Option.some.inj hF
  exact ret_gz [] [] [2, 4] rfl (argA (c := [.str x_0.Flight.Carrier, .int .i64 x_0.Flight.Number, .str x_0.Flight.Suffix, .int .i64 x_0.Flight.Day, .int .i64 x_0.Version, .osl 2, .osl 4]) (by (conv => lhs; whnf); all_goals rfl) rfl ⟨(.ni _ rfl), (.ni _ rfl), (.ni _ rfl), (.ni _ rfl), (.ni _ rfl), (.osl 2 1 _ (by simp) rfl (map_ni (fun _ => ⟨rfl, rfl⟩) _)), (.osl 4 1 _ (by simp) rfl (map_ni (fun _ => ⟨rfl, rfl⟩) _)), trivial⟩) trivial

set_option maxRecDepth 100000 in
set_option maxHeartbeats 40000000 in
theorem boarding_united_ac (x_0 : (List Int)) (x_1 : (List Int)) (r : (List Int)) (hF : boarding_united x_0 x_1 = some r) : AC Try.prog 87 [.lst 1 (x_0.map iA), .lst 1 (x_1.map iA)] [] (.osl 0) [.row 1 (r.map iA)] := by
  exact united_ac0 x_0 x_1 r hF

set_option maxRecDepth 100000 in
set_option maxHeartbeats 40000000 in
theorem boarding_merged_ac (x_0 : Manifest) (x_1 : Manifest) (r : Manifest × Bool) (hF : boarding_merged x_0 x_1 = some r) : AC Try.prog 62 [.agg (encManifest x_0), .agg (encManifest x_1)] [] (.tup [.agg (encManifest r.1), .bool r.2]) [] := by
  refine ac_of tab_ok follows_ok Try.func62 rfl Try.ntmps62 rfl ?_
  unfold boarding_merged at hF
  conv => whnf
  refine ⟨fun hb_5 => ?_, fun hb_5 => ?_⟩
  · replace hF := cond_t hb_5 hF
    conv => whnf
    obtain ⟨r_1, h_r_1, hF⟩ := bind_some hF
    refine ⟨_, _, _, _, _, _, _, _, _, callX false [] [] 0 Try.func78 (by decide) rfl (slices_Equal_int_ac x_0.Boarded x_1.Boarded r_1 h_r_1) rfl ⟨(argE (by (conv => lhs; whnf); all_goals rfl) rfl), (argE (by (conv => lhs; whnf); all_goals rfl) rfl), trivial⟩ rfl trivial rfl rfl rfl lend0 trivial rfl, ?_⟩
    conv => whnf
    refine ⟨fun hb_6 => ?_, fun hb_6 => ?_⟩
    · replace hF := cond_t hb_6 hF
      conv => whnf
      obtain rfl := Option.some.inj hF
      exact ret_gz [] [] [] rfl (tupL rfl ⟨(argA (c := [.str (⟨#[]⟩ : ByteArray), .int .i64 (0 : Int), .str (⟨#[]⟩ : ByteArray), .int .i64 (0 : Int), .int .i64 (0 : Int), .nils, .nils]) (by (conv => lhs; whnf); all_goals rfl) rfl ⟨(.ni _ rfl), (.ni _ rfl), (.ni _ rfl), (.ni _ rfl), (.ni _ rfl), (.nils _), (.nils _), trivial⟩), (argFl (by (conv => lhs; whnf); all_goals rfl)), trivial⟩) trivial
    · replace hF := cond_f hb_6 hF
      conv => whnf
      refine ⟨fun hb_7 => ?_, fun hb_7 => ?_⟩
      · replace hF := cond_t hb_7 hF
        conv => whnf
        obtain ⟨r_2, h_r_2, hF⟩ := bind_some hF
        refine ⟨_, _, _, _, _, _, _, _, _, callX false [] [] 1 Try.func86 (by decide) rfl (slices_Clone_int_ac x_1.Boarded r_2 h_r_2) rfl ⟨(argE (by (conv => lhs; whnf); all_goals rfl) rfl), trivial⟩ rfl trivial rfl rfl rfl lend0 ⟨renR (fun _ => ⟨rfl, rfl⟩), trivial⟩ rfl, ?_⟩
        conv => whnf
        obtain ⟨r_3, h_r_3, hF⟩ := bind_some hF
        refine ⟨_, _, _, _, _, _, _, _, _, callX false [] [] 1 Try.func87 (by decide) rfl (boarding_united_ac x_0.Ever x_1.Ever r_3 h_r_3) rfl ⟨(argE (by (conv => lhs; whnf); all_goals rfl) rfl), (argE (by (conv => lhs; whnf); all_goals rfl) rfl), trivial⟩ rfl trivial rfl rfl rfl lend0 ⟨renR (fun _ => ⟨rfl, rfl⟩), trivial⟩ rfl, ?_⟩
        conv => whnf
        refine ⟨by kernel_rfl, ?_⟩
        conv => whnf
        obtain rfl := Option.some.inj hF
        exact ret_gz [] [] [5, 7] rfl (tupL rfl ⟨(argA (c := [.str x_0.Flight.Carrier, .int .i64 x_0.Flight.Number, .str x_0.Flight.Suffix, .int .i64 x_0.Flight.Day, .int .i64 x_1.Version, .osl 5, .osl 7]) (by (conv => lhs; whnf); all_goals rfl) rfl ⟨(.ni _ rfl), (.ni _ rfl), (.ni _ rfl), (.ni _ rfl), (.ni _ rfl), (.osl 5 1 _ (by simp) rfl (map_ni (fun _ => ⟨rfl, rfl⟩) _)), (.osl 7 1 _ (by simp) rfl (map_ni (fun _ => ⟨rfl, rfl⟩) _)), trivial⟩), (argT (by (conv => lhs; whnf); all_goals rfl)), trivial⟩) trivial
      · replace hF := cond_f hb_7 hF
        conv => whnf
        obtain ⟨r_4, h_r_4, hF⟩ := bind_some hF
        refine ⟨_, _, _, _, _, _, _, _, _, callX false [] [] 1 Try.func86 (by decide) rfl (slices_Clone_int_ac x_0.Boarded r_4 h_r_4) rfl ⟨(argE (by (conv => lhs; whnf); all_goals rfl) rfl), trivial⟩ rfl trivial rfl rfl rfl lend0 ⟨renR (fun _ => ⟨rfl, rfl⟩), trivial⟩ rfl, ?_⟩
        conv => whnf
        obtain ⟨r_5, h_r_5, hF⟩ := bind_some hF
        refine ⟨_, _, _, _, _, _, _, _, _, callX false [] [] 1 Try.func87 (by decide) rfl (boarding_united_ac x_0.Ever x_1.Ever r_5 h_r_5) rfl ⟨(argE (by (conv => lhs; whnf); all_goals rfl) rfl), (argE (by (conv => lhs; whnf); all_goals rfl) rfl), trivial⟩ rfl trivial rfl rfl rfl lend0 ⟨renR (fun _ => ⟨rfl, rfl⟩), trivial⟩ rfl, ?_⟩
        conv => whnf
        refine ⟨by kernel_rfl, ?_⟩
        conv => whnf
        obtain rfl := Option.some.inj hF
        exact ret_gz [] [] [5, 7] rfl (tupL rfl ⟨(argA (c := [.str x_0.Flight.Carrier, .int .i64 x_0.Flight.Number, .str x_0.Flight.Suffix, .int .i64 x_0.Flight.Day, .int .i64 x_0.Version, .osl 5, .osl 7]) (by (conv => lhs; whnf); all_goals rfl) rfl ⟨(.ni _ rfl), (.ni _ rfl), (.ni _ rfl), (.ni _ rfl), (.ni _ rfl), (.osl 5 1 _ (by simp) rfl (map_ni (fun _ => ⟨rfl, rfl⟩) _)), (.osl 7 1 _ (by simp) rfl (map_ni (fun _ => ⟨rfl, rfl⟩) _)), trivial⟩), (argT (by (conv => lhs; whnf); all_goals rfl)), trivial⟩) trivial
  · replace hF := cond_f hb_5 hF
    conv => whnf
    refine ⟨fun hb_8 => ?_, fun hb_8 => ?_⟩
    · replace hF := cond_t hb_8 hF
      conv => whnf
      obtain ⟨r_6, h_r_6, hF⟩ := bind_some hF
      refine ⟨_, _, _, _, _, _, _, _, _, callX false [] [] 1 Try.func86 (by decide) rfl (slices_Clone_int_ac x_1.Boarded r_6 h_r_6) rfl ⟨(argE (by (conv => lhs; whnf); all_goals rfl) rfl), trivial⟩ rfl trivial rfl rfl rfl lend0 ⟨renR (fun _ => ⟨rfl, rfl⟩), trivial⟩ rfl, ?_⟩
      conv => whnf
      obtain ⟨r_7, h_r_7, hF⟩ := bind_some hF
      refine ⟨_, _, _, _, _, _, _, _, _, callX false [] [] 1 Try.func87 (by decide) rfl (boarding_united_ac x_0.Ever x_1.Ever r_7 h_r_7) rfl ⟨(argE (by (conv => lhs; whnf); all_goals rfl) rfl), (argE (by (conv => lhs; whnf); all_goals rfl) rfl), trivial⟩ rfl trivial rfl rfl rfl lend0 ⟨renR (fun _ => ⟨rfl, rfl⟩), trivial⟩ rfl, ?_⟩
      conv => whnf
      refine ⟨by kernel_rfl, ?_⟩
      conv => whnf
      obtain rfl := Option.some.inj hF
      exact ret_gz [] [] [4, 6] rfl (tupL rfl ⟨(argA (c := [.str x_0.Flight.Carrier, .int .i64 x_0.Flight.Number, .str x_0.Flight.Suffix, .int .i64 x_0.Flight.Day, .int .i64 x_1.Version, .osl 4, .osl 6]) (by (conv => lhs; whnf); all_goals rfl) rfl ⟨(.ni _ rfl), (.ni _ rfl), (.ni _ rfl), (.ni _ rfl), (.ni _ rfl), (.osl 4 1 _ (by simp) rfl (map_ni (fun _ => ⟨rfl, rfl⟩) _)), (.osl 6 1 _ (by simp) rfl (map_ni (fun _ => ⟨rfl, rfl⟩) _)), trivial⟩), (argT (by (conv => lhs; whnf); all_goals rfl)), trivial⟩) trivial
    · replace hF := cond_f hb_8 hF
      conv => whnf
      obtain ⟨r_8, h_r_8, hF⟩ := bind_some hF
      refine ⟨_, _, _, _, _, _, _, _, _, callX false [] [] 1 Try.func86 (by decide) rfl (slices_Clone_int_ac x_0.Boarded r_8 h_r_8) rfl ⟨(argE (by (conv => lhs; whnf); all_goals rfl) rfl), trivial⟩ rfl trivial rfl rfl rfl lend0 ⟨renR (fun _ => ⟨rfl, rfl⟩), trivial⟩ rfl, ?_⟩
      conv => whnf
      obtain ⟨r_9, h_r_9, hF⟩ := bind_some hF
      refine ⟨_, _, _, _, _, _, _, _, _, callX false [] [] 1 Try.func87 (by decide) rfl (boarding_united_ac x_0.Ever x_1.Ever r_9 h_r_9) rfl ⟨(argE (by (conv => lhs; whnf); all_goals rfl) rfl), (argE (by (conv => lhs; whnf); all_goals rfl) rfl), trivial⟩ rfl trivial rfl rfl rfl lend0 ⟨renR (fun _ => ⟨rfl, rfl⟩), trivial⟩ rfl, ?_⟩
      conv => whnf
      refine ⟨by kernel_rfl, ?_⟩
      conv => whnf
      obtain rfl := Option.some.inj hF
      exact ret_gz [] [] [4, 6] rfl (tupL rfl ⟨(argA (c := [.str x_0.Flight.Carrier, .int .i64 x_0.Flight.Number, .str x_0.Flight.Suffix, .int .i64 x_0.Flight.Day, .int .i64 x_0.Version, .osl 4, .osl 6]) (by (conv => lhs; whnf); all_goals rfl) rfl ⟨(.ni _ rfl), (.ni _ rfl), (.ni _ rfl), (.ni _ rfl), (.ni _ rfl), (.osl 4 1 _ (by simp) rfl (map_ni (fun _ => ⟨rfl, rfl⟩) _)), (.osl 6 1 _ (by simp) rfl (map_ni (fun _ => ⟨rfl, rfl⟩) _)), trivial⟩), (argT (by (conv => lhs; whnf); all_goals rfl)), trivial⟩) trivial

set_option maxRecDepth 100000 in
set_option maxHeartbeats 40000000 in
theorem boarding_joined_ac (x_0 : (List Manifest)) (x_1 : (List Manifest)) (r : (List Manifest) × Int) (hF : boarding_joined x_0 x_1 = some r) : AC Try.prog 43 [.lst 7 (x_0.map encManifest), .lst 7 (x_1.map encManifest)] [] (.tup [.lst 7 (r.1.map encManifest), .int .i64 r.2]) [] := by
  refine ac_of tab_ok follows_ok Try.func43 rfl Try.ntmps43 rfl ?_
  unfold boarding_joined at hF
  conv => whnf
  obtain ⟨c_1, hc_1, hF⟩ := fin_some hF
  refine sw_loop tab_ok follows_ok (fun y : Nat × (List Manifest) × (List Manifest) × (List Manifest) => boarding_joined_L1 y.1 y.2.1 y.2.2.1 y.2.2.2 = some c_1) (fun y => ⟨eL [(0, .lst 7 (y.2.1.map encManifest)), (1, .lst 7 (y.2.2.2.map encManifest)), (6, .osl 0)], hL [(0, .row 7 (y.2.2.1.map encManifest))], 1⟩) (fun y => y.1) (9223372036854775807, x_0, ([] : List Manifest), x_1) hc_1 (wk_mk [] [0] [] rfl ⟨argE (by (conv => lhs; whnf); all_goals rfl) rfl, argE (by (conv => lhs; whnf); all_goals rfl) rfl, argZ (by (conv => lhs; whnf); all_goals rfl) rfl, trivial⟩ ⟨blkZ rfl, trivial⟩) ?_
  rintro ⟨q_29, a_1, a_3, a_2⟩ hL1
  try dsimp only at hL1
  rcases q_29 with _ | q_29
  · rw [boarding_joined_L1.eq_1] at hL1
    cases hL1
  rw [boarding_joined_L1.eq_2] at hL1
  show awp _ _ _ _ _ _ ⟨eL [(0, .lst 7 (a_1.map encManifest)), (1, .lst 7 (a_2.map encManifest)), (6, .osl 0)], hL [(0, .row 7 (a_3.map encManifest))], 1⟩
  conv => whnf
  refine len_q (enc := encManifest) (l := a_1) rfl ?_
  conv => whnf
  refine ⟨fun hb_26 => ?_, fun hb_26 => ?_⟩
  · replace hL1 := cond_f hb_26 hL1
    conv => whnf
    refine len_q (enc := encManifest) (l := a_2) rfl ?_
    conv => whnf
    refine ⟨fun hb_31 => ?_, fun hb_31 => ?_⟩
    · replace hL1 := cond_t hb_31 hL1
      conv => whnf
      refine len_q (enc := encManifest) (l := a_1) rfl ?_
      conv => whnf
      refine ⟨fun h => ?_, fun h => ?_⟩
      · conv => whnf
        refine ⟨fun h => ?_, fun h => ?_⟩
        · cases (show ((1 : Int) == (-1 : Int)) = false from rfl).symm.trans h
        · conv => whnf
          refine ⟨fun h => ?_, fun h => ?_⟩
          · conv => whnf
            obtain ⟨e_25, h_e_25, hL1⟩ := bind_some hL1
            refine ix_q (enc := encManifest) (l := a_2) h_e_25 rfl (fun m_e_25 hm_e_25 hx_e_25 => ?_)
            conv => whnf
            obtain ⟨r_26, h_r_26, hL1⟩ := bind_some hL1
            refine ⟨_, _, _, _, _, _, _, _, _, callX false [] [] 0 Try.func61 (by decide) rfl (boarding_copied_ac e_25 r_26 h_r_26) rfl ⟨(argE (by (conv => lhs; whnf); all_goals rfl) rfl), trivial⟩ rfl trivial rfl rfl rfl lend0 trivial rfl, ?_⟩
            conv => whnf
            obtain ⟨l_27, h_l_27, hL1⟩ := bind_some hL1
            refine ap_q (enc := encManifest) (l := a_3) (y := ([r_26] : List Manifest)) h_l_27 rfl rfl (by decide) ?_
            conv => whnf
            obtain ⟨l_28, h_l_28, hL1⟩ := bind_some hL1
            refine sl_q1 (enc := encManifest) (l := a_2) h_l_28 rfl ?_
            conv => whnf
            refine ⟨by kernel_rfl, ?_⟩
            conv => whnf
            exact ⟨(q_29, a_1, l_27, l_28), [3], [], [], hL1, Nat.lt_succ_self _, wk_mk [3] [] [] rfl ⟨argE (by (conv => lhs; whnf); all_goals rfl) rfl, argE (by (conv => lhs; whnf); all_goals rfl) rfl, argO (id := 3) (by (conv => lhs; whnf); all_goals rfl) rfl, trivial⟩ ⟨blkR (fun _ => ⟨rfl, rfl⟩) rfl rfl, trivial⟩⟩
          · cases (show ((1 : Int) == (1 : Int)) = true from rfl).symm.trans h
      · cases (npos_len hb_26).symm.trans h
    · replace hL1 := cond_f hb_31 hL1
      conv => whnf
      obtain rfl := Option.some.inj hL1
      replace hF := fin_brk hF
      try dsimp only at hF
      refine len_q (enc := encManifest) (l := a_3) rfl ?_
      conv => whnf
      refine ⟨fun hb_32 => ?_, fun hb_32 => ?_⟩
      · replace hF := cond_t hb_32 hF
        conv => whnf
        obtain rfl := Option.some.inj hF
        exact ret_gz [] [] [] rfl (tupL rfl ⟨(argN (by (conv => lhs; whnf); all_goals rfl)), (argE (by (conv => lhs; whnf); all_goals rfl) rfl), trivial⟩) trivial
      · replace hF := cond_f hb_32 hF
        conv => whnf
        obtain rfl := Option.some.inj hF
        exact ret_gz [] [] [0] rfl (tupL rfl ⟨(argOL 0 (by (conv => lhs; whnf); all_goals rfl) rfl rfl (map_ni (fun _ => ⟨rfl, rfl⟩) _)), (argE (by (conv => lhs; whnf); all_goals rfl) rfl), trivial⟩) trivial
  · replace hL1 := cond_t hb_26 hL1
    conv => whnf
    refine len_q (enc := encManifest) (l := a_1) rfl ?_
    conv => whnf
    refine ⟨fun h => ?_, fun h => ?_⟩
    · cases (pos_ne hb_26).symm.trans h
    · conv => whnf
      refine len_q (enc := encManifest) (l := a_2) rfl ?_
      conv => whnf
      refine ⟨fun hb_27 => ?_, fun hb_27 => ?_⟩
      · replace hL1 := cond_t hb_27 hL1
        conv => whnf
        refine ⟨fun h => ?_, fun h => ?_⟩
        · conv => whnf
          obtain ⟨e_4, h_e_4, hL1⟩ := bind_some hL1
          refine ix_q (enc := encManifest) (l := a_1) h_e_4 rfl (fun m_e_4 hm_e_4 hx_e_4 => ?_)
          conv => whnf
          obtain ⟨r_5, h_r_5, hL1⟩ := bind_some hL1
          refine ⟨_, _, _, _, _, _, _, _, _, callX false [] [] 0 Try.func61 (by decide) rfl (boarding_copied_ac e_4 r_5 h_r_5) rfl ⟨(argE (by (conv => lhs; whnf); all_goals rfl) rfl), trivial⟩ rfl trivial rfl rfl rfl lend0 trivial rfl, ?_⟩
          conv => whnf
          obtain ⟨l_6, h_l_6, hL1⟩ := bind_some hL1
          refine ap_q (enc := encManifest) (l := a_3) (y := ([r_5] : List Manifest)) h_l_6 rfl rfl (by decide) ?_
          conv => whnf
          obtain ⟨l_7, h_l_7, hL1⟩ := bind_some hL1
          refine sl_q1 (enc := encManifest) (l := a_1) h_l_7 rfl ?_
          conv => whnf
          refine ⟨by kernel_rfl, ?_⟩
          conv => whnf
          exact ⟨(q_29, l_7, l_6, a_2), [3], [], [], hL1, Nat.lt_succ_self _, wk_mk [3] [] [] rfl ⟨argE (by (conv => lhs; whnf); all_goals rfl) rfl, argE (by (conv => lhs; whnf); all_goals rfl) rfl, argO (id := 3) (by (conv => lhs; whnf); all_goals rfl) rfl, trivial⟩ ⟨blkR (fun _ => ⟨rfl, rfl⟩) rfl rfl, trivial⟩⟩
        · cases (show ((-1 : Int) == (-1 : Int)) = true from rfl).symm.trans h
      · replace hL1 := cond_f hb_27 hL1
        conv => whnf
        obtain ⟨e_8, h_e_8, hL1⟩ := bind_some hL1
        refine ix_q (enc := encManifest) (l := a_1) h_e_8 rfl (fun m_e_8 hm_e_8 hx_e_8 => ?_)
        conv => whnf
        obtain ⟨e_9, h_e_9, hL1⟩ := bind_some hL1
        refine ix_q (enc := encManifest) (l := a_2) h_e_9 rfl (fun m_e_9 hm_e_9 hx_e_9 => ?_)
        conv => whnf
        obtain ⟨r_10, h_r_10, hL1⟩ := bind_some hL1
        refine ⟨_, _, _, _, _, _, _, _, _, callX false [] [] 0 Try.func35 (by decide) rfl (flight_Compare_ac e_8.Flight e_9.Flight r_10 h_r_10) rfl ⟨(argE (by (conv => lhs; whnf); all_goals rfl) rfl), (argE (by (conv => lhs; whnf); all_goals rfl) rfl), trivial⟩ rfl trivial rfl rfl rfl lend0 trivial rfl, ?_⟩
        conv => whnf
        refine ⟨by kernel_rfl, ?_⟩
        conv => whnf
        refine ⟨fun hb_28 => ?_, fun hb_28 => ?_⟩
        · replace hL1 := cond_t hb_28 hL1
          conv => whnf
          obtain ⟨e_11, h_e_11, hL1⟩ := bind_some hL1
          refine ix_q (enc := encManifest) (l := a_1) h_e_11 rfl (fun m_e_11 hm_e_11 hx_e_11 => ?_)
          conv => whnf
          obtain ⟨r_12, h_r_12, hL1⟩ := bind_some hL1
          refine ⟨_, _, _, _, _, _, _, _, _, callX false [] [] 0 Try.func61 (by decide) rfl (boarding_copied_ac e_11 r_12 h_r_12) rfl ⟨(argE (by (conv => lhs; whnf); all_goals rfl) rfl), trivial⟩ rfl trivial rfl rfl rfl lend0 trivial rfl, ?_⟩
          conv => whnf
          obtain ⟨l_13, h_l_13, hL1⟩ := bind_some hL1
          refine ap_q (enc := encManifest) (l := a_3) (y := ([r_12] : List Manifest)) h_l_13 rfl rfl (by decide) ?_
          conv => whnf
          obtain ⟨l_14, h_l_14, hL1⟩ := bind_some hL1
          refine sl_q1 (enc := encManifest) (l := a_1) h_l_14 rfl ?_
          conv => whnf
          refine ⟨by kernel_rfl, ?_⟩
          conv => whnf
          exact ⟨(q_29, l_14, l_13, a_2), [4], [], [], hL1, Nat.lt_succ_self _, wk_mk [4] [] [] rfl ⟨argE (by (conv => lhs; whnf); all_goals rfl) rfl, argE (by (conv => lhs; whnf); all_goals rfl) rfl, argO (id := 4) (by (conv => lhs; whnf); all_goals rfl) rfl, trivial⟩ ⟨blkR (fun _ => ⟨rfl, rfl⟩) rfl rfl, trivial⟩⟩
        · replace hL1 := cond_f hb_28 hL1
          conv => whnf
          refine ⟨fun hb_29 => ?_, fun hb_29 => ?_⟩
          · replace hL1 := cond_t hb_29 hL1
            conv => whnf
            obtain ⟨e_15, h_e_15, hL1⟩ := bind_some hL1
            refine ix_q (enc := encManifest) (l := a_2) h_e_15 rfl (fun m_e_15 hm_e_15 hx_e_15 => ?_)
            conv => whnf
            obtain ⟨r_16, h_r_16, hL1⟩ := bind_some hL1
            refine ⟨_, _, _, _, _, _, _, _, _, callX false [] [] 0 Try.func61 (by decide) rfl (boarding_copied_ac e_15 r_16 h_r_16) rfl ⟨(argE (by (conv => lhs; whnf); all_goals rfl) rfl), trivial⟩ rfl trivial rfl rfl rfl lend0 trivial rfl, ?_⟩
            conv => whnf
            obtain ⟨l_17, h_l_17, hL1⟩ := bind_some hL1
            refine ap_q (enc := encManifest) (l := a_3) (y := ([r_16] : List Manifest)) h_l_17 rfl rfl (by decide) ?_
            conv => whnf
            obtain ⟨l_18, h_l_18, hL1⟩ := bind_some hL1
            refine sl_q1 (enc := encManifest) (l := a_2) h_l_18 rfl ?_
            conv => whnf
            refine ⟨by kernel_rfl, ?_⟩
            conv => whnf
            exact ⟨(q_29, a_1, l_17, l_18), [4], [], [], hL1, Nat.lt_succ_self _, wk_mk [4] [] [] rfl ⟨argE (by (conv => lhs; whnf); all_goals rfl) rfl, argE (by (conv => lhs; whnf); all_goals rfl) rfl, argO (id := 4) (by (conv => lhs; whnf); all_goals rfl) rfl, trivial⟩ ⟨blkR (fun _ => ⟨rfl, rfl⟩) rfl rfl, trivial⟩⟩
          · replace hL1 := cond_f hb_29 hL1
            conv => whnf
            obtain ⟨e_19, h_e_19, hL1⟩ := bind_some hL1
            refine ix_q (enc := encManifest) (l := a_1) h_e_19 rfl (fun m_e_19 hm_e_19 hx_e_19 => ?_)
            conv => whnf
            obtain ⟨e_20, h_e_20, hL1⟩ := bind_some hL1
            refine ix_q (enc := encManifest) (l := a_2) h_e_20 rfl (fun m_e_20 hm_e_20 hx_e_20 => ?_)
            conv => whnf
            obtain ⟨r_21, h_r_21, hL1⟩ := bind_some hL1
            refine ⟨_, _, _, _, _, _, _, _, _, callX false [] [] 0 Try.func62 (by decide) rfl (boarding_merged_ac e_19 e_20 r_21 h_r_21) rfl ⟨(argE (by (conv => lhs; whnf); all_goals rfl) rfl), (argE (by (conv => lhs; whnf); all_goals rfl) rfl), trivial⟩ rfl trivial rfl rfl rfl lend0 trivial rfl, ?_⟩
            conv => whnf
            refine ⟨by kernel_rfl, ?_⟩
            conv => whnf
            refine ⟨fun hb_30 => ?_, fun hb_30 => ?_⟩
            · replace hL1 := cond_t hb_30 hL1
              conv => whnf
              obtain rfl := Option.some.inj hL1
              replace hF := fin_ret hF
              obtain rfl := Option.some.inj hF
              exact ret_gz [] [] [] rfl (tupL rfl ⟨(argN (by (conv => lhs; whnf); all_goals rfl)), (argE (by (conv => lhs; whnf); all_goals rfl) rfl), trivial⟩) trivial
            · replace hL1 := cond_f hb_30 hL1
              conv => whnf
              obtain ⟨l_22, h_l_22, hL1⟩ := bind_some hL1
              refine ap_q (enc := encManifest) (l := a_3) (y := ([r_21.1] : List Manifest)) h_l_22 rfl rfl (by decide) ?_
              conv => whnf
              obtain ⟨l_23, h_l_23, hL1⟩ := bind_some hL1
              refine sl_q1 (enc := encManifest) (l := a_1) h_l_23 rfl ?_
              conv => whnf
              obtain ⟨l_24, h_l_24, hL1⟩ := bind_some hL1
              refine sl_q1 (enc := encManifest) (l := a_2) h_l_24 rfl ?_
              conv => whnf
              refine ⟨by kernel_rfl, ?_⟩
              conv => whnf
              exact ⟨(q_29, l_23, l_22, l_24), [5], [], [], hL1, Nat.lt_succ_self _, wk_mk [5] [] [] rfl ⟨argE (by (conv => lhs; whnf); all_goals rfl) rfl, argE (by (conv => lhs; whnf); all_goals rfl) rfl, argO (id := 5) (by (conv => lhs; whnf); all_goals rfl) rfl, trivial⟩ ⟨blkR (fun _ => ⟨rfl, rfl⟩) rfl rfl, trivial⟩⟩

set_option maxRecDepth 100000 in
set_option maxHeartbeats 40000000 in
theorem boarding_Apply_ac (x_0 : (List Manifest)) (x_1 : Message) (r : (List Manifest) × Int) (hF : boarding_Apply x_0 x_1 = some r) : AC Try.prog 25 [.lst 7 (x_0.map encManifest), .agg (encMessage x_1)] [] (.tup [.lst 7 (r.1.map encManifest), .int .i64 r.2]) [] := by
  refine ac_of tab_ok follows_ok Try.func25 rfl Try.ntmps25 rfl ?_
  unfold boarding_Apply at hF
  conv => whnf
  obtain ⟨r_1, h_r_1, hF⟩ := bind_some hF
  refine ⟨_, _, _, _, _, _, _, _, _, callX false [] [] 0 Try.func14 (by decide) rfl (boarding_Validate_ac x_0 r_1 h_r_1) rfl ⟨(argE (by (conv => lhs; whnf); all_goals rfl) rfl), trivial⟩ rfl trivial rfl rfl rfl lend0 trivial rfl, ?_⟩
  conv => whnf
  refine ⟨fun hb_4 => ?_, fun hb_4 => ?_⟩
  · replace hF := cond_t hb_4 hF
    conv => whnf
    obtain rfl := Option.some.inj hF
    exact ret_gz [] [] [] rfl (tupL rfl ⟨(argN (by (conv => lhs; whnf); all_goals rfl)), (argE (by (conv => lhs; whnf); all_goals rfl) rfl), trivial⟩) trivial
  · replace hF := cond_f hb_4 hF
    conv => whnf
    obtain ⟨r_2, h_r_2, hF⟩ := bind_some hF
    refine ⟨_, _, _, _, _, _, _, _, _, callX false [] [] 0 Try.func42 (by decide) rfl (message_Validate_ac x_1 r_2 h_r_2) rfl ⟨(argE (by (conv => lhs; whnf); all_goals rfl) rfl), trivial⟩ rfl trivial rfl rfl rfl lend0 trivial rfl, ?_⟩
    conv => whnf
    refine ⟨fun hb_5 => ?_, fun hb_5 => ?_⟩
    · replace hF := cond_t hb_5 hF
      conv => whnf
      obtain rfl := Option.some.inj hF
      exact ret_gz [] [] [] rfl (tupL rfl ⟨(argN (by (conv => lhs; whnf); all_goals rfl)), (argE (by (conv => lhs; whnf); all_goals rfl) rfl), trivial⟩) trivial
    · replace hF := cond_f hb_5 hF
      conv => whnf
      refine ⟨fun hb_6 => ?_, fun hb_6 => ?_⟩
      · replace hF := cond_t hb_6 hF
        conv => whnf
        obtain rfl := Option.some.inj hF
        exact ret_gz [] [] [] rfl (tupL rfl ⟨(argN (by (conv => lhs; whnf); all_goals rfl)), (argE (by (conv => lhs; whnf); all_goals rfl) rfl), trivial⟩) trivial
      · replace hF := cond_f hb_6 hF
        conv => whnf
        obtain ⟨r_3, h_r_3, hF⟩ := bind_some hF
        refine ⟨_, _, _, _, _, _, _, _, _, callX true [] [3] 0 Try.func43 (by decide) rfl (boarding_joined_ac x_0 ([(⟨x_1.Out.Flight, x_1.Number, x_1.List, x_1.List⟩ : Manifest)] : List Manifest) r_3 h_r_3) rfl ⟨(argE (by (conv => lhs; whnf); all_goals rfl) rfl), (argOL 3 (by (conv => lhs; whnf); all_goals rfl) rfl rfl (map_ni (fun _ => ⟨rfl, rfl⟩) _)), trivial⟩ rfl trivial rfl rfl rfl giveU trivial rfl, ?_⟩
        conv => whnf
        obtain rfl := Option.some.inj hF
        exact ret_gz [] [] [] rfl (tupL rfl ⟨(argE (by (conv => lhs; whnf); all_goals rfl) rfl), (argE (by (conv => lhs; whnf); all_goals rfl) rfl), trivial⟩) trivial

set_option maxRecDepth 100000 in
set_option maxHeartbeats 40000000 in
theorem ref25_Same_ac (x_0 : (List Int)) (x_1 : (List Int)) (r : Bool) (hF : ref25_Same x_0 x_1 = some r) : AC Try.prog 45 [.lst 1 (x_0.map iA), .lst 1 (x_1.map iA)] [] (.bool r) [] := by
  refine ac_of tab_ok follows_ok Try.func45 rfl Try.ntmps45 rfl ?_
  unfold ref25_Same at hF
  conv => whnf
  refine len_q (enc := iA) (l := x_0) rfl ?_
  conv => whnf
  refine len_q (enc := iA) (l := x_1) rfl ?_
  conv => whnf
  refine ⟨fun hb_8 => ?_, fun hb_8 => ?_⟩
  · replace hF := cond_t hb_8 hF
    conv => whnf
    obtain rfl := Option.some.inj hF
    exact ret_gz [] [] [] rfl (argFl (by (conv => lhs; whnf); all_goals rfl)) trivial
  · replace hF := cond_f hb_8 hF
    conv => whnf
    obtain ⟨c_1, hc_1, hF⟩ := fin_some hF
    refine sw_bv 0 (v := .lst 1 (x_0.map iA)) (by (conv => lhs; whnf); all_goals rfl) (fun hb => ?_)
    have hbd_k_2 : x_0.length ≤ 9223372036854775807 := bnd_len (enc := iA) (hb)
    refine sw_loop tab_ok follows_ok (fun y : Nat => y ≤ x_0.length ∧ ref25_Same_L1 x_1 (x_0.drop y) y = some c_1) (fun y => ⟨eL [(0, .lst 1 (x_0.map iA)), (1, .lst 1 (x_1.map iA)), (5, .int .i64 (y : Int))], hL [], 0⟩) (fun y => x_0.length - y) 0 ⟨Nat.zero_le _, hc_1⟩ (wk_mk [] [] [] rfl ⟨argE (by (conv => lhs; whnf); all_goals rfl) rfl, argE (by (conv => lhs; whnf); all_goals rfl) rfl, argE (by (conv => lhs; whnf); all_goals rfl) rfl, trivial⟩ trivial) ?_
    rintro k_2 ⟨hk_k_2, hL1⟩
    try dsimp only at hk_k_2 hL1
    show awp _ _ _ _ _ _ ⟨eL [(0, .lst 1 (x_0.map iA)), (1, .lst 1 (x_1.map iA)), (5, .int .i64 (k_2 : Int))], hL [], 0⟩
    conv => whnf
    refine len_q (enc := iA) (l := x_0) rfl ?_
    conv => whnf
    refine ⟨fun h => ?_, fun h => ?_⟩
    · have hlt_k_2 : k_2 < x_0.length := by have h := of_decide_eq_true h; omega
      obtain ⟨e_3, h_e_3⟩ : ∃ y, x_0[k_2]? = some y := ⟨_, List.getElem?_eq_getElem hlt_k_2⟩
      rw [drop_cons h_e_3, ref25_Same_L1.eq_2] at hL1
      conv => whnf
      refine ⟨k_2, _, rfl, ix_map h_e_3, ?_⟩
      conv => whnf
      obtain ⟨e_4, h_e_4, hL1⟩ := bind_some hL1
      refine ix_q (enc := iA) (l := x_1) h_e_4 rfl (fun m_e_4 hm_e_4 hx_e_4 => ?_)
      conv => whnf
      refine ⟨by kernel_rfl, ?_⟩
      conv => whnf
      refine ⟨fun hb_9 => ?_, fun hb_9 => ?_⟩
      · replace hL1 := cond_t hb_9 hL1
        conv => whnf
        obtain rfl := Option.some.inj hL1
        replace hF := fin_ret hF
        obtain rfl := Option.some.inj hF
        exact ret_gz [] [] [] rfl (argFl (by (conv => lhs; whnf); all_goals rfl)) trivial
      · replace hL1 := cond_f hb_9 hL1
        conv => whnf
        refine ⟨((k_2 + 1 : Nat) : Int), wrapE (by omega) (by omega) (by omega), ?_⟩
        conv => whnf
        exact ⟨k_2 + 1, [], [], [], ⟨hlt_k_2, hL1⟩, by show x_0.length - (k_2 + 1) < x_0.length - k_2; omega, wk_mk [] [] [] rfl ⟨argE (by (conv => lhs; whnf); all_goals rfl) rfl, argE (by (conv => lhs; whnf); all_goals rfl) rfl, argE (by (conv => lhs; whnf); all_goals rfl) rfl, trivial⟩ trivial⟩
    · rw [drop_nil (show x_0.length ≤ k_2 by have h := of_decide_eq_false h; omega), ref25_Same_L1.eq_1] at hL1
      conv => whnf
      obtain rfl := Option.some.inj hL1
      replace hF := fin_brk hF
      try dsimp only at hF
      obtain rfl := Option.some.inj hF
      exact ret_gz [] [] [] rfl (argT (by (conv => lhs; whnf); all_goals rfl)) trivial

set_option maxRecDepth 100000 in
set_option maxHeartbeats 40000000 in
theorem ref25_SameAll_ac (x_0 : (List Manifest)) (x_1 : (List Manifest)) (r : Bool) (hF : ref25_SameAll x_0 x_1 = some r) : AC Try.prog 27 [.lst 7 (x_0.map encManifest), .lst 7 (x_1.map encManifest)] [] (.bool r) [] := by
  refine ac_of tab_ok follows_ok Try.func27 rfl Try.ntmps27 rfl ?_
  unfold ref25_SameAll at hF
  conv => whnf
  refine len_q (enc := encManifest) (l := x_0) rfl ?_
  conv => whnf
  refine len_q (enc := encManifest) (l := x_1) rfl ?_
  conv => whnf
  refine ⟨fun hb_20 => ?_, fun hb_20 => ?_⟩
  · replace hF := cond_t hb_20 hF
    conv => whnf
    obtain rfl := Option.some.inj hF
    exact ret_gz [] [] [] rfl (argFl (by (conv => lhs; whnf); all_goals rfl)) trivial
  · replace hF := cond_f hb_20 hF
    conv => whnf
    obtain ⟨c_1, hc_1, hF⟩ := fin_some hF
    refine sw_bv 0 (v := .lst 7 (x_0.map encManifest)) (by (conv => lhs; whnf); all_goals rfl) (fun hb => ?_)
    have hbd_k_2 : x_0.length ≤ 9223372036854775807 := bnd_len (enc := encManifest) (hb)
    refine sw_loop tab_ok follows_ok (fun y : Nat => y ≤ x_0.length ∧ ref25_SameAll_L1 x_1 (x_0.drop y) y = some c_1) (fun y => ⟨eL [(0, .lst 7 (x_0.map encManifest)), (1, .lst 7 (x_1.map encManifest)), (5, .int .i64 (y : Int))], hL [], 0⟩) (fun y => x_0.length - y) 0 ⟨Nat.zero_le _, hc_1⟩ (wk_mk [] [] [] rfl ⟨argE (by (conv => lhs; whnf); all_goals rfl) rfl, argE (by (conv => lhs; whnf); all_goals rfl) rfl, argE (by (conv => lhs; whnf); all_goals rfl) rfl, trivial⟩ trivial) ?_
    rintro k_2 ⟨hk_k_2, hL1⟩
    try dsimp only at hk_k_2 hL1
    show awp _ _ _ _ _ _ ⟨eL [(0, .lst 7 (x_0.map encManifest)), (1, .lst 7 (x_1.map encManifest)), (5, .int .i64 (k_2 : Int))], hL [], 0⟩
    conv => whnf
    refine len_q (enc := encManifest) (l := x_0) rfl ?_
    conv => whnf
    refine ⟨fun h => ?_, fun h => ?_⟩
    · have hlt_k_2 : k_2 < x_0.length := by have h := of_decide_eq_true h; omega
      obtain ⟨e_3, h_e_3⟩ : ∃ y, x_0[k_2]? = some y := ⟨_, List.getElem?_eq_getElem hlt_k_2⟩
      rw [drop_cons h_e_3, ref25_SameAll_L1.eq_2] at hL1
      conv => whnf
      refine ⟨k_2, _, rfl, ix_map h_e_3, ?_⟩
      conv => whnf
      obtain ⟨e_4, h_e_4, hL1⟩ := bind_some hL1
      refine ix_q (enc := encManifest) (l := x_1) h_e_4 rfl (fun m_e_4 hm_e_4 hx_e_4 => ?_)
      conv => whnf
      refine ⟨fun hb_21 => ?_, fun hb_21 => ?_⟩
      · replace hL1 := cond_f hb_21 hL1
        conv => whnf
        refine ⟨k_2, _, rfl, ix_map h_e_3, ?_⟩
        conv => whnf
        obtain ⟨e_5, h_e_5, hL1⟩ := bind_some hL1
        refine ix_q (enc := encManifest) (l := x_1) h_e_5 rfl (fun m_e_5 hm_e_5 hx_e_5 => ?_)
        conv => whnf
        refine ⟨fun hb_22 => ?_, fun hb_22 => ?_⟩
        · replace hL1 := cond_f hb_22 hL1
          conv => whnf
          refine ⟨k_2, _, rfl, ix_map h_e_3, ?_⟩
          conv => whnf
          obtain ⟨e_6, h_e_6, hL1⟩ := bind_some hL1
          refine ix_q (enc := encManifest) (l := x_1) h_e_6 rfl (fun m_e_6 hm_e_6 hx_e_6 => ?_)
          conv => whnf
          obtain ⟨r_7, h_r_7, hL1⟩ := bind_some hL1
          refine ⟨_, _, _, _, _, _, _, _, _, callX false [] [] 0 Try.func45 (by decide) rfl (ref25_Same_ac e_3.Boarded e_6.Boarded r_7 h_r_7) rfl ⟨(argE (by (conv => lhs; whnf); all_goals rfl) rfl), (argE (by (conv => lhs; whnf); all_goals rfl) rfl), trivial⟩ rfl trivial rfl rfl rfl lend0 trivial rfl, ?_⟩
          conv => whnf
          refine ⟨fun hb_23 => ?_, fun hb_23 => ?_⟩
          · replace hL1 := cond_f hb_23 hL1
            conv => whnf
            refine ⟨k_2, _, rfl, ix_map h_e_3, ?_⟩
            conv => whnf
            obtain ⟨e_8, h_e_8, hL1⟩ := bind_some hL1
            refine ix_q (enc := encManifest) (l := x_1) h_e_8 rfl (fun m_e_8 hm_e_8 hx_e_8 => ?_)
            conv => whnf
            obtain ⟨r_9, h_r_9, hL1⟩ := bind_some hL1
            refine ⟨_, _, _, _, _, _, _, _, _, callX false [] [] 0 Try.func45 (by decide) rfl (ref25_Same_ac e_3.Ever e_8.Ever r_9 h_r_9) rfl ⟨(argE (by (conv => lhs; whnf); all_goals rfl) rfl), (argE (by (conv => lhs; whnf); all_goals rfl) rfl), trivial⟩ rfl trivial rfl rfl rfl lend0 trivial rfl, ?_⟩
            conv => whnf
            refine ⟨by kernel_rfl, ?_⟩
            conv => whnf
            refine ⟨fun hb_24 => ?_, fun hb_24 => ?_⟩
            · replace hL1 := cond_t hb_24 hL1
              conv => whnf
              obtain rfl := Option.some.inj hL1
              replace hF := fin_ret hF
              obtain rfl := Option.some.inj hF
              exact ret_gz [] [] [] rfl (argFl (by (conv => lhs; whnf); all_goals rfl)) trivial
            · replace hL1 := cond_f hb_24 hL1
              conv => whnf
              refine ⟨((k_2 + 1 : Nat) : Int), wrapE (by omega) (by omega) (by omega), ?_⟩
              conv => whnf
              exact ⟨k_2 + 1, [], [], [], ⟨hlt_k_2, hL1⟩, by show x_0.length - (k_2 + 1) < x_0.length - k_2; omega, wk_mk [] [] [] rfl ⟨argE (by (conv => lhs; whnf); all_goals rfl) rfl, argE (by (conv => lhs; whnf); all_goals rfl) rfl, argE (by (conv => lhs; whnf); all_goals rfl) rfl, trivial⟩ trivial⟩
          · replace hL1 := cond_t hb_23 hL1
            conv => whnf
            refine ⟨by kernel_rfl, ?_⟩
            conv => whnf
            obtain rfl := Option.some.inj hL1
            replace hF := fin_ret hF
            obtain rfl := Option.some.inj hF
            exact ret_gz [] [] [] rfl (argFl (by (conv => lhs; whnf); all_goals rfl)) trivial
        · replace hL1 := cond_t hb_22 hL1
          conv => whnf
          refine ⟨by kernel_rfl, ?_⟩
          conv => whnf
          obtain rfl := Option.some.inj hL1
          replace hF := fin_ret hF
          obtain rfl := Option.some.inj hF
          exact ret_gz [] [] [] rfl (argFl (by (conv => lhs; whnf); all_goals rfl)) trivial
      · replace hL1 := cond_t hb_21 hL1
        conv => whnf
        refine ⟨by kernel_rfl, ?_⟩
        conv => whnf
        obtain rfl := Option.some.inj hL1
        replace hF := fin_ret hF
        obtain rfl := Option.some.inj hF
        exact ret_gz [] [] [] rfl (argFl (by (conv => lhs; whnf); all_goals rfl)) trivial
    · rw [drop_nil (show x_0.length ≤ k_2 by have h := of_decide_eq_false h; omega), ref25_SameAll_L1.eq_1] at hL1
      conv => whnf
      obtain rfl := Option.some.inj hL1
      replace hF := fin_brk hF
      try dsimp only at hF
      obtain rfl := Option.some.inj hF
      exact ret_gz [] [] [] rfl (argT (by (conv => lhs; whnf); all_goals rfl)) trivial

set_option maxRecDepth 100000 in
set_option maxHeartbeats 40000000 in
theorem ref02_Letter_ac (x_0 : Int) (r : Bool) (hF : ref02_Letter x_0 = some r) : AC Try.prog 99 [.int .u8 x_0] [] (.bool r) [] := by
  refine ac_of tab_ok follows_ok Try.func99 rfl Try.ntmps99 rfl ?_
  unfold ref02_Letter at hF
  conv => whnf
  refine ⟨fun hb_2 => ?_, fun hb_2 => ?_⟩
  · replace hF := cond_t hb_2 hF
    conv => whnf
    obtain rfl := Option.some.inj hF
    exact ret_gz [] [] [] rfl (argE (by (conv => lhs; whnf); all_goals rfl) rfl) trivial
  · replace hF := cond_f hb_2 hF
    conv => whnf
    obtain rfl := Option.some.inj hF
    exact ret_gz [] [] [] rfl (argFl (by (conv => lhs; whnf); all_goals rfl)) trivial

set_option maxRecDepth 100000 in
set_option maxHeartbeats 40000000 in
theorem ref02_Digit_ac (x_0 : Int) (r : Bool) (hF : ref02_Digit x_0 = some r) : AC Try.prog 100 [.int .u8 x_0] [] (.bool r) [] := by
  refine ac_of tab_ok follows_ok Try.func100 rfl Try.ntmps100 rfl ?_
  unfold ref02_Digit at hF
  conv => whnf
  refine ⟨fun hb_2 => ?_, fun hb_2 => ?_⟩
  · replace hF := cond_t hb_2 hF
    conv => whnf
    obtain rfl := Option.some.inj hF
    exact ret_gz [] [] [] rfl (argE (by (conv => lhs; whnf); all_goals rfl) rfl) trivial
  · replace hF := cond_f hb_2 hF
    conv => whnf
    obtain rfl := Option.some.inj hF
    exact ret_gz [] [] [] rfl (argFl (by (conv => lhs; whnf); all_goals rfl)) trivial

set_option maxRecDepth 100000 in
set_option maxHeartbeats 40000000 in
theorem ref02_Carrier_ac (x_0 : ByteArray) (r : Bool) (hF : ref02_Carrier x_0 = some r) : AC Try.prog 75 [.str x_0] [] (.bool r) [] := by
  refine ac_of tab_ok follows_ok Try.func75 rfl Try.ntmps75 rfl ?_
  unfold ref02_Carrier at hF
  conv => whnf
  refine ⟨fun hb_8 => ?_, fun hb_8 => ?_⟩
  · replace hF := cond_t hb_8 hF
    conv => whnf
    obtain rfl := Option.some.inj hF
    exact ret_gz [] [] [] rfl (argFl (by (conv => lhs; whnf); all_goals rfl)) trivial
  · replace hF := cond_f hb_8 hF
    conv => whnf
    obtain ⟨b_1, h_b_1, hF⟩ := bind_some hF
    refine ixs_q h_b_1 (fun m_b_1 u_b_1 hm_b_1 hb_b_1 hz_b_1 => ?_)
    subst hz_b_1
    conv => whnf
    obtain ⟨r_2, h_r_2, hF⟩ := bind_some hF
    refine ⟨_, _, _, _, _, _, _, _, _, callX false [] [] 0 Try.func99 (by decide) rfl (ref02_Letter_ac ((u_b_1.toNat : Nat) : Int) r_2 h_r_2) rfl ⟨(argE (by (conv => lhs; whnf); all_goals rfl) rfl), trivial⟩ rfl trivial rfl rfl rfl lend0 trivial rfl, ?_⟩
    conv => whnf
    obtain ⟨b_3, h_b_3, hF⟩ := bind_some hF
    refine ixs_q h_b_3 (fun m_b_3 u_b_3 hm_b_3 hb_b_3 hz_b_3 => ?_)
    subst hz_b_3
    conv => whnf
    obtain ⟨r_4, h_r_4, hF⟩ := bind_some hF
    refine ⟨_, _, _, _, _, _, _, _, _, callX false [] [] 0 Try.func99 (by decide) rfl (ref02_Letter_ac ((u_b_3.toNat : Nat) : Int) r_4 h_r_4) rfl ⟨(argE (by (conv => lhs; whnf); all_goals rfl) rfl), trivial⟩ rfl trivial rfl rfl rfl lend0 trivial rfl, ?_⟩
    conv => whnf
    refine ⟨by kernel_rfl, ?_⟩
    conv => whnf
    refine ⟨fun hb_9 => ?_, fun hb_9 => ?_⟩
    · replace hF := cond_f hb_9 hF
      conv => whnf
      obtain ⟨b_7, h_b_7, hF⟩ := bind_some hF
      refine ixs_q h_b_7 (fun m_b_7 u_b_7 hm_b_7 hb_b_7 hz_b_7 => ?_)
      subst hz_b_7
      conv => whnf
      obtain ⟨r_8, h_r_8, hF⟩ := bind_some hF
      refine ⟨_, _, _, _, _, _, _, _, _, callX false [] [] 0 Try.func100 (by decide) rfl (ref02_Digit_ac ((u_b_7.toNat : Nat) : Int) r_8 h_r_8) rfl ⟨(argE (by (conv => lhs; whnf); all_goals rfl) rfl), trivial⟩ rfl trivial rfl rfl rfl lend0 trivial rfl, ?_⟩
      conv => whnf
      refine ⟨fun hb_12 => ?_, fun hb_12 => ?_⟩
      · replace hF := cond_t hb_12 hF
        conv => whnf
        refine ⟨fun hb_13 => ?_, fun hb_13 => ?_⟩
        · replace hF := cond_f hb_13 hF
          conv => whnf
          obtain ⟨b_9, h_b_9, hF⟩ := bind_some hF
          refine ixs_q h_b_9 (fun m_b_9 u_b_9 hm_b_9 hb_b_9 hz_b_9 => ?_)
          subst hz_b_9
          conv => whnf
          obtain ⟨r_10, h_r_10, hF⟩ := bind_some hF
          refine ⟨_, _, _, _, _, _, _, _, _, callX false [] [] 0 Try.func100 (by decide) rfl (ref02_Digit_ac ((u_b_9.toNat : Nat) : Int) r_10 h_r_10) rfl ⟨(argE (by (conv => lhs; whnf); all_goals rfl) rfl), trivial⟩ rfl trivial rfl rfl rfl lend0 trivial rfl, ?_⟩
          conv => whnf
          refine ⟨fun hb_14 => ?_, fun hb_14 => ?_⟩
          · replace hF := cond_t hb_14 hF
            conv => whnf
            refine ⟨fun h => ?_, fun h => ?_⟩
            · conv => whnf
              obtain rfl := Option.some.inj hF
              exact ret_gz [] [] [] rfl (argE (by (conv => lhs; whnf); all_goals rfl) rfl) trivial
            · cases (hb_9).symm.trans h
          · replace hF := cond_f hb_14 hF
            conv => whnf
            obtain rfl := Option.some.inj hF
            exact ret_gz [] [] [] rfl (argFl (by (conv => lhs; whnf); all_goals rfl)) trivial
        · replace hF := cond_t hb_13 hF
          conv => whnf
          refine ⟨fun h => ?_, fun h => ?_⟩
          · conv => whnf
            obtain rfl := Option.some.inj hF
            exact ret_gz [] [] [] rfl (argE (by (conv => lhs; whnf); all_goals rfl) rfl) trivial
          · cases (hb_9).symm.trans h
      · replace hF := cond_f hb_12 hF
        conv => whnf
        obtain rfl := Option.some.inj hF
        exact ret_gz [] [] [] rfl (argFl (by (conv => lhs; whnf); all_goals rfl)) trivial
    · replace hF := cond_t hb_9 hF
      conv => whnf
      refine ⟨fun hb_10 => ?_, fun hb_10 => ?_⟩
      · replace hF := cond_f hb_10 hF
        conv => whnf
        obtain ⟨b_5, h_b_5, hF⟩ := bind_some hF
        refine ixs_q h_b_5 (fun m_b_5 u_b_5 hm_b_5 hb_b_5 hz_b_5 => ?_)
        subst hz_b_5
        conv => whnf
        obtain ⟨r_6, h_r_6, hF⟩ := bind_some hF
        refine ⟨_, _, _, _, _, _, _, _, _, callX false [] [] 0 Try.func100 (by decide) rfl (ref02_Digit_ac ((u_b_5.toNat : Nat) : Int) r_6 h_r_6) rfl ⟨(argE (by (conv => lhs; whnf); all_goals rfl) rfl), trivial⟩ rfl trivial rfl rfl rfl lend0 trivial rfl, ?_⟩
        conv => whnf
        refine ⟨fun hb_11 => ?_, fun hb_11 => ?_⟩
        · replace hF := cond_t hb_11 hF
          conv => whnf
          refine ⟨fun h => ?_, fun h => ?_⟩
          · cases (hb_9).symm.trans h
          · conv => whnf
            obtain rfl := Option.some.inj hF
            exact ret_gz [] [] [] rfl (argT (by (conv => lhs; whnf); all_goals rfl)) trivial
        · replace hF := cond_f hb_11 hF
          conv => whnf
          obtain rfl := Option.some.inj hF
          exact ret_gz [] [] [] rfl (argFl (by (conv => lhs; whnf); all_goals rfl)) trivial
      · replace hF := cond_t hb_10 hF
        conv => whnf
        refine ⟨fun h => ?_, fun h => ?_⟩
        · cases (hb_9).symm.trans h
        · conv => whnf
          obtain rfl := Option.some.inj hF
          exact ret_gz [] [] [] rfl (argT (by (conv => lhs; whnf); all_goals rfl)) trivial

set_option maxRecDepth 100000 in
set_option maxHeartbeats 40000000 in
theorem ref02_Suffix_ac (x_0 : ByteArray) (r : Bool) (hF : ref02_Suffix x_0 = some r) : AC Try.prog 76 [.str x_0] [] (.bool r) [] := by
  refine ac_of tab_ok follows_ok Try.func76 rfl Try.ntmps76 rfl ?_
  unfold ref02_Suffix at hF
  conv => whnf
  refine ⟨fun hb_3 => ?_, fun hb_3 => ?_⟩
  · replace hF := cond_f hb_3 hF
    conv => whnf
    refine ⟨fun hb_4 => ?_, fun hb_4 => ?_⟩
    · replace hF := cond_t hb_4 hF
      conv => whnf
      obtain ⟨b_1, h_b_1, hF⟩ := bind_some hF
      refine ixs_q h_b_1 (fun m_b_1 u_b_1 hm_b_1 hb_b_1 hz_b_1 => ?_)
      subst hz_b_1
      conv => whnf
      obtain ⟨r_2, h_r_2, hF⟩ := bind_some hF
      refine ⟨_, _, _, _, _, _, _, _, _, callX false [] [] 0 Try.func99 (by decide) rfl (ref02_Letter_ac ((u_b_1.toNat : Nat) : Int) r_2 h_r_2) rfl ⟨(argE (by (conv => lhs; whnf); all_goals rfl) rfl), trivial⟩ rfl trivial rfl rfl rfl lend0 trivial rfl, ?_⟩
      conv => whnf
      obtain rfl := Option.some.inj hF
      exact ret_gz [] [] [] rfl (argE (by (conv => lhs; whnf); all_goals rfl) rfl) trivial
    · replace hF := cond_f hb_4 hF
      conv => whnf
      obtain rfl := Option.some.inj hF
      exact ret_gz [] [] [] rfl (argFl (by (conv => lhs; whnf); all_goals rfl)) trivial
  · replace hF := cond_t hb_3 hF
    conv => whnf
    obtain rfl := Option.some.inj hF
    exact ret_gz [] [] [] rfl (argT (by (conv => lhs; whnf); all_goals rfl)) trivial

set_option maxRecDepth 100000 in
set_option maxHeartbeats 40000000 in
theorem ref02_Valid_ac (x_0 : Flight) (r : Bool) (hF : ref02_Valid x_0 = some r) : AC Try.prog 53 [.agg (encFlight x_0)] [] (.bool r) [] := by
  refine ac_of tab_ok follows_ok Try.func53 rfl Try.ntmps53 rfl ?_
  unfold ref02_Valid at hF
  conv => whnf
  obtain ⟨r_1, h_r_1, hF⟩ := bind_some hF
  refine ⟨_, _, _, _, _, _, _, _, _, callX false [] [] 0 Try.func75 (by decide) rfl (ref02_Carrier_ac x_0.Carrier r_1 h_r_1) rfl ⟨(argE (by (conv => lhs; whnf); all_goals rfl) rfl), trivial⟩ rfl trivial rfl rfl rfl lend0 trivial rfl, ?_⟩
  conv => whnf
  refine ⟨fun hb_6 => ?_, fun hb_6 => ?_⟩
  · replace hF := cond_t hb_6 hF
    conv => whnf
    refine ⟨fun hb_7 => ?_, fun hb_7 => ?_⟩
    · replace hF := cond_t hb_7 hF
      conv => whnf
      refine ⟨fun hb_8 => ?_, fun hb_8 => ?_⟩
      · replace hF := cond_t hb_8 hF
        conv => whnf
        obtain ⟨r_2, h_r_2, hF⟩ := bind_some hF
        refine ⟨_, _, _, _, _, _, _, _, _, callX false [] [] 0 Try.func76 (by decide) rfl (ref02_Suffix_ac x_0.Suffix r_2 h_r_2) rfl ⟨(argE (by (conv => lhs; whnf); all_goals rfl) rfl), trivial⟩ rfl trivial rfl rfl rfl lend0 trivial rfl, ?_⟩
        conv => whnf
        refine ⟨fun hb_9 => ?_, fun hb_9 => ?_⟩
        · replace hF := cond_t hb_9 hF
          conv => whnf
          refine ⟨fun hb_10 => ?_, fun hb_10 => ?_⟩
          · replace hF := cond_t hb_10 hF
            conv => whnf
            obtain rfl := Option.some.inj hF
            exact ret_gz [] [] [] rfl (argE (by (conv => lhs; whnf); all_goals rfl) rfl) trivial
          · replace hF := cond_f hb_10 hF
            conv => whnf
            obtain rfl := Option.some.inj hF
            exact ret_gz [] [] [] rfl (argFl (by (conv => lhs; whnf); all_goals rfl)) trivial
        · replace hF := cond_f hb_9 hF
          conv => whnf
          obtain rfl := Option.some.inj hF
          exact ret_gz [] [] [] rfl (argFl (by (conv => lhs; whnf); all_goals rfl)) trivial
      · replace hF := cond_f hb_8 hF
        conv => whnf
        obtain rfl := Option.some.inj hF
        exact ret_gz [] [] [] rfl (argFl (by (conv => lhs; whnf); all_goals rfl)) trivial
    · replace hF := cond_f hb_7 hF
      conv => whnf
      obtain rfl := Option.some.inj hF
      exact ret_gz [] [] [] rfl (argFl (by (conv => lhs; whnf); all_goals rfl)) trivial
  · replace hF := cond_f hb_6 hF
    conv => whnf
    obtain rfl := Option.some.inj hF
    exact ret_gz [] [] [] rfl (argFl (by (conv => lhs; whnf); all_goals rfl)) trivial

set_option maxRecDepth 100000 in
set_option maxHeartbeats 40000000 in
theorem ref25_ascending_ac (x_0 : (List Int)) (r : Bool) (hF : ref25_ascending x_0 = some r) : AC Try.prog 54 [.lst 1 (x_0.map iA)] [] (.bool r) [] := by
  refine ac_of tab_ok follows_ok Try.func54 rfl Try.ntmps54 rfl ?_
  unfold ref25_ascending at hF
  conv => whnf
  obtain ⟨c_1, hc_1, hF⟩ := fin_some hF
  refine sw_bv 0 (v := .lst 1 (x_0.map iA)) (by (conv => lhs; whnf); all_goals rfl) (fun hb => ?_)
  have hbd_k_2 : x_0.length ≤ 9223372036854775807 := bnd_len (enc := iA) (hb)
  refine sw_loop tab_ok follows_ok (fun y : Nat => y ≤ x_0.length ∧ ref25_ascending_L1 x_0 (x_0.drop y) y = some c_1) (fun y => ⟨eL [(0, .lst 1 (x_0.map iA)), (3, .int .i64 (y : Int))], hL [], 0⟩) (fun y => x_0.length - y) 0 ⟨Nat.zero_le _, hc_1⟩ (wk_mk [] [] [] rfl ⟨argE (by (conv => lhs; whnf); all_goals rfl) rfl, argE (by (conv => lhs; whnf); all_goals rfl) rfl, trivial⟩ trivial) ?_
  rintro k_2 ⟨hk_k_2, hL1⟩
  try dsimp only at hk_k_2 hL1
  show awp _ _ _ _ _ _ ⟨eL [(0, .lst 1 (x_0.map iA)), (3, .int .i64 (k_2 : Int))], hL [], 0⟩
  conv => whnf
  refine len_q (enc := iA) (l := x_0) rfl ?_
  conv => whnf
  refine ⟨fun h => ?_, fun h => ?_⟩
  · have hlt_k_2 : k_2 < x_0.length := by have h := of_decide_eq_true h; omega
    obtain ⟨e_3, h_e_3⟩ : ∃ y, x_0[k_2]? = some y := ⟨_, List.getElem?_eq_getElem hlt_k_2⟩
    rw [drop_cons h_e_3, ref25_ascending_L1.eq_2] at hL1
    conv => whnf
    refine ⟨k_2, _, rfl, ix_map h_e_3, ?_⟩
    conv => whnf
    refine ⟨fun hb_17 => ?_, fun hb_17 => ?_⟩
    · replace hL1 := cond_f hb_17 hL1
      conv => whnf
      refine ⟨k_2, _, rfl, ix_map h_e_3, ?_⟩
      conv => whnf
      refine ⟨fun hb_18 => ?_, fun hb_18 => ?_⟩
      · replace hL1 := cond_f hb_18 hL1
        conv => whnf
        refine ⟨fun hb_19 => ?_, fun hb_19 => ?_⟩
        · replace hL1 := cond_t hb_19 hL1
          conv => whnf
          refine ⟨k_2, _, rfl, ix_map h_e_3, ?_⟩
          conv => whnf
          refine ⟨_, rfl, ?_⟩
          conv => whnf
          obtain ⟨e_4, h_e_4, hL1⟩ := bind_some hL1
          refine ix_q (enc := iA) (l := x_0) h_e_4 rfl (fun m_e_4 hm_e_4 hx_e_4 => ?_)
          conv => whnf
          refine ⟨by kernel_rfl, ?_⟩
          conv => whnf
          refine ⟨fun hb_20 => ?_, fun hb_20 => ?_⟩
          · replace hL1 := cond_t hb_20 hL1
            conv => whnf
            obtain rfl := Option.some.inj hL1
            replace hF := fin_ret hF
            obtain rfl := Option.some.inj hF
            exact ret_gz [] [] [] rfl (argFl (by (conv => lhs; whnf); all_goals rfl)) trivial
          · replace hL1 := cond_f hb_20 hL1
            conv => whnf
            refine ⟨((k_2 + 1 : Nat) : Int), wrapE (by omega) (by omega) (by omega), ?_⟩
            conv => whnf
            exact ⟨k_2 + 1, [], [], [], ⟨hlt_k_2, hL1⟩, by show x_0.length - (k_2 + 1) < x_0.length - k_2; omega, wk_mk [] [] [] rfl ⟨argE (by (conv => lhs; whnf); all_goals rfl) rfl, argE (by (conv => lhs; whnf); all_goals rfl) rfl, trivial⟩ trivial⟩
        · replace hL1 := cond_f hb_19 hL1
          conv => whnf
          refine ⟨by kernel_rfl, ?_⟩
          conv => whnf
          refine ⟨((k_2 + 1 : Nat) : Int), wrapE (by omega) (by omega) (by omega), ?_⟩
          conv => whnf
          exact ⟨k_2 + 1, [], [], [], ⟨hlt_k_2, hL1⟩, by show x_0.length - (k_2 + 1) < x_0.length - k_2; omega, wk_mk [] [] [] rfl ⟨argE (by (conv => lhs; whnf); all_goals rfl) rfl, argE (by (conv => lhs; whnf); all_goals rfl) rfl, trivial⟩ trivial⟩
      · replace hL1 := cond_t hb_18 hL1
        conv => whnf
        refine ⟨by kernel_rfl, ?_⟩
        conv => whnf
        obtain rfl := Option.some.inj hL1
        replace hF := fin_ret hF
        obtain rfl := Option.some.inj hF
        exact ret_gz [] [] [] rfl (argFl (by (conv => lhs; whnf); all_goals rfl)) trivial
    · replace hL1 := cond_t hb_17 hL1
      conv => whnf
      refine ⟨by kernel_rfl, ?_⟩
      conv => whnf
      obtain rfl := Option.some.inj hL1
      replace hF := fin_ret hF
      obtain rfl := Option.some.inj hF
      exact ret_gz [] [] [] rfl (argFl (by (conv => lhs; whnf); all_goals rfl)) trivial
  · rw [drop_nil (show x_0.length ≤ k_2 by have h := of_decide_eq_false h; omega), ref25_ascending_L1.eq_1] at hL1
    conv => whnf
    obtain rfl := Option.some.inj hL1
    replace hF := fin_brk hF
    try dsimp only at hF
    obtain rfl := Option.some.inj hF
    exact ret_gz [] [] [] rfl (argT (by (conv => lhs; whnf); all_goals rfl)) trivial

set_option maxRecDepth 100000 in
set_option maxHeartbeats 40000000 in
theorem ref25_in_ac (x_0 : (List Int)) (x_1 : Int) (r : Bool) (hF : ref25_in x_0 x_1 = some r) : AC Try.prog 41 [.lst 1 (x_0.map iA), .int .i64 x_1] [] (.bool r) [] := by
  refine ac_of tab_ok follows_ok Try.func41 rfl Try.ntmps41 rfl ?_
  unfold ref25_in at hF
  conv => whnf
  obtain ⟨c_1, hc_1, hF⟩ := fin_some hF
  refine sw_bv 0 (v := .lst 1 (x_0.map iA)) (by (conv => lhs; whnf); all_goals rfl) (fun hb => ?_)
  have hbd_k_2 : x_0.length ≤ 9223372036854775807 := bnd_len (enc := iA) (hb)
  refine sw_loop tab_ok follows_ok (fun y : Nat => y ≤ x_0.length ∧ ref25_in_L1 x_1 (x_0.drop y) y = some c_1) (fun y => ⟨eL [(0, .lst 1 (x_0.map iA)), (1, .int .i64 x_1), (5, .int .i64 (y : Int))], hL [], 0⟩) (fun y => x_0.length - y) 0 ⟨Nat.zero_le _, hc_1⟩ (wk_mk [] [] [] rfl ⟨argE (by (conv => lhs; whnf); all_goals rfl) rfl, argE (by (conv => lhs; whnf); all_goals rfl) rfl, argE (by (conv => lhs; whnf); all_goals rfl) rfl, trivial⟩ trivial) ?_
  rintro k_2 ⟨hk_k_2, hL1⟩
  try dsimp only at hk_k_2 hL1
  show awp _ _ _ _ _ _ ⟨eL [(0, .lst 1 (x_0.map iA)), (1, .int .i64 x_1), (5, .int .i64 (k_2 : Int))], hL [], 0⟩
  conv => whnf
  refine len_q (enc := iA) (l := x_0) rfl ?_
  conv => whnf
  refine ⟨fun h => ?_, fun h => ?_⟩
  · have hlt_k_2 : k_2 < x_0.length := by have h := of_decide_eq_true h; omega
    obtain ⟨e_3, h_e_3⟩ : ∃ y, x_0[k_2]? = some y := ⟨_, List.getElem?_eq_getElem hlt_k_2⟩
    rw [drop_cons h_e_3, ref25_in_L1.eq_2] at hL1
    conv => whnf
    refine ⟨k_2, _, rfl, ix_map h_e_3, ?_⟩
    conv => whnf
    refine ⟨fun hb_7 => ?_, fun hb_7 => ?_⟩
    · replace hL1 := cond_t hb_7 hL1
      conv => whnf
      obtain rfl := Option.some.inj hL1
      replace hF := fin_ret hF
      obtain rfl := Option.some.inj hF
      exact ret_gz [] [] [] rfl (argT (by (conv => lhs; whnf); all_goals rfl)) trivial
    · replace hL1 := cond_f hb_7 hL1
      conv => whnf
      refine ⟨((k_2 + 1 : Nat) : Int), wrapE (by omega) (by omega) (by omega), ?_⟩
      conv => whnf
      exact ⟨k_2 + 1, [], [], [], ⟨hlt_k_2, hL1⟩, by show x_0.length - (k_2 + 1) < x_0.length - k_2; omega, wk_mk [] [] [] rfl ⟨argE (by (conv => lhs; whnf); all_goals rfl) rfl, argE (by (conv => lhs; whnf); all_goals rfl) rfl, argE (by (conv => lhs; whnf); all_goals rfl) rfl, trivial⟩ trivial⟩
  · rw [drop_nil (show x_0.length ≤ k_2 by have h := of_decide_eq_false h; omega), ref25_in_L1.eq_1] at hL1
    conv => whnf
    obtain rfl := Option.some.inj hL1
    replace hF := fin_brk hF
    try dsimp only at hF
    obtain rfl := Option.some.inj hF
    exact ret_gz [] [] [] rfl (argFl (by (conv => lhs; whnf); all_goals rfl)) trivial

set_option maxRecDepth 100000 in
set_option maxHeartbeats 40000000 in
theorem ref25_Valid_ac (x_0 : Manifest) (r : Bool) (hF : ref25_Valid x_0 = some r) : AC Try.prog 36 [.agg (encManifest x_0)] [] (.bool r) [] := by
  refine ac_of tab_ok follows_ok Try.func36 rfl Try.ntmps36 rfl ?_
  unfold ref25_Valid at hF
  conv => whnf
  obtain ⟨r_1, h_r_1, hF⟩ := bind_some hF
  refine ⟨_, _, _, _, _, _, _, _, _, callX false [] [] 0 Try.func53 (by decide) rfl (ref02_Valid_ac x_0.Flight r_1 h_r_1) rfl ⟨(argE (by (conv => lhs; whnf); all_goals rfl) rfl), trivial⟩ rfl trivial rfl rfl rfl lend0 trivial rfl, ?_⟩
  conv => whnf
  refine ⟨fun hb_12 => ?_, fun hb_12 => ?_⟩
  · replace hF := cond_f hb_12 hF
    conv => whnf
    refine ⟨fun hb_13 => ?_, fun hb_13 => ?_⟩
    · replace hF := cond_f hb_13 hF
      conv => whnf
      refine ⟨fun hb_14 => ?_, fun hb_14 => ?_⟩
      · replace hF := cond_f hb_14 hF
        conv => whnf
        obtain ⟨r_2, h_r_2, hF⟩ := bind_some hF
        refine ⟨_, _, _, _, _, _, _, _, _, callX false [] [] 0 Try.func54 (by decide) rfl (ref25_ascending_ac x_0.Boarded r_2 h_r_2) rfl ⟨(argE (by (conv => lhs; whnf); all_goals rfl) rfl), trivial⟩ rfl trivial rfl rfl rfl lend0 trivial rfl, ?_⟩
        conv => whnf
        refine ⟨fun hb_15 => ?_, fun hb_15 => ?_⟩
        · replace hF := cond_f hb_15 hF
          conv => whnf
          obtain ⟨r_3, h_r_3, hF⟩ := bind_some hF
          refine ⟨_, _, _, _, _, _, _, _, _, callX false [] [] 0 Try.func54 (by decide) rfl (ref25_ascending_ac x_0.Ever r_3 h_r_3) rfl ⟨(argE (by (conv => lhs; whnf); all_goals rfl) rfl), trivial⟩ rfl trivial rfl rfl rfl lend0 trivial rfl, ?_⟩
          conv => whnf
          refine ⟨fun hb_16 => ?_, fun hb_16 => ?_⟩
          · replace hF := cond_t hb_16 hF
            conv => whnf
            obtain rfl := Option.some.inj hF
            exact ret_gz [] [] [] rfl (argFl (by (conv => lhs; whnf); all_goals rfl)) trivial
          · replace hF := cond_f hb_16 hF
            conv => whnf
            obtain ⟨c_1, hc_1, hF⟩ := fin_some hF
            refine sw_bv 0 (v := .agg [.str x_0.Flight.Carrier, .int .i64 x_0.Flight.Number, .str x_0.Flight.Suffix, .int .i64 x_0.Flight.Day, .int .i64 x_0.Version, .lst 1 (x_0.Boarded.map iA), .lst 1 (x_0.Ever.map iA)]) (by (conv => lhs; whnf); all_goals rfl) (fun hb => ?_)
            have hbd_k_5 : x_0.Boarded.length ≤ 9223372036854775807 := bnd_len (enc := iA) ((bnd_at hb.cell 5 rfl))
            refine sw_loop tab_ok follows_ok (fun y : Nat => y ≤ x_0.Boarded.length ∧ ref25_Valid_L1 x_0 (x_0.Boarded.drop y) y = some c_1) (fun y => ⟨eL [(1, .ptr 0 0), (3, .int .i64 (y : Int))], hL [(0, .box [.str x_0.Flight.Carrier, .int .i64 x_0.Flight.Number, .str x_0.Flight.Suffix, .int .i64 x_0.Flight.Day, .int .i64 x_0.Version, .lst 1 (x_0.Boarded.map iA), .lst 1 (x_0.Ever.map iA)])], 1⟩) (fun y => x_0.Boarded.length - y) 0 ⟨Nat.zero_le _, hc_1⟩ (wk_mk [0] [] [] rfl ⟨argP (id := 0) (by (conv => lhs; whnf); all_goals rfl) rfl, argE (by (conv => lhs; whnf); all_goals rfl) rfl, trivial⟩ ⟨boxL rfl rfl rfl ⟨(.ni _ rfl), (.ni _ rfl), (.ni _ rfl), (.ni _ rfl), (.ni _ rfl), (.ni _ rfl), (.ni _ rfl), trivial⟩, trivial⟩) ?_
            rintro k_5 ⟨hk_k_5, hL1⟩
            try dsimp only at hk_k_5 hL1
            show awp _ _ _ _ _ _ ⟨eL [(1, .ptr 0 0), (3, .int .i64 (k_5 : Int))], hL [(0, .box [.str x_0.Flight.Carrier, .int .i64 x_0.Flight.Number, .str x_0.Flight.Suffix, .int .i64 x_0.Flight.Day, .int .i64 x_0.Version, .lst 1 (x_0.Boarded.map iA), .lst 1 (x_0.Ever.map iA)])], 1⟩
            conv => whnf
            refine len_q (enc := iA) (l := x_0.Boarded) rfl ?_
            conv => whnf
            refine ⟨fun h => ?_, fun h => ?_⟩
            · have hlt_k_5 : k_5 < x_0.Boarded.length := by have h := of_decide_eq_true h; omega
              obtain ⟨e_6, h_e_6⟩ : ∃ y, x_0.Boarded[k_5]? = some y := ⟨_, List.getElem?_eq_getElem hlt_k_5⟩
              rw [drop_cons h_e_6, ref25_Valid_L1.eq_2] at hL1
              conv => whnf
              refine ⟨k_5, _, rfl, ix_map h_e_6, ?_⟩
              conv => whnf
              obtain ⟨r_7, h_r_7, hL1⟩ := bind_some hL1
              refine ⟨_, _, _, _, _, _, _, _, _, callX false [] [] 0 Try.func41 (by decide) rfl (ref25_in_ac x_0.Ever e_6 r_7 h_r_7) rfl ⟨(argE (by (conv => lhs; whnf); all_goals rfl) rfl), (argE (by (conv => lhs; whnf); all_goals rfl) rfl), trivial⟩ rfl trivial rfl rfl rfl lend0 trivial rfl, ?_⟩
              conv => whnf
              refine ⟨by kernel_rfl, ?_⟩
              conv => whnf
              refine ⟨fun hb_17 => ?_, fun hb_17 => ?_⟩
              · replace hL1 := cond_t hb_17 hL1
                conv => whnf
                obtain rfl := Option.some.inj hL1
                replace hF := fin_ret hF
                obtain rfl := Option.some.inj hF
                exact ret_gz [] [] [] rfl (argFl (by (conv => lhs; whnf); all_goals rfl)) trivial
              · replace hL1 := cond_f hb_17 hL1
                conv => whnf
                refine ⟨((k_5 + 1 : Nat) : Int), wrapE (by omega) (by omega) (by omega), ?_⟩
                conv => whnf
                exact ⟨k_5 + 1, [0], [], [], ⟨hlt_k_5, hL1⟩, by show x_0.Boarded.length - (k_5 + 1) < x_0.Boarded.length - k_5; omega, wk_mk [0] [] [] rfl ⟨argP (id := 0) (by (conv => lhs; whnf); all_goals rfl) rfl, argE (by (conv => lhs; whnf); all_goals rfl) rfl, trivial⟩ ⟨boxL rfl rfl rfl ⟨(.ni _ rfl), (.ni _ rfl), (.ni _ rfl), (.ni _ rfl), (.ni _ rfl), (.ni _ rfl), (.ni _ rfl), trivial⟩, trivial⟩⟩
            · rw [drop_nil (show x_0.Boarded.length ≤ k_5 by have h := of_decide_eq_false h; omega), ref25_Valid_L1.eq_1] at hL1
              conv => whnf
              obtain rfl := Option.some.inj hL1
              replace hF := fin_brk hF
              try dsimp only at hF
              obtain rfl := Option.some.inj hF
              exact ret_gz [] [] [] rfl (argT (by (conv => lhs; whnf); all_goals rfl)) trivial
        · replace hF := cond_t hb_15 hF
          conv => whnf
          obtain rfl := Option.some.inj hF
          exact ret_gz [] [] [] rfl (argFl (by (conv => lhs; whnf); all_goals rfl)) trivial
      · replace hF := cond_t hb_14 hF
        conv => whnf
        obtain rfl := Option.some.inj hF
        exact ret_gz [] [] [] rfl (argFl (by (conv => lhs; whnf); all_goals rfl)) trivial
    · replace hF := cond_t hb_13 hF
      conv => whnf
      obtain rfl := Option.some.inj hF
      exact ret_gz [] [] [] rfl (argFl (by (conv => lhs; whnf); all_goals rfl)) trivial
  · replace hF := cond_t hb_12 hF
    conv => whnf
    obtain rfl := Option.some.inj hF
    exact ret_gz [] [] [] rfl (argFl (by (conv => lhs; whnf); all_goals rfl)) trivial

set_option maxRecDepth 100000 in
set_option maxHeartbeats 40000000 in
theorem ref02_Compare_ac (x_0 : Flight) (x_1 : Flight) (r : Int) (hF : ref02_Compare x_0 x_1 = some r) : AC Try.prog 37 [.agg (encFlight x_0), .agg (encFlight x_1)] [] (.int .i64 r) [] := by
  refine ac_of tab_ok follows_ok Try.func37 rfl Try.ntmps37 rfl ?_
  unfold ref02_Compare at hF
  conv => whnf
  refine ⟨fun hb_9 => ?_, fun hb_9 => ?_⟩
  · replace hF := cond_t hb_9 hF
    conv => whnf
    obtain rfl := Option.some.inj hF
    exact ret_gz [] [] [] rfl (argE (by (conv => lhs; whnf); all_goals rfl) rfl) trivial
  · replace hF := cond_f hb_9 hF
    conv => whnf
    refine ⟨fun hb_10 => ?_, fun hb_10 => ?_⟩
    · replace hF := cond_t hb_10 hF
      conv => whnf
      refine ⟨fun hb_11 => ?_, fun hb_11 => ?_⟩
      · replace hF := cond_t hb_11 hF
        conv => whnf
        obtain rfl := Option.some.inj hF
        exact ret_gz [] [] [] rfl (argE (by (conv => lhs; whnf); all_goals rfl) rfl) trivial
      · replace hF := cond_f hb_11 hF
        conv => whnf
        obtain rfl := Option.some.inj hF
        exact ret_gz [] [] [] rfl (argE (by (conv => lhs; whnf); all_goals rfl) rfl) trivial
    · replace hF := cond_f hb_10 hF
      conv => whnf
      refine ⟨fun hb_12 => ?_, fun hb_12 => ?_⟩
      · replace hF := cond_t hb_12 hF
        conv => whnf
        refine ⟨fun hb_13 => ?_, fun hb_13 => ?_⟩
        · replace hF := cond_t hb_13 hF
          conv => whnf
          obtain rfl := Option.some.inj hF
          exact ret_gz [] [] [] rfl (argE (by (conv => lhs; whnf); all_goals rfl) rfl) trivial
        · replace hF := cond_f hb_13 hF
          conv => whnf
          obtain rfl := Option.some.inj hF
          exact ret_gz [] [] [] rfl (argE (by (conv => lhs; whnf); all_goals rfl) rfl) trivial
      · replace hF := cond_f hb_12 hF
        conv => whnf
        refine ⟨fun hb_14 => ?_, fun hb_14 => ?_⟩
        · replace hF := cond_t hb_14 hF
          conv => whnf
          refine ⟨fun hb_15 => ?_, fun hb_15 => ?_⟩
          · replace hF := cond_t hb_15 hF
            conv => whnf
            obtain rfl := Option.some.inj hF
            exact ret_gz [] [] [] rfl (argE (by (conv => lhs; whnf); all_goals rfl) rfl) trivial
          · replace hF := cond_f hb_15 hF
            conv => whnf
            obtain rfl := Option.some.inj hF
            exact ret_gz [] [] [] rfl (argE (by (conv => lhs; whnf); all_goals rfl) rfl) trivial
        · replace hF := cond_f hb_14 hF
          conv => whnf
          refine ⟨fun hb_16 => ?_, fun hb_16 => ?_⟩
          · replace hF := cond_t hb_16 hF
            conv => whnf
            obtain rfl := Option.some.inj hF
            exact ret_gz [] [] [] rfl (argE (by (conv => lhs; whnf); all_goals rfl) rfl) trivial
          · replace hF := cond_f hb_16 hF
            conv => whnf
            obtain rfl := Option.some.inj hF
            exact ret_gz [] [] [] rfl (argE (by (conv => lhs; whnf); all_goals rfl) rfl) trivial

set_option maxRecDepth 100000 in
set_option maxHeartbeats 40000000 in
theorem ref25_Validate_ac (x_0 : (List Manifest)) (r : Int) (hF : ref25_Validate x_0 = some r) : AC Try.prog 15 [.lst 7 (x_0.map encManifest)] [] (.int .i64 r) [] := by
  refine ac_of tab_ok follows_ok Try.func15 rfl Try.ntmps15 rfl ?_
  unfold ref25_Validate at hF
  conv => whnf
  refine len_q (enc := encManifest) (l := x_0) rfl ?_
  conv => whnf
  refine ⟨fun hb_14 => ?_, fun hb_14 => ?_⟩
  · replace hF := cond_t hb_14 hF
    conv => whnf
    obtain rfl := Option.some.inj hF
    exact ret_gz [] [] [] rfl (argE (by (conv => lhs; whnf); all_goals rfl) rfl) trivial
  · replace hF := cond_f hb_14 hF
    conv => whnf
    obtain ⟨c_1, hc_1, hF⟩ := fin_some hF
    refine sw_bv 0 (v := .lst 7 (x_0.map encManifest)) (by (conv => lhs; whnf); all_goals rfl) (fun hb => ?_)
    have hbd_k_2 : x_0.length ≤ 9223372036854775807 := bnd_len (enc := encManifest) (hb)
    refine sw_loop tab_ok follows_ok (fun y : Nat => y ≤ x_0.length ∧ ref25_Validate_L1 x_0 (x_0.drop y) y = some c_1) (fun y => ⟨eL [(0, .lst 7 (x_0.map encManifest)), (3, .int .i64 (y : Int))], hL [], 0⟩) (fun y => x_0.length - y) 0 ⟨Nat.zero_le _, hc_1⟩ (wk_mk [] [] [] rfl ⟨argE (by (conv => lhs; whnf); all_goals rfl) rfl, argE (by (conv => lhs; whnf); all_goals rfl) rfl, trivial⟩ trivial) ?_
    rintro k_2 ⟨hk_k_2, hL1⟩
    try dsimp only at hk_k_2 hL1
    show awp _ _ _ _ _ _ ⟨eL [(0, .lst 7 (x_0.map encManifest)), (3, .int .i64 (k_2 : Int))], hL [], 0⟩
    conv => whnf
    refine len_q (enc := encManifest) (l := x_0) rfl ?_
    conv => whnf
    refine ⟨fun h => ?_, fun h => ?_⟩
    · have hlt_k_2 : k_2 < x_0.length := by have h := of_decide_eq_true h; omega
      obtain ⟨e_3, h_e_3⟩ : ∃ y, x_0[k_2]? = some y := ⟨_, List.getElem?_eq_getElem hlt_k_2⟩
      rw [drop_cons h_e_3, ref25_Validate_L1.eq_2] at hL1
      conv => whnf
      refine ⟨k_2, _, rfl, ix_map h_e_3, ?_⟩
      conv => whnf
      obtain ⟨r_4, h_r_4, hL1⟩ := bind_some hL1
      refine ⟨_, _, _, _, _, _, _, _, _, callX false [] [] 0 Try.func36 (by decide) rfl (ref25_Valid_ac e_3 r_4 h_r_4) rfl ⟨(argE (by (conv => lhs; whnf); all_goals rfl) rfl), trivial⟩ rfl trivial rfl rfl rfl lend0 trivial rfl, ?_⟩
      conv => whnf
      refine ⟨fun hb_15 => ?_, fun hb_15 => ?_⟩
      · replace hL1 := cond_t hb_15 hL1
        conv => whnf
        obtain rfl := Option.some.inj hL1
        replace hF := fin_ret hF
        obtain rfl := Option.some.inj hF
        exact ret_gz [] [] [] rfl (argE (by (conv => lhs; whnf); all_goals rfl) rfl) trivial
      · replace hL1 := cond_f hb_15 hL1
        conv => whnf
        refine ⟨fun hb_16 => ?_, fun hb_16 => ?_⟩
        · replace hL1 := cond_t hb_16 hL1
          conv => whnf
          refine ⟨_, rfl, ?_⟩
          conv => whnf
          obtain ⟨e_5, h_e_5, hL1⟩ := bind_some hL1
          refine ix_q (enc := encManifest) (l := x_0) h_e_5 rfl (fun m_e_5 hm_e_5 hx_e_5 => ?_)
          conv => whnf
          refine ⟨k_2, _, rfl, ix_map h_e_3, ?_⟩
          conv => whnf
          obtain ⟨r_6, h_r_6, hL1⟩ := bind_some hL1
          refine ⟨_, _, _, _, _, _, _, _, _, callX false [] [] 0 Try.func37 (by decide) rfl (ref02_Compare_ac e_5.Flight e_3.Flight r_6 h_r_6) rfl ⟨(argE (by (conv => lhs; whnf); all_goals rfl) rfl), (argE (by (conv => lhs; whnf); all_goals rfl) rfl), trivial⟩ rfl trivial rfl rfl rfl lend0 trivial rfl, ?_⟩
          conv => whnf
          refine ⟨by kernel_rfl, ?_⟩
          conv => whnf
          refine ⟨fun hb_17 => ?_, fun hb_17 => ?_⟩
          · replace hL1 := cond_t hb_17 hL1
            conv => whnf
            obtain rfl := Option.some.inj hL1
            replace hF := fin_ret hF
            obtain rfl := Option.some.inj hF
            exact ret_gz [] [] [] rfl (argE (by (conv => lhs; whnf); all_goals rfl) rfl) trivial
          · replace hL1 := cond_f hb_17 hL1
            conv => whnf
            refine ⟨((k_2 + 1 : Nat) : Int), wrapE (by omega) (by omega) (by omega), ?_⟩
            conv => whnf
            exact ⟨k_2 + 1, [], [], [], ⟨hlt_k_2, hL1⟩, by show x_0.length - (k_2 + 1) < x_0.length - k_2; omega, wk_mk [] [] [] rfl ⟨argE (by (conv => lhs; whnf); all_goals rfl) rfl, argE (by (conv => lhs; whnf); all_goals rfl) rfl, trivial⟩ trivial⟩
        · replace hL1 := cond_f hb_16 hL1
          conv => whnf
          refine ⟨by kernel_rfl, ?_⟩
          conv => whnf
          refine ⟨((k_2 + 1 : Nat) : Int), wrapE (by omega) (by omega) (by omega), ?_⟩
          conv => whnf
          exact ⟨k_2 + 1, [], [], [], ⟨hlt_k_2, hL1⟩, by show x_0.length - (k_2 + 1) < x_0.length - k_2; omega, wk_mk [] [] [] rfl ⟨argE (by (conv => lhs; whnf); all_goals rfl) rfl, argE (by (conv => lhs; whnf); all_goals rfl) rfl, trivial⟩ trivial⟩
    · rw [drop_nil (show x_0.length ≤ k_2 by have h := of_decide_eq_false h; omega), ref25_Validate_L1.eq_1] at hL1
      conv => whnf
      obtain rfl := Option.some.inj hL1
      replace hF := fin_brk hF
      try dsimp only at hF
      obtain rfl := Option.some.inj hF
      exact ret_gz [] [] [] rfl (argE (by (conv => lhs; whnf); all_goals rfl) rfl) trivial

set_option maxRecDepth 100000 in
set_option maxHeartbeats 40000000 in
theorem law25_list_ac (x_0 : Int) (x_1 : (List Int)) (r : Message) (hF : law25_list x_0 x_1 = some r) : AC Try.prog 24 [.int .i64 x_0, .lst 1 (x_1.map iA)] [] (.agg (encMessage r)) [] := by
  refine ac_of tab_ok follows_ok Try.func24 rfl Try.ntmps24 rfl ?_
  unfold law25_list at hF
  conv => whnf
  obtain ⟨r_1, h_r_1, hF⟩ := bind_some hF
  refine ⟨_, _, _, _, _, _, _, _, _, callX false [] [] 0 Try.func17 (by decide) rfl (keep_Flights_ac (0 : Int) r_1 h_r_1) rfl ⟨(argE (by (conv => lhs; whnf); all_goals rfl) rfl), trivial⟩ rfl trivial rfl rfl rfl lend0 trivial rfl, ?_⟩
  conv => whnf
  obtain rfl := Option.some.inj hF
  exact ret_gz [] [] [] rfl (argA (c := [.int .i64 (5 : Int), .int .i64 (0 : Int), .str (⟨#[67, 80, 72]⟩ : ByteArray), .int .i64 x_0, .str (⟨#[]⟩ : ByteArray), .int .i64 (0 : Int), .str (⟨#[]⟩ : ByteArray), .int .i64 (0 : Int), .str (⟨#[]⟩ : ByteArray), .str (⟨#[]⟩ : ByteArray), .str r_1.Carrier, .int .i64 r_1.Number, .str r_1.Suffix, .int .i64 r_1.Day, .str (⟨#[76, 72, 82]⟩ : ByteArray), .str (⟨#[89]⟩ : ByteArray), .nils, .int .i64 (0 : Int), .int .i64 (0 : Int), .int .i64 (0 : Int), .int .i64 (0 : Int), .fls, .int .i64 (0 : Int), .int .i64 (0 : Int), .int .i64 (0 : Int), .str (⟨#[]⟩ : ByteArray), .str (⟨#[]⟩ : ByteArray), .int .i64 (0 : Int), .str (⟨#[]⟩ : ByteArray), .lst 1 (x_1.map iA)]) (by (conv => lhs; whnf); all_goals rfl) rfl ⟨(.ni _ rfl), (.ni _ rfl), (.ni _ rfl), (.ni _ rfl), (.ni _ rfl), (.ni _ rfl), (.ni _ rfl), (.ni _ rfl), (.ni _ rfl), (.ni _ rfl), (.ni _ rfl), (.ni _ rfl), (.ni _ rfl), (.ni _ rfl), (.ni _ rfl), (.ni _ rfl), (.nils _), (.ni _ rfl), (.ni _ rfl), (.ni _ rfl), (.ni _ rfl), .fls, (.ni _ rfl), (.ni _ rfl), (.ni _ rfl), (.ni _ rfl), (.ni _ rfl), (.ni _ rfl), (.ni _ rfl), (.ni _ rfl), trivial⟩) trivial

set_option maxRecDepth 100000 in
set_option maxHeartbeats 40000000 in
theorem slices_Index_int_ac (x_0 : (List Int)) (x_1 : Int) (r : Int) (hF : slices_Index_int x_0 x_1 = some r) : AC Try.prog 55 [.lst 1 (x_0.map iA), .int .i64 x_1] [] (.int .i64 r) [] := by
  refine ac_of tab_ok follows_ok Try.func55 rfl Try.ntmps55 rfl ?_
  unfold slices_Index_int at hF
  conv => whnf
  refine len_q (enc := iA) (l := x_0) rfl ?_
  conv => whnf
  obtain ⟨c_1, hc_1, hF⟩ := fin_some hF
  refine sw_bv 0 (v := .lst 1 (x_0.map iA)) (by (conv => lhs; whnf); all_goals rfl) (fun hb => ?_)
  have hbd_k_2 : x_0.length ≤ 9223372036854775807 := bnd_len (enc := iA) (hb)
  refine sw_loop tab_ok follows_ok (fun y : Nat => y ≤ x_0.length ∧ slices_Index_int_L1 x_1 (x_0.drop y) y = some c_1) (fun y => ⟨eL [(0, .lst 1 (x_0.map iA)), (1, .int .i64 x_1), (7, .int .i64 (x_0.length : Int)), (8, .int .i64 (y : Int))], hL [], 0⟩) (fun y => x_0.length - y) 0 ⟨Nat.zero_le _, hc_1⟩ (wk_mk [] [] [] rfl ⟨argE (by (conv => lhs; whnf); all_goals rfl) rfl, argE (by (conv => lhs; whnf); all_goals rfl) rfl, argE (by (conv => lhs; whnf); all_goals rfl) rfl, argE (by (conv => lhs; whnf); all_goals rfl) rfl, trivial⟩ trivial) ?_
  rintro k_2 ⟨hk_k_2, hL1⟩
  try dsimp only at hk_k_2 hL1
  show awp _ _ _ _ _ _ ⟨eL [(0, .lst 1 (x_0.map iA)), (1, .int .i64 x_1), (7, .int .i64 (x_0.length : Int)), (8, .int .i64 (k_2 : Int))], hL [], 0⟩
  conv => whnf
  refine ⟨fun h => ?_, fun h => ?_⟩
  · have hlt_k_2 : k_2 < x_0.length := by have h := of_decide_eq_true h; omega
    obtain ⟨e_3, h_e_3⟩ : ∃ y, x_0[k_2]? = some y := ⟨_, List.getElem?_eq_getElem hlt_k_2⟩
    rw [drop_cons h_e_3, slices_Index_int_L1.eq_2] at hL1
    conv => whnf
    refine ⟨k_2, _, rfl, ix_map h_e_3, ?_⟩
    conv => whnf
    refine ⟨fun hb_7 => ?_, fun hb_7 => ?_⟩
    · replace hL1 := cond_t hb_7 hL1
      conv => whnf
      obtain rfl := Option.some.inj hL1
      replace hF := fin_ret hF
      obtain rfl := Option.some.inj hF
      exact ret_gz [] [] [] rfl (argE (by (conv => lhs; whnf); all_goals rfl) rfl) trivial
    · replace hL1 := cond_f hb_7 hL1
      conv => whnf
      refine ⟨((k_2 + 1 : Nat) : Int), wrapE (by omega) (by omega) (by omega), ?_⟩
      conv => whnf
      exact ⟨k_2 + 1, [], [], [], ⟨hlt_k_2, hL1⟩, by show x_0.length - (k_2 + 1) < x_0.length - k_2; omega, wk_mk [] [] [] rfl ⟨argE (by (conv => lhs; whnf); all_goals rfl) rfl, argE (by (conv => lhs; whnf); all_goals rfl) rfl, argE (by (conv => lhs; whnf); all_goals rfl) rfl, argE (by (conv => lhs; whnf); all_goals rfl) rfl, trivial⟩ trivial⟩
  · rw [drop_nil (show x_0.length ≤ k_2 by have h := of_decide_eq_false h; omega), slices_Index_int_L1.eq_1] at hL1
    conv => whnf
    obtain rfl := Option.some.inj hL1
    replace hF := fin_brk hF
    try dsimp only at hF
    obtain rfl := Option.some.inj hF
    exact ret_gz [] [] [] rfl (argE (by (conv => lhs; whnf); all_goals rfl) rfl) trivial

set_option maxRecDepth 100000 in
set_option maxHeartbeats 40000000 in
theorem slices_Contains_int_ac (x_0 : (List Int)) (x_1 : Int) (r : Bool) (hF : slices_Contains_int x_0 x_1 = some r) : AC Try.prog 39 [.lst 1 (x_0.map iA), .int .i64 x_1] [] (.bool r) [] := by
  refine ac_of tab_ok follows_ok Try.func39 rfl Try.ntmps39 rfl ?_
  unfold slices_Contains_int at hF
  conv => whnf
  obtain ⟨r_1, h_r_1, hF⟩ := bind_some hF
  refine ⟨_, _, _, _, _, _, _, _, _, callX false [] [] 0 Try.func55 (by decide) rfl (slices_Index_int_ac x_0 x_1 r_1 h_r_1) rfl ⟨(argE (by (conv => lhs; whnf); all_goals rfl) rfl), (argE (by (conv => lhs; whnf); all_goals rfl) rfl), trivial⟩ rfl trivial rfl rfl rfl lend0 trivial rfl, ?_⟩
  conv => whnf
  obtain rfl := Option.some.inj hF
  exact ret_gz [] [] [] rfl (argE (by (conv => lhs; whnf); all_goals rfl) rfl) trivial

set_option maxRecDepth 100000 in
set_option maxHeartbeats 40000000 in
theorem boarding_Status_ac (x_0 : (List Manifest)) (x_1 : Flight) (x_2 : Int) (x_3 : Int) (r : Int) (hF : boarding_Status x_0 x_1 x_2 x_3 = some r) : AC Try.prog 18 [.lst 7 (x_0.map encManifest), .agg (encFlight x_1), .int .i64 x_2, .int .i64 x_3] [] (.int .i64 r) [] := by
  refine ac_of tab_ok follows_ok Try.func18 rfl Try.ntmps18 rfl ?_
  unfold boarding_Status at hF
  conv => whnf
  refine len_q (enc := encManifest) (l := x_0) rfl ?_
  conv => whnf
  obtain ⟨c_1, hc_1, hF⟩ := fin_some hF
  refine sw_bv 0 (v := .lst 7 (x_0.map encManifest)) (by (conv => lhs; whnf); all_goals rfl) (fun hb => ?_)
  have hbd_k_2 : x_0.length ≤ 9223372036854775807 := bnd_len (enc := encManifest) (hb)
  refine sw_loop tab_ok follows_ok (fun y : Nat => y ≤ x_0.length ∧ boarding_Status_L1 x_1 x_2 x_3 (x_0.drop y) y = some c_1) (fun y => ⟨eL [(2, .int .i64 x_2), (3, .int .i64 x_3), (5, .ptr 0 0), (11, .lst 7 (x_0.map encManifest)), (12, .int .i64 (x_0.length : Int)), (13, .int .i64 (y : Int))], hL [(0, .box [.str x_1.Carrier, .int .i64 x_1.Number, .str x_1.Suffix, .int .i64 x_1.Day])], 1⟩) (fun y => x_0.length - y) 0 ⟨Nat.zero_le _, hc_1⟩ (wk_mk [0] [] [] rfl ⟨argE (by (conv => lhs; whnf); all_goals rfl) rfl, argE (by (conv => lhs; whnf); all_goals rfl) rfl, argP (id := 0) (by (conv => lhs; whnf); all_goals rfl) rfl, argE (by (conv => lhs; whnf); all_goals rfl) rfl, argE (by (conv => lhs; whnf); all_goals rfl) rfl, argE (by (conv => lhs; whnf); all_goals rfl) rfl, trivial⟩ ⟨boxL rfl rfl rfl ⟨(.ni _ rfl), (.ni _ rfl), (.ni _ rfl), (.ni _ rfl), trivial⟩, trivial⟩) ?_
  rintro k_2 ⟨hk_k_2, hL1⟩
  try dsimp only at hk_k_2 hL1
  show awp _ _ _ _ _ _ ⟨eL [(2, .int .i64 x_2), (3, .int .i64 x_3), (5, .ptr 0 0), (11, .lst 7 (x_0.map encManifest)), (12, .int .i64 (x_0.length : Int)), (13, .int .i64 (k_2 : Int))], hL [(0, .box [.str x_1.Carrier, .int .i64 x_1.Number, .str x_1.Suffix, .int .i64 x_1.Day])], 1⟩
  conv => whnf
  refine ⟨fun h => ?_, fun h => ?_⟩
  · have hlt_k_2 : k_2 < x_0.length := by have h := of_decide_eq_true h; omega
    obtain ⟨e_3, h_e_3⟩ : ∃ y, x_0[k_2]? = some y := ⟨_, List.getElem?_eq_getElem hlt_k_2⟩
    rw [drop_cons h_e_3, boarding_Status_L1.eq_2] at hL1
    conv => whnf
    refine ⟨k_2, _, rfl, ix_map h_e_3, ?_⟩
    conv => whnf
    refine ⟨fun hb_15 => ?_, fun hb_15 => ?_⟩
    · replace hL1 := cond_t hb_15 hL1
      conv => whnf
      refine ⟨((k_2 + 1 : Nat) : Int), wrapE (by omega) (by omega) (by omega), ?_⟩
      conv => whnf
      exact ⟨k_2 + 1, [0], [], [], ⟨hlt_k_2, hL1⟩, by show x_0.length - (k_2 + 1) < x_0.length - k_2; omega, wk_mk [0] [] [] rfl ⟨argE (by (conv => lhs; whnf); all_goals rfl) rfl, argE (by (conv => lhs; whnf); all_goals rfl) rfl, argP (id := 0) (by (conv => lhs; whnf); all_goals rfl) rfl, argE (by (conv => lhs; whnf); all_goals rfl) rfl, argE (by (conv => lhs; whnf); all_goals rfl) rfl, argE (by (conv => lhs; whnf); all_goals rfl) rfl, trivial⟩ ⟨boxL rfl rfl rfl ⟨(.ni _ rfl), (.ni _ rfl), (.ni _ rfl), (.ni _ rfl), trivial⟩, trivial⟩⟩
    · replace hL1 := cond_f hb_15 hL1
      conv => whnf
      obtain ⟨r_4, h_r_4, hL1⟩ := bind_some hL1
      refine ⟨_, _, _, _, _, _, _, _, _, callX false [] [] 0 Try.func39 (by decide) rfl (slices_Contains_int_ac e_3.Boarded x_2 r_4 h_r_4) rfl ⟨(argE (by (conv => lhs; whnf); all_goals rfl) rfl), (argE (by (conv => lhs; whnf); all_goals rfl) rfl), trivial⟩ rfl trivial rfl rfl rfl lend0 trivial rfl, ?_⟩
      conv => whnf
      refine ⟨fun hb_16 => ?_, fun hb_16 => ?_⟩
      · replace hL1 := cond_t hb_16 hL1
        conv => whnf
        obtain rfl := Option.some.inj hL1
        replace hF := fin_ret hF
        obtain rfl := Option.some.inj hF
        exact ret_gz [] [] [] rfl (argE (by (conv => lhs; whnf); all_goals rfl) rfl) trivial
      · replace hL1 := cond_f hb_16 hL1
        conv => whnf
        obtain ⟨r_5, h_r_5, hL1⟩ := bind_some hL1
        refine ⟨_, _, _, _, _, _, _, _, _, callX false [] [] 0 Try.func39 (by decide) rfl (slices_Contains_int_ac e_3.Ever x_2 r_5 h_r_5) rfl ⟨(argE (by (conv => lhs; whnf); all_goals rfl) rfl), (argE (by (conv => lhs; whnf); all_goals rfl) rfl), trivial⟩ rfl trivial rfl rfl rfl lend0 trivial rfl, ?_⟩
        conv => whnf
        refine ⟨fun hb_17 => ?_, fun hb_17 => ?_⟩
        · replace hL1 := cond_t hb_17 hL1
          conv => whnf
          obtain rfl := Option.some.inj hL1
          replace hF := fin_ret hF
          obtain rfl := Option.some.inj hF
          exact ret_gz [] [] [] rfl (argE (by (conv => lhs; whnf); all_goals rfl) rfl) trivial
        · replace hL1 := cond_f hb_17 hL1
          conv => whnf
          obtain rfl := Option.some.inj hL1
          replace hF := fin_ret hF
          obtain rfl := Option.some.inj hF
          exact ret_gz [] [] [] rfl (argE (by (conv => lhs; whnf); all_goals rfl) rfl) trivial
  · rw [drop_nil (show x_0.length ≤ k_2 by have h := of_decide_eq_false h; omega), boarding_Status_L1.eq_1] at hL1
    conv => whnf
    obtain rfl := Option.some.inj hL1
    replace hF := fin_brk hF
    try dsimp only at hF
    obtain rfl := Option.some.inj hF
    exact ret_gz [] [] [] rfl (argE (by (conv => lhs; whnf); all_goals rfl) rfl) trivial

set_option maxRecDepth 100000 in
set_option maxHeartbeats 40000000 in
theorem law25_awake_ac (r : Bool) (hF : law25_awake = some r) : AC Try.prog 20 [] [] (.bool r) [] := by
  refine ac_of tab_ok follows_ok Try.func20 rfl Try.ntmps20 rfl ?_
  unfold law25_awake at hF
  conv => whnf
  obtain ⟨r_1, h_r_1, hF⟩ := bind_some hF
  refine ⟨_, _, _, _, _, _, _, _, _, callX true [] [0] 0 Try.func24 (by decide) rfl (law25_list_ac (1 : Int) ([(3 : Int), (5 : Int)] : List Int) r_1 h_r_1) rfl ⟨(argE (by (conv => lhs; whnf); all_goals rfl) rfl), (argOL 0 (by (conv => lhs; whnf); all_goals rfl) rfl rfl (map_ni (fun _ => ⟨rfl, rfl⟩) _)), trivial⟩ rfl trivial rfl rfl rfl giveU trivial rfl, ?_⟩
  conv => whnf
  obtain ⟨r_2, h_r_2, hF⟩ := bind_some hF
  refine ⟨_, _, _, _, _, _, _, _, _, callX false [] [] 0 Try.func25 (by decide) rfl (boarding_Apply_ac ([] : (List Manifest)) r_1 r_2 h_r_2) rfl ⟨(argN (by (conv => lhs; whnf); all_goals rfl)), (argE (by (conv => lhs; whnf); all_goals rfl) rfl), trivial⟩ rfl trivial rfl rfl rfl lend0 trivial rfl, ?_⟩
  conv => whnf
  obtain ⟨r_3, h_r_3, hF⟩ := bind_some hF
  refine ⟨_, _, _, _, _, _, _, _, _, callX true [] [3] 0 Try.func24 (by decide) rfl (law25_list_ac (2 : Int) ([(3 : Int), (8 : Int)] : List Int) r_3 h_r_3) rfl ⟨(argE (by (conv => lhs; whnf); all_goals rfl) rfl), (argOL 3 (by (conv => lhs; whnf); all_goals rfl) rfl rfl (map_ni (fun _ => ⟨rfl, rfl⟩) _)), trivial⟩ rfl trivial rfl rfl rfl giveU trivial rfl, ?_⟩
  conv => whnf
  obtain ⟨r_4, h_r_4, hF⟩ := bind_some hF
  refine ⟨_, _, _, _, _, _, _, _, _, callX false [] [] 0 Try.func25 (by decide) rfl (boarding_Apply_ac r_2.1 r_3 r_4 h_r_4) rfl ⟨(argE (by (conv => lhs; whnf); all_goals rfl) rfl), (argE (by (conv => lhs; whnf); all_goals rfl) rfl), trivial⟩ rfl trivial rfl rfl rfl lend0 trivial rfl, ?_⟩
  conv => whnf
  obtain ⟨r_5, h_r_5, hF⟩ := bind_some hF
  refine ⟨_, _, _, _, _, _, _, _, _, callX true [] [6] 0 Try.func24 (by decide) rfl (law25_list_ac (2 : Int) ([(3 : Int)] : List Int) r_5 h_r_5) rfl ⟨(argE (by (conv => lhs; whnf); all_goals rfl) rfl), (argOL 6 (by (conv => lhs; whnf); all_goals rfl) rfl rfl (map_ni (fun _ => ⟨rfl, rfl⟩) _)), trivial⟩ rfl trivial rfl rfl rfl giveU trivial rfl, ?_⟩
  conv => whnf
  obtain ⟨r_6, h_r_6, hF⟩ := bind_some hF
  refine ⟨_, _, _, _, _, _, _, _, _, callX false [] [] 0 Try.func25 (by decide) rfl (boarding_Apply_ac r_4.1 r_5 r_6 h_r_6) rfl ⟨(argE (by (conv => lhs; whnf); all_goals rfl) rfl), (argE (by (conv => lhs; whnf); all_goals rfl) rfl), trivial⟩ rfl trivial rfl rfl rfl lend0 trivial rfl, ?_⟩
  conv => whnf
  obtain ⟨r_7, h_r_7, hF⟩ := bind_some hF
  refine ⟨_, _, _, _, _, _, _, _, _, callX false [] [] 0 Try.func17 (by decide) rfl (keep_Flights_ac (0 : Int) r_7 h_r_7) rfl ⟨(argE (by (conv => lhs; whnf); all_goals rfl) rfl), trivial⟩ rfl trivial rfl rfl rfl lend0 trivial rfl, ?_⟩
  conv => whnf
  obtain ⟨r_8, h_r_8, hF⟩ := bind_some hF
  refine ⟨_, _, _, _, _, _, _, _, _, callX false [] [] 0 Try.func18 (by decide) rfl (boarding_Status_ac r_4.1 r_7 (5 : Int) (1 : Int) r_8 h_r_8) rfl ⟨(argE (by (conv => lhs; whnf); all_goals rfl) rfl), (argE (by (conv => lhs; whnf); all_goals rfl) rfl), (argE (by (conv => lhs; whnf); all_goals rfl) rfl), (argE (by (conv => lhs; whnf); all_goals rfl) rfl), trivial⟩ rfl trivial rfl rfl rfl lend0 trivial rfl, ?_⟩
  conv => whnf
  refine ⟨fun hb_7 => ?_, fun hb_7 => ?_⟩
  · replace hF := cond_t hb_7 hF
    conv => whnf
    refine ⟨fun hb_8 => ?_, fun hb_8 => ?_⟩
    · replace hF := cond_t hb_8 hF
      conv => whnf
      refine ⟨fun hb_9 => ?_, fun hb_9 => ?_⟩
      · replace hF := cond_t hb_9 hF
        conv => whnf
        refine len_q (enc := encManifest) (l := r_4.1) rfl ?_
        conv => whnf
        refine ⟨fun hb_10 => ?_, fun hb_10 => ?_⟩
        · replace hF := cond_t hb_10 hF
          conv => whnf
          obtain ⟨e_9, h_e_9, hF⟩ := bind_some hF
          refine ix_q (enc := encManifest) (l := r_4.1) h_e_9 rfl (fun m_e_9 hm_e_9 hx_e_9 => ?_)
          conv => whnf
          refine ⟨fun hb_11 => ?_, fun hb_11 => ?_⟩
          · replace hF := cond_t hb_11 hF
            conv => whnf
            refine ⟨fun hb_12 => ?_, fun hb_12 => ?_⟩
            · replace hF := cond_t hb_12 hF
              conv => whnf
              obtain ⟨r_10, h_r_10, hF⟩ := bind_some hF
              refine ⟨_, _, _, _, _, _, _, _, _, callX false [] [] 0 Try.func17 (by decide) rfl (keep_Flights_ac (0 : Int) r_10 h_r_10) rfl ⟨(argE (by (conv => lhs; whnf); all_goals rfl) rfl), trivial⟩ rfl trivial rfl rfl rfl lend0 trivial rfl, ?_⟩
              conv => whnf
              obtain ⟨r_11, h_r_11, hF⟩ := bind_some hF
              refine ⟨_, _, _, _, _, _, _, _, _, callX false [] [] 0 Try.func18 (by decide) rfl (boarding_Status_ac r_4.1 r_10 (8 : Int) (0 : Int) r_11 h_r_11) rfl ⟨(argE (by (conv => lhs; whnf); all_goals rfl) rfl), (argE (by (conv => lhs; whnf); all_goals rfl) rfl), (argE (by (conv => lhs; whnf); all_goals rfl) rfl), (argE (by (conv => lhs; whnf); all_goals rfl) rfl), trivial⟩ rfl trivial rfl rfl rfl lend0 trivial rfl, ?_⟩
              conv => whnf
              obtain rfl := Option.some.inj hF
              exact ret_gz [] [] [] rfl (argE (by (conv => lhs; whnf); all_goals rfl) rfl) trivial
            · replace hF := cond_f hb_12 hF
              conv => whnf
              obtain rfl := Option.some.inj hF
              exact ret_gz [] [] [] rfl (argFl (by (conv => lhs; whnf); all_goals rfl)) trivial
          · replace hF := cond_f hb_11 hF
            conv => whnf
            obtain rfl := Option.some.inj hF
            exact ret_gz [] [] [] rfl (argFl (by (conv => lhs; whnf); all_goals rfl)) trivial
        · replace hF := cond_f hb_10 hF
          conv => whnf
          obtain rfl := Option.some.inj hF
          exact ret_gz [] [] [] rfl (argFl (by (conv => lhs; whnf); all_goals rfl)) trivial
      · replace hF := cond_f hb_9 hF
        conv => whnf
        obtain rfl := Option.some.inj hF
        exact ret_gz [] [] [] rfl (argFl (by (conv => lhs; whnf); all_goals rfl)) trivial
    · replace hF := cond_f hb_8 hF
      conv => whnf
      obtain rfl := Option.some.inj hF
      exact ret_gz [] [] [] rfl (argFl (by (conv => lhs; whnf); all_goals rfl)) trivial
  · replace hF := cond_f hb_7 hF
    conv => whnf
    obtain rfl := Option.some.inj hF
    exact ret_gz [] [] [] rfl (argFl (by (conv => lhs; whnf); all_goals rfl)) trivial

set_option maxRecDepth 100000 in
set_option maxHeartbeats 40000000 in
theorem keep_In_ac (x_0 : (List Int)) (x_1 : Int) (r : Bool) (hF : keep_In x_0 x_1 = some r) : AC Try.prog 29 [.lst 1 (x_0.map iA), .int .i64 x_1] [] (.bool r) [] := by
  refine ac_of tab_ok follows_ok Try.func29 rfl Try.ntmps29 rfl ?_
  unfold keep_In at hF
  conv => whnf
  obtain ⟨c_1, hc_1, hF⟩ := fin_some hF
  refine sw_bv 0 (v := .lst 1 (x_0.map iA)) (by (conv => lhs; whnf); all_goals rfl) (fun hb => ?_)
  have hbd_k_2 : x_0.length ≤ 9223372036854775807 := bnd_len (enc := iA) (hb)
  refine sw_loop tab_ok follows_ok (fun y : Nat => y ≤ x_0.length ∧ keep_In_L1 x_1 (x_0.drop y) y = some c_1) (fun y => ⟨eL [(0, .lst 1 (x_0.map iA)), (1, .int .i64 x_1), (5, .int .i64 (y : Int))], hL [], 0⟩) (fun y => x_0.length - y) 0 ⟨Nat.zero_le _, hc_1⟩ (wk_mk [] [] [] rfl ⟨argE (by (conv => lhs; whnf); all_goals rfl) rfl, argE (by (conv => lhs; whnf); all_goals rfl) rfl, argE (by (conv => lhs; whnf); all_goals rfl) rfl, trivial⟩ trivial) ?_
  rintro k_2 ⟨hk_k_2, hL1⟩
  try dsimp only at hk_k_2 hL1
  show awp _ _ _ _ _ _ ⟨eL [(0, .lst 1 (x_0.map iA)), (1, .int .i64 x_1), (5, .int .i64 (k_2 : Int))], hL [], 0⟩
  conv => whnf
  refine len_q (enc := iA) (l := x_0) rfl ?_
  conv => whnf
  refine ⟨fun h => ?_, fun h => ?_⟩
  · have hlt_k_2 : k_2 < x_0.length := by have h := of_decide_eq_true h; omega
    obtain ⟨e_3, h_e_3⟩ : ∃ y, x_0[k_2]? = some y := ⟨_, List.getElem?_eq_getElem hlt_k_2⟩
    rw [drop_cons h_e_3, keep_In_L1.eq_2] at hL1
    conv => whnf
    refine ⟨k_2, _, rfl, ix_map h_e_3, ?_⟩
    conv => whnf
    refine ⟨fun hb_7 => ?_, fun hb_7 => ?_⟩
    · replace hL1 := cond_t hb_7 hL1
      conv => whnf
      obtain rfl := Option.some.inj hL1
      replace hF := fin_ret hF
      obtain rfl := Option.some.inj hF
      exact ret_gz [] [] [] rfl (argT (by (conv => lhs; whnf); all_goals rfl)) trivial
    · replace hL1 := cond_f hb_7 hL1
      conv => whnf
      refine ⟨((k_2 + 1 : Nat) : Int), wrapE (by omega) (by omega) (by omega), ?_⟩
      conv => whnf
      exact ⟨k_2 + 1, [], [], [], ⟨hlt_k_2, hL1⟩, by show x_0.length - (k_2 + 1) < x_0.length - k_2; omega, wk_mk [] [] [] rfl ⟨argE (by (conv => lhs; whnf); all_goals rfl) rfl, argE (by (conv => lhs; whnf); all_goals rfl) rfl, argE (by (conv => lhs; whnf); all_goals rfl) rfl, trivial⟩ trivial⟩
  · rw [drop_nil (show x_0.length ≤ k_2 by have h := of_decide_eq_false h; omega), keep_In_L1.eq_1] at hL1
    conv => whnf
    obtain rfl := Option.some.inj hL1
    replace hF := fin_brk hF
    try dsimp only at hF
    obtain rfl := Option.some.inj hF
    exact ret_gz [] [] [] rfl (argFl (by (conv => lhs; whnf); all_goals rfl)) trivial

set_option maxRecDepth 100000 in
set_option maxHeartbeats 40000000 in
theorem boarding_Join_ac (x_0 : (List Manifest)) (x_1 : (List Manifest)) (r : (List Manifest) × Int) (hF : boarding_Join x_0 x_1 = some r) : AC Try.prog 30 [.lst 7 (x_0.map encManifest), .lst 7 (x_1.map encManifest)] [] (.tup [.lst 7 (r.1.map encManifest), .int .i64 r.2]) [] := by
  refine ac_of tab_ok follows_ok Try.func30 rfl Try.ntmps30 rfl ?_
  unfold boarding_Join at hF
  conv => whnf
  refine len_q (enc := (lA 7 encManifest)) (l := ([x_0, x_1] : List (List Manifest))) rfl ?_
  conv => whnf
  obtain ⟨c_1, hc_1, hF⟩ := fin_some hF
  refine sw_br 0 (sz := 1) (xs := ([x_0, x_1] : List (List Manifest)).map (lA 7 encManifest)) (by (conv => lhs; whnf); all_goals rfl) (fun hb => ?_)
  have hbd_k_2 : ([x_0, x_1] : List (List Manifest)).length ≤ 9223372036854775807 := bnd_len (enc := (lA 7 encManifest)) (hb)
  refine sw_loop tab_ok follows_ok (fun y : Nat => y ≤ ([x_0, x_1] : List (List Manifest)).length ∧ boarding_Join_L1 (([x_0, x_1] : List (List Manifest)).drop y) y = some c_1) (fun y => ⟨eL [(0, .lst 7 (x_0.map encManifest)), (1, .lst 7 (x_1.map encManifest)), (11, .osl 0), (12, .int .i64 (([x_0, x_1] : List (List Manifest)).length : Int)), (13, .int .i64 (y : Int))], hL [(0, .row 1 (([x_0, x_1] : List (List Manifest)).map (lA 7 encManifest)))], 1⟩) (fun y => ([x_0, x_1] : List (List Manifest)).length - y) 0 ⟨Nat.zero_le _, hc_1⟩ (wk_mk [0] [] [] rfl ⟨argE (by (conv => lhs; whnf); all_goals rfl) rfl, argE (by (conv => lhs; whnf); all_goals rfl) rfl, argO (id := 0) (by (conv => lhs; whnf); all_goals rfl) rfl, argE (by (conv => lhs; whnf); all_goals rfl) rfl, argE (by (conv => lhs; whnf); all_goals rfl) rfl, trivial⟩ ⟨blkR (fun _ => ⟨rfl, rfl⟩) rfl rfl, trivial⟩) ?_
  rintro k_2 ⟨hk_k_2, hL1⟩
  try dsimp only at hk_k_2 hL1
  show awp _ _ _ _ _ _ ⟨eL [(0, .lst 7 (x_0.map encManifest)), (1, .lst 7 (x_1.map encManifest)), (11, .osl 0), (12, .int .i64 (([x_0, x_1] : List (List Manifest)).length : Int)), (13, .int .i64 (k_2 : Int))], hL [(0, .row 1 (([x_0, x_1] : List (List Manifest)).map (lA 7 encManifest)))], 1⟩
  conv => whnf
  refine ⟨fun h => ?_, fun h => ?_⟩
  · have hlt_k_2 : k_2 < ([x_0, x_1] : List (List Manifest)).length := by have h := of_decide_eq_true h; omega
    obtain ⟨e_3, h_e_3⟩ : ∃ y, ([x_0, x_1] : List (List Manifest))[k_2]? = some y := ⟨_, List.getElem?_eq_getElem hlt_k_2⟩
    rw [drop_cons h_e_3, boarding_Join_L1.eq_2] at hL1
    conv => whnf
    refine ⟨k_2, rfl, by rw [List.length_map]; exact hlt_k_2, ?_⟩
    conv => whnf
    refine ⟨_, ix_map (enc := (lA 7 encManifest)) h_e_3, ?_⟩
    conv => whnf
    obtain ⟨r_4, h_r_4, hL1⟩ := bind_some hL1
    refine ⟨_, _, _, _, _, _, _, _, _, callX false [] [] 0 Try.func14 (by decide) rfl (boarding_Validate_ac e_3 r_4 h_r_4) rfl ⟨(argE (by (conv => lhs; whnf); all_goals rfl) rfl), trivial⟩ rfl trivial rfl rfl rfl lend0 trivial rfl, ?_⟩
    conv => whnf
    refine ⟨fun hb_7 => ?_, fun hb_7 => ?_⟩
    · replace hL1 := cond_t hb_7 hL1
      conv => whnf
      obtain rfl := Option.some.inj hL1
      replace hF := fin_ret hF
      obtain rfl := Option.some.inj hF
      exact ret_gz [] [] [] rfl (tupL rfl ⟨(argN (by (conv => lhs; whnf); all_goals rfl)), (argE (by (conv => lhs; whnf); all_goals rfl) rfl), trivial⟩) trivial
    · replace hL1 := cond_f hb_7 hL1
      conv => whnf
      refine ⟨((k_2 + 1 : Nat) : Int), wrapE (by omega) (by omega) (by omega), ?_⟩
      conv => whnf
      exact ⟨k_2 + 1, [0], [], [], ⟨hlt_k_2, hL1⟩, by show ([x_0, x_1] : List (List Manifest)).length - (k_2 + 1) < ([x_0, x_1] : List (List Manifest)).length - k_2; omega, wk_mk [0] [] [] rfl ⟨argE (by (conv => lhs; whnf); all_goals rfl) rfl, argE (by (conv => lhs; whnf); all_goals rfl) rfl, argO (id := 0) (by (conv => lhs; whnf); all_goals rfl) rfl, argE (by (conv => lhs; whnf); all_goals rfl) rfl, argE (by (conv => lhs; whnf); all_goals rfl) rfl, trivial⟩ ⟨blkR (fun _ => ⟨rfl, rfl⟩) rfl rfl, trivial⟩⟩
  · rw [drop_nil (show ([x_0, x_1] : List (List Manifest)).length ≤ k_2 by have h := of_decide_eq_false h; omega), boarding_Join_L1.eq_1] at hL1
    conv => whnf
    obtain rfl := Option.some.inj hL1
    replace hF := fin_brk hF
    try dsimp only at hF
    obtain ⟨r_7, h_r_7, hF⟩ := bind_some hF
    refine ⟨_, _, _, _, _, _, _, _, _, callX false [] [] 0 Try.func43 (by decide) rfl (boarding_joined_ac x_0 x_1 r_7 h_r_7) rfl ⟨(argE (by (conv => lhs; whnf); all_goals rfl) rfl), (argE (by (conv => lhs; whnf); all_goals rfl) rfl), trivial⟩ rfl trivial rfl rfl rfl lend0 trivial rfl, ?_⟩
    conv => whnf
    obtain rfl := Option.some.inj hF
    exact ret_gz [] [] [] rfl (tupL rfl ⟨(argE (by (conv => lhs; whnf); all_goals rfl) rfl), (argE (by (conv => lhs; whnf); all_goals rfl) rfl), trivial⟩) trivial

set_option maxRecDepth 100000 in
set_option maxHeartbeats 40000000 in
theorem keep_Src_Passengers_ac (x_0 : Src) (r : (List Int) × Src) (hF : keep_Src_Passengers x_0 = some r) : AC Try.prog 22 [.ptr 0 0] [.box (encSrc x_0)] (.lst 1 (r.1.map iA)) [.box (encSrc r.2)] := by
  refine ac_of tab_ok follows_ok Try.func22 rfl Try.ntmps22 rfl ?_
  unfold keep_Src_Passengers at hF
  conv => whnf
  obtain ⟨r_1, h_r_1, hF⟩ := bind_some hF
  refine ⟨_, _, _, _, _, _, _, _, _, callX false [0] [] 0 Try.func16 (by decide) rfl (keep_Src_N_ac x_0 (4096 : Int) r_1 h_r_1) rfl ⟨(argP (id := 0) (by (conv => lhs; whnf); all_goals rfl) rfl), (argE (by (conv => lhs; whnf); all_goals rfl) rfl), trivial⟩ rfl ⟨rfl, trivial⟩ rfl rfl rfl lend0 ⟨rfl, trivial⟩ rfl, ?_⟩
  conv => whnf
  obtain ⟨c_1, hc_1, hF⟩ := fin_some hF
  refine sw_loop tab_ok follows_ok (fun y : Nat × (List Int) × Int => keep_Src_Passengers_L1 r_1 y.1 y.2.1 y.2.2 = some c_1) (fun y => ⟨eL [(3, .osl 1), (4, .int .i64 r_1.1), (5, .int .i64 y.2.2)], hL [(0, .box [.lst 1 (r_1.2.L.map iA), .int .i64 r_1.2.At]), (1, .row 1 (y.2.1.map iA))], 2⟩) (fun y => y.1) (9223372036854775807, ([] : List Int), (0 : Int)) hc_1 (wk_mk [0] [1] [] rfl ⟨argZ (by (conv => lhs; whnf); all_goals rfl) rfl, argE (by (conv => lhs; whnf); all_goals rfl) rfl, argE (by (conv => lhs; whnf); all_goals rfl) rfl, trivial⟩ ⟨boxL rfl rfl rfl ⟨(.ni _ rfl), (.ni _ rfl), trivial⟩, blkZ rfl, trivial⟩) ?_
  rintro ⟨q_6, a_2, i_3⟩ hL1
  try dsimp only at hL1
  rcases q_6 with _ | q_6
  · rw [keep_Src_Passengers_L1.eq_1] at hL1
    cases hL1
  rw [keep_Src_Passengers_L1.eq_2] at hL1
  show awp _ _ _ _ _ _ ⟨eL [(3, .osl 1), (4, .int .i64 r_1.1), (5, .int .i64 i_3)], hL [(0, .box [.lst 1 (r_1.2.L.map iA), .int .i64 r_1.2.At]), (1, .row 1 (a_2.map iA))], 2⟩
  conv => whnf
  refine ⟨fun hb_8 => ?_, fun hb_8 => ?_⟩
  · replace hL1 := cond_t hb_8 hL1
    conv => whnf
    obtain ⟨u_4, h_u_4, hL1⟩ := bind_some hL1
    refine ⟨_, shr_q (ng_some h_u_4), ?_⟩
    conv => whnf
    refine ⟨_, and_q, ?_⟩
    conv => whnf
    refine ⟨fun hb_9 => ?_, fun hb_9 => ?_⟩
    · replace hL1 := cond_t hb_9 hL1
      conv => whnf
      refine ⟨_, rfl, ?_⟩
      conv => whnf
      obtain ⟨l_5, h_l_5, hL1⟩ := bind_some hL1
      refine ap_q (enc := iA) (l := a_2) (y := ([(w64 (i_3 + (1 : Int)))] : List Int)) h_l_5 rfl rfl (by decide) ?_
      conv => whnf
      refine ⟨_, rfl, ?_⟩
      conv => whnf
      exact ⟨(q_6, l_5, (w64 (i_3 + (1 : Int)))), [0, 3], [], [], hL1, Nat.lt_succ_self _, wk_mk [0, 3] [] [] rfl ⟨argO (id := 3) (by (conv => lhs; whnf); all_goals rfl) rfl, argE (by (conv => lhs; whnf); all_goals rfl) rfl, argE (by (conv => lhs; whnf); all_goals rfl) rfl, trivial⟩ ⟨boxL rfl rfl rfl ⟨(.ni _ rfl), (.ni _ rfl), trivial⟩, blkR (fun _ => ⟨rfl, rfl⟩) rfl rfl, trivial⟩⟩
    · replace hL1 := cond_f hb_9 hL1
      conv => whnf
      refine ⟨_, rfl, ?_⟩
      conv => whnf
      exact ⟨(q_6, a_2, (w64 (i_3 + (1 : Int)))), [0, 1], [], [], hL1, Nat.lt_succ_self _, wk_mk [0, 1] [] [] rfl ⟨argO (id := 1) (by (conv => lhs; whnf); all_goals rfl) rfl, argE (by (conv => lhs; whnf); all_goals rfl) rfl, argE (by (conv => lhs; whnf); all_goals rfl) rfl, trivial⟩ ⟨boxL rfl rfl rfl ⟨(.ni _ rfl), (.ni _ rfl), trivial⟩, blkR (fun _ => ⟨rfl, rfl⟩) rfl rfl, trivial⟩⟩
  · replace hL1 := cond_f hb_8 hL1
    conv => whnf
    obtain rfl := Option.some.inj hL1
    replace hF := fin_brk hF
    try dsimp only at hF
    obtain rfl := Option.some.inj hF
    exact ret_gz [0] [] [1] rfl (argOL 1 (by (conv => lhs; whnf); all_goals rfl) rfl rfl (map_ni (fun _ => ⟨rfl, rfl⟩) _)) ⟨boxL rfl rfl rfl ⟨(.ni _ rfl), (.ni _ rfl), trivial⟩, trivial⟩

set_option maxRecDepth 100000 in
set_option maxHeartbeats 40000000 in
theorem keep_Src_Manifests_ac (x_0 : Src) (r : (List Manifest) × Src) (hF : keep_Src_Manifests x_0 = some r) : AC Try.prog 12 [.ptr 0 0] [.box (encSrc x_0)] (.lst 7 (r.1.map encManifest)) [.box (encSrc r.2)] := by
  refine ac_of tab_ok follows_ok Try.func12 rfl Try.ntmps12 rfl ?_
  unfold keep_Src_Manifests at hF
  conv => whnf
  obtain ⟨c_1, hc_1, hF⟩ := fin_some hF
  refine sw_loop tab_ok follows_ok (fun y : Nat × (List Int) × Int × Int × (List Manifest) => keep_Src_Manifests_L1 y.1 y.2.1 y.2.2.1 y.2.2.2.1 y.2.2.2.2 = some c_1) (fun y => ⟨eL [(0, .ptr 0 0), (3, .osl 1), (4, .int .i64 y.2.2.2.1)], hL [(0, .box [.lst 1 (y.2.1.map iA), .int .i64 y.2.2.1]), (1, .row 7 (y.2.2.2.2.map encManifest))], 2⟩) (fun y => y.1) (9223372036854775807, x_0.L, x_0.At, (0 : Int), ([] : List Manifest)) hc_1 (wk_mk [0] [1] [] rfl ⟨argP (id := 0) (by (conv => lhs; whnf); all_goals rfl) rfl, argZ (by (conv => lhs; whnf); all_goals rfl) rfl, argE (by (conv => lhs; whnf); all_goals rfl) rfl, trivial⟩ ⟨boxL rfl rfl rfl ⟨(.ni _ rfl), (.ni _ rfl), trivial⟩, blkZ rfl, trivial⟩) ?_
  rintro ⟨q_20, a_1, i_2, i_4, a_3⟩ hL1
  try dsimp only at hL1
  rcases q_20 with _ | q_20
  · rw [keep_Src_Manifests_L1.eq_1] at hL1
    cases hL1
  rw [keep_Src_Manifests_L1.eq_2] at hL1
  show awp _ _ _ _ _ _ ⟨eL [(0, .ptr 0 0), (3, .osl 1), (4, .int .i64 i_4)], hL [(0, .box [.lst 1 (a_1.map iA), .int .i64 i_2]), (1, .row 7 (a_3.map encManifest))], 2⟩
  conv => whnf
  refine ⟨fun hb_28 => ?_, fun hb_28 => ?_⟩
  · replace hL1 := cond_t hb_28 hL1
    conv => whnf
    obtain ⟨r_5, h_r_5, hL1⟩ := bind_some hL1
    refine ⟨_, _, _, _, _, _, _, _, _, callX false [0] [] 0 Try.func16 (by decide) rfl (keep_Src_N_ac (⟨a_1, i_2⟩ : Src) (2 : Int) r_5 h_r_5) rfl ⟨(argP (id := 0) (by (conv => lhs; whnf); all_goals rfl) rfl), (argE (by (conv => lhs; whnf); all_goals rfl) rfl), trivial⟩ rfl ⟨rfl, trivial⟩ rfl rfl rfl lend0 ⟨rfl, trivial⟩ rfl, ?_⟩
    conv => whnf
    refine ⟨fun hb_29 => ?_, fun hb_29 => ?_⟩
    · replace hL1 := cond_t hb_29 hL1
      conv => whnf
      refine ⟨_, rfl, ?_⟩
      conv => whnf
      exact ⟨(q_20, r_5.2.L, r_5.2.At, (w64 (i_4 + (1 : Int))), a_3), [0, 1], [], [], hL1, Nat.lt_succ_self _, wk_mk [0, 1] [] [] rfl ⟨argP (id := 0) (by (conv => lhs; whnf); all_goals rfl) rfl, argO (id := 1) (by (conv => lhs; whnf); all_goals rfl) rfl, argE (by (conv => lhs; whnf); all_goals rfl) rfl, trivial⟩ ⟨boxL rfl rfl rfl ⟨(.ni _ rfl), (.ni _ rfl), trivial⟩, blkR (fun _ => ⟨rfl, rfl⟩) rfl rfl, trivial⟩⟩
    · replace hL1 := cond_f hb_29 hL1
      conv => whnf
      obtain ⟨r_6, h_r_6, hL1⟩ := bind_some hL1
      refine ⟨_, _, _, _, _, _, _, _, _, callX false [] [] 0 Try.func17 (by decide) rfl (keep_Flights_ac i_4 r_6 h_r_6) rfl ⟨(argE (by (conv => lhs; whnf); all_goals rfl) rfl), trivial⟩ rfl trivial rfl rfl rfl lend0 trivial rfl, ?_⟩
      conv => whnf
      obtain ⟨r_7, h_r_7, hL1⟩ := bind_some hL1
      refine ⟨_, _, _, _, _, _, _, _, _, callX false [0] [] 0 Try.func16 (by decide) rfl (keep_Src_N_ac r_5.2 (4 : Int) r_7 h_r_7) rfl ⟨(argP (id := 0) (by (conv => lhs; whnf); all_goals rfl) rfl), (argE (by (conv => lhs; whnf); all_goals rfl) rfl), trivial⟩ rfl ⟨rfl, trivial⟩ rfl rfl rfl lend0 ⟨rfl, trivial⟩ rfl, ?_⟩
      conv => whnf
      refine ⟨_, rfl, ?_⟩
      conv => whnf
      obtain ⟨r_8, h_r_8, hL1⟩ := bind_some hL1
      refine ⟨_, _, _, _, _, _, _, _, _, callX false [0] [] 0 Try.func22 (by decide) rfl (keep_Src_Passengers_ac r_7.2 r_8 h_r_8) rfl ⟨(argP (id := 0) (by (conv => lhs; whnf); all_goals rfl) rfl), trivial⟩ rfl ⟨rfl, trivial⟩ rfl rfl rfl lend0 ⟨rfl, trivial⟩ rfl, ?_⟩
      conv => whnf
      refine len_q (enc := iA) (l := r_8.1) rfl ?_
      conv => whnf
      obtain ⟨c_2, hc_2, hL1⟩ := sub_some hL1
      refine sw_bv 21 (v := .lst 1 (r_8.1.map iA)) (by (conv => lhs; whnf); all_goals rfl) (fun hb => ?_)
      have hbd_k_13 : r_8.1.length ≤ 9223372036854775807 := bnd_len (enc := iA) (hb)
      refine sw_loop tab_ok follows_ok (fun y : Nat × (List Int) × Int × (List Int) => y.1 ≤ r_8.1.length ∧ keep_Src_Manifests_L2 (r_8.1.drop y.1) y.1 y.2.1 y.2.2.1 y.2.2.2 = some c_2) (fun y => ⟨eL [(0, .ptr 0 0), (3, .osl 1), (4, .int .i64 i_4), (5, .ptr 2 0), (24, .lst 1 (r_8.1.map iA)), (25, .int .i64 (r_8.1.length : Int)), (26, .int .i64 (y.1 : Int))], hL [(0, .box [.lst 1 (y.2.1.map iA), .int .i64 y.2.2.1]), (1, .row 7 (a_3.map encManifest)), (2, .box [.str r_6.Carrier, .int .i64 r_6.Number, .str r_6.Suffix, .int .i64 r_6.Day, .int .i64 (w64 ((1 : Int) + r_7.1)), .osl 3, .lst 1 (r_8.1.map iA)]), (3, .row 1 (y.2.2.2.map iA))], 4⟩) (fun y => r_8.1.length - y.1) (0, r_8.2.L, r_8.2.At, ([] : List Int)) ⟨Nat.zero_le _, hc_2⟩ (wk_mk [0, 1, 6] [3] [] rfl ⟨argP (id := 0) (by (conv => lhs; whnf); all_goals rfl) rfl, argO (id := 1) (by (conv => lhs; whnf); all_goals rfl) rfl, argE (by (conv => lhs; whnf); all_goals rfl) rfl, argP (id := 6) (by (conv => lhs; whnf); all_goals rfl) rfl, argE (by (conv => lhs; whnf); all_goals rfl) rfl, argE (by (conv => lhs; whnf); all_goals rfl) rfl, argE (by (conv => lhs; whnf); all_goals rfl) rfl, trivial⟩ ⟨boxL rfl rfl rfl ⟨(.ni _ rfl), (.ni _ rfl), trivial⟩, blkR (fun _ => ⟨rfl, rfl⟩) rfl rfl, boxL rfl rfl rfl ⟨(.ni _ rfl), (.ni _ rfl), (.ni _ rfl), (.ni _ rfl), (.ni _ rfl), (.nilz 3 (by simp)), (.ni _ rfl), trivial⟩, blkZ rfl, trivial⟩) ?_
      rintro ⟨k_13, a_9, i_10, a_11⟩ ⟨hk_k_13, hL2⟩
      try dsimp only at hk_k_13 hL2
      show awp _ _ _ _ _ _ ⟨eL [(0, .ptr 0 0), (3, .osl 1), (4, .int .i64 i_4), (5, .ptr 2 0), (24, .lst 1 (r_8.1.map iA)), (25, .int .i64 (r_8.1.length : Int)), (26, .int .i64 (k_13 : Int))], hL [(0, .box [.lst 1 (a_9.map iA), .int .i64 i_10]), (1, .row 7 (a_3.map encManifest)), (2, .box [.str r_6.Carrier, .int .i64 r_6.Number, .str r_6.Suffix, .int .i64 r_6.Day, .int .i64 (w64 ((1 : Int) + r_7.1)), .osl 3, .lst 1 (r_8.1.map iA)]), (3, .row 1 (a_11.map iA))], 4⟩
      conv => whnf
      refine ⟨fun h => ?_, fun h => ?_⟩
      · have hlt_k_13 : k_13 < r_8.1.length := by have h := of_decide_eq_true h; omega
        obtain ⟨e_14, h_e_14⟩ : ∃ y, r_8.1[k_13]? = some y := ⟨_, List.getElem?_eq_getElem hlt_k_13⟩
        rw [drop_cons h_e_14, keep_Src_Manifests_L2.eq_2] at hL2
        conv => whnf
        refine ⟨k_13, _, rfl, ix_map h_e_14, ?_⟩
        conv => whnf
        obtain ⟨r_15, h_r_15, hL2⟩ := bind_some hL2
        refine ⟨_, _, _, _, _, _, _, _, _, callX false [0] [] 0 Try.func16 (by decide) rfl (keep_Src_N_ac (⟨a_9, i_10⟩ : Src) (3 : Int) r_15 h_r_15) rfl ⟨(argP (id := 0) (by (conv => lhs; whnf); all_goals rfl) rfl), (argE (by (conv => lhs; whnf); all_goals rfl) rfl), trivial⟩ rfl ⟨rfl, trivial⟩ rfl rfl rfl lend0 ⟨rfl, trivial⟩ rfl, ?_⟩
        conv => whnf
        refine ⟨fun hb_30 => ?_, fun hb_30 => ?_⟩
        · replace hL2 := cond_t hb_30 hL2
          conv => whnf
          obtain ⟨l_16, h_l_16, hL2⟩ := bind_some hL2
          refine ap_q (enc := iA) (l := a_11) (y := ([e_14] : List Int)) h_l_16 rfl rfl (by decide) ?_
          conv => whnf
          refine ⟨((k_13 + 1 : Nat) : Int), wrapE (by omega) (by omega) (by omega), ?_⟩
          conv => whnf
          exact ⟨(k_13 + 1, r_15.2.L, r_15.2.At, l_16), [0, 1, 2, 6], [], [], ⟨hlt_k_13, hL2⟩, by show r_8.1.length - (k_13 + 1) < r_8.1.length - k_13; omega, wk_mk [0, 1, 2, 6] [] [] rfl ⟨argP (id := 0) (by (conv => lhs; whnf); all_goals rfl) rfl, argO (id := 1) (by (conv => lhs; whnf); all_goals rfl) rfl, argE (by (conv => lhs; whnf); all_goals rfl) rfl, argP (id := 2) (by (conv => lhs; whnf); all_goals rfl) rfl, argE (by (conv => lhs; whnf); all_goals rfl) rfl, argE (by (conv => lhs; whnf); all_goals rfl) rfl, argE (by (conv => lhs; whnf); all_goals rfl) rfl, trivial⟩ ⟨boxL rfl rfl rfl ⟨(.ni _ rfl), (.ni _ rfl), trivial⟩, blkR (fun _ => ⟨rfl, rfl⟩) rfl rfl, boxL rfl rfl rfl ⟨(.ni _ rfl), (.ni _ rfl), (.ni _ rfl), (.ni _ rfl), (.ni _ rfl), (.oslg 6 3 rfl), (.ni _ rfl), trivial⟩, blkR (fun _ => ⟨rfl, rfl⟩) rfl rfl, trivial⟩⟩
        · replace hL2 := cond_f hb_30 hL2
          conv => whnf
          refine ⟨((k_13 + 1 : Nat) : Int), wrapE (by omega) (by omega) (by omega), ?_⟩
          conv => whnf
          exact ⟨(k_13 + 1, r_15.2.L, r_15.2.At, a_11), [0, 1, 2, 3], [], [], ⟨hlt_k_13, hL2⟩, by show r_8.1.length - (k_13 + 1) < r_8.1.length - k_13; omega, wk_mk [0, 1, 2, 3] [] [] rfl ⟨argP (id := 0) (by (conv => lhs; whnf); all_goals rfl) rfl, argO (id := 1) (by (conv => lhs; whnf); all_goals rfl) rfl, argE (by (conv => lhs; whnf); all_goals rfl) rfl, argP (id := 2) (by (conv => lhs; whnf); all_goals rfl) rfl, argE (by (conv => lhs; whnf); all_goals rfl) rfl, argE (by (conv => lhs; whnf); all_goals rfl) rfl, argE (by (conv => lhs; whnf); all_goals rfl) rfl, trivial⟩ ⟨boxL rfl rfl rfl ⟨(.ni _ rfl), (.ni _ rfl), trivial⟩, blkR (fun _ => ⟨rfl, rfl⟩) rfl rfl, boxL rfl rfl rfl ⟨(.ni _ rfl), (.ni _ rfl), (.ni _ rfl), (.ni _ rfl), (.ni _ rfl), (.oslg 3 3 rfl), (.ni _ rfl), trivial⟩, blkR (fun _ => ⟨rfl, rfl⟩) rfl rfl, trivial⟩⟩
      · rw [drop_nil (show r_8.1.length ≤ k_13 by have h := of_decide_eq_false h; omega), keep_Src_Manifests_L2.eq_1] at hL2
        conv => whnf
        obtain rfl := Option.some.inj hL2
        replace hL1 := sub_brk hL1
        try dsimp only at hL1
        obtain ⟨l_19, h_l_19, hL1⟩ := bind_some hL1
        refine ap_raw h_l_19 (by simp) (by simp [chunkA]) (by decide) ?_
        conv => whnf
        refine ⟨_, rfl, ?_⟩
        conv => whnf
        exact ⟨(q_20, a_9, i_10, (w64 (i_4 + (1 : Int))), l_19), [0, 5], [], [3], hL1, Nat.lt_succ_self _, wk_mk [0, 5] [] [3] rfl ⟨argP (id := 0) (by (conv => lhs; whnf); all_goals rfl) rfl, argO (id := 5) (by (conv => lhs; whnf); all_goals rfl) rfl, argE (by (conv => lhs; whnf); all_goals rfl) rfl, trivial⟩ ⟨boxL rfl rfl rfl ⟨(.ni _ rfl), (.ni _ rfl), trivial⟩, blk_rowsE rfl rfl (RowsA.app (RowsA.ni (map_ok (fun _ => ⟨rfl, rfl⟩) _)) (cellsL (c' := [.str r_6.Carrier, .int .i64 r_6.Number, .str r_6.Suffix, .int .i64 r_6.Day, .int .i64 (w64 ((1 : Int) + r_7.1)), .lst 1 (a_11.map iA), .lst 1 (r_8.1.map iA)]) rfl rfl ⟨(.ni _ rfl), (.ni _ rfl), (.ni _ rfl), (.ni _ rfl), (.ni _ rfl), (.osl 3 1 _ (by simp) rfl (map_ni (fun _ => ⟨rfl, rfl⟩) _)), (.ni _ rfl), trivial⟩)) (by rw [(apL_some h_l_19).2, List.map_append]; rfl), trivial⟩⟩
  · replace hL1 := cond_f hb_28 hL1
    conv => whnf
    obtain rfl := Option.some.inj hL1
    replace hF := fin_brk hF
    try dsimp only at hF
    obtain rfl := Option.some.inj hF
    exact ret_gz [0] [] [1] rfl (argOL 1 (by (conv => lhs; whnf); all_goals rfl) rfl rfl (map_ni (fun _ => ⟨rfl, rfl⟩) _)) ⟨boxL rfl rfl rfl ⟨(.ni _ rfl), (.ni _ rfl), trivial⟩, trivial⟩

set_option maxRecDepth 100000 in
set_option maxHeartbeats 40000000 in
theorem ref25_Copy_ac (x_0 : Manifest) (r : Manifest) (hF : ref25_Copy x_0 = some r) : AC Try.prog 33 [.agg (encManifest x_0)] [] (.agg (encManifest r)) [] := by
  refine ac_of tab_ok follows_ok Try.func33 rfl Try.ntmps33 rfl ?_
  unfold ref25_Copy at hF
  conv => whnf
  obtain ⟨l_1, h_l_1, hF⟩ := bind_some hF
  refine ap_q (enc := iA) (l := ([] : List Int)) (y := x_0.Boarded) h_l_1 rfl rfl (by decide) ?_
  conv => whnf
  obtain ⟨l_2, h_l_2, hF⟩ := bind_some hF
  refine ap_q (enc := iA) (l := ([] : List Int)) (y := x_0.Ever) h_l_2 rfl rfl (by decide) ?_
  conv => whnf
  refine ⟨by kernel_rfl, ?_⟩
  conv => whnf
  obtain rfl := Option.some.inj hF
  exact ret_gz [] [] [3, 5] rfl (argA (c := [.str x_0.Flight.Carrier, .int .i64 x_0.Flight.Number, .str x_0.Flight.Suffix, .int .i64 x_0.Flight.Day, .int .i64 x_0.Version, .osl 3, .osl 5]) (by (conv => lhs; whnf); all_goals rfl) rfl ⟨(.ni _ rfl), (.ni _ rfl), (.ni _ rfl), (.ni _ rfl), (.ni _ rfl), (.osl 3 1 _ (by simp) rfl (map_ni (fun _ => ⟨rfl, rfl⟩) _)), (.osl 5 1 _ (by simp) rfl (map_ni (fun _ => ⟨rfl, rfl⟩) _)), trivial⟩) trivial

set_option maxRecDepth 100000 in
set_option maxHeartbeats 40000000 in
theorem ref25_One_ac (x_0 : Message) (r : (List Manifest)) (hF : ref25_One x_0 = some r) : AC Try.prog 32 [.agg (encMessage x_0)] [] (.lst 7 (r.map encManifest)) [] := by
  refine ac_of tab_ok follows_ok Try.func32 rfl Try.ntmps32 rfl ?_
  unfold ref25_One at hF
  conv => whnf
  obtain ⟨r_1, h_r_1, hF⟩ := bind_some hF
  refine ⟨_, _, _, _, _, _, _, _, _, callX false [] [] 0 Try.func33 (by decide) rfl (ref25_Copy_ac (⟨x_0.Out.Flight, x_0.Number, x_0.List, x_0.List⟩ : Manifest) r_1 h_r_1) rfl ⟨(argE (by (conv => lhs; whnf); all_goals rfl) rfl), trivial⟩ rfl trivial rfl rfl rfl lend0 trivial rfl, ?_⟩
  conv => whnf
  obtain rfl := Option.some.inj hF
  exact ret_gz [] [] [2] rfl (argOL 2 (by (conv => lhs; whnf); all_goals rfl) rfl rfl (map_ni (fun _ => ⟨rfl, rfl⟩) _)) trivial

set_option maxRecDepth 100000 in
set_option maxHeartbeats 40000000 in
theorem law25_few_ac (x_0 : (List Manifest)) (r : Bool) (hF : law25_few x_0 = some r) : AC Try.prog 10 [.lst 7 (x_0.map encManifest)] [] (.bool r) [] := by
  refine ac_of tab_ok follows_ok Try.func10 rfl Try.ntmps10 rfl ?_
  unfold law25_few at hF
  conv => whnf
  refine len_q (enc := encManifest) (l := x_0) rfl ?_
  conv => whnf
  obtain ⟨c_1, hc_1, hF⟩ := fin_some hF
  refine sw_bv 0 (v := .lst 7 (x_0.map encManifest)) (by (conv => lhs; whnf); all_goals rfl) (fun hb => ?_)
  have hbd_k_2 : x_0.length ≤ 9223372036854775807 := bnd_len (enc := encManifest) (hb)
  refine sw_loop tab_ok follows_ok (fun y : Nat => y ≤ x_0.length ∧ law25_few_L1 (x_0.drop y) y = some c_1) (fun y => ⟨eL [(0, .lst 7 (x_0.map encManifest)), (5, .int .i64 (x_0.length : Int)), (6, .int .i64 (y : Int))], hL [], 0⟩) (fun y => x_0.length - y) 0 ⟨Nat.zero_le _, hc_1⟩ (wk_mk [] [] [] rfl ⟨argE (by (conv => lhs; whnf); all_goals rfl) rfl, argE (by (conv => lhs; whnf); all_goals rfl) rfl, argE (by (conv => lhs; whnf); all_goals rfl) rfl, trivial⟩ trivial) ?_
  rintro k_2 ⟨hk_k_2, hL1⟩
  try dsimp only at hk_k_2 hL1
  show awp _ _ _ _ _ _ ⟨eL [(0, .lst 7 (x_0.map encManifest)), (5, .int .i64 (x_0.length : Int)), (6, .int .i64 (k_2 : Int))], hL [], 0⟩
  conv => whnf
  refine ⟨fun h => ?_, fun h => ?_⟩
  · have hlt_k_2 : k_2 < x_0.length := by have h := of_decide_eq_true h; omega
    obtain ⟨e_3, h_e_3⟩ : ∃ y, x_0[k_2]? = some y := ⟨_, List.getElem?_eq_getElem hlt_k_2⟩
    rw [drop_cons h_e_3, law25_few_L1.eq_2] at hL1
    conv => whnf
    refine ⟨k_2, _, rfl, ix_map h_e_3, ?_⟩
    conv => whnf
    refine len_q (enc := iA) (l := e_3.Boarded) rfl ?_
    conv => whnf
    refine ⟨fun hb_11 => ?_, fun hb_11 => ?_⟩
    · replace hL1 := cond_f hb_11 hL1
      conv => whnf
      refine ⟨k_2, _, rfl, ix_map h_e_3, ?_⟩
      conv => whnf
      refine len_q (enc := iA) (l := e_3.Ever) rfl ?_
      conv => whnf
      refine ⟨fun hb_12 => ?_, fun hb_12 => ?_⟩
      · replace hL1 := cond_t hb_12 hL1
        conv => whnf
        obtain rfl := Option.some.inj hL1
        replace hF := fin_ret hF
        obtain rfl := Option.some.inj hF
        exact ret_gz [] [] [] rfl (argFl (by (conv => lhs; whnf); all_goals rfl)) trivial
      · replace hL1 := cond_f hb_12 hL1
        conv => whnf
        refine ⟨((k_2 + 1 : Nat) : Int), wrapE (by omega) (by omega) (by omega), ?_⟩
        conv => whnf
        exact ⟨k_2 + 1, [], [], [], ⟨hlt_k_2, hL1⟩, by show x_0.length - (k_2 + 1) < x_0.length - k_2; omega, wk_mk [] [] [] rfl ⟨argE (by (conv => lhs; whnf); all_goals rfl) rfl, argE (by (conv => lhs; whnf); all_goals rfl) rfl, argE (by (conv => lhs; whnf); all_goals rfl) rfl, trivial⟩ trivial⟩
    · replace hL1 := cond_t hb_11 hL1
      conv => whnf
      obtain rfl := Option.some.inj hL1
      replace hF := fin_ret hF
      obtain rfl := Option.some.inj hF
      exact ret_gz [] [] [] rfl (argFl (by (conv => lhs; whnf); all_goals rfl)) trivial
  · rw [drop_nil (show x_0.length ≤ k_2 by have h := of_decide_eq_false h; omega), law25_few_L1.eq_1] at hL1
    conv => whnf
    obtain rfl := Option.some.inj hL1
    replace hF := fin_brk hF
    try dsimp only at hF
    refine len_q (enc := encManifest) (l := x_0) rfl ?_
    conv => whnf
    obtain rfl := Option.some.inj hF
    exact ret_gz [] [] [] rfl (argE (by (conv => lhs; whnf); all_goals rfl) rfl) trivial

set_option maxRecDepth 100000 in
set_option maxHeartbeats 40000000 in
theorem ref25_Copy_v2_ac (x_0 : Manifest) (r : Manifest) (hF : ref25_Copy_v2 x_0 = some r) : AC Try.prog 33 [.agg (encManifest x_0)] [] (.agg [.str r.Flight.Carrier, .int .i64 r.Flight.Number, .str r.Flight.Suffix, .int .i64 r.Flight.Day, .int .i64 r.Version, .osl 0, .osl 1]) [.row 1 (r.Boarded.map iA), .row 1 (r.Ever.map iA)] := by
  refine ac_of tab_ok follows_ok Try.func33 rfl Try.ntmps33 rfl ?_
  unfold ref25_Copy_v2 at hF
  conv => whnf
  obtain ⟨l_1, h_l_1, hF⟩ := bind_some hF
  refine ap_q (enc := iA) (l := ([] : List Int)) (y := x_0.Boarded) h_l_1 rfl rfl (by decide) ?_
  conv => whnf
  obtain ⟨l_2, h_l_2, hF⟩ := bind_some hF
  refine ap_q (enc := iA) (l := ([] : List Int)) (y := x_0.Ever) h_l_2 rfl rfl (by decide) ?_
  conv => whnf
  refine ⟨by kernel_rfl, ?_⟩
  conv => whnf
  obtain rfl := Option.some.inj hF
  exact ret_gz [3, 5] [] [] rfl (argA (c := [.str x_0.Flight.Carrier, .int .i64 x_0.Flight.Number, .str x_0.Flight.Suffix, .int .i64 x_0.Flight.Day, .int .i64 x_0.Version, .osl 3, .osl 5]) (by (conv => lhs; whnf); all_goals rfl) rfl ⟨(.ni _ rfl), (.ni _ rfl), (.ni _ rfl), (.ni _ rfl), (.ni _ rfl), (.oslg 3 0 rfl), (.oslg 5 1 rfl), trivial⟩) ⟨blkR (fun _ => ⟨rfl, rfl⟩) rfl rfl, blkR (fun _ => ⟨rfl, rfl⟩) rfl rfl, trivial⟩

set_option maxRecDepth 100000 in
set_option maxHeartbeats 40000000 in
theorem keep_Src_Pick_ac (x_0 : Src) (x_1 : (List Int)) (r : Int × Src) (hF : keep_Src_Pick x_0 x_1 = some r) : AC Try.prog 23 [.ptr 0 0, .lst 1 (x_1.map iA)] [.box (encSrc x_0)] (.int .i64 r.1) [.box (encSrc r.2)] := by
  refine ac_of tab_ok follows_ok Try.func23 rfl Try.ntmps23 rfl ?_
  unfold keep_Src_Pick at hF
  conv => whnf
  refine len_q (enc := iA) (l := x_1) rfl ?_
  conv => whnf
  obtain ⟨r_1, h_r_1, hF⟩ := bind_some hF
  refine ⟨_, _, _, _, _, _, _, _, _, callX false [0] [] 0 Try.func16 (by decide) rfl (keep_Src_N_ac x_0 (x_1.length : Int) r_1 h_r_1) rfl ⟨(argP (id := 0) (by (conv => lhs; whnf); all_goals rfl) rfl), (argE (by (conv => lhs; whnf); all_goals rfl) rfl), trivial⟩ rfl ⟨rfl, trivial⟩ rfl rfl rfl lend0 ⟨rfl, trivial⟩ rfl, ?_⟩
  conv => whnf
  obtain ⟨e_2, h_e_2, hF⟩ := bind_some hF
  refine ix_q (enc := iA) (l := x_1) h_e_2 rfl (fun m_e_2 hm_e_2 hx_e_2 => ?_)
  conv => whnf
  obtain rfl := Option.some.inj hF
  exact ret_gz [0] [] [] rfl (argE (by (conv => lhs; whnf); all_goals rfl) rfl) ⟨boxL rfl rfl rfl ⟨(.ni _ rfl), (.ni _ rfl), trivial⟩, trivial⟩
end Go.Proofs.Ytajmhegkkbnkcaa.Ex
