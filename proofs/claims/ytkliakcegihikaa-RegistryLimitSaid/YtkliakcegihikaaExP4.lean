/- The functions of the program compute what was printed; walks printed by a program. -/
import Derived.Test.YtkliakcegihikaaExF
import Derived.Test.YtkliakcegihikaaExP2
import Derived.Test.YtkliakcegihikaaExP3
namespace Go.Proofs.Ytkliakcegihikaa.Ex
open Go.RowKit Go.Proofs.Ytkliakcegihikaa.Ax
set_option linter.unusedVariables false
set_option linter.unusedSimpArgs false
set_option maxRecDepth 100000 in
set_option maxHeartbeats 40000000 in
theorem message_shaped_ac (x_0 : Message) (r : Bool) (hF : message_shaped x_0 = some r) : AC Try.prog 67 [.agg (encMessage x_0)] [] (.bool r) [] := by
  refine ac_of tab_ok follows_ok Try.func67 rfl Try.ntmps67 rfl ?_
  unfold message_shaped at hF
  conv => whnf
  obtain ⟨r_1, h_r_1, hF⟩ := bind_some hF
  refine ⟨_, _, _, _, _, _, _, _, callX false [] [] Try.func83 (by decide) rfl (flight_ValidPort_ac x_0.Port r_1 h_r_1) rfl ⟨(argE (by (conv => lhs; whnf); all_goals rfl) rfl), trivial⟩ rfl trivial rfl rfl rfl lend0 trivial, ?_⟩
  conv => whnf
  refine ⟨fun hb_44 => ?_, fun hb_44 => ?_⟩
  · replace hF := cond_f hb_44 hF
    conv => whnf
    refine ⟨fun hb_45 => ?_, fun hb_45 => ?_⟩
    · replace hF := cond_t hb_45 hF
      conv => whnf
      obtain ⟨r_2, h_r_2, hF⟩ := bind_some hF
      refine ⟨_, _, _, _, _, _, _, _, callX false [] [] Try.func84 (by decide) rfl (flight_ValidLeg_ac x_0.In r_2 h_r_2) rfl ⟨(argE (by (conv => lhs; whnf); all_goals rfl) rfl), trivial⟩ rfl trivial rfl rfl rfl lend0 trivial, ?_⟩
      conv => whnf
      refine ⟨fun hb_46 => ?_, fun hb_46 => ?_⟩
      · replace hF := cond_f hb_46 hF
        conv => whnf
        refine ⟨fun hb_47 => ?_, fun hb_47 => ?_⟩
        · replace hF := cond_t hb_47 hF
          conv => whnf
          obtain ⟨r_3, h_r_3, hF⟩ := bind_some hF
          refine ⟨_, _, _, _, _, _, _, _, callX false [] [] Try.func84 (by decide) rfl (flight_ValidLeg_ac x_0.Out r_3 h_r_3) rfl ⟨(argE (by (conv => lhs; whnf); all_goals rfl) rfl), trivial⟩ rfl trivial rfl rfl rfl lend0 trivial, ?_⟩
          conv => whnf
          refine ⟨fun hb_48 => ?_, fun hb_48 => ?_⟩
          · replace hF := cond_t hb_48 hF
            conv => whnf
            obtain rfl := Option.some.inj hF
            exact ret_gz [] [] [] rfl (argFl (by (conv => lhs; whnf); all_goals rfl)) trivial
          · replace hF := cond_f hb_48 hF
            conv => whnf
            refine len_q (enc := encLeg) (l := x_0.Onward) rfl ?_
            conv => whnf
            obtain ⟨c_1, hc_1, hF⟩ := fin_some hF
            refine sw_bv 0 (v := .agg [.int .i64 x_0.Kind, .int .i64 x_0.Do, .str x_0.Port, .int .i64 x_0.Number, .str x_0.In.Flight.Carrier, .int .i64 x_0.In.Flight.Number, .str x_0.In.Flight.Suffix, .int .i64 x_0.In.Flight.Day, .str x_0.In.Port, .str x_0.In.Class, .str x_0.Out.Flight.Carrier, .int .i64 x_0.Out.Flight.Number, .str x_0.Out.Flight.Suffix, .int .i64 x_0.Out.Flight.Day, .str x_0.Out.Port, .str x_0.Out.Class, .lst 6 (x_0.Onward.map encLeg), .int .i64 x_0.First.Lead, .int .i64 x_0.First.Airline, .int .i64 x_0.First.Serial, .int .i64 x_0.Count, .bool x_0.Load, .int .i64 x_0.Status, .int .i64 x_0.Sequence, .int .i64 x_0.Weight, .str x_0.Surname, .str x_0.Given, .int .i64 x_0.Exception, .str x_0.Node, .lst 1 (x_0.List.map iA)]) (by (conv => lhs; whnf); all_goals rfl) (fun hb => ?_)
            have hbd_k_5 : x_0.Onward.length ≤ 9223372036854775807 := bnd_len (enc := encLeg) ((bnd_at hb.cell 16 rfl))
            refine sw_loop tab_ok follows_ok (fun y : Nat => y ≤ x_0.Onward.length ∧ message_shaped_L1 (x_0.Onward.drop y) y = some c_1) (fun y => ⟨eL [(1, .ptr 0 0), (32, .lst 6 (x_0.Onward.map encLeg)), (33, .int .i64 (x_0.Onward.length : Int)), (34, .int .i64 (y : Int))], hL [(0, .box [.int .i64 x_0.Kind, .int .i64 x_0.Do, .str x_0.Port, .int .i64 x_0.Number, .str x_0.In.Flight.Carrier, .int .i64 x_0.In.Flight.Number, .str x_0.In.Flight.Suffix, .int .i64 x_0.In.Flight.Day, .str x_0.In.Port, .str x_0.In.Class, .str x_0.Out.Flight.Carrier, .int .i64 x_0.Out.Flight.Number, .str x_0.Out.Flight.Suffix, .int .i64 x_0.Out.Flight.Day, .str x_0.Out.Port, .str x_0.Out.Class, .lst 6 (x_0.Onward.map encLeg), .int .i64 x_0.First.Lead, .int .i64 x_0.First.Airline, .int .i64 x_0.First.Serial, .int .i64 x_0.Count, .bool x_0.Load, .int .i64 x_0.Status, .int .i64 x_0.Sequence, .int .i64 x_0.Weight, .str x_0.Surname, .str x_0.Given, .int .i64 x_0.Exception, .str x_0.Node, .lst 1 (x_0.List.map iA)])], 1⟩) (fun y => x_0.Onward.length - y) 0 ⟨Nat.zero_le _, hc_1⟩ (wk_mk [0] [] [] rfl ⟨argP (id := 0) (by (conv => lhs; whnf); all_goals rfl) rfl, argE (by (conv => lhs; whnf); all_goals rfl) rfl, argE (by (conv => lhs; whnf); all_goals rfl) rfl, argE (by (conv => lhs; whnf); all_goals rfl) rfl, trivial⟩ ⟨boxL rfl rfl rfl ⟨(.ni _ rfl), (.ni _ rfl), (.ni _ rfl), (.ni _ rfl), (.ni _ rfl), (.ni _ rfl), (.ni _ rfl), (.ni _ rfl), (.ni _ rfl), (.ni _ rfl), (.ni _ rfl), (.ni _ rfl), (.ni _ rfl), (.ni _ rfl), (.ni _ rfl), (.ni _ rfl), (.ni _ rfl), (.ni _ rfl), (.ni _ rfl), (.ni _ rfl), (.ni _ rfl), (.ni _ rfl), (.ni _ rfl), (.ni _ rfl), (.ni _ rfl), (.ni _ rfl), (.ni _ rfl), (.ni _ rfl), (.ni _ rfl), (.ni _ rfl), trivial⟩, trivial⟩) ?_
            rintro k_5 ⟨hk_k_5, hL1⟩
            try dsimp only at hk_k_5 hL1
            show awp _ _ _ _ _ _ ⟨eL [(1, .ptr 0 0), (32, .lst 6 (x_0.Onward.map encLeg)), (33, .int .i64 (x_0.Onward.length : Int)), (34, .int .i64 (k_5 : Int))], hL [(0, .box [.int .i64 x_0.Kind, .int .i64 x_0.Do, .str x_0.Port, .int .i64 x_0.Number, .str x_0.In.Flight.Carrier, .int .i64 x_0.In.Flight.Number, .str x_0.In.Flight.Suffix, .int .i64 x_0.In.Flight.Day, .str x_0.In.Port, .str x_0.In.Class, .str x_0.Out.Flight.Carrier, .int .i64 x_0.Out.Flight.Number, .str x_0.Out.Flight.Suffix, .int .i64 x_0.Out.Flight.Day, .str x_0.Out.Port, .str x_0.Out.Class, .lst 6 (x_0.Onward.map encLeg), .int .i64 x_0.First.Lead, .int .i64 x_0.First.Airline, .int .i64 x_0.First.Serial, .int .i64 x_0.Count, .bool x_0.Load, .int .i64 x_0.Status, .int .i64 x_0.Sequence, .int .i64 x_0.Weight, .str x_0.Surname, .str x_0.Given, .int .i64 x_0.Exception, .str x_0.Node, .lst 1 (x_0.List.map iA)])], 1⟩
            conv => whnf
            refine ⟨fun h => ?_, fun h => ?_⟩
            · have hlt_k_5 : k_5 < x_0.Onward.length := by have h := of_decide_eq_true h; omega
              obtain ⟨e_6, h_e_6⟩ : ∃ y, x_0.Onward[k_5]? = some y := ⟨_, List.getElem?_eq_getElem hlt_k_5⟩
              rw [drop_cons h_e_6, message_shaped_L1.eq_2] at hL1
              conv => whnf
              refine ⟨k_5, _, rfl, ix_map h_e_6, ?_⟩
              conv => whnf
              obtain ⟨r_7, h_r_7, hL1⟩ := bind_some hL1
              refine ⟨_, _, _, _, _, _, _, _, callX false [] [] Try.func84 (by decide) rfl (flight_ValidLeg_ac e_6 r_7 h_r_7) rfl ⟨(argE (by (conv => lhs; whnf); all_goals rfl) rfl), trivial⟩ rfl trivial rfl rfl rfl lend0 trivial, ?_⟩
              conv => whnf
              refine ⟨fun hb_49 => ?_, fun hb_49 => ?_⟩
              · replace hL1 := cond_t hb_49 hL1
                conv => whnf
                obtain rfl := Option.some.inj hL1
                replace hF := fin_ret hF
                obtain rfl := Option.some.inj hF
                exact ret_gz [] [] [] rfl (argFl (by (conv => lhs; whnf); all_goals rfl)) trivial
              · replace hL1 := cond_f hb_49 hL1
                conv => whnf
                refine ⟨((k_5 + 1 : Nat) : Int), wrapE (by omega) (by omega) (by omega), ?_⟩
                conv => whnf
                exact ⟨k_5 + 1, [0], [], [], ⟨hlt_k_5, hL1⟩, by show x_0.Onward.length - (k_5 + 1) < x_0.Onward.length - k_5; omega, wk_mk [0] [] [] rfl ⟨argP (id := 0) (by (conv => lhs; whnf); all_goals rfl) rfl, argE (by (conv => lhs; whnf); all_goals rfl) rfl, argE (by (conv => lhs; whnf); all_goals rfl) rfl, argE (by (conv => lhs; whnf); all_goals rfl) rfl, trivial⟩ ⟨boxL rfl rfl rfl ⟨(.ni _ rfl), (.ni _ rfl), (.ni _ rfl), (.ni _ rfl), (.ni _ rfl), (.ni _ rfl), (.ni _ rfl), (.ni _ rfl), (.ni _ rfl), (.ni _ rfl), (.ni _ rfl), (.ni _ rfl), (.ni _ rfl), (.ni _ rfl), (.ni _ rfl), (.ni _ rfl), (.ni _ rfl), (.ni _ rfl), (.ni _ rfl), (.ni _ rfl), (.ni _ rfl), (.ni _ rfl), (.ni _ rfl), (.ni _ rfl), (.ni _ rfl), (.ni _ rfl), (.ni _ rfl), (.ni _ rfl), (.ni _ rfl), (.ni _ rfl), trivial⟩, trivial⟩⟩
            · rw [drop_nil (show x_0.Onward.length ≤ k_5 by have h := of_decide_eq_false h; omega), message_shaped_L1.eq_1] at hL1
              conv => whnf
              obtain rfl := Option.some.inj hL1
              replace hF := fin_brk hF
              try dsimp only at hF
              obtain ⟨r_10, h_r_10, hF⟩ := bind_some hF
              refine ⟨_, _, _, _, _, _, _, _, callX false [] [] Try.func85 (by decide) rfl (message_describes_ac x_0.Kind r_10 h_r_10) rfl ⟨(argE (by (conv => lhs; whnf); all_goals rfl) rfl), trivial⟩ rfl trivial rfl rfl rfl lend0 trivial, ?_⟩
              conv => whnf
              refine ⟨fun hb_50 => ?_, fun hb_50 => ?_⟩
              · replace hF := cond_t hb_50 hF
                conv => whnf
                obtain ⟨r_11, h_r_11, hF⟩ := bind_some hF
                refine ⟨_, _, _, _, _, _, _, _, callX false [] [] Try.func86 (by decide) rfl (fields_Letters_ac x_0.Surname (1 : Int) (20 : Int) r_11 h_r_11) rfl ⟨(argE (by (conv => lhs; whnf); all_goals rfl) rfl), (argE (by (conv => lhs; whnf); all_goals rfl) rfl), (argE (by (conv => lhs; whnf); all_goals rfl) rfl), trivial⟩ rfl trivial rfl rfl rfl lend0 trivial, ?_⟩
                conv => whnf
                refine ⟨fun hb_51 => ?_, fun hb_51 => ?_⟩
                · replace hF := cond_f hb_51 hF
                  conv => whnf
                  obtain ⟨r_12, h_r_12, hF⟩ := bind_some hF
                  refine ⟨_, _, _, _, _, _, _, _, callX false [] [] Try.func86 (by decide) rfl (fields_Letters_ac x_0.Given (0 : Int) (20 : Int) r_12 h_r_12) rfl ⟨(argE (by (conv => lhs; whnf); all_goals rfl) rfl), (argE (by (conv => lhs; whnf); all_goals rfl) rfl), (argE (by (conv => lhs; whnf); all_goals rfl) rfl), trivial⟩ rfl trivial rfl rfl rfl lend0 trivial, ?_⟩
                  conv => whnf
                  refine ⟨fun hb_52 => ?_, fun hb_52 => ?_⟩
                  · replace hF := cond_t hb_52 hF
                    conv => whnf
                    obtain rfl := Option.some.inj hF
                    exact ret_gz [] [] [] rfl (argFl (by (conv => lhs; whnf); all_goals rfl)) trivial
                  · replace hF := cond_f hb_52 hF
                    conv => whnf
                    refine ⟨fun h => ?_, fun h => ?_⟩
                    · cases (hb_47).symm.trans h
                    · conv => whnf
                      obtain rfl := Option.some.inj hF
                      exact ret_gz [] [] [] rfl (argT (by (conv => lhs; whnf); all_goals rfl)) trivial
                · replace hF := cond_t hb_51 hF
                  conv => whnf
                  obtain rfl := Option.some.inj hF
                  exact ret_gz [] [] [] rfl (argFl (by (conv => lhs; whnf); all_goals rfl)) trivial
              · replace hF := cond_f hb_50 hF
                conv => whnf
                refine ⟨fun h => ?_, fun h => ?_⟩
                · cases (hb_47).symm.trans h
                · conv => whnf
                  obtain rfl := Option.some.inj hF
                  exact ret_gz [] [] [] rfl (argT (by (conv => lhs; whnf); all_goals rfl)) trivial
        · replace hF := cond_f hb_47 hF
          conv => whnf
          refine len_q (enc := encLeg) (l := x_0.Onward) rfl ?_
          conv => whnf
          obtain ⟨c_1, hc_1, hF⟩ := fin_some hF
          refine sw_bv 0 (v := .agg [.int .i64 x_0.Kind, .int .i64 x_0.Do, .str x_0.Port, .int .i64 x_0.Number, .str x_0.In.Flight.Carrier, .int .i64 x_0.In.Flight.Number, .str x_0.In.Flight.Suffix, .int .i64 x_0.In.Flight.Day, .str x_0.In.Port, .str x_0.In.Class, .str x_0.Out.Flight.Carrier, .int .i64 x_0.Out.Flight.Number, .str x_0.Out.Flight.Suffix, .int .i64 x_0.Out.Flight.Day, .str x_0.Out.Port, .str x_0.Out.Class, .lst 6 (x_0.Onward.map encLeg), .int .i64 x_0.First.Lead, .int .i64 x_0.First.Airline, .int .i64 x_0.First.Serial, .int .i64 x_0.Count, .bool x_0.Load, .int .i64 x_0.Status, .int .i64 x_0.Sequence, .int .i64 x_0.Weight, .str x_0.Surname, .str x_0.Given, .int .i64 x_0.Exception, .str x_0.Node, .lst 1 (x_0.List.map iA)]) (by (conv => lhs; whnf); all_goals rfl) (fun hb => ?_)
          have hbd_k_14 : x_0.Onward.length ≤ 9223372036854775807 := bnd_len (enc := encLeg) ((bnd_at hb.cell 16 rfl))
          refine sw_loop tab_ok follows_ok (fun y : Nat => y ≤ x_0.Onward.length ∧ message_shaped_L1 (x_0.Onward.drop y) y = some c_1) (fun y => ⟨eL [(1, .ptr 0 0), (32, .lst 6 (x_0.Onward.map encLeg)), (33, .int .i64 (x_0.Onward.length : Int)), (34, .int .i64 (y : Int))], hL [(0, .box [.int .i64 x_0.Kind, .int .i64 x_0.Do, .str x_0.Port, .int .i64 x_0.Number, .str x_0.In.Flight.Carrier, .int .i64 x_0.In.Flight.Number, .str x_0.In.Flight.Suffix, .int .i64 x_0.In.Flight.Day, .str x_0.In.Port, .str x_0.In.Class, .str x_0.Out.Flight.Carrier, .int .i64 x_0.Out.Flight.Number, .str x_0.Out.Flight.Suffix, .int .i64 x_0.Out.Flight.Day, .str x_0.Out.Port, .str x_0.Out.Class, .lst 6 (x_0.Onward.map encLeg), .int .i64 x_0.First.Lead, .int .i64 x_0.First.Airline, .int .i64 x_0.First.Serial, .int .i64 x_0.Count, .bool x_0.Load, .int .i64 x_0.Status, .int .i64 x_0.Sequence, .int .i64 x_0.Weight, .str x_0.Surname, .str x_0.Given, .int .i64 x_0.Exception, .str x_0.Node, .lst 1 (x_0.List.map iA)])], 1⟩) (fun y => x_0.Onward.length - y) 0 ⟨Nat.zero_le _, hc_1⟩ (wk_mk [0] [] [] rfl ⟨argP (id := 0) (by (conv => lhs; whnf); all_goals rfl) rfl, argE (by (conv => lhs; whnf); all_goals rfl) rfl, argE (by (conv => lhs; whnf); all_goals rfl) rfl, argE (by (conv => lhs; whnf); all_goals rfl) rfl, trivial⟩ ⟨boxL rfl rfl rfl ⟨(.ni _ rfl), (.ni _ rfl), (.ni _ rfl), (.ni _ rfl), (.ni _ rfl), (.ni _ rfl), (.ni _ rfl), (.ni _ rfl), (.ni _ rfl), (.ni _ rfl), (.ni _ rfl), (.ni _ rfl), (.ni _ rfl), (.ni _ rfl), (.ni _ rfl), (.ni _ rfl), (.ni _ rfl), (.ni _ rfl), (.ni _ rfl), (.ni _ rfl), (.ni _ rfl), (.ni _ rfl), (.ni _ rfl), (.ni _ rfl), (.ni _ rfl), (.ni _ rfl), (.ni _ rfl), (.ni _ rfl), (.ni _ rfl), (.ni _ rfl), trivial⟩, trivial⟩) ?_
          rintro k_14 ⟨hk_k_14, hL1⟩
          try dsimp only at hk_k_14 hL1
          show awp _ _ _ _ _ _ ⟨eL [(1, .ptr 0 0), (32, .lst 6 (x_0.Onward.map encLeg)), (33, .int .i64 (x_0.Onward.length : Int)), (34, .int .i64 (k_14 : Int))], hL [(0, .box [.int .i64 x_0.Kind, .int .i64 x_0.Do, .str x_0.Port, .int .i64 x_0.Number, .str x_0.In.Flight.Carrier, .int .i64 x_0.In.Flight.Number, .str x_0.In.Flight.Suffix, .int .i64 x_0.In.Flight.Day, .str x_0.In.Port, .str x_0.In.Class, .str x_0.Out.Flight.Carrier, .int .i64 x_0.Out.Flight.Number, .str x_0.Out.Flight.Suffix, .int .i64 x_0.Out.Flight.Day, .str x_0.Out.Port, .str x_0.Out.Class, .lst 6 (x_0.Onward.map encLeg), .int .i64 x_0.First.Lead, .int .i64 x_0.First.Airline, .int .i64 x_0.First.Serial, .int .i64 x_0.Count, .bool x_0.Load, .int .i64 x_0.Status, .int .i64 x_0.Sequence, .int .i64 x_0.Weight, .str x_0.Surname, .str x_0.Given, .int .i64 x_0.Exception, .str x_0.Node, .lst 1 (x_0.List.map iA)])], 1⟩
          conv => whnf
          refine ⟨fun h => ?_, fun h => ?_⟩
          · have hlt_k_14 : k_14 < x_0.Onward.length := by have h := of_decide_eq_true h; omega
            obtain ⟨e_15, h_e_15⟩ : ∃ y, x_0.Onward[k_14]? = some y := ⟨_, List.getElem?_eq_getElem hlt_k_14⟩
            rw [drop_cons h_e_15, message_shaped_L1.eq_2] at hL1
            conv => whnf
            refine ⟨k_14, _, rfl, ix_map h_e_15, ?_⟩
            conv => whnf
            obtain ⟨r_16, h_r_16, hL1⟩ := bind_some hL1
            refine ⟨_, _, _, _, _, _, _, _, callX false [] [] Try.func84 (by decide) rfl (flight_ValidLeg_ac e_15 r_16 h_r_16) rfl ⟨(argE (by (conv => lhs; whnf); all_goals rfl) rfl), trivial⟩ rfl trivial rfl rfl rfl lend0 trivial, ?_⟩
            conv => whnf
            refine ⟨fun hb_53 => ?_, fun hb_53 => ?_⟩
            · replace hL1 := cond_t hb_53 hL1
              conv => whnf
              obtain rfl := Option.some.inj hL1
              replace hF := fin_ret hF
              obtain rfl := Option.some.inj hF
              exact ret_gz [] [] [] rfl (argFl (by (conv => lhs; whnf); all_goals rfl)) trivial
            · replace hL1 := cond_f hb_53 hL1
              conv => whnf
              refine ⟨((k_14 + 1 : Nat) : Int), wrapE (by omega) (by omega) (by omega), ?_⟩
              conv => whnf
              exact ⟨k_14 + 1, [0], [], [], ⟨hlt_k_14, hL1⟩, by show x_0.Onward.length - (k_14 + 1) < x_0.Onward.length - k_14; omega, wk_mk [0] [] [] rfl ⟨argP (id := 0) (by (conv => lhs; whnf); all_goals rfl) rfl, argE (by (conv => lhs; whnf); all_goals rfl) rfl, argE (by (conv => lhs; whnf); all_goals rfl) rfl, argE (by (conv => lhs; whnf); all_goals rfl) rfl, trivial⟩ ⟨boxL rfl rfl rfl ⟨(.ni _ rfl), (.ni _ rfl), (.ni _ rfl), (.ni _ rfl), (.ni _ rfl), (.ni _ rfl), (.ni _ rfl), (.ni _ rfl), (.ni _ rfl), (.ni _ rfl), (.ni _ rfl), (.ni _ rfl), (.ni _ rfl), (.ni _ rfl), (.ni _ rfl), (.ni _ rfl), (.ni _ rfl), (.ni _ rfl), (.ni _ rfl), (.ni _ rfl), (.ni _ rfl), (.ni _ rfl), (.ni _ rfl), (.ni _ rfl), (.ni _ rfl), (.ni _ rfl), (.ni _ rfl), (.ni _ rfl), (.ni _ rfl), (.ni _ rfl), trivial⟩, trivial⟩⟩
          · rw [drop_nil (show x_0.Onward.length ≤ k_14 by have h := of_decide_eq_false h; omega), message_shaped_L1.eq_1] at hL1
            conv => whnf
            obtain rfl := Option.some.inj hL1
            replace hF := fin_brk hF
            try dsimp only at hF
            obtain ⟨r_19, h_r_19, hF⟩ := bind_some hF
            refine ⟨_, _, _, _, _, _, _, _, callX false [] [] Try.func85 (by decide) rfl (message_describes_ac x_0.Kind r_19 h_r_19) rfl ⟨(argE (by (conv => lhs; whnf); all_goals rfl) rfl), trivial⟩ rfl trivial rfl rfl rfl lend0 trivial, ?_⟩
            conv => whnf
            refine ⟨fun hb_54 => ?_, fun hb_54 => ?_⟩
            · replace hF := cond_t hb_54 hF
              conv => whnf
              obtain ⟨r_20, h_r_20, hF⟩ := bind_some hF
              refine ⟨_, _, _, _, _, _, _, _, callX false [] [] Try.func86 (by decide) rfl (fields_Letters_ac x_0.Surname (1 : Int) (20 : Int) r_20 h_r_20) rfl ⟨(argE (by (conv => lhs; whnf); all_goals rfl) rfl), (argE (by (conv => lhs; whnf); all_goals rfl) rfl), (argE (by (conv => lhs; whnf); all_goals rfl) rfl), trivial⟩ rfl trivial rfl rfl rfl lend0 trivial, ?_⟩
              conv => whnf
              refine ⟨fun hb_55 => ?_, fun hb_55 => ?_⟩
              · replace hF := cond_f hb_55 hF
                conv => whnf
                obtain ⟨r_21, h_r_21, hF⟩ := bind_some hF
                refine ⟨_, _, _, _, _, _, _, _, callX false [] [] Try.func86 (by decide) rfl (fields_Letters_ac x_0.Given (0 : Int) (20 : Int) r_21 h_r_21) rfl ⟨(argE (by (conv => lhs; whnf); all_goals rfl) rfl), (argE (by (conv => lhs; whnf); all_goals rfl) rfl), (argE (by (conv => lhs; whnf); all_goals rfl) rfl), trivial⟩ rfl trivial rfl rfl rfl lend0 trivial, ?_⟩
                conv => whnf
                refine ⟨fun hb_56 => ?_, fun hb_56 => ?_⟩
                · replace hF := cond_t hb_56 hF
                  conv => whnf
                  obtain rfl := Option.some.inj hF
                  exact ret_gz [] [] [] rfl (argFl (by (conv => lhs; whnf); all_goals rfl)) trivial
                · replace hF := cond_f hb_56 hF
                  conv => whnf
                  refine ⟨fun h => ?_, fun h => ?_⟩
                  · conv => whnf
                    obtain ⟨r_22, h_r_22, hF⟩ := bind_some hF
                    refine ⟨_, _, _, _, _, _, _, _, callX false [] [] Try.func87 (by decide) rfl (fields_Name_ac x_0.Node (12 : Int) r_22 h_r_22) rfl ⟨(argE (by (conv => lhs; whnf); all_goals rfl) rfl), (argE (by (conv => lhs; whnf); all_goals rfl) rfl), trivial⟩ rfl trivial rfl rfl rfl lend0 trivial, ?_⟩
                    conv => whnf
                    obtain rfl := Option.some.inj hF
                    exact ret_gz [] [] [] rfl (argE (by (conv => lhs; whnf); all_goals rfl) rfl) trivial
                  · cases (hb_47).symm.trans h
              · replace hF := cond_t hb_55 hF
                conv => whnf
                obtain rfl := Option.some.inj hF
                exact ret_gz [] [] [] rfl (argFl (by (conv => lhs; whnf); all_goals rfl)) trivial
            · replace hF := cond_f hb_54 hF
              conv => whnf
              refine ⟨fun h => ?_, fun h => ?_⟩
              · conv => whnf
                obtain ⟨r_23, h_r_23, hF⟩ := bind_some hF
                refine ⟨_, _, _, _, _, _, _, _, callX false [] [] Try.func87 (by decide) rfl (fields_Name_ac x_0.Node (12 : Int) r_23 h_r_23) rfl ⟨(argE (by (conv => lhs; whnf); all_goals rfl) rfl), (argE (by (conv => lhs; whnf); all_goals rfl) rfl), trivial⟩ rfl trivial rfl rfl rfl lend0 trivial, ?_⟩
                conv => whnf
                obtain rfl := Option.some.inj hF
                exact ret_gz [] [] [] rfl (argE (by (conv => lhs; whnf); all_goals rfl) rfl) trivial
              · cases (hb_47).symm.trans h
      · replace hF := cond_t hb_46 hF
        conv => whnf
        obtain rfl := Option.some.inj hF
        exact ret_gz [] [] [] rfl (argFl (by (conv => lhs; whnf); all_goals rfl)) trivial
    · replace hF := cond_f hb_45 hF
      conv => whnf
      refine ⟨fun hb_57 => ?_, fun hb_57 => ?_⟩
      · replace hF := cond_t hb_57 hF
        conv => whnf
        obtain ⟨r_24, h_r_24, hF⟩ := bind_some hF
        refine ⟨_, _, _, _, _, _, _, _, callX false [] [] Try.func84 (by decide) rfl (flight_ValidLeg_ac x_0.Out r_24 h_r_24) rfl ⟨(argE (by (conv => lhs; whnf); all_goals rfl) rfl), trivial⟩ rfl trivial rfl rfl rfl lend0 trivial, ?_⟩
        conv => whnf
        refine ⟨fun hb_58 => ?_, fun hb_58 => ?_⟩
        · replace hF := cond_t hb_58 hF
          conv => whnf
          obtain rfl := Option.some.inj hF
          exact ret_gz [] [] [] rfl (argFl (by (conv => lhs; whnf); all_goals rfl)) trivial
        · replace hF := cond_f hb_58 hF
          conv => whnf
          refine len_q (enc := encLeg) (l := x_0.Onward) rfl ?_
          conv => whnf
          obtain ⟨c_1, hc_1, hF⟩ := fin_some hF
          refine sw_bv 0 (v := .agg [.int .i64 x_0.Kind, .int .i64 x_0.Do, .str x_0.Port, .int .i64 x_0.Number, .str x_0.In.Flight.Carrier, .int .i64 x_0.In.Flight.Number, .str x_0.In.Flight.Suffix, .int .i64 x_0.In.Flight.Day, .str x_0.In.Port, .str x_0.In.Class, .str x_0.Out.Flight.Carrier, .int .i64 x_0.Out.Flight.Number, .str x_0.Out.Flight.Suffix, .int .i64 x_0.Out.Flight.Day, .str x_0.Out.Port, .str x_0.Out.Class, .lst 6 (x_0.Onward.map encLeg), .int .i64 x_0.First.Lead, .int .i64 x_0.First.Airline, .int .i64 x_0.First.Serial, .int .i64 x_0.Count, .bool x_0.Load, .int .i64 x_0.Status, .int .i64 x_0.Sequence, .int .i64 x_0.Weight, .str x_0.Surname, .str x_0.Given, .int .i64 x_0.Exception, .str x_0.Node, .lst 1 (x_0.List.map iA)]) (by (conv => lhs; whnf); all_goals rfl) (fun hb => ?_)
          have hbd_k_26 : x_0.Onward.length ≤ 9223372036854775807 := bnd_len (enc := encLeg) ((bnd_at hb.cell 16 rfl))
          refine sw_loop tab_ok follows_ok (fun y : Nat => y ≤ x_0.Onward.length ∧ message_shaped_L1 (x_0.Onward.drop y) y = some c_1) (fun y => ⟨eL [(1, .ptr 0 0), (32, .lst 6 (x_0.Onward.map encLeg)), (33, .int .i64 (x_0.Onward.length : Int)), (34, .int .i64 (y : Int))], hL [(0, .box [.int .i64 x_0.Kind, .int .i64 x_0.Do, .str x_0.Port, .int .i64 x_0.Number, .str x_0.In.Flight.Carrier, .int .i64 x_0.In.Flight.Number, .str x_0.In.Flight.Suffix, .int .i64 x_0.In.Flight.Day, .str x_0.In.Port, .str x_0.In.Class, .str x_0.Out.Flight.Carrier, .int .i64 x_0.Out.Flight.Number, .str x_0.Out.Flight.Suffix, .int .i64 x_0.Out.Flight.Day, .str x_0.Out.Port, .str x_0.Out.Class, .lst 6 (x_0.Onward.map encLeg), .int .i64 x_0.First.Lead, .int .i64 x_0.First.Airline, .int .i64 x_0.First.Serial, .int .i64 x_0.Count, .bool x_0.Load, .int .i64 x_0.Status, .int .i64 x_0.Sequence, .int .i64 x_0.Weight, .str x_0.Surname, .str x_0.Given, .int .i64 x_0.Exception, .str x_0.Node, .lst 1 (x_0.List.map iA)])], 1⟩) (fun y => x_0.Onward.length - y) 0 ⟨Nat.zero_le _, hc_1⟩ (wk_mk [0] [] [] rfl ⟨argP (id := 0) (by (conv => lhs; whnf); all_goals rfl) rfl, argE (by (conv => lhs; whnf); all_goals rfl) rfl, argE (by (conv => lhs; whnf); all_goals rfl) rfl, argE (by (conv => lhs; whnf); all_goals rfl) rfl, trivial⟩ ⟨boxL rfl rfl rfl ⟨(.ni _ rfl), (.ni _ rfl), (.ni _ rfl), (.ni _ rfl), (.ni _ rfl), (.ni _ rfl), (.ni _ rfl), (.ni _ rfl), (.ni _ rfl), (.ni _ rfl), (.ni _ rfl), (.ni _ rfl), (.ni _ rfl), (.ni _ rfl), (.ni _ rfl), (.ni _ rfl), (.ni _ rfl), (.ni _ rfl), (.ni _ rfl), (.ni _ rfl), (.ni _ rfl), (.ni _ rfl), (.ni _ rfl), (.ni _ rfl), (.ni _ rfl), (.ni _ rfl), (.ni _ rfl), (.ni _ rfl), (.ni _ rfl), (.ni _ rfl), trivial⟩, trivial⟩) ?_
          rintro k_26 ⟨hk_k_26, hL1⟩
          try dsimp only at hk_k_26 hL1
          show awp _ _ _ _ _ _ ⟨eL [(1, .ptr 0 0), (32, .lst 6 (x_0.Onward.map encLeg)), (33, .int .i64 (x_0.Onward.length : Int)), (34, .int .i64 (k_26 : Int))], hL [(0, .box [.int .i64 x_0.Kind, .int .i64 x_0.Do, .str x_0.Port, .int .i64 x_0.Number, .str x_0.In.Flight.Carrier, .int .i64 x_0.In.Flight.Number, .str x_0.In.Flight.Suffix, .int .i64 x_0.In.Flight.Day, .str x_0.In.Port, .str x_0.In.Class, .str x_0.Out.Flight.Carrier, .int .i64 x_0.Out.Flight.Number, .str x_0.Out.Flight.Suffix, .int .i64 x_0.Out.Flight.Day, .str x_0.Out.Port, .str x_0.Out.Class, .lst 6 (x_0.Onward.map encLeg), .int .i64 x_0.First.Lead, .int .i64 x_0.First.Airline, .int .i64 x_0.First.Serial, .int .i64 x_0.Count, .bool x_0.Load, .int .i64 x_0.Status, .int .i64 x_0.Sequence, .int .i64 x_0.Weight, .str x_0.Surname, .str x_0.Given, .int .i64 x_0.Exception, .str x_0.Node, .lst 1 (x_0.List.map iA)])], 1⟩
          conv => whnf
          refine ⟨fun h => ?_, fun h => ?_⟩
          · have hlt_k_26 : k_26 < x_0.Onward.length := by have h := of_decide_eq_true h; omega
            obtain ⟨e_27, h_e_27⟩ : ∃ y, x_0.Onward[k_26]? = some y := ⟨_, List.getElem?_eq_getElem hlt_k_26⟩
            rw [drop_cons h_e_27, message_shaped_L1.eq_2] at hL1
            conv => whnf
            refine ⟨k_26, _, rfl, ix_map h_e_27, ?_⟩
            conv => whnf
            obtain ⟨r_28, h_r_28, hL1⟩ := bind_some hL1
            refine ⟨_, _, _, _, _, _, _, _, callX false [] [] Try.func84 (by decide) rfl (flight_ValidLeg_ac e_27 r_28 h_r_28) rfl ⟨(argE (by (conv => lhs; whnf); all_goals rfl) rfl), trivial⟩ rfl trivial rfl rfl rfl lend0 trivial, ?_⟩
            conv => whnf
            refine ⟨fun hb_59 => ?_, fun hb_59 => ?_⟩
            · replace hL1 := cond_t hb_59 hL1
              conv => whnf
              obtain rfl := Option.some.inj hL1
              replace hF := fin_ret hF
              obtain rfl := Option.some.inj hF
              exact ret_gz [] [] [] rfl (argFl (by (conv => lhs; whnf); all_goals rfl)) trivial
            · replace hL1 := cond_f hb_59 hL1
              conv => whnf
              refine ⟨((k_26 + 1 : Nat) : Int), wrapE (by omega) (by omega) (by omega), ?_⟩
              conv => whnf
              exact ⟨k_26 + 1, [0], [], [], ⟨hlt_k_26, hL1⟩, by show x_0.Onward.length - (k_26 + 1) < x_0.Onward.length - k_26; omega, wk_mk [0] [] [] rfl ⟨argP (id := 0) (by (conv => lhs; whnf); all_goals rfl) rfl, argE (by (conv => lhs; whnf); all_goals rfl) rfl, argE (by (conv => lhs; whnf); all_goals rfl) rfl, argE (by (conv => lhs; whnf); all_goals rfl) rfl, trivial⟩ ⟨boxL rfl rfl rfl ⟨(.ni _ rfl), (.ni _ rfl), (.ni _ rfl), (.ni _ rfl), (.ni _ rfl), (.ni _ rfl), (.ni _ rfl), (.ni _ rfl), (.ni _ rfl), (.ni _ rfl), (.ni _ rfl), (.ni _ rfl), (.ni _ rfl), (.ni _ rfl), (.ni _ rfl), (.ni _ rfl), (.ni _ rfl), (.ni _ rfl), (.ni _ rfl), (.ni _ rfl), (.ni _ rfl), (.ni _ rfl), (.ni _ rfl), (.ni _ rfl), (.ni _ rfl), (.ni _ rfl), (.ni _ rfl), (.ni _ rfl), (.ni _ rfl), (.ni _ rfl), trivial⟩, trivial⟩⟩
          · rw [drop_nil (show x_0.Onward.length ≤ k_26 by have h := of_decide_eq_false h; omega), message_shaped_L1.eq_1] at hL1
            conv => whnf
            obtain rfl := Option.some.inj hL1
            replace hF := fin_brk hF
            try dsimp only at hF
            obtain ⟨r_31, h_r_31, hF⟩ := bind_some hF
            refine ⟨_, _, _, _, _, _, _, _, callX false [] [] Try.func85 (by decide) rfl (message_describes_ac x_0.Kind r_31 h_r_31) rfl ⟨(argE (by (conv => lhs; whnf); all_goals rfl) rfl), trivial⟩ rfl trivial rfl rfl rfl lend0 trivial, ?_⟩
            conv => whnf
            refine ⟨fun hb_60 => ?_, fun hb_60 => ?_⟩
            · replace hF := cond_t hb_60 hF
              conv => whnf
              obtain ⟨r_32, h_r_32, hF⟩ := bind_some hF
              refine ⟨_, _, _, _, _, _, _, _, callX false [] [] Try.func86 (by decide) rfl (fields_Letters_ac x_0.Surname (1 : Int) (20 : Int) r_32 h_r_32) rfl ⟨(argE (by (conv => lhs; whnf); all_goals rfl) rfl), (argE (by (conv => lhs; whnf); all_goals rfl) rfl), (argE (by (conv => lhs; whnf); all_goals rfl) rfl), trivial⟩ rfl trivial rfl rfl rfl lend0 trivial, ?_⟩
              conv => whnf
              refine ⟨fun hb_61 => ?_, fun hb_61 => ?_⟩
              · replace hF := cond_f hb_61 hF
                conv => whnf
                obtain ⟨r_33, h_r_33, hF⟩ := bind_some hF
                refine ⟨_, _, _, _, _, _, _, _, callX false [] [] Try.func86 (by decide) rfl (fields_Letters_ac x_0.Given (0 : Int) (20 : Int) r_33 h_r_33) rfl ⟨(argE (by (conv => lhs; whnf); all_goals rfl) rfl), (argE (by (conv => lhs; whnf); all_goals rfl) rfl), (argE (by (conv => lhs; whnf); all_goals rfl) rfl), trivial⟩ rfl trivial rfl rfl rfl lend0 trivial, ?_⟩
                conv => whnf
                refine ⟨fun hb_62 => ?_, fun hb_62 => ?_⟩
                · replace hF := cond_t hb_62 hF
                  conv => whnf
                  obtain rfl := Option.some.inj hF
                  exact ret_gz [] [] [] rfl (argFl (by (conv => lhs; whnf); all_goals rfl)) trivial
                · replace hF := cond_f hb_62 hF
                  conv => whnf
                  refine ⟨fun h => ?_, fun h => ?_⟩
                  · cases (hb_57).symm.trans h
                  · conv => whnf
                    obtain rfl := Option.some.inj hF
                    exact ret_gz [] [] [] rfl (argT (by (conv => lhs; whnf); all_goals rfl)) trivial
              · replace hF := cond_t hb_61 hF
                conv => whnf
                obtain rfl := Option.some.inj hF
                exact ret_gz [] [] [] rfl (argFl (by (conv => lhs; whnf); all_goals rfl)) trivial
            · replace hF := cond_f hb_60 hF
              conv => whnf
              refine ⟨fun h => ?_, fun h => ?_⟩
              · cases (hb_57).symm.trans h
              · conv => whnf
                obtain rfl := Option.some.inj hF
                exact ret_gz [] [] [] rfl (argT (by (conv => lhs; whnf); all_goals rfl)) trivial
      · replace hF := cond_f hb_57 hF
        conv => whnf
        refine len_q (enc := encLeg) (l := x_0.Onward) rfl ?_
        conv => whnf
        obtain ⟨c_1, hc_1, hF⟩ := fin_some hF
        refine sw_bv 0 (v := .agg [.int .i64 x_0.Kind, .int .i64 x_0.Do, .str x_0.Port, .int .i64 x_0.Number, .str x_0.In.Flight.Carrier, .int .i64 x_0.In.Flight.Number, .str x_0.In.Flight.Suffix, .int .i64 x_0.In.Flight.Day, .str x_0.In.Port, .str x_0.In.Class, .str x_0.Out.Flight.Carrier, .int .i64 x_0.Out.Flight.Number, .str x_0.Out.Flight.Suffix, .int .i64 x_0.Out.Flight.Day, .str x_0.Out.Port, .str x_0.Out.Class, .lst 6 (x_0.Onward.map encLeg), .int .i64 x_0.First.Lead, .int .i64 x_0.First.Airline, .int .i64 x_0.First.Serial, .int .i64 x_0.Count, .bool x_0.Load, .int .i64 x_0.Status, .int .i64 x_0.Sequence, .int .i64 x_0.Weight, .str x_0.Surname, .str x_0.Given, .int .i64 x_0.Exception, .str x_0.Node, .lst 1 (x_0.List.map iA)]) (by (conv => lhs; whnf); all_goals rfl) (fun hb => ?_)
        have hbd_k_35 : x_0.Onward.length ≤ 9223372036854775807 := bnd_len (enc := encLeg) ((bnd_at hb.cell 16 rfl))
        refine sw_loop tab_ok follows_ok (fun y : Nat => y ≤ x_0.Onward.length ∧ message_shaped_L1 (x_0.Onward.drop y) y = some c_1) (fun y => ⟨eL [(1, .ptr 0 0), (32, .lst 6 (x_0.Onward.map encLeg)), (33, .int .i64 (x_0.Onward.length : Int)), (34, .int .i64 (y : Int))], hL [(0, .box [.int .i64 x_0.Kind, .int .i64 x_0.Do, .str x_0.Port, .int .i64 x_0.Number, .str x_0.In.Flight.Carrier, .int .i64 x_0.In.Flight.Number, .str x_0.In.Flight.Suffix, .int .i64 x_0.In.Flight.Day, .str x_0.In.Port, .str x_0.In.Class, .str x_0.Out.Flight.Carrier, .int .i64 x_0.Out.Flight.Number, .str x_0.Out.Flight.Suffix, .int .i64 x_0.Out.Flight.Day, .str x_0.Out.Port, .str x_0.Out.Class, .lst 6 (x_0.Onward.map encLeg), .int .i64 x_0.First.Lead, .int .i64 x_0.First.Airline, .int .i64 x_0.First.Serial, .int .i64 x_0.Count, .bool x_0.Load, .int .i64 x_0.Status, .int .i64 x_0.Sequence, .int .i64 x_0.Weight, .str x_0.Surname, .str x_0.Given, .int .i64 x_0.Exception, .str x_0.Node, .lst 1 (x_0.List.map iA)])], 1⟩) (fun y => x_0.Onward.length - y) 0 ⟨Nat.zero_le _, hc_1⟩ (wk_mk [0] [] [] rfl ⟨argP (id := 0) (by (conv => lhs; whnf); all_goals rfl) rfl, argE (by (conv => lhs; whnf); all_goals rfl) rfl, argE (by (conv => lhs; whnf); all_goals rfl) rfl, argE (by (conv => lhs; whnf); all_goals rfl) rfl, trivial⟩ ⟨boxL rfl rfl rfl ⟨(.ni _ rfl), (.ni _ rfl), (.ni _ rfl), (.ni _ rfl), (.ni _ rfl), (.ni _ rfl), (.ni _ rfl), (.ni _ rfl), (.ni _ rfl), (.ni _ rfl), (.ni _ rfl), (.ni _ rfl), (.ni _ rfl), (.ni _ rfl), (.ni _ rfl), (.ni _ rfl), (.ni _ rfl), (.ni _ rfl), (.ni _ rfl), (.ni _ rfl), (.ni _ rfl), (.ni _ rfl), (.ni _ rfl), (.ni _ rfl), (.ni _ rfl), (.ni _ rfl), (.ni _ rfl), (.ni _ rfl), (.ni _ rfl), (.ni _ rfl), trivial⟩, trivial⟩) ?_
        rintro k_35 ⟨hk_k_35, hL1⟩
        try dsimp only at hk_k_35 hL1
        show awp _ _ _ _ _ _ ⟨eL [(1, .ptr 0 0), (32, .lst 6 (x_0.Onward.map encLeg)), (33, .int .i64 (x_0.Onward.length : Int)), (34, .int .i64 (k_35 : Int))], hL [(0, .box [.int .i64 x_0.Kind, .int .i64 x_0.Do, .str x_0.Port, .int .i64 x_0.Number, .str x_0.In.Flight.Carrier, .int .i64 x_0.In.Flight.Number, .str x_0.In.Flight.Suffix, .int .i64 x_0.In.Flight.Day, .str x_0.In.Port, .str x_0.In.Class, .str x_0.Out.Flight.Carrier, .int .i64 x_0.Out.Flight.Number, .str x_0.Out.Flight.Suffix, .int .i64 x_0.Out.Flight.Day, .str x_0.Out.Port, .str x_0.Out.Class, .lst 6 (x_0.Onward.map encLeg), .int .i64 x_0.First.Lead, .int .i64 x_0.First.Airline, .int .i64 x_0.First.Serial, .int .i64 x_0.Count, .bool x_0.Load, .int .i64 x_0.Status, .int .i64 x_0.Sequence, .int .i64 x_0.Weight, .str x_0.Surname, .str x_0.Given, .int .i64 x_0.Exception, .str x_0.Node, .lst 1 (x_0.List.map iA)])], 1⟩
        conv => whnf
        refine ⟨fun h => ?_, fun h => ?_⟩
        · have hlt_k_35 : k_35 < x_0.Onward.length := by have h := of_decide_eq_true h; omega
          obtain ⟨e_36, h_e_36⟩ : ∃ y, x_0.Onward[k_35]? = some y := ⟨_, List.getElem?_eq_getElem hlt_k_35⟩
          rw [drop_cons h_e_36, message_shaped_L1.eq_2] at hL1
          conv => whnf
          refine ⟨k_35, _, rfl, ix_map h_e_36, ?_⟩
          conv => whnf
          obtain ⟨r_37, h_r_37, hL1⟩ := bind_some hL1
          refine ⟨_, _, _, _, _, _, _, _, callX false [] [] Try.func84 (by decide) rfl (flight_ValidLeg_ac e_36 r_37 h_r_37) rfl ⟨(argE (by (conv => lhs; whnf); all_goals rfl) rfl), trivial⟩ rfl trivial rfl rfl rfl lend0 trivial, ?_⟩
          conv => whnf
          refine ⟨fun hb_63 => ?_, fun hb_63 => ?_⟩
          · replace hL1 := cond_t hb_63 hL1
            conv => whnf
            obtain rfl := Option.some.inj hL1
            replace hF := fin_ret hF
            obtain rfl := Option.some.inj hF
            exact ret_gz [] [] [] rfl (argFl (by (conv => lhs; whnf); all_goals rfl)) trivial
          · replace hL1 := cond_f hb_63 hL1
            conv => whnf
            refine ⟨((k_35 + 1 : Nat) : Int), wrapE (by omega) (by omega) (by omega), ?_⟩
            conv => whnf
            exact ⟨k_35 + 1, [0], [], [], ⟨hlt_k_35, hL1⟩, by show x_0.Onward.length - (k_35 + 1) < x_0.Onward.length - k_35; omega, wk_mk [0] [] [] rfl ⟨argP (id := 0) (by (conv => lhs; whnf); all_goals rfl) rfl, argE (by (conv => lhs; whnf); all_goals rfl) rfl, argE (by (conv => lhs; whnf); all_goals rfl) rfl, argE (by (conv => lhs; whnf); all_goals rfl) rfl, trivial⟩ ⟨boxL rfl rfl rfl ⟨(.ni _ rfl), (.ni _ rfl), (.ni _ rfl), (.ni _ rfl), (.ni _ rfl), (.ni _ rfl), (.ni _ rfl), (.ni _ rfl), (.ni _ rfl), (.ni _ rfl), (.ni _ rfl), (.ni _ rfl), (.ni _ rfl), (.ni _ rfl), (.ni _ rfl), (.ni _ rfl), (.ni _ rfl), (.ni _ rfl), (.ni _ rfl), (.ni _ rfl), (.ni _ rfl), (.ni _ rfl), (.ni _ rfl), (.ni _ rfl), (.ni _ rfl), (.ni _ rfl), (.ni _ rfl), (.ni _ rfl), (.ni _ rfl), (.ni _ rfl), trivial⟩, trivial⟩⟩
        · rw [drop_nil (show x_0.Onward.length ≤ k_35 by have h := of_decide_eq_false h; omega), message_shaped_L1.eq_1] at hL1
          conv => whnf
          obtain rfl := Option.some.inj hL1
          replace hF := fin_brk hF
          try dsimp only at hF
          obtain ⟨r_40, h_r_40, hF⟩ := bind_some hF
          refine ⟨_, _, _, _, _, _, _, _, callX false [] [] Try.func85 (by decide) rfl (message_describes_ac x_0.Kind r_40 h_r_40) rfl ⟨(argE (by (conv => lhs; whnf); all_goals rfl) rfl), trivial⟩ rfl trivial rfl rfl rfl lend0 trivial, ?_⟩
          conv => whnf
          refine ⟨fun hb_64 => ?_, fun hb_64 => ?_⟩
          · replace hF := cond_t hb_64 hF
            conv => whnf
            obtain ⟨r_41, h_r_41, hF⟩ := bind_some hF
            refine ⟨_, _, _, _, _, _, _, _, callX false [] [] Try.func86 (by decide) rfl (fields_Letters_ac x_0.Surname (1 : Int) (20 : Int) r_41 h_r_41) rfl ⟨(argE (by (conv => lhs; whnf); all_goals rfl) rfl), (argE (by (conv => lhs; whnf); all_goals rfl) rfl), (argE (by (conv => lhs; whnf); all_goals rfl) rfl), trivial⟩ rfl trivial rfl rfl rfl lend0 trivial, ?_⟩
            conv => whnf
            refine ⟨fun hb_65 => ?_, fun hb_65 => ?_⟩
            · replace hF := cond_f hb_65 hF
              conv => whnf
              obtain ⟨r_42, h_r_42, hF⟩ := bind_some hF
              refine ⟨_, _, _, _, _, _, _, _, callX false [] [] Try.func86 (by decide) rfl (fields_Letters_ac x_0.Given (0 : Int) (20 : Int) r_42 h_r_42) rfl ⟨(argE (by (conv => lhs; whnf); all_goals rfl) rfl), (argE (by (conv => lhs; whnf); all_goals rfl) rfl), (argE (by (conv => lhs; whnf); all_goals rfl) rfl), trivial⟩ rfl trivial rfl rfl rfl lend0 trivial, ?_⟩
              conv => whnf
              refine ⟨fun hb_66 => ?_, fun hb_66 => ?_⟩
              · replace hF := cond_t hb_66 hF
                conv => whnf
                obtain rfl := Option.some.inj hF
                exact ret_gz [] [] [] rfl (argFl (by (conv => lhs; whnf); all_goals rfl)) trivial
              · replace hF := cond_f hb_66 hF
                conv => whnf
                refine ⟨fun h => ?_, fun h => ?_⟩
                · conv => whnf
                  obtain ⟨r_43, h_r_43, hF⟩ := bind_some hF
                  refine ⟨_, _, _, _, _, _, _, _, callX false [] [] Try.func87 (by decide) rfl (fields_Name_ac x_0.Node (12 : Int) r_43 h_r_43) rfl ⟨(argE (by (conv => lhs; whnf); all_goals rfl) rfl), (argE (by (conv => lhs; whnf); all_goals rfl) rfl), trivial⟩ rfl trivial rfl rfl rfl lend0 trivial, ?_⟩
                  conv => whnf
                  obtain rfl := Option.some.inj hF
                  exact ret_gz [] [] [] rfl (argE (by (conv => lhs; whnf); all_goals rfl) rfl) trivial
                · cases (hb_57).symm.trans h
            · replace hF := cond_t hb_65 hF
              conv => whnf
              obtain rfl := Option.some.inj hF
              exact ret_gz [] [] [] rfl (argFl (by (conv => lhs; whnf); all_goals rfl)) trivial
          · replace hF := cond_f hb_64 hF
            conv => whnf
            refine ⟨fun h => ?_, fun h => ?_⟩
            · conv => whnf
              obtain ⟨r_44, h_r_44, hF⟩ := bind_some hF
              refine ⟨_, _, _, _, _, _, _, _, callX false [] [] Try.func87 (by decide) rfl (fields_Name_ac x_0.Node (12 : Int) r_44 h_r_44) rfl ⟨(argE (by (conv => lhs; whnf); all_goals rfl) rfl), (argE (by (conv => lhs; whnf); all_goals rfl) rfl), trivial⟩ rfl trivial rfl rfl rfl lend0 trivial, ?_⟩
              conv => whnf
              obtain rfl := Option.some.inj hF
              exact ret_gz [] [] [] rfl (argE (by (conv => lhs; whnf); all_goals rfl) rfl) trivial
            · cases (hb_57).symm.trans h
  · replace hF := cond_t hb_44 hF
    conv => whnf
    obtain rfl := Option.some.inj hF
    exact ret_gz [] [] [] rfl (argFl (by (conv => lhs; whnf); all_goals rfl)) trivial
end Go.Proofs.Ytkliakcegihikaa.Ex
