/- The functions of the program compute what was printed; walks printed by a program. -/
import Derived.Test.YtajmhegkkbnkcaaExF
import Derived.Test.YtajmhegkkbnkcaaExP2
import Derived.Test.YtajmhegkkbnkcaaExP3
namespace Go.Proofs.Ytajmhegkkbnkcaa.Ex
open Go.RowKit Go.Proofs.Ytajmhegkkbnkcaa.Ax
set_option linter.unusedVariables false
set_option linter.unusedSimpArgs false
set_option maxRecDepth 100000 in
set_option maxHeartbeats 40000000 in
theorem ref04_counted_ac (x_0 : Message) (r : Bool) (hF : ref04_counted x_0 = some r) : AC Try.prog 67 [.agg (encMessage x_0)] [] (.bool r) [] := by
  refine ac_of tab_ok follows_ok Try.func67 rfl Try.ntmps67 rfl ?_
  unfold ref04_counted at hF
  conv => whnf
  obtain ⟨r_1, h_r_1, hF⟩ := bind_some hF
  refine ⟨_, _, _, _, _, _, _, _, _, callX false [] [] 0 Try.func63 (by decide) rfl (ref04_in_ac x_0.Number (1 : Int) (9999 : Int) r_1 h_r_1) rfl ⟨(argE (by (conv => lhs; whnf); all_goals rfl) rfl), (argE (by (conv => lhs; whnf); all_goals rfl) rfl), (argE (by (conv => lhs; whnf); all_goals rfl) rfl), trivial⟩ rfl trivial rfl rfl rfl lend0 trivial rfl, ?_⟩
  conv => whnf
  refine ⟨fun hb_41 => ?_, fun hb_41 => ?_⟩
  · replace hF := cond_f hb_41 hF
    conv => whnf
    refine ⟨fun hb_42 => ?_, fun hb_42 => ?_⟩
    · replace hF := cond_t hb_42 hF
      conv => whnf
      obtain ⟨r_2, h_r_2, hF⟩ := bind_some hF
      refine ⟨_, _, _, _, _, _, _, _, _, callX false [] [] 0 Try.func95 (by decide) rfl (ref01_Valid_ac x_0.First r_2 h_r_2) rfl ⟨(argE (by (conv => lhs; whnf); all_goals rfl) rfl), trivial⟩ rfl trivial rfl rfl rfl lend0 trivial rfl, ?_⟩
      conv => whnf
      refine ⟨fun hb_43 => ?_, fun hb_43 => ?_⟩
      · replace hF := cond_f hb_43 hF
        conv => whnf
        obtain ⟨r_3, h_r_3, hF⟩ := bind_some hF
        refine ⟨_, _, _, _, _, _, _, _, _, callX false [] [] 0 Try.func63 (by decide) rfl (ref04_in_ac x_0.Count (1 : Int) (99 : Int) r_3 h_r_3) rfl ⟨(argE (by (conv => lhs; whnf); all_goals rfl) rfl), (argE (by (conv => lhs; whnf); all_goals rfl) rfl), (argE (by (conv => lhs; whnf); all_goals rfl) rfl), trivial⟩ rfl trivial rfl rfl rfl lend0 trivial rfl, ?_⟩
        conv => whnf
        refine ⟨fun hb_44 => ?_, fun hb_44 => ?_⟩
        · replace hF := cond_t hb_44 hF
          conv => whnf
          obtain rfl := Option.some.inj hF
          exact ret_gz [] [] [] rfl (argFl (by (conv => lhs; whnf); all_goals rfl)) trivial
        · replace hF := cond_f hb_44 hF
          conv => whnf
          obtain ⟨r_4, h_r_4, hF⟩ := bind_some hF
          refine ⟨_, _, _, _, _, _, _, _, _, callX false [] [] 0 Try.func90 (by decide) rfl (ref04_Bag_ac x_0.Kind r_4 h_r_4) rfl ⟨(argE (by (conv => lhs; whnf); all_goals rfl) rfl), trivial⟩ rfl trivial rfl rfl rfl lend0 trivial rfl, ?_⟩
          conv => whnf
          refine ⟨fun hb_45 => ?_, fun hb_45 => ?_⟩
          · replace hF := cond_t hb_45 hF
            conv => whnf
            obtain ⟨r_5, h_r_5, hF⟩ := bind_some hF
            refine ⟨_, _, _, _, _, _, _, _, _, callX false [] [] 0 Try.func63 (by decide) rfl (ref04_in_ac x_0.Do (0 : Int) (2 : Int) r_5 h_r_5) rfl ⟨(argE (by (conv => lhs; whnf); all_goals rfl) rfl), (argE (by (conv => lhs; whnf); all_goals rfl) rfl), (argE (by (conv => lhs; whnf); all_goals rfl) rfl), trivial⟩ rfl trivial rfl rfl rfl lend0 trivial rfl, ?_⟩
            conv => whnf
            refine ⟨fun hb_46 => ?_, fun hb_46 => ?_⟩
            · replace hF := cond_f hb_46 hF
              conv => whnf
              obtain ⟨r_6, h_r_6, hF⟩ := bind_some hF
              refine ⟨_, _, _, _, _, _, _, _, _, callX false [] [] 0 Try.func63 (by decide) rfl (ref04_in_ac x_0.Status (1 : Int) (4 : Int) r_6 h_r_6) rfl ⟨(argE (by (conv => lhs; whnf); all_goals rfl) rfl), (argE (by (conv => lhs; whnf); all_goals rfl) rfl), (argE (by (conv => lhs; whnf); all_goals rfl) rfl), trivial⟩ rfl trivial rfl rfl rfl lend0 trivial rfl, ?_⟩
              conv => whnf
              refine ⟨fun hb_47 => ?_, fun hb_47 => ?_⟩
              · replace hF := cond_f hb_47 hF
                conv => whnf
                obtain ⟨r_7, h_r_7, hF⟩ := bind_some hF
                refine ⟨_, _, _, _, _, _, _, _, _, callX false [] [] 0 Try.func63 (by decide) rfl (ref04_in_ac x_0.Sequence (1 : Int) (999 : Int) r_7 h_r_7) rfl ⟨(argE (by (conv => lhs; whnf); all_goals rfl) rfl), (argE (by (conv => lhs; whnf); all_goals rfl) rfl), (argE (by (conv => lhs; whnf); all_goals rfl) rfl), trivial⟩ rfl trivial rfl rfl rfl lend0 trivial rfl, ?_⟩
                conv => whnf
                refine ⟨fun hb_48 => ?_, fun hb_48 => ?_⟩
                · replace hF := cond_f hb_48 hF
                  conv => whnf
                  obtain ⟨r_8, h_r_8, hF⟩ := bind_some hF
                  refine ⟨_, _, _, _, _, _, _, _, _, callX false [] [] 0 Try.func63 (by decide) rfl (ref04_in_ac x_0.Weight (0 : Int) (999 : Int) r_8 h_r_8) rfl ⟨(argE (by (conv => lhs; whnf); all_goals rfl) rfl), (argE (by (conv => lhs; whnf); all_goals rfl) rfl), (argE (by (conv => lhs; whnf); all_goals rfl) rfl), trivial⟩ rfl trivial rfl rfl rfl lend0 trivial rfl, ?_⟩
                  conv => whnf
                  refine ⟨fun hb_49 => ?_, fun hb_49 => ?_⟩
                  · replace hF := cond_f hb_49 hF
                    conv => whnf
                    obtain ⟨r_9, h_r_9, hF⟩ := bind_some hF
                    refine ⟨_, _, _, _, _, _, _, _, _, callX false [] [] 0 Try.func63 (by decide) rfl (ref04_in_ac x_0.Exception (0 : Int) (3 : Int) r_9 h_r_9) rfl ⟨(argE (by (conv => lhs; whnf); all_goals rfl) rfl), (argE (by (conv => lhs; whnf); all_goals rfl) rfl), (argE (by (conv => lhs; whnf); all_goals rfl) rfl), trivial⟩ rfl trivial rfl rfl rfl lend0 trivial rfl, ?_⟩
                    conv => whnf
                    refine ⟨fun hb_50 => ?_, fun hb_50 => ?_⟩
                    · replace hF := cond_t hb_50 hF
                      conv => whnf
                      obtain rfl := Option.some.inj hF
                      exact ret_gz [] [] [] rfl (argFl (by (conv => lhs; whnf); all_goals rfl)) trivial
                    · replace hF := cond_f hb_50 hF
                      conv => whnf
                      obtain ⟨c_1, hc_1, hF⟩ := fin_some hF
                      refine sw_bv 0 (v := .agg [.int .i64 x_0.Kind, .int .i64 x_0.Do, .str x_0.Port, .int .i64 x_0.Number, .str x_0.In.Flight.Carrier, .int .i64 x_0.In.Flight.Number, .str x_0.In.Flight.Suffix, .int .i64 x_0.In.Flight.Day, .str x_0.In.Port, .str x_0.In.Class, .str x_0.Out.Flight.Carrier, .int .i64 x_0.Out.Flight.Number, .str x_0.Out.Flight.Suffix, .int .i64 x_0.Out.Flight.Day, .str x_0.Out.Port, .str x_0.Out.Class, .lst 6 (x_0.Onward.map encLeg), .int .i64 x_0.First.Lead, .int .i64 x_0.First.Airline, .int .i64 x_0.First.Serial, .int .i64 x_0.Count, .bool x_0.Load, .int .i64 x_0.Status, .int .i64 x_0.Sequence, .int .i64 x_0.Weight, .str x_0.Surname, .str x_0.Given, .int .i64 x_0.Exception, .str x_0.Node, .lst 1 (x_0.List.map iA)]) (by (conv => lhs; whnf); all_goals rfl) (fun hb => ?_)
                      have hbd_k_11 : x_0.List.length ≤ 9223372036854775807 := bnd_len (enc := iA) ((bnd_at hb.cell 29 rfl))
                      refine sw_loop tab_ok follows_ok (fun y : Nat => y ≤ x_0.List.length ∧ ref04_counted_L1 (x_0.List.drop y) y = some c_1) (fun y => ⟨eL [(1, .ptr 0 0), (3, .int .i64 (y : Int))], hL [(0, .box [.int .i64 x_0.Kind, .int .i64 x_0.Do, .str x_0.Port, .int .i64 x_0.Number, .str x_0.In.Flight.Carrier, .int .i64 x_0.In.Flight.Number, .str x_0.In.Flight.Suffix, .int .i64 x_0.In.Flight.Day, .str x_0.In.Port, .str x_0.In.Class, .str x_0.Out.Flight.Carrier, .int .i64 x_0.Out.Flight.Number, .str x_0.Out.Flight.Suffix, .int .i64 x_0.Out.Flight.Day, .str x_0.Out.Port, .str x_0.Out.Class, .lst 6 (x_0.Onward.map encLeg), .int .i64 x_0.First.Lead, .int .i64 x_0.First.Airline, .int .i64 x_0.First.Serial, .int .i64 x_0.Count, .bool x_0.Load, .int .i64 x_0.Status, .int .i64 x_0.Sequence, .int .i64 x_0.Weight, .str x_0.Surname, .str x_0.Given, .int .i64 x_0.Exception, .str x_0.Node, .lst 1 (x_0.List.map iA)])], 1⟩) (fun y => x_0.List.length - y) 0 ⟨Nat.zero_le _, hc_1⟩ (wk_mk [0] [] [] rfl ⟨argP (id := 0) (by (conv => lhs; whnf); all_goals rfl) rfl, argE (by (conv => lhs; whnf); all_goals rfl) rfl, trivial⟩ ⟨boxL rfl rfl rfl ⟨(.ni _ rfl), (.ni _ rfl), (.ni _ rfl), (.ni _ rfl), (.ni _ rfl), (.ni _ rfl), (.ni _ rfl), (.ni _ rfl), (.ni _ rfl), (.ni _ rfl), (.ni _ rfl), (.ni _ rfl), (.ni _ rfl), (.ni _ rfl), (.ni _ rfl), (.ni _ rfl), (.ni _ rfl), (.ni _ rfl), (.ni _ rfl), (.ni _ rfl), (.ni _ rfl), (.ni _ rfl), (.ni _ rfl), (.ni _ rfl), (.ni _ rfl), (.ni _ rfl), (.ni _ rfl), (.ni _ rfl), (.ni _ rfl), (.ni _ rfl), trivial⟩, trivial⟩) ?_
                      rintro k_11 ⟨hk_k_11, hL1⟩
                      try dsimp only at hk_k_11 hL1
                      show awp _ _ _ _ _ _ ⟨eL [(1, .ptr 0 0), (3, .int .i64 (k_11 : Int))], hL [(0, .box [.int .i64 x_0.Kind, .int .i64 x_0.Do, .str x_0.Port, .int .i64 x_0.Number, .str x_0.In.Flight.Carrier, .int .i64 x_0.In.Flight.Number, .str x_0.In.Flight.Suffix, .int .i64 x_0.In.Flight.Day, .str x_0.In.Port, .str x_0.In.Class, .str x_0.Out.Flight.Carrier, .int .i64 x_0.Out.Flight.Number, .str x_0.Out.Flight.Suffix, .int .i64 x_0.Out.Flight.Day, .str x_0.Out.Port, .str x_0.Out.Class, .lst 6 (x_0.Onward.map encLeg), .int .i64 x_0.First.Lead, .int .i64 x_0.First.Airline, .int .i64 x_0.First.Serial, .int .i64 x_0.Count, .bool x_0.Load, .int .i64 x_0.Status, .int .i64 x_0.Sequence, .int .i64 x_0.Weight, .str x_0.Surname, .str x_0.Given, .int .i64 x_0.Exception, .str x_0.Node, .lst 1 (x_0.List.map iA)])], 1⟩
                      conv => whnf
                      refine len_q (enc := iA) (l := x_0.List) rfl ?_
                      conv => whnf
                      refine ⟨fun h => ?_, fun h => ?_⟩
                      · have hlt_k_11 : k_11 < x_0.List.length := by have h := of_decide_eq_true h; omega
                        obtain ⟨e_12, h_e_12⟩ : ∃ y, x_0.List[k_11]? = some y := ⟨_, List.getElem?_eq_getElem hlt_k_11⟩
                        rw [drop_cons h_e_12, ref04_counted_L1.eq_2] at hL1
                        conv => whnf
                        refine ⟨k_11, _, rfl, ix_map h_e_12, ?_⟩
                        conv => whnf
                        obtain ⟨r_13, h_r_13, hL1⟩ := bind_some hL1
                        refine ⟨_, _, _, _, _, _, _, _, _, callX false [] [] 0 Try.func63 (by decide) rfl (ref04_in_ac e_12 (1 : Int) (999 : Int) r_13 h_r_13) rfl ⟨(argE (by (conv => lhs; whnf); all_goals rfl) rfl), (argE (by (conv => lhs; whnf); all_goals rfl) rfl), (argE (by (conv => lhs; whnf); all_goals rfl) rfl), trivial⟩ rfl trivial rfl rfl rfl lend0 trivial rfl, ?_⟩
                        conv => whnf
                        refine ⟨fun hb_51 => ?_, fun hb_51 => ?_⟩
                        · replace hL1 := cond_t hb_51 hL1
                          conv => whnf
                          obtain rfl := Option.some.inj hL1
                          replace hF := fin_ret hF
                          obtain rfl := Option.some.inj hF
                          exact ret_gz [] [] [] rfl (argFl (by (conv => lhs; whnf); all_goals rfl)) trivial
                        · replace hL1 := cond_f hb_51 hL1
                          conv => whnf
                          refine ⟨((k_11 + 1 : Nat) : Int), wrapE (by omega) (by omega) (by omega), ?_⟩
                          conv => whnf
                          exact ⟨k_11 + 1, [0], [], [], ⟨hlt_k_11, hL1⟩, by show x_0.List.length - (k_11 + 1) < x_0.List.length - k_11; omega, wk_mk [0] [] [] rfl ⟨argP (id := 0) (by (conv => lhs; whnf); all_goals rfl) rfl, argE (by (conv => lhs; whnf); all_goals rfl) rfl, trivial⟩ ⟨boxL rfl rfl rfl ⟨(.ni _ rfl), (.ni _ rfl), (.ni _ rfl), (.ni _ rfl), (.ni _ rfl), (.ni _ rfl), (.ni _ rfl), (.ni _ rfl), (.ni _ rfl), (.ni _ rfl), (.ni _ rfl), (.ni _ rfl), (.ni _ rfl), (.ni _ rfl), (.ni _ rfl), (.ni _ rfl), (.ni _ rfl), (.ni _ rfl), (.ni _ rfl), (.ni _ rfl), (.ni _ rfl), (.ni _ rfl), (.ni _ rfl), (.ni _ rfl), (.ni _ rfl), (.ni _ rfl), (.ni _ rfl), (.ni _ rfl), (.ni _ rfl), (.ni _ rfl), trivial⟩, trivial⟩⟩
                      · rw [drop_nil (show x_0.List.length ≤ k_11 by have h := of_decide_eq_false h; omega), ref04_counted_L1.eq_1] at hL1
                        conv => whnf
                        obtain rfl := Option.some.inj hL1
                        replace hF := fin_brk hF
                        try dsimp only at hF
                        obtain rfl := Option.some.inj hF
                        exact ret_gz [] [] [] rfl (argT (by (conv => lhs; whnf); all_goals rfl)) trivial
                  · replace hF := cond_t hb_49 hF
                    conv => whnf
                    obtain rfl := Option.some.inj hF
                    exact ret_gz [] [] [] rfl (argFl (by (conv => lhs; whnf); all_goals rfl)) trivial
                · replace hF := cond_t hb_48 hF
                  conv => whnf
                  obtain rfl := Option.some.inj hF
                  exact ret_gz [] [] [] rfl (argFl (by (conv => lhs; whnf); all_goals rfl)) trivial
              · replace hF := cond_t hb_47 hF
                conv => whnf
                obtain rfl := Option.some.inj hF
                exact ret_gz [] [] [] rfl (argFl (by (conv => lhs; whnf); all_goals rfl)) trivial
            · replace hF := cond_t hb_46 hF
              conv => whnf
              obtain rfl := Option.some.inj hF
              exact ret_gz [] [] [] rfl (argFl (by (conv => lhs; whnf); all_goals rfl)) trivial
          · replace hF := cond_f hb_45 hF
            conv => whnf
            obtain ⟨c_1, hc_1, hF⟩ := fin_some hF
            refine sw_bv 0 (v := .agg [.int .i64 x_0.Kind, .int .i64 x_0.Do, .str x_0.Port, .int .i64 x_0.Number, .str x_0.In.Flight.Carrier, .int .i64 x_0.In.Flight.Number, .str x_0.In.Flight.Suffix, .int .i64 x_0.In.Flight.Day, .str x_0.In.Port, .str x_0.In.Class, .str x_0.Out.Flight.Carrier, .int .i64 x_0.Out.Flight.Number, .str x_0.Out.Flight.Suffix, .int .i64 x_0.Out.Flight.Day, .str x_0.Out.Port, .str x_0.Out.Class, .lst 6 (x_0.Onward.map encLeg), .int .i64 x_0.First.Lead, .int .i64 x_0.First.Airline, .int .i64 x_0.First.Serial, .int .i64 x_0.Count, .bool x_0.Load, .int .i64 x_0.Status, .int .i64 x_0.Sequence, .int .i64 x_0.Weight, .str x_0.Surname, .str x_0.Given, .int .i64 x_0.Exception, .str x_0.Node, .lst 1 (x_0.List.map iA)]) (by (conv => lhs; whnf); all_goals rfl) (fun hb => ?_)
            have hbd_k_17 : x_0.List.length ≤ 9223372036854775807 := bnd_len (enc := iA) ((bnd_at hb.cell 29 rfl))
            refine sw_loop tab_ok follows_ok (fun y : Nat => y ≤ x_0.List.length ∧ ref04_counted_L1 (x_0.List.drop y) y = some c_1) (fun y => ⟨eL [(1, .ptr 0 0), (3, .int .i64 (y : Int))], hL [(0, .box [.int .i64 x_0.Kind, .int .i64 x_0.Do, .str x_0.Port, .int .i64 x_0.Number, .str x_0.In.Flight.Carrier, .int .i64 x_0.In.Flight.Number, .str x_0.In.Flight.Suffix, .int .i64 x_0.In.Flight.Day, .str x_0.In.Port, .str x_0.In.Class, .str x_0.Out.Flight.Carrier, .int .i64 x_0.Out.Flight.Number, .str x_0.Out.Flight.Suffix, .int .i64 x_0.Out.Flight.Day, .str x_0.Out.Port, .str x_0.Out.Class, .lst 6 (x_0.Onward.map encLeg), .int .i64 x_0.First.Lead, .int .i64 x_0.First.Airline, .int .i64 x_0.First.Serial, .int .i64 x_0.Count, .bool x_0.Load, .int .i64 x_0.Status, .int .i64 x_0.Sequence, .int .i64 x_0.Weight, .str x_0.Surname, .str x_0.Given, .int .i64 x_0.Exception, .str x_0.Node, .lst 1 (x_0.List.map iA)])], 1⟩) (fun y => x_0.List.length - y) 0 ⟨Nat.zero_le _, hc_1⟩ (wk_mk [0] [] [] rfl ⟨argP (id := 0) (by (conv => lhs; whnf); all_goals rfl) rfl, argE (by (conv => lhs; whnf); all_goals rfl) rfl, trivial⟩ ⟨boxL rfl rfl rfl ⟨(.ni _ rfl), (.ni _ rfl), (.ni _ rfl), (.ni _ rfl), (.ni _ rfl), (.ni _ rfl), (.ni _ rfl), (.ni _ rfl), (.ni _ rfl), (.ni _ rfl), (.ni _ rfl), (.ni _ rfl), (.ni _ rfl), (.ni _ rfl), (.ni _ rfl), (.ni _ rfl), (.ni _ rfl), (.ni _ rfl), (.ni _ rfl), (.ni _ rfl), (.ni _ rfl), (.ni _ rfl), (.ni _ rfl), (.ni _ rfl), (.ni _ rfl), (.ni _ rfl), (.ni _ rfl), (.ni _ rfl), (.ni _ rfl), (.ni _ rfl), trivial⟩, trivial⟩) ?_
            rintro k_17 ⟨hk_k_17, hL1⟩
            try dsimp only at hk_k_17 hL1
            show awp _ _ _ _ _ _ ⟨eL [(1, .ptr 0 0), (3, .int .i64 (k_17 : Int))], hL [(0, .box [.int .i64 x_0.Kind, .int .i64 x_0.Do, .str x_0.Port, .int .i64 x_0.Number, .str x_0.In.Flight.Carrier, .int .i64 x_0.In.Flight.Number, .str x_0.In.Flight.Suffix, .int .i64 x_0.In.Flight.Day, .str x_0.In.Port, .str x_0.In.Class, .str x_0.Out.Flight.Carrier, .int .i64 x_0.Out.Flight.Number, .str x_0.Out.Flight.Suffix, .int .i64 x_0.Out.Flight.Day, .str x_0.Out.Port, .str x_0.Out.Class, .lst 6 (x_0.Onward.map encLeg), .int .i64 x_0.First.Lead, .int .i64 x_0.First.Airline, .int .i64 x_0.First.Serial, .int .i64 x_0.Count, .bool x_0.Load, .int .i64 x_0.Status, .int .i64 x_0.Sequence, .int .i64 x_0.Weight, .str x_0.Surname, .str x_0.Given, .int .i64 x_0.Exception, .str x_0.Node, .lst 1 (x_0.List.map iA)])], 1⟩
            conv => whnf
            refine len_q (enc := iA) (l := x_0.List) rfl ?_
            conv => whnf
            refine ⟨fun h => ?_, fun h => ?_⟩
            · have hlt_k_17 : k_17 < x_0.List.length := by have h := of_decide_eq_true h; omega
              obtain ⟨e_18, h_e_18⟩ : ∃ y, x_0.List[k_17]? = some y := ⟨_, List.getElem?_eq_getElem hlt_k_17⟩
              rw [drop_cons h_e_18, ref04_counted_L1.eq_2] at hL1
              conv => whnf
              refine ⟨k_17, _, rfl, ix_map h_e_18, ?_⟩
              conv => whnf
              obtain ⟨r_19, h_r_19, hL1⟩ := bind_some hL1
              refine ⟨_, _, _, _, _, _, _, _, _, callX false [] [] 0 Try.func63 (by decide) rfl (ref04_in_ac e_18 (1 : Int) (999 : Int) r_19 h_r_19) rfl ⟨(argE (by (conv => lhs; whnf); all_goals rfl) rfl), (argE (by (conv => lhs; whnf); all_goals rfl) rfl), (argE (by (conv => lhs; whnf); all_goals rfl) rfl), trivial⟩ rfl trivial rfl rfl rfl lend0 trivial rfl, ?_⟩
              conv => whnf
              refine ⟨fun hb_52 => ?_, fun hb_52 => ?_⟩
              · replace hL1 := cond_t hb_52 hL1
                conv => whnf
                obtain rfl := Option.some.inj hL1
                replace hF := fin_ret hF
                obtain rfl := Option.some.inj hF
                exact ret_gz [] [] [] rfl (argFl (by (conv => lhs; whnf); all_goals rfl)) trivial
              · replace hL1 := cond_f hb_52 hL1
                conv => whnf
                refine ⟨((k_17 + 1 : Nat) : Int), wrapE (by omega) (by omega) (by omega), ?_⟩
                conv => whnf
                exact ⟨k_17 + 1, [0], [], [], ⟨hlt_k_17, hL1⟩, by show x_0.List.length - (k_17 + 1) < x_0.List.length - k_17; omega, wk_mk [0] [] [] rfl ⟨argP (id := 0) (by (conv => lhs; whnf); all_goals rfl) rfl, argE (by (conv => lhs; whnf); all_goals rfl) rfl, trivial⟩ ⟨boxL rfl rfl rfl ⟨(.ni _ rfl), (.ni _ rfl), (.ni _ rfl), (.ni _ rfl), (.ni _ rfl), (.ni _ rfl), (.ni _ rfl), (.ni _ rfl), (.ni _ rfl), (.ni _ rfl), (.ni _ rfl), (.ni _ rfl), (.ni _ rfl), (.ni _ rfl), (.ni _ rfl), (.ni _ rfl), (.ni _ rfl), (.ni _ rfl), (.ni _ rfl), (.ni _ rfl), (.ni _ rfl), (.ni _ rfl), (.ni _ rfl), (.ni _ rfl), (.ni _ rfl), (.ni _ rfl), (.ni _ rfl), (.ni _ rfl), (.ni _ rfl), (.ni _ rfl), trivial⟩, trivial⟩⟩
            · rw [drop_nil (show x_0.List.length ≤ k_17 by have h := of_decide_eq_false h; omega), ref04_counted_L1.eq_1] at hL1
              conv => whnf
              obtain rfl := Option.some.inj hL1
              replace hF := fin_brk hF
              try dsimp only at hF
              obtain rfl := Option.some.inj hF
              exact ret_gz [] [] [] rfl (argT (by (conv => lhs; whnf); all_goals rfl)) trivial
      · replace hF := cond_t hb_43 hF
        conv => whnf
        obtain rfl := Option.some.inj hF
        exact ret_gz [] [] [] rfl (argFl (by (conv => lhs; whnf); all_goals rfl)) trivial
    · replace hF := cond_f hb_42 hF
      conv => whnf
      obtain ⟨r_22, h_r_22, hF⟩ := bind_some hF
      refine ⟨_, _, _, _, _, _, _, _, _, callX false [] [] 0 Try.func90 (by decide) rfl (ref04_Bag_ac x_0.Kind r_22 h_r_22) rfl ⟨(argE (by (conv => lhs; whnf); all_goals rfl) rfl), trivial⟩ rfl trivial rfl rfl rfl lend0 trivial rfl, ?_⟩
      conv => whnf
      refine ⟨fun hb_53 => ?_, fun hb_53 => ?_⟩
      · replace hF := cond_t hb_53 hF
        conv => whnf
        obtain ⟨r_23, h_r_23, hF⟩ := bind_some hF
        refine ⟨_, _, _, _, _, _, _, _, _, callX false [] [] 0 Try.func63 (by decide) rfl (ref04_in_ac x_0.Do (0 : Int) (2 : Int) r_23 h_r_23) rfl ⟨(argE (by (conv => lhs; whnf); all_goals rfl) rfl), (argE (by (conv => lhs; whnf); all_goals rfl) rfl), (argE (by (conv => lhs; whnf); all_goals rfl) rfl), trivial⟩ rfl trivial rfl rfl rfl lend0 trivial rfl, ?_⟩
        conv => whnf
        refine ⟨fun hb_54 => ?_, fun hb_54 => ?_⟩
        · replace hF := cond_f hb_54 hF
          conv => whnf
          obtain ⟨r_24, h_r_24, hF⟩ := bind_some hF
          refine ⟨_, _, _, _, _, _, _, _, _, callX false [] [] 0 Try.func63 (by decide) rfl (ref04_in_ac x_0.Status (1 : Int) (4 : Int) r_24 h_r_24) rfl ⟨(argE (by (conv => lhs; whnf); all_goals rfl) rfl), (argE (by (conv => lhs; whnf); all_goals rfl) rfl), (argE (by (conv => lhs; whnf); all_goals rfl) rfl), trivial⟩ rfl trivial rfl rfl rfl lend0 trivial rfl, ?_⟩
          conv => whnf
          refine ⟨fun hb_55 => ?_, fun hb_55 => ?_⟩
          · replace hF := cond_f hb_55 hF
            conv => whnf
            obtain ⟨r_25, h_r_25, hF⟩ := bind_some hF
            refine ⟨_, _, _, _, _, _, _, _, _, callX false [] [] 0 Try.func63 (by decide) rfl (ref04_in_ac x_0.Sequence (1 : Int) (999 : Int) r_25 h_r_25) rfl ⟨(argE (by (conv => lhs; whnf); all_goals rfl) rfl), (argE (by (conv => lhs; whnf); all_goals rfl) rfl), (argE (by (conv => lhs; whnf); all_goals rfl) rfl), trivial⟩ rfl trivial rfl rfl rfl lend0 trivial rfl, ?_⟩
            conv => whnf
            refine ⟨fun hb_56 => ?_, fun hb_56 => ?_⟩
            · replace hF := cond_f hb_56 hF
              conv => whnf
              obtain ⟨r_26, h_r_26, hF⟩ := bind_some hF
              refine ⟨_, _, _, _, _, _, _, _, _, callX false [] [] 0 Try.func63 (by decide) rfl (ref04_in_ac x_0.Weight (0 : Int) (999 : Int) r_26 h_r_26) rfl ⟨(argE (by (conv => lhs; whnf); all_goals rfl) rfl), (argE (by (conv => lhs; whnf); all_goals rfl) rfl), (argE (by (conv => lhs; whnf); all_goals rfl) rfl), trivial⟩ rfl trivial rfl rfl rfl lend0 trivial rfl, ?_⟩
              conv => whnf
              refine ⟨fun hb_57 => ?_, fun hb_57 => ?_⟩
              · replace hF := cond_f hb_57 hF
                conv => whnf
                obtain ⟨r_27, h_r_27, hF⟩ := bind_some hF
                refine ⟨_, _, _, _, _, _, _, _, _, callX false [] [] 0 Try.func63 (by decide) rfl (ref04_in_ac x_0.Exception (0 : Int) (3 : Int) r_27 h_r_27) rfl ⟨(argE (by (conv => lhs; whnf); all_goals rfl) rfl), (argE (by (conv => lhs; whnf); all_goals rfl) rfl), (argE (by (conv => lhs; whnf); all_goals rfl) rfl), trivial⟩ rfl trivial rfl rfl rfl lend0 trivial rfl, ?_⟩
                conv => whnf
                refine ⟨fun hb_58 => ?_, fun hb_58 => ?_⟩
                · replace hF := cond_t hb_58 hF
                  conv => whnf
                  obtain rfl := Option.some.inj hF
                  exact ret_gz [] [] [] rfl (argFl (by (conv => lhs; whnf); all_goals rfl)) trivial
                · replace hF := cond_f hb_58 hF
                  conv => whnf
                  obtain ⟨c_1, hc_1, hF⟩ := fin_some hF
                  refine sw_bv 0 (v := .agg [.int .i64 x_0.Kind, .int .i64 x_0.Do, .str x_0.Port, .int .i64 x_0.Number, .str x_0.In.Flight.Carrier, .int .i64 x_0.In.Flight.Number, .str x_0.In.Flight.Suffix, .int .i64 x_0.In.Flight.Day, .str x_0.In.Port, .str x_0.In.Class, .str x_0.Out.Flight.Carrier, .int .i64 x_0.Out.Flight.Number, .str x_0.Out.Flight.Suffix, .int .i64 x_0.Out.Flight.Day, .str x_0.Out.Port, .str x_0.Out.Class, .lst 6 (x_0.Onward.map encLeg), .int .i64 x_0.First.Lead, .int .i64 x_0.First.Airline, .int .i64 x_0.First.Serial, .int .i64 x_0.Count, .bool x_0.Load, .int .i64 x_0.Status, .int .i64 x_0.Sequence, .int .i64 x_0.Weight, .str x_0.Surname, .str x_0.Given, .int .i64 x_0.Exception, .str x_0.Node, .lst 1 (x_0.List.map iA)]) (by (conv => lhs; whnf); all_goals rfl) (fun hb => ?_)
                  have hbd_k_29 : x_0.List.length ≤ 9223372036854775807 := bnd_len (enc := iA) ((bnd_at hb.cell 29 rfl))
                  refine sw_loop tab_ok follows_ok (fun y : Nat => y ≤ x_0.List.length ∧ ref04_counted_L1 (x_0.List.drop y) y = some c_1) (fun y => ⟨eL [(1, .ptr 0 0), (3, .int .i64 (y : Int))], hL [(0, .box [.int .i64 x_0.Kind, .int .i64 x_0.Do, .str x_0.Port, .int .i64 x_0.Number, .str x_0.In.Flight.Carrier, .int .i64 x_0.In.Flight.Number, .str x_0.In.Flight.Suffix, .int .i64 x_0.In.Flight.Day, .str x_0.In.Port, .str x_0.In.Class, .str x_0.Out.Flight.Carrier, .int .i64 x_0.Out.Flight.Number, .str x_0.Out.Flight.Suffix, .int .i64 x_0.Out.Flight.Day, .str x_0.Out.Port, .str x_0.Out.Class, .lst 6 (x_0.Onward.map encLeg), .int .i64 x_0.First.Lead, .int .i64 x_0.First.Airline, .int .i64 x_0.First.Serial, .int .i64 x_0.Count, .bool x_0.Load, .int .i64 x_0.Status, .int .i64 x_0.Sequence, .int .i64 x_0.Weight, .str x_0.Surname, .str x_0.Given, .int .i64 x_0.Exception, .str x_0.Node, .lst 1 (x_0.List.map iA)])], 1⟩) (fun y => x_0.List.length - y) 0 ⟨Nat.zero_le _, hc_1⟩ (wk_mk [0] [] [] rfl ⟨argP (id := 0) (by (conv => lhs; whnf); all_goals rfl) rfl, argE (by (conv => lhs; whnf); all_goals rfl) rfl, trivial⟩ ⟨boxL rfl rfl rfl ⟨(.ni _ rfl), (.ni _ rfl), (.ni _ rfl), (.ni _ rfl), (.ni _ rfl), (.ni _ rfl), (.ni _ rfl), (.ni _ rfl), (.ni _ rfl), (.ni _ rfl), (.ni _ rfl), (.ni _ rfl), (.ni _ rfl), (.ni _ rfl), (.ni _ rfl), (.ni _ rfl), (.ni _ rfl), (.ni _ rfl), (.ni _ rfl), (.ni _ rfl), (.ni _ rfl), (.ni _ rfl), (.ni _ rfl), (.ni _ rfl), (.ni _ rfl), (.ni _ rfl), (.ni _ rfl), (.ni _ rfl), (.ni _ rfl), (.ni _ rfl), trivial⟩, trivial⟩) ?_
                  rintro k_29 ⟨hk_k_29, hL1⟩
                  try dsimp only at hk_k_29 hL1
                  show awp _ _ _ _ _ _ ⟨eL [(1, .ptr 0 0), (3, .int .i64 (k_29 : Int))], hL [(0, .box [.int .i64 x_0.Kind, .int .i64 x_0.Do, .str x_0.Port, .int .i64 x_0.Number, .str x_0.In.Flight.Carrier, .int .i64 x_0.In.Flight.Number, .str x_0.In.Flight.Suffix, .int .i64 x_0.In.Flight.Day, .str x_0.In.Port, .str x_0.In.Class, .str x_0.Out.Flight.Carrier, .int .i64 x_0.Out.Flight.Number, .str x_0.Out.Flight.Suffix, .int .i64 x_0.Out.Flight.Day, .str x_0.Out.Port, .str x_0.Out.Class, .lst 6 (x_0.Onward.map encLeg), .int .i64 x_0.First.Lead, .int .i64 x_0.First.Airline, .int .i64 x_0.First.Serial, .int .i64 x_0.Count, .bool x_0.Load, .int .i64 x_0.Status, .int .i64 x_0.Sequence, .int .i64 x_0.Weight, .str x_0.Surname, .str x_0.Given, .int .i64 x_0.Exception, .str x_0.Node, .lst 1 (x_0.List.map iA)])], 1⟩
                  conv => whnf
                  refine len_q (enc := iA) (l := x_0.List) rfl ?_
                  conv => whnf
                  refine ⟨fun h => ?_, fun h => ?_⟩
                  · have hlt_k_29 : k_29 < x_0.List.length := by have h := of_decide_eq_true h; omega
                    obtain ⟨e_30, h_e_30⟩ : ∃ y, x_0.List[k_29]? = some y := ⟨_, List.getElem?_eq_getElem hlt_k_29⟩
                    rw [drop_cons h_e_30, ref04_counted_L1.eq_2] at hL1
                    conv => whnf
                    refine ⟨k_29, _, rfl, ix_map h_e_30, ?_⟩
                    conv => whnf
                    obtain ⟨r_31, h_r_31, hL1⟩ := bind_some hL1
                    refine ⟨_, _, _, _, _, _, _, _, _, callX false [] [] 0 Try.func63 (by decide) rfl (ref04_in_ac e_30 (1 : Int) (999 : Int) r_31 h_r_31) rfl ⟨(argE (by (conv => lhs; whnf); all_goals rfl) rfl), (argE (by (conv => lhs; whnf); all_goals rfl) rfl), (argE (by (conv => lhs; whnf); all_goals rfl) rfl), trivial⟩ rfl trivial rfl rfl rfl lend0 trivial rfl, ?_⟩
                    conv => whnf
                    refine ⟨fun hb_59 => ?_, fun hb_59 => ?_⟩
                    · replace hL1 := cond_t hb_59 hL1
                      conv => whnf
                      obtain rfl := Option.some.inj hL1
                      replace hF := fin_ret hF
                      obtain rfl := Option.some.inj hF
                      exact ret_gz [] [] [] rfl (argFl (by (conv => lhs; whnf); all_goals rfl)) trivial
                    · replace hL1 := cond_f hb_59 hL1
                      conv => whnf
                      refine ⟨((k_29 + 1 : Nat) : Int), wrapE (by omega) (by omega) (by omega), ?_⟩
                      conv => whnf
                      exact ⟨k_29 + 1, [0], [], [], ⟨hlt_k_29, hL1⟩, by show x_0.List.length - (k_29 + 1) < x_0.List.length - k_29; omega, wk_mk [0] [] [] rfl ⟨argP (id := 0) (by (conv => lhs; whnf); all_goals rfl) rfl, argE (by (conv => lhs; whnf); all_goals rfl) rfl, trivial⟩ ⟨boxL rfl rfl rfl ⟨(.ni _ rfl), (.ni _ rfl), (.ni _ rfl), (.ni _ rfl), (.ni _ rfl), (.ni _ rfl), (.ni _ rfl), (.ni _ rfl), (.ni _ rfl), (.ni _ rfl), (.ni _ rfl), (.ni _ rfl), (.ni _ rfl), (.ni _ rfl), (.ni _ rfl), (.ni _ rfl), (.ni _ rfl), (.ni _ rfl), (.ni _ rfl), (.ni _ rfl), (.ni _ rfl), (.ni _ rfl), (.ni _ rfl), (.ni _ rfl), (.ni _ rfl), (.ni _ rfl), (.ni _ rfl), (.ni _ rfl), (.ni _ rfl), (.ni _ rfl), trivial⟩, trivial⟩⟩
                  · rw [drop_nil (show x_0.List.length ≤ k_29 by have h := of_decide_eq_false h; omega), ref04_counted_L1.eq_1] at hL1
                    conv => whnf
                    obtain rfl := Option.some.inj hL1
                    replace hF := fin_brk hF
                    try dsimp only at hF
                    obtain rfl := Option.some.inj hF
                    exact ret_gz [] [] [] rfl (argT (by (conv => lhs; whnf); all_goals rfl)) trivial
              · replace hF := cond_t hb_57 hF
                conv => whnf
                obtain rfl := Option.some.inj hF
                exact ret_gz [] [] [] rfl (argFl (by (conv => lhs; whnf); all_goals rfl)) trivial
            · replace hF := cond_t hb_56 hF
              conv => whnf
              obtain rfl := Option.some.inj hF
              exact ret_gz [] [] [] rfl (argFl (by (conv => lhs; whnf); all_goals rfl)) trivial
          · replace hF := cond_t hb_55 hF
            conv => whnf
            obtain rfl := Option.some.inj hF
            exact ret_gz [] [] [] rfl (argFl (by (conv => lhs; whnf); all_goals rfl)) trivial
        · replace hF := cond_t hb_54 hF
          conv => whnf
          obtain rfl := Option.some.inj hF
          exact ret_gz [] [] [] rfl (argFl (by (conv => lhs; whnf); all_goals rfl)) trivial
      · replace hF := cond_f hb_53 hF
        conv => whnf
        obtain ⟨c_1, hc_1, hF⟩ := fin_some hF
        refine sw_bv 0 (v := .agg [.int .i64 x_0.Kind, .int .i64 x_0.Do, .str x_0.Port, .int .i64 x_0.Number, .str x_0.In.Flight.Carrier, .int .i64 x_0.In.Flight.Number, .str x_0.In.Flight.Suffix, .int .i64 x_0.In.Flight.Day, .str x_0.In.Port, .str x_0.In.Class, .str x_0.Out.Flight.Carrier, .int .i64 x_0.Out.Flight.Number, .str x_0.Out.Flight.Suffix, .int .i64 x_0.Out.Flight.Day, .str x_0.Out.Port, .str x_0.Out.Class, .lst 6 (x_0.Onward.map encLeg), .int .i64 x_0.First.Lead, .int .i64 x_0.First.Airline, .int .i64 x_0.First.Serial, .int .i64 x_0.Count, .bool x_0.Load, .int .i64 x_0.Status, .int .i64 x_0.Sequence, .int .i64 x_0.Weight, .str x_0.Surname, .str x_0.Given, .int .i64 x_0.Exception, .str x_0.Node, .lst 1 (x_0.List.map iA)]) (by (conv => lhs; whnf); all_goals rfl) (fun hb => ?_)
        have hbd_k_35 : x_0.List.length ≤ 9223372036854775807 := bnd_len (enc := iA) ((bnd_at hb.cell 29 rfl))
        refine sw_loop tab_ok follows_ok (fun y : Nat => y ≤ x_0.List.length ∧ ref04_counted_L1 (x_0.List.drop y) y = some c_1) (fun y => ⟨eL [(1, .ptr 0 0), (3, .int .i64 (y : Int))], hL [(0, .box [.int .i64 x_0.Kind, .int .i64 x_0.Do, .str x_0.Port, .int .i64 x_0.Number, .str x_0.In.Flight.Carrier, .int .i64 x_0.In.Flight.Number, .str x_0.In.Flight.Suffix, .int .i64 x_0.In.Flight.Day, .str x_0.In.Port, .str x_0.In.Class, .str x_0.Out.Flight.Carrier, .int .i64 x_0.Out.Flight.Number, .str x_0.Out.Flight.Suffix, .int .i64 x_0.Out.Flight.Day, .str x_0.Out.Port, .str x_0.Out.Class, .lst 6 (x_0.Onward.map encLeg), .int .i64 x_0.First.Lead, .int .i64 x_0.First.Airline, .int .i64 x_0.First.Serial, .int .i64 x_0.Count, .bool x_0.Load, .int .i64 x_0.Status, .int .i64 x_0.Sequence, .int .i64 x_0.Weight, .str x_0.Surname, .str x_0.Given, .int .i64 x_0.Exception, .str x_0.Node, .lst 1 (x_0.List.map iA)])], 1⟩) (fun y => x_0.List.length - y) 0 ⟨Nat.zero_le _, hc_1⟩ (wk_mk [0] [] [] rfl ⟨argP (id := 0) (by (conv => lhs; whnf); all_goals rfl) rfl, argE (by (conv => lhs; whnf); all_goals rfl) rfl, trivial⟩ ⟨boxL rfl rfl rfl ⟨(.ni _ rfl), (.ni _ rfl), (.ni _ rfl), (.ni _ rfl), (.ni _ rfl), (.ni _ rfl), (.ni _ rfl), (.ni _ rfl), (.ni _ rfl), (.ni _ rfl), (.ni _ rfl), (.ni _ rfl), (.ni _ rfl), (.ni _ rfl), (.ni _ rfl), (.ni _ rfl), (.ni _ rfl), (.ni _ rfl), (.ni _ rfl), (.ni _ rfl), (.ni _ rfl), (.ni _ rfl), (.ni _ rfl), (.ni _ rfl), (.ni _ rfl), (.ni _ rfl), (.ni _ rfl), (.ni _ rfl), (.ni _ rfl), (.ni _ rfl), trivial⟩, trivial⟩) ?_
        rintro k_35 ⟨hk_k_35, hL1⟩
        try dsimp only at hk_k_35 hL1
        show awp _ _ _ _ _ _ ⟨eL [(1, .ptr 0 0), (3, .int .i64 (k_35 : Int))], hL [(0, .box [.int .i64 x_0.Kind, .int .i64 x_0.Do, .str x_0.Port, .int .i64 x_0.Number, .str x_0.In.Flight.Carrier, .int .i64 x_0.In.Flight.Number, .str x_0.In.Flight.Suffix, .int .i64 x_0.In.Flight.Day, .str x_0.In.Port, .str x_0.In.Class, .str x_0.Out.Flight.Carrier, .int .i64 x_0.Out.Flight.Number, .str x_0.Out.Flight.Suffix, .int .i64 x_0.Out.Flight.Day, .str x_0.Out.Port, .str x_0.Out.Class, .lst 6 (x_0.Onward.map encLeg), .int .i64 x_0.First.Lead, .int .i64 x_0.First.Airline, .int .i64 x_0.First.Serial, .int .i64 x_0.Count, .bool x_0.Load, .int .i64 x_0.Status, .int .i64 x_0.Sequence, .int .i64 x_0.Weight, .str x_0.Surname, .str x_0.Given, .int .i64 x_0.Exception, .str x_0.Node, .lst 1 (x_0.List.map iA)])], 1⟩
        conv => whnf
        refine len_q (enc := iA) (l := x_0.List) rfl ?_
        conv => whnf
        refine ⟨fun h => ?_, fun h => ?_⟩
        · have hlt_k_35 : k_35 < x_0.List.length := by have h := of_decide_eq_true h; omega
          obtain ⟨e_36, h_e_36⟩ : ∃ y, x_0.List[k_35]? = some y := ⟨_, List.getElem?_eq_getElem hlt_k_35⟩
          rw [drop_cons h_e_36, ref04_counted_L1.eq_2] at hL1
          conv => whnf
          refine ⟨k_35, _, rfl, ix_map h_e_36, ?_⟩
          conv => whnf
          obtain ⟨r_37, h_r_37, hL1⟩ := bind_some hL1
          refine ⟨_, _, _, _, _, _, _, _, _, callX false [] [] 0 Try.func63 (by decide) rfl (ref04_in_ac e_36 (1 : Int) (999 : Int) r_37 h_r_37) rfl ⟨(argE (by (conv => lhs; whnf); all_goals rfl) rfl), (argE (by (conv => lhs; whnf); all_goals rfl) rfl), (argE (by (conv => lhs; whnf); all_goals rfl) rfl), trivial⟩ rfl trivial rfl rfl rfl lend0 trivial rfl, ?_⟩
          conv => whnf
          refine ⟨fun hb_60 => ?_, fun hb_60 => ?_⟩
          · replace hL1 := cond_t hb_60 hL1
            conv => whnf
            obtain rfl := Option.some.inj hL1
            replace hF := fin_ret hF
            obtain rfl := Option.some.inj hF
            exact ret_gz [] [] [] rfl (argFl (by (conv => lhs; whnf); all_goals rfl)) trivial
          · replace hL1 := cond_f hb_60 hL1
            conv => whnf
            refine ⟨((k_35 + 1 : Nat) : Int), wrapE (by omega) (by omega) (by omega), ?_⟩
            conv => whnf
            exact ⟨k_35 + 1, [0], [], [], ⟨hlt_k_35, hL1⟩, by show x_0.List.length - (k_35 + 1) < x_0.List.length - k_35; omega, wk_mk [0] [] [] rfl ⟨argP (id := 0) (by (conv => lhs; whnf); all_goals rfl) rfl, argE (by (conv => lhs; whnf); all_goals rfl) rfl, trivial⟩ ⟨boxL rfl rfl rfl ⟨(.ni _ rfl), (.ni _ rfl), (.ni _ rfl), (.ni _ rfl), (.ni _ rfl), (.ni _ rfl), (.ni _ rfl), (.ni _ rfl), (.ni _ rfl), (.ni _ rfl), (.ni _ rfl), (.ni _ rfl), (.ni _ rfl), (.ni _ rfl), (.ni _ rfl), (.ni _ rfl), (.ni _ rfl), (.ni _ rfl), (.ni _ rfl), (.ni _ rfl), (.ni _ rfl), (.ni _ rfl), (.ni _ rfl), (.ni _ rfl), (.ni _ rfl), (.ni _ rfl), (.ni _ rfl), (.ni _ rfl), (.ni _ rfl), (.ni _ rfl), trivial⟩, trivial⟩⟩
        · rw [drop_nil (show x_0.List.length ≤ k_35 by have h := of_decide_eq_false h; omega), ref04_counted_L1.eq_1] at hL1
          conv => whnf
          obtain rfl := Option.some.inj hL1
          replace hF := fin_brk hF
          try dsimp only at hF
          obtain rfl := Option.some.inj hF
          exact ret_gz [] [] [] rfl (argT (by (conv => lhs; whnf); all_goals rfl)) trivial
  · replace hF := cond_t hb_41 hF
    conv => whnf
    obtain rfl := Option.some.inj hF
    exact ret_gz [] [] [] rfl (argFl (by (conv => lhs; whnf); all_goals rfl)) trivial

set_option maxRecDepth 100000 in
set_option maxHeartbeats 40000000 in
theorem ref04_Validate_ac (x_0 : Message) (r : Int) (hF : ref04_Validate x_0 = some r) : AC Try.prog 44 [.agg (encMessage x_0)] [] (.int .i64 r) [] := by
  refine ac_of tab_ok follows_ok Try.func44 rfl Try.ntmps44 rfl ?_
  unfold ref04_Validate at hF
  conv => whnf
  obtain ⟨r_1, h_r_1, hF⟩ := bind_some hF
  refine ⟨_, _, _, _, _, _, _, _, _, callX false [] [] 0 Try.func63 (by decide) rfl (ref04_in_ac x_0.Kind (1 : Int) (5 : Int) r_1 h_r_1) rfl ⟨(argE (by (conv => lhs; whnf); all_goals rfl) rfl), (argE (by (conv => lhs; whnf); all_goals rfl) rfl), (argE (by (conv => lhs; whnf); all_goals rfl) rfl), trivial⟩ rfl trivial rfl rfl rfl lend0 trivial rfl, ?_⟩
  conv => whnf
  refine ⟨fun hb_15 => ?_, fun hb_15 => ?_⟩
  · replace hF := cond_t hb_15 hF
    conv => whnf
    obtain rfl := Option.some.inj hF
    exact ret_gz [] [] [] rfl (argE (by (conv => lhs; whnf); all_goals rfl) rfl) trivial
  · replace hF := cond_f hb_15 hF
    conv => whnf
    obtain ⟨r_2, h_r_2, hF⟩ := bind_some hF
    refine ⟨_, _, _, _, _, _, _, _, _, callX false [] [] 0 Try.func65 (by decide) rfl (ref04_own_ac x_0 r_2 h_r_2) rfl ⟨(argE (by (conv => lhs; whnf); all_goals rfl) rfl), trivial⟩ rfl trivial rfl rfl rfl lend0 trivial rfl, ?_⟩
    conv => whnf
    obtain ⟨r_3, h_r_3, hF⟩ := bind_some hF
    refine ⟨_, _, _, _, _, _, _, _, _, callX false [] [] 0 Try.func64 (by decide) rfl (ref04_Same_ac x_0 r_2 r_3 h_r_3) rfl ⟨(argE (by (conv => lhs; whnf); all_goals rfl) rfl), (argE (by (conv => lhs; whnf); all_goals rfl) rfl), trivial⟩ rfl trivial rfl rfl rfl lend0 trivial rfl, ?_⟩
    conv => whnf
    refine ⟨by kernel_rfl, ?_⟩
    conv => whnf
    refine ⟨fun hb_16 => ?_, fun hb_16 => ?_⟩
    · replace hF := cond_t hb_16 hF
      conv => whnf
      obtain rfl := Option.some.inj hF
      exact ret_gz [] [] [] rfl (argE (by (conv => lhs; whnf); all_goals rfl) rfl) trivial
    · replace hF := cond_f hb_16 hF
      conv => whnf
      refine len_q (enc := encLeg) (l := x_0.Onward) rfl ?_
      conv => whnf
      refine ⟨fun hb_17 => ?_, fun hb_17 => ?_⟩
      · replace hF := cond_f hb_17 hF
        conv => whnf
        refine len_q (enc := iA) (l := x_0.List) rfl ?_
        conv => whnf
        refine ⟨fun hb_18 => ?_, fun hb_18 => ?_⟩
        · replace hF := cond_t hb_18 hF
          conv => whnf
          obtain rfl := Option.some.inj hF
          exact ret_gz [] [] [] rfl (argE (by (conv => lhs; whnf); all_goals rfl) rfl) trivial
        · replace hF := cond_f hb_18 hF
          conv => whnf
          obtain ⟨r_4, h_r_4, hF⟩ := bind_some hF
          refine ⟨_, _, _, _, _, _, _, _, _, callX false [] [] 0 Try.func66 (by decide) rfl (ref04_spelled_ac x_0 r_4 h_r_4) rfl ⟨(argE (by (conv => lhs; whnf); all_goals rfl) rfl), trivial⟩ rfl trivial rfl rfl rfl lend0 trivial rfl, ?_⟩
          conv => whnf
          refine ⟨fun hb_19 => ?_, fun hb_19 => ?_⟩
          · replace hF := cond_t hb_19 hF
            conv => whnf
            obtain rfl := Option.some.inj hF
            exact ret_gz [] [] [] rfl (argE (by (conv => lhs; whnf); all_goals rfl) rfl) trivial
          · replace hF := cond_f hb_19 hF
            conv => whnf
            obtain ⟨r_5, h_r_5, hF⟩ := bind_some hF
            refine ⟨_, _, _, _, _, _, _, _, _, callX false [] [] 0 Try.func67 (by decide) rfl (ref04_counted_ac x_0 r_5 h_r_5) rfl ⟨(argE (by (conv => lhs; whnf); all_goals rfl) rfl), trivial⟩ rfl trivial rfl rfl rfl lend0 trivial rfl, ?_⟩
            conv => whnf
            refine ⟨fun hb_20 => ?_, fun hb_20 => ?_⟩
            · replace hF := cond_t hb_20 hF
              conv => whnf
              obtain rfl := Option.some.inj hF
              exact ret_gz [] [] [] rfl (argE (by (conv => lhs; whnf); all_goals rfl) rfl) trivial
            · replace hF := cond_f hb_20 hF
              conv => whnf
              obtain ⟨c_1, hc_1, hF⟩ := fin_some hF
              refine sw_loop tab_ok follows_ok (fun y : Nat × Int => ref04_Validate_L1 x_0 y.1 y.2 = some c_1) (fun y => ⟨eL [(1, .ptr 0 0), (3, .int .i64 y.2)], hL [(0, .box [.int .i64 x_0.Kind, .int .i64 x_0.Do, .str x_0.Port, .int .i64 x_0.Number, .str x_0.In.Flight.Carrier, .int .i64 x_0.In.Flight.Number, .str x_0.In.Flight.Suffix, .int .i64 x_0.In.Flight.Day, .str x_0.In.Port, .str x_0.In.Class, .str x_0.Out.Flight.Carrier, .int .i64 x_0.Out.Flight.Number, .str x_0.Out.Flight.Suffix, .int .i64 x_0.Out.Flight.Day, .str x_0.Out.Port, .str x_0.Out.Class, .lst 6 (x_0.Onward.map encLeg), .int .i64 x_0.First.Lead, .int .i64 x_0.First.Airline, .int .i64 x_0.First.Serial, .int .i64 x_0.Count, .bool x_0.Load, .int .i64 x_0.Status, .int .i64 x_0.Sequence, .int .i64 x_0.Weight, .str x_0.Surname, .str x_0.Given, .int .i64 x_0.Exception, .str x_0.Node, .lst 1 (x_0.List.map iA)])], 1⟩) (fun y => y.1) (9223372036854775807, (1 : Int)) hc_1 (wk_mk [0] [] [] rfl ⟨argP (id := 0) (by (conv => lhs; whnf); all_goals rfl) rfl, argE (by (conv => lhs; whnf); all_goals rfl) rfl, trivial⟩ ⟨boxL rfl rfl rfl ⟨(.ni _ rfl), (.ni _ rfl), (.ni _ rfl), (.ni _ rfl), (.ni _ rfl), (.ni _ rfl), (.ni _ rfl), (.ni _ rfl), (.ni _ rfl), (.ni _ rfl), (.ni _ rfl), (.ni _ rfl), (.ni _ rfl), (.ni _ rfl), (.ni _ rfl), (.ni _ rfl), (.ni _ rfl), (.ni _ rfl), (.ni _ rfl), (.ni _ rfl), (.ni _ rfl), (.ni _ rfl), (.ni _ rfl), (.ni _ rfl), (.ni _ rfl), (.ni _ rfl), (.ni _ rfl), (.ni _ rfl), (.ni _ rfl), (.ni _ rfl), trivial⟩, trivial⟩) ?_
              rintro ⟨q_9, i_6⟩ hL1
              try dsimp only at hL1
              rcases q_9 with _ | q_9
              · rw [ref04_Validate_L1.eq_1] at hL1
                cases hL1
              rw [ref04_Validate_L1.eq_2] at hL1
              show awp _ _ _ _ _ _ ⟨eL [(1, .ptr 0 0), (3, .int .i64 i_6)], hL [(0, .box [.int .i64 x_0.Kind, .int .i64 x_0.Do, .str x_0.Port, .int .i64 x_0.Number, .str x_0.In.Flight.Carrier, .int .i64 x_0.In.Flight.Number, .str x_0.In.Flight.Suffix, .int .i64 x_0.In.Flight.Day, .str x_0.In.Port, .str x_0.In.Class, .str x_0.Out.Flight.Carrier, .int .i64 x_0.Out.Flight.Number, .str x_0.Out.Flight.Suffix, .int .i64 x_0.Out.Flight.Day, .str x_0.Out.Port, .str x_0.Out.Class, .lst 6 (x_0.Onward.map encLeg), .int .i64 x_0.First.Lead, .int .i64 x_0.First.Airline, .int .i64 x_0.First.Serial, .int .i64 x_0.Count, .bool x_0.Load, .int .i64 x_0.Status, .int .i64 x_0.Sequence, .int .i64 x_0.Weight, .str x_0.Surname, .str x_0.Given, .int .i64 x_0.Exception, .str x_0.Node, .lst 1 (x_0.List.map iA)])], 1⟩
              conv => whnf
              refine len_q (enc := iA) (l := x_0.List) rfl ?_
              conv => whnf
              refine ⟨fun hb_21 => ?_, fun hb_21 => ?_⟩
              · replace hL1 := cond_t hb_21 hL1
                conv => whnf
                obtain ⟨e_7, h_e_7, hL1⟩ := bind_some hL1
                refine ix_q (enc := iA) (l := x_0.List) h_e_7 rfl (fun m_e_7 hm_e_7 hx_e_7 => ?_)
                conv => whnf
                refine ⟨_, rfl, ?_⟩
                conv => whnf
                obtain ⟨e_8, h_e_8, hL1⟩ := bind_some hL1
                refine ix_q (enc := iA) (l := x_0.List) h_e_8 rfl (fun m_e_8 hm_e_8 hx_e_8 => ?_)
                conv => whnf
                refine ⟨by kernel_rfl, ?_⟩
                conv => whnf
                refine ⟨fun hb_22 => ?_, fun hb_22 => ?_⟩
                · replace hL1 := cond_t hb_22 hL1
                  conv => whnf
                  obtain rfl := Option.some.inj hL1
                  replace hF := fin_ret hF
                  obtain rfl := Option.some.inj hF
                  exact ret_gz [] [] [] rfl (argE (by (conv => lhs; whnf); all_goals rfl) rfl) trivial
                · replace hL1 := cond_f hb_22 hL1
                  conv => whnf
                  refine ⟨_, rfl, ?_⟩
                  conv => whnf
                  exact ⟨(q_9, (w64 (i_6 + (1 : Int)))), [0], [], [], hL1, Nat.lt_succ_self _, wk_mk [0] [] [] rfl ⟨argP (id := 0) (by (conv => lhs; whnf); all_goals rfl) rfl, argE (by (conv => lhs; whnf); all_goals rfl) rfl, trivial⟩ ⟨boxL rfl rfl rfl ⟨(.ni _ rfl), (.ni _ rfl), (.ni _ rfl), (.ni _ rfl), (.ni _ rfl), (.ni _ rfl), (.ni _ rfl), (.ni _ rfl), (.ni _ rfl), (.ni _ rfl), (.ni _ rfl), (.ni _ rfl), (.ni _ rfl), (.ni _ rfl), (.ni _ rfl), (.ni _ rfl), (.ni _ rfl), (.ni _ rfl), (.ni _ rfl), (.ni _ rfl), (.ni _ rfl), (.ni _ rfl), (.ni _ rfl), (.ni _ rfl), (.ni _ rfl), (.ni _ rfl), (.ni _ rfl), (.ni _ rfl), (.ni _ rfl), (.ni _ rfl), trivial⟩, trivial⟩⟩
              · replace hL1 := cond_f hb_21 hL1
                conv => whnf
                obtain rfl := Option.some.inj hL1
                replace hF := fin_brk hF
                try dsimp only at hF
                obtain rfl := Option.some.inj hF
                exact ret_gz [] [] [] rfl (argE (by (conv => lhs; whnf); all_goals rfl) rfl) trivial
      · replace hF := cond_t hb_17 hF
        conv => whnf
        obtain rfl := Option.some.inj hF
        exact ret_gz [] [] [] rfl (argE (by (conv => lhs; whnf); all_goals rfl) rfl) trivial

set_option maxRecDepth 100000 in
set_option maxHeartbeats 40000000 in
theorem ref25_Union_ac (x_0 : (List Int)) (x_1 : (List Int)) (r : (List Int)) (hF : ref25_Union x_0 x_1 = some r) : AC Try.prog 68 [.lst 1 (x_0.map iA), .lst 1 (x_1.map iA)] [] (.lst 1 (r.map iA)) [] := by
  refine ac_of tab_ok follows_ok Try.func68 rfl Try.ntmps68 rfl ?_
  unfold ref25_Union at hF
  conv => whnf
  obtain ⟨c_1, hc_1, hF⟩ := fin_some hF
  refine sw_loop tab_ok follows_ok (fun y : Nat × (List Int) × Int × Int => ref25_Union_L1 x_0 x_1 y.1 y.2.1 y.2.2.1 y.2.2.2 = some c_1) (fun y => ⟨eL [(0, .lst 1 (x_0.map iA)), (1, .lst 1 (x_1.map iA)), (5, .osl 0), (6, .int .i64 y.2.2.1), (7, .int .i64 y.2.2.2)], hL [(0, .row 1 (y.2.1.map iA))], 1⟩) (fun y => y.1) (9223372036854775807, ([] : List Int), (0 : Int), (0 : Int)) hc_1 (wk_mk [] [0] [] rfl ⟨argE (by (conv => lhs; whnf); all_goals rfl) rfl, argE (by (conv => lhs; whnf); all_goals rfl) rfl, argZ (by (conv => lhs; whnf); all_goals rfl) rfl, argE (by (conv => lhs; whnf); all_goals rfl) rfl, argE (by (conv => lhs; whnf); all_goals rfl) rfl, trivial⟩ ⟨blkZ rfl, trivial⟩) ?_
  rintro ⟨q_28, a_1, i_2, i_3⟩ hL1
  try dsimp only at hL1
  rcases q_28 with _ | q_28
  · rw [ref25_Union_L1.eq_1] at hL1
    cases hL1
  rw [ref25_Union_L1.eq_2] at hL1
  show awp _ _ _ _ _ _ ⟨eL [(0, .lst 1 (x_0.map iA)), (1, .lst 1 (x_1.map iA)), (5, .osl 0), (6, .int .i64 i_2), (7, .int .i64 i_3)], hL [(0, .row 1 (a_1.map iA))], 1⟩
  conv => whnf
  refine len_q (enc := iA) (l := x_0) rfl ?_
  conv => whnf
  refine ⟨fun hb_37 => ?_, fun hb_37 => ?_⟩
  · replace hL1 := cond_f hb_37 hL1
    conv => whnf
    refine len_q (enc := iA) (l := x_1) rfl ?_
    conv => whnf
    refine ⟨fun hb_42 => ?_, fun hb_42 => ?_⟩
    · replace hL1 := cond_t hb_42 hL1
      conv => whnf
      refine len_q (enc := iA) (l := x_1) rfl ?_
      conv => whnf
      refine ⟨fun hb_43 => ?_, fun hb_43 => ?_⟩
      · replace hL1 := cond_f hb_43 hL1
        conv => whnf
        refine len_q (enc := iA) (l := x_0) rfl ?_
        conv => whnf
        refine ⟨fun h => ?_, fun h => ?_⟩
        · cases (hb_37).symm.trans h
        · conv => whnf
          refine ⟨by kernel_rfl, ?_⟩
          conv => whnf
          refine len_q (enc := iA) (l := x_0) rfl ?_
          conv => whnf
          refine ⟨fun hb_44 => ?_, fun hb_44 => ?_⟩
          · replace hL1 := cond_f hb_44 hL1
            conv => whnf
            obtain ⟨e_22, h_e_22, hL1⟩ := bind_some hL1
            refine ix_q (enc := iA) (l := x_1) h_e_22 rfl (fun m_e_22 hm_e_22 hx_e_22 => ?_)
            conv => whnf
            obtain ⟨e_23, h_e_23, hL1⟩ := bind_some hL1
            refine ix_q (enc := iA) (l := x_0) h_e_23 rfl (fun m_e_23 hm_e_23 hx_e_23 => ?_)
            conv => whnf
            refine ⟨by kernel_rfl, ?_⟩
            conv => whnf
            refine ⟨fun hb_45 => ?_, fun hb_45 => ?_⟩
            · replace hL1 := cond_t hb_45 hL1
              conv => whnf
              obtain ⟨e_24, h_e_24, hL1⟩ := bind_some hL1
              refine ix_q (enc := iA) (l := x_1) h_e_24 rfl (fun m_e_24 hm_e_24 hx_e_24 => ?_)
              conv => whnf
              obtain ⟨l_25, h_l_25, hL1⟩ := bind_some hL1
              refine ap_q (enc := iA) (l := a_1) (y := ([e_24] : List Int)) h_l_25 rfl rfl (by decide) ?_
              conv => whnf
              refine ⟨_, rfl, ?_⟩
              conv => whnf
              exact ⟨(q_28, l_25, i_2, (w64 (i_3 + (1 : Int)))), [2], [], [], hL1, Nat.lt_succ_self _, wk_mk [2] [] [] rfl ⟨argE (by (conv => lhs; whnf); all_goals rfl) rfl, argE (by (conv => lhs; whnf); all_goals rfl) rfl, argO (id := 2) (by (conv => lhs; whnf); all_goals rfl) rfl, argE (by (conv => lhs; whnf); all_goals rfl) rfl, argE (by (conv => lhs; whnf); all_goals rfl) rfl, trivial⟩ ⟨blkR (fun _ => ⟨rfl, rfl⟩) rfl rfl, trivial⟩⟩
            · replace hL1 := cond_f hb_45 hL1
              conv => whnf
              obtain ⟨e_26, h_e_26, hL1⟩ := bind_some hL1
              refine ix_q (enc := iA) (l := x_0) h_e_26 rfl (fun m_e_26 hm_e_26 hx_e_26 => ?_)
              conv => whnf
              obtain ⟨l_27, h_l_27, hL1⟩ := bind_some hL1
              refine ap_q (enc := iA) (l := a_1) (y := ([e_26] : List Int)) h_l_27 rfl rfl (by decide) ?_
              conv => whnf
              refine ⟨_, rfl, ?_⟩
              conv => whnf
              refine ⟨_, rfl, ?_⟩
              conv => whnf
              exact ⟨(q_28, l_27, (w64 (i_2 + (1 : Int))), (w64 (i_3 + (1 : Int)))), [2], [], [], hL1, Nat.lt_succ_self _, wk_mk [2] [] [] rfl ⟨argE (by (conv => lhs; whnf); all_goals rfl) rfl, argE (by (conv => lhs; whnf); all_goals rfl) rfl, argO (id := 2) (by (conv => lhs; whnf); all_goals rfl) rfl, argE (by (conv => lhs; whnf); all_goals rfl) rfl, argE (by (conv => lhs; whnf); all_goals rfl) rfl, trivial⟩ ⟨blkR (fun _ => ⟨rfl, rfl⟩) rfl rfl, trivial⟩⟩
          · replace hL1 := cond_t hb_44 hL1
            conv => whnf
            refine ⟨by kernel_rfl, ?_⟩
            conv => whnf
            obtain ⟨e_20, h_e_20, hL1⟩ := bind_some hL1
            refine ix_q (enc := iA) (l := x_1) h_e_20 rfl (fun m_e_20 hm_e_20 hx_e_20 => ?_)
            conv => whnf
            obtain ⟨l_21, h_l_21, hL1⟩ := bind_some hL1
            refine ap_q (enc := iA) (l := a_1) (y := ([e_20] : List Int)) h_l_21 rfl rfl (by decide) ?_
            conv => whnf
            refine ⟨_, rfl, ?_⟩
            conv => whnf
            exact ⟨(q_28, l_21, i_2, (w64 (i_3 + (1 : Int)))), [2], [], [], hL1, Nat.lt_succ_self _, wk_mk [2] [] [] rfl ⟨argE (by (conv => lhs; whnf); all_goals rfl) rfl, argE (by (conv => lhs; whnf); all_goals rfl) rfl, argO (id := 2) (by (conv => lhs; whnf); all_goals rfl) rfl, argE (by (conv => lhs; whnf); all_goals rfl) rfl, argE (by (conv => lhs; whnf); all_goals rfl) rfl, trivial⟩ ⟨blkR (fun _ => ⟨rfl, rfl⟩) rfl rfl, trivial⟩⟩
      · replace hL1 := cond_t hb_43 hL1
        conv => whnf
        refine ⟨by kernel_rfl, ?_⟩
        conv => whnf
        obtain ⟨e_18, h_e_18, hL1⟩ := bind_some hL1
        refine ix_q (enc := iA) (l := x_0) h_e_18 rfl (fun m_e_18 hm_e_18 hx_e_18 => ?_)
        conv => whnf
        obtain ⟨l_19, h_l_19, hL1⟩ := bind_some hL1
        refine ap_q (enc := iA) (l := a_1) (y := ([e_18] : List Int)) h_l_19 rfl rfl (by decide) ?_
        conv => whnf
        refine ⟨_, rfl, ?_⟩
        conv => whnf
        exact ⟨(q_28, l_19, (w64 (i_2 + (1 : Int))), i_3), [2], [], [], hL1, Nat.lt_succ_self _, wk_mk [2] [] [] rfl ⟨argE (by (conv => lhs; whnf); all_goals rfl) rfl, argE (by (conv => lhs; whnf); all_goals rfl) rfl, argO (id := 2) (by (conv => lhs; whnf); all_goals rfl) rfl, argE (by (conv => lhs; whnf); all_goals rfl) rfl, argE (by (conv => lhs; whnf); all_goals rfl) rfl, trivial⟩ ⟨blkR (fun _ => ⟨rfl, rfl⟩) rfl rfl, trivial⟩⟩
    · replace hL1 := cond_f hb_42 hL1
      conv => whnf
      obtain rfl := Option.some.inj hL1
      replace hF := fin_brk hF
      try dsimp only at hF
      obtain rfl := Option.some.inj hF
      exact ret_gz [] [] [0] rfl (argOL 0 (by (conv => lhs; whnf); all_goals rfl) rfl rfl (map_ni (fun _ => ⟨rfl, rfl⟩) _)) trivial
  · replace hL1 := cond_t hb_37 hL1
    conv => whnf
    refine len_q (enc := iA) (l := x_1) rfl ?_
    conv => whnf
    refine ⟨fun hb_38 => ?_, fun hb_38 => ?_⟩
    · replace hL1 := cond_f hb_38 hL1
      conv => whnf
      refine len_q (enc := iA) (l := x_0) rfl ?_
      conv => whnf
      refine ⟨fun h => ?_, fun h => ?_⟩
      · conv => whnf
        obtain ⟨e_6, h_e_6, hL1⟩ := bind_some hL1
        refine ix_q (enc := iA) (l := x_0) h_e_6 rfl (fun m_e_6 hm_e_6 hx_e_6 => ?_)
        conv => whnf
        obtain ⟨e_7, h_e_7, hL1⟩ := bind_some hL1
        refine ix_q (enc := iA) (l := x_1) h_e_7 rfl (fun m_e_7 hm_e_7 hx_e_7 => ?_)
        conv => whnf
        refine ⟨by kernel_rfl, ?_⟩
        conv => whnf
        refine ⟨fun hb_39 => ?_, fun hb_39 => ?_⟩
        · replace hL1 := cond_t hb_39 hL1
          conv => whnf
          obtain ⟨e_8, h_e_8, hL1⟩ := bind_some hL1
          refine ix_q (enc := iA) (l := x_0) h_e_8 rfl (fun m_e_8 hm_e_8 hx_e_8 => ?_)
          conv => whnf
          obtain ⟨l_9, h_l_9, hL1⟩ := bind_some hL1
          refine ap_q (enc := iA) (l := a_1) (y := ([e_8] : List Int)) h_l_9 rfl rfl (by decide) ?_
          conv => whnf
          refine ⟨_, rfl, ?_⟩
          conv => whnf
          exact ⟨(q_28, l_9, (w64 (i_2 + (1 : Int))), i_3), [2], [], [], hL1, Nat.lt_succ_self _, wk_mk [2] [] [] rfl ⟨argE (by (conv => lhs; whnf); all_goals rfl) rfl, argE (by (conv => lhs; whnf); all_goals rfl) rfl, argO (id := 2) (by (conv => lhs; whnf); all_goals rfl) rfl, argE (by (conv => lhs; whnf); all_goals rfl) rfl, argE (by (conv => lhs; whnf); all_goals rfl) rfl, trivial⟩ ⟨blkR (fun _ => ⟨rfl, rfl⟩) rfl rfl, trivial⟩⟩
        · replace hL1 := cond_f hb_39 hL1
          conv => whnf
          refine len_q (enc := iA) (l := x_0) rfl ?_
          conv => whnf
          refine ⟨fun hb_40 => ?_, fun hb_40 => ?_⟩
          · replace hL1 := cond_f hb_40 hL1
            conv => whnf
            obtain ⟨e_12, h_e_12, hL1⟩ := bind_some hL1
            refine ix_q (enc := iA) (l := x_1) h_e_12 rfl (fun m_e_12 hm_e_12 hx_e_12 => ?_)
            conv => whnf
            obtain ⟨e_13, h_e_13, hL1⟩ := bind_some hL1
            refine ix_q (enc := iA) (l := x_0) h_e_13 rfl (fun m_e_13 hm_e_13 hx_e_13 => ?_)
            conv => whnf
            refine ⟨by kernel_rfl, ?_⟩
            conv => whnf
            refine ⟨fun hb_41 => ?_, fun hb_41 => ?_⟩
            · replace hL1 := cond_t hb_41 hL1
              conv => whnf
              obtain ⟨e_14, h_e_14, hL1⟩ := bind_some hL1
              refine ix_q (enc := iA) (l := x_1) h_e_14 rfl (fun m_e_14 hm_e_14 hx_e_14 => ?_)
              conv => whnf
              obtain ⟨l_15, h_l_15, hL1⟩ := bind_some hL1
              refine ap_q (enc := iA) (l := a_1) (y := ([e_14] : List Int)) h_l_15 rfl rfl (by decide) ?_
              conv => whnf
              refine ⟨_, rfl, ?_⟩
              conv => whnf
              exact ⟨(q_28, l_15, i_2, (w64 (i_3 + (1 : Int)))), [2], [], [], hL1, Nat.lt_succ_self _, wk_mk [2] [] [] rfl ⟨argE (by (conv => lhs; whnf); all_goals rfl) rfl, argE (by (conv => lhs; whnf); all_goals rfl) rfl, argO (id := 2) (by (conv => lhs; whnf); all_goals rfl) rfl, argE (by (conv => lhs; whnf); all_goals rfl) rfl, argE (by (conv => lhs; whnf); all_goals rfl) rfl, trivial⟩ ⟨blkR (fun _ => ⟨rfl, rfl⟩) rfl rfl, trivial⟩⟩
            · replace hL1 := cond_f hb_41 hL1
              conv => whnf
              obtain ⟨e_16, h_e_16, hL1⟩ := bind_some hL1
              refine ix_q (enc := iA) (l := x_0) h_e_16 rfl (fun m_e_16 hm_e_16 hx_e_16 => ?_)
              conv => whnf
              obtain ⟨l_17, h_l_17, hL1⟩ := bind_some hL1
              refine ap_q (enc := iA) (l := a_1) (y := ([e_16] : List Int)) h_l_17 rfl rfl (by decide) ?_
              conv => whnf
              refine ⟨_, rfl, ?_⟩
              conv => whnf
              refine ⟨_, rfl, ?_⟩
              conv => whnf
              exact ⟨(q_28, l_17, (w64 (i_2 + (1 : Int))), (w64 (i_3 + (1 : Int)))), [2], [], [], hL1, Nat.lt_succ_self _, wk_mk [2] [] [] rfl ⟨argE (by (conv => lhs; whnf); all_goals rfl) rfl, argE (by (conv => lhs; whnf); all_goals rfl) rfl, argO (id := 2) (by (conv => lhs; whnf); all_goals rfl) rfl, argE (by (conv => lhs; whnf); all_goals rfl) rfl, argE (by (conv => lhs; whnf); all_goals rfl) rfl, trivial⟩ ⟨blkR (fun _ => ⟨rfl, rfl⟩) rfl rfl, trivial⟩⟩
          · replace hL1 := cond_t hb_40 hL1
            conv => whnf
            refine ⟨by kernel_rfl, ?_⟩
            conv => whnf
            obtain ⟨e_10, h_e_10, hL1⟩ := bind_some hL1
            refine ix_q (enc := iA) (l := x_1) h_e_10 rfl (fun m_e_10 hm_e_10 hx_e_10 => ?_)
            conv => whnf
            obtain ⟨l_11, h_l_11, hL1⟩ := bind_some hL1
            refine ap_q (enc := iA) (l := a_1) (y := ([e_10] : List Int)) h_l_11 rfl rfl (by decide) ?_
            conv => whnf
            refine ⟨_, rfl, ?_⟩
            conv => whnf
            exact ⟨(q_28, l_11, i_2, (w64 (i_3 + (1 : Int)))), [2], [], [], hL1, Nat.lt_succ_self _, wk_mk [2] [] [] rfl ⟨argE (by (conv => lhs; whnf); all_goals rfl) rfl, argE (by (conv => lhs; whnf); all_goals rfl) rfl, argO (id := 2) (by (conv => lhs; whnf); all_goals rfl) rfl, argE (by (conv => lhs; whnf); all_goals rfl) rfl, argE (by (conv => lhs; whnf); all_goals rfl) rfl, trivial⟩ ⟨blkR (fun _ => ⟨rfl, rfl⟩) rfl rfl, trivial⟩⟩
      · cases (hb_37).symm.trans h
    · replace hL1 := cond_t hb_38 hL1
      conv => whnf
      refine ⟨by kernel_rfl, ?_⟩
      conv => whnf
      obtain ⟨e_4, h_e_4, hL1⟩ := bind_some hL1
      refine ix_q (enc := iA) (l := x_0) h_e_4 rfl (fun m_e_4 hm_e_4 hx_e_4 => ?_)
      conv => whnf
      obtain ⟨l_5, h_l_5, hL1⟩ := bind_some hL1
      refine ap_q (enc := iA) (l := a_1) (y := ([e_4] : List Int)) h_l_5 rfl rfl (by decide) ?_
      conv => whnf
      refine ⟨_, rfl, ?_⟩
      conv => whnf
      exact ⟨(q_28, l_5, (w64 (i_2 + (1 : Int))), i_3), [2], [], [], hL1, Nat.lt_succ_self _, wk_mk [2] [] [] rfl ⟨argE (by (conv => lhs; whnf); all_goals rfl) rfl, argE (by (conv => lhs; whnf); all_goals rfl) rfl, argO (id := 2) (by (conv => lhs; whnf); all_goals rfl) rfl, argE (by (conv => lhs; whnf); all_goals rfl) rfl, argE (by (conv => lhs; whnf); all_goals rfl) rfl, trivial⟩ ⟨blkR (fun _ => ⟨rfl, rfl⟩) rfl rfl, trivial⟩⟩

set_option maxRecDepth 100000 in
set_option maxHeartbeats 40000000 in
theorem ref25_join_ac (x_0 : Manifest) (x_1 : Manifest) (r : Manifest × Bool) (hF : ref25_join x_0 x_1 = some r) : AC Try.prog 46 [.agg (encManifest x_0), .agg (encManifest x_1)] [] (.tup [.agg (encManifest r.1), .bool r.2]) [] := by
  refine ac_of tab_ok follows_ok Try.func46 rfl Try.ntmps46 rfl ?_
  unfold ref25_join at hF
  conv => whnf
  refine ⟨fun hb_4 => ?_, fun hb_4 => ?_⟩
  · replace hF := cond_t hb_4 hF
    conv => whnf
    obtain ⟨l_1, h_l_1, hF⟩ := bind_some hF
    refine ap_q (enc := iA) (l := ([] : List Int)) (y := x_1.Boarded) h_l_1 rfl rfl (by decide) ?_
    conv => whnf
    obtain ⟨r_2, h_r_2, hF⟩ := bind_some hF
    refine ⟨_, _, _, _, _, _, _, _, _, callX false [] [] 0 Try.func68 (by decide) rfl (ref25_Union_ac x_0.Ever x_1.Ever r_2 h_r_2) rfl ⟨(argE (by (conv => lhs; whnf); all_goals rfl) rfl), (argE (by (conv => lhs; whnf); all_goals rfl) rfl), trivial⟩ rfl trivial rfl rfl rfl lend0 trivial rfl, ?_⟩
    conv => whnf
    refine ⟨fun hb_5 => ?_, fun hb_5 => ?_⟩
    · replace hF := cond_f hb_5 hF
      conv => whnf
      obtain ⟨r_3, h_r_3, hF⟩ := bind_some hF
      refine ⟨_, _, _, _, _, _, _, _, _, callX false [] [] 0 Try.func45 (by decide) rfl (ref25_Same_ac x_0.Boarded x_1.Boarded r_3 h_r_3) rfl ⟨(argE (by (conv => lhs; whnf); all_goals rfl) rfl), (argE (by (conv => lhs; whnf); all_goals rfl) rfl), trivial⟩ rfl trivial rfl rfl rfl lend0 trivial rfl, ?_⟩
      conv => whnf
      refine ⟨by kernel_rfl, ?_⟩
      conv => whnf
      obtain rfl := Option.some.inj hF
      exact ret_gz [] [] [5] rfl (tupL rfl ⟨(argA (c := [.str x_1.Flight.Carrier, .int .i64 x_1.Flight.Number, .str x_1.Flight.Suffix, .int .i64 x_1.Flight.Day, .int .i64 x_1.Version, .osl 5, .lst 1 (r_2.map iA)]) (by (conv => lhs; whnf); all_goals rfl) rfl ⟨(.ni _ rfl), (.ni _ rfl), (.ni _ rfl), (.ni _ rfl), (.ni _ rfl), (.osl 5 1 _ (by simp) rfl (map_ni (fun _ => ⟨rfl, rfl⟩) _)), (.ni _ rfl), trivial⟩), (argE (by (conv => lhs; whnf); all_goals rfl) rfl), trivial⟩) trivial
    · replace hF := cond_t hb_5 hF
      conv => whnf
      refine ⟨by kernel_rfl, ?_⟩
      conv => whnf
      obtain rfl := Option.some.inj hF
      exact ret_gz [] [] [5] rfl (tupL rfl ⟨(argA (c := [.str x_1.Flight.Carrier, .int .i64 x_1.Flight.Number, .str x_1.Flight.Suffix, .int .i64 x_1.Flight.Day, .int .i64 x_1.Version, .osl 5, .lst 1 (r_2.map iA)]) (by (conv => lhs; whnf); all_goals rfl) rfl ⟨(.ni _ rfl), (.ni _ rfl), (.ni _ rfl), (.ni _ rfl), (.ni _ rfl), (.osl 5 1 _ (by simp) rfl (map_ni (fun _ => ⟨rfl, rfl⟩) _)), (.ni _ rfl), trivial⟩), (argT (by (conv => lhs; whnf); all_goals rfl)), trivial⟩) trivial
  · replace hF := cond_f hb_4 hF
    conv => whnf
    obtain ⟨l_4, h_l_4, hF⟩ := bind_some hF
    refine ap_q (enc := iA) (l := ([] : List Int)) (y := x_0.Boarded) h_l_4 rfl rfl (by decide) ?_
    conv => whnf
    obtain ⟨r_5, h_r_5, hF⟩ := bind_some hF
    refine ⟨_, _, _, _, _, _, _, _, _, callX false [] [] 0 Try.func68 (by decide) rfl (ref25_Union_ac x_0.Ever x_1.Ever r_5 h_r_5) rfl ⟨(argE (by (conv => lhs; whnf); all_goals rfl) rfl), (argE (by (conv => lhs; whnf); all_goals rfl) rfl), trivial⟩ rfl trivial rfl rfl rfl lend0 trivial rfl, ?_⟩
    conv => whnf
    refine ⟨fun hb_6 => ?_, fun hb_6 => ?_⟩
    · replace hF := cond_f hb_6 hF
      conv => whnf
      obtain ⟨r_6, h_r_6, hF⟩ := bind_some hF
      refine ⟨_, _, _, _, _, _, _, _, _, callX false [] [] 0 Try.func45 (by decide) rfl (ref25_Same_ac x_0.Boarded x_1.Boarded r_6 h_r_6) rfl ⟨(argE (by (conv => lhs; whnf); all_goals rfl) rfl), (argE (by (conv => lhs; whnf); all_goals rfl) rfl), trivial⟩ rfl trivial rfl rfl rfl lend0 trivial rfl, ?_⟩
      conv => whnf
      refine ⟨by kernel_rfl, ?_⟩
      conv => whnf
      obtain rfl := Option.some.inj hF
      exact ret_gz [] [] [5] rfl (tupL rfl ⟨(argA (c := [.str x_0.Flight.Carrier, .int .i64 x_0.Flight.Number, .str x_0.Flight.Suffix, .int .i64 x_0.Flight.Day, .int .i64 x_0.Version, .osl 5, .lst 1 (r_5.map iA)]) (by (conv => lhs; whnf); all_goals rfl) rfl ⟨(.ni _ rfl), (.ni _ rfl), (.ni _ rfl), (.ni _ rfl), (.ni _ rfl), (.osl 5 1 _ (by simp) rfl (map_ni (fun _ => ⟨rfl, rfl⟩) _)), (.ni _ rfl), trivial⟩), (argE (by (conv => lhs; whnf); all_goals rfl) rfl), trivial⟩) trivial
    · replace hF := cond_t hb_6 hF
      conv => whnf
      refine ⟨by kernel_rfl, ?_⟩
      conv => whnf
      obtain rfl := Option.some.inj hF
      exact ret_gz [] [] [5] rfl (tupL rfl ⟨(argA (c := [.str x_0.Flight.Carrier, .int .i64 x_0.Flight.Number, .str x_0.Flight.Suffix, .int .i64 x_0.Flight.Day, .int .i64 x_0.Version, .osl 5, .lst 1 (r_5.map iA)]) (by (conv => lhs; whnf); all_goals rfl) rfl ⟨(.ni _ rfl), (.ni _ rfl), (.ni _ rfl), (.ni _ rfl), (.ni _ rfl), (.osl 5 1 _ (by simp) rfl (map_ni (fun _ => ⟨rfl, rfl⟩) _)), (.ni _ rfl), trivial⟩), (argT (by (conv => lhs; whnf); all_goals rfl)), trivial⟩) trivial

set_option maxRecDepth 100000 in
set_option maxHeartbeats 40000000 in
theorem ref25_Join_ac (x_0 : (List Manifest)) (x_1 : (List Manifest)) (r : (List Manifest) × Int) (hF : ref25_Join x_0 x_1 = some r) : AC Try.prog 31 [.lst 7 (x_0.map encManifest), .lst 7 (x_1.map encManifest)] [] (.tup [.lst 7 (r.1.map encManifest), .int .i64 r.2]) [] := by
  refine ac_of tab_ok follows_ok Try.func31 rfl Try.ntmps31 rfl ?_
  unfold ref25_Join at hF
  conv => whnf
  obtain ⟨r_1, h_r_1, hF⟩ := bind_some hF
  refine ⟨_, _, _, _, _, _, _, _, _, callX false [] [] 0 Try.func15 (by decide) rfl (ref25_Validate_ac x_0 r_1 h_r_1) rfl ⟨(argE (by (conv => lhs; whnf); all_goals rfl) rfl), trivial⟩ rfl trivial rfl rfl rfl lend0 trivial rfl, ?_⟩
  conv => whnf
  refine ⟨fun hb_40 => ?_, fun hb_40 => ?_⟩
  · replace hF := cond_t hb_40 hF
    conv => whnf
    obtain rfl := Option.some.inj hF
    exact ret_gz [] [] [] rfl (tupL rfl ⟨(argN (by (conv => lhs; whnf); all_goals rfl)), (argE (by (conv => lhs; whnf); all_goals rfl) rfl), trivial⟩) trivial
  · replace hF := cond_f hb_40 hF
    conv => whnf
    obtain ⟨r_2, h_r_2, hF⟩ := bind_some hF
    refine ⟨_, _, _, _, _, _, _, _, _, callX false [] [] 0 Try.func15 (by decide) rfl (ref25_Validate_ac x_1 r_2 h_r_2) rfl ⟨(argE (by (conv => lhs; whnf); all_goals rfl) rfl), trivial⟩ rfl trivial rfl rfl rfl lend0 trivial rfl, ?_⟩
    conv => whnf
    refine ⟨fun hb_41 => ?_, fun hb_41 => ?_⟩
    · replace hF := cond_t hb_41 hF
      conv => whnf
      obtain rfl := Option.some.inj hF
      exact ret_gz [] [] [] rfl (tupL rfl ⟨(argN (by (conv => lhs; whnf); all_goals rfl)), (argE (by (conv => lhs; whnf); all_goals rfl) rfl), trivial⟩) trivial
    · replace hF := cond_f hb_41 hF
      conv => whnf
      obtain ⟨c_1, hc_1, hF⟩ := fin_some hF
      refine sw_bv 0 (v := .lst 7 (x_0.map encManifest)) (by (conv => lhs; whnf); all_goals rfl) (fun hb => ?_)
      have hbd_k_5 : x_0.length ≤ 9223372036854775807 := bnd_len (enc := encManifest) (hb)
      refine sw_loop tab_ok follows_ok (fun y : Nat × (List Manifest) => y.1 ≤ x_0.length ∧ ref25_Join_L1 x_1 (x_0.drop y.1) y.1 y.2 = some c_1) (fun y => ⟨eL [(0, .lst 7 (x_0.map encManifest)), (1, .lst 7 (x_1.map encManifest)), (8, .osl 0), (9, .int .i64 (y.1 : Int))], hL [(0, .row 7 (y.2.map encManifest))], 1⟩) (fun y => x_0.length - y.1) (0, ([] : List Manifest)) ⟨Nat.zero_le _, hc_1⟩ (wk_mk [] [0] [] rfl ⟨argE (by (conv => lhs; whnf); all_goals rfl) rfl, argE (by (conv => lhs; whnf); all_goals rfl) rfl, argZ (by (conv => lhs; whnf); all_goals rfl) rfl, argE (by (conv => lhs; whnf); all_goals rfl) rfl, trivial⟩ ⟨blkZ rfl, trivial⟩) ?_
      rintro ⟨k_5, a_3⟩ ⟨hk_k_5, hL1⟩
      try dsimp only at hk_k_5 hL1
      show awp _ _ _ _ _ _ ⟨eL [(0, .lst 7 (x_0.map encManifest)), (1, .lst 7 (x_1.map encManifest)), (8, .osl 0), (9, .int .i64 (k_5 : Int))], hL [(0, .row 7 (a_3.map encManifest))], 1⟩
      conv => whnf
      refine len_q (enc := encManifest) (l := x_0) rfl ?_
      conv => whnf
      refine ⟨fun h => ?_, fun h => ?_⟩
      · have hlt_k_5 : k_5 < x_0.length := by have h := of_decide_eq_true h; omega
        obtain ⟨e_6, h_e_6⟩ : ∃ y, x_0[k_5]? = some y := ⟨_, List.getElem?_eq_getElem hlt_k_5⟩
        rw [drop_cons h_e_6, ref25_Join_L1.eq_2] at hL1
        conv => whnf
        refine ⟨k_5, _, rfl, ix_map h_e_6, ?_⟩
        conv => whnf
        obtain ⟨r_7, h_r_7, hL1⟩ := bind_some hL1
        refine ⟨_, _, _, _, _, _, _, _, _, callX false [] [] 0 Try.func40 (by decide) rfl (ref25_find_ac x_1 e_6.Flight r_7 h_r_7) rfl ⟨(argE (by (conv => lhs; whnf); all_goals rfl) rfl), (argE (by (conv => lhs; whnf); all_goals rfl) rfl), trivial⟩ rfl trivial rfl rfl rfl lend0 trivial rfl, ?_⟩
        conv => whnf
        refine ⟨fun hb_42 => ?_, fun hb_42 => ?_⟩
        · replace hL1 := cond_t hb_42 hL1
          conv => whnf
          obtain ⟨e_8, h_e_8, hL1⟩ := bind_some hL1
          refine ix_q (enc := encManifest) (l := x_1) h_e_8 rfl (fun m_e_8 hm_e_8 hx_e_8 => ?_)
          conv => whnf
          obtain ⟨r_9, h_r_9, hL1⟩ := bind_some hL1
          refine ⟨_, _, _, _, _, _, _, _, _, callX false [] [] 0 Try.func46 (by decide) rfl (ref25_join_ac e_6 e_8 r_9 h_r_9) rfl ⟨(argE (by (conv => lhs; whnf); all_goals rfl) rfl), (argE (by (conv => lhs; whnf); all_goals rfl) rfl), trivial⟩ rfl trivial rfl rfl rfl lend0 trivial rfl, ?_⟩
          conv => whnf
          refine ⟨by kernel_rfl, ?_⟩
          conv => whnf
          refine ⟨fun hb_43 => ?_, fun hb_43 => ?_⟩
          · replace hL1 := cond_t hb_43 hL1
            conv => whnf
            obtain rfl := Option.some.inj hL1
            replace hF := fin_ret hF
            obtain rfl := Option.some.inj hF
            exact ret_gz [] [] [] rfl (tupL rfl ⟨(argN (by (conv => lhs; whnf); all_goals rfl)), (argE (by (conv => lhs; whnf); all_goals rfl) rfl), trivial⟩) trivial
          · replace hL1 := cond_f hb_43 hL1
            conv => whnf
            obtain ⟨r_10, h_r_10, hL1⟩ := bind_some hL1
            refine ⟨_, _, _, _, _, _, _, _, _, callX false [] [] 0 Try.func33 (by decide) rfl (ref25_Copy_ac r_9.1 r_10 h_r_10) rfl ⟨(argE (by (conv => lhs; whnf); all_goals rfl) rfl), trivial⟩ rfl trivial rfl rfl rfl lend0 trivial rfl, ?_⟩
            conv => whnf
            obtain ⟨l_11, h_l_11, hL1⟩ := bind_some hL1
            refine ap_q (enc := encManifest) (l := a_3) (y := ([r_10] : List Manifest)) h_l_11 rfl rfl (by decide) ?_
            conv => whnf
            refine ⟨((k_5 + 1 : Nat) : Int), wrapE (by omega) (by omega) (by omega), ?_⟩
            conv => whnf
            exact ⟨(k_5 + 1, l_11), [7], [], [], ⟨hlt_k_5, hL1⟩, by show x_0.length - (k_5 + 1) < x_0.length - k_5; omega, wk_mk [7] [] [] rfl ⟨argE (by (conv => lhs; whnf); all_goals rfl) rfl, argE (by (conv => lhs; whnf); all_goals rfl) rfl, argO (id := 7) (by (conv => lhs; whnf); all_goals rfl) rfl, argE (by (conv => lhs; whnf); all_goals rfl) rfl, trivial⟩ ⟨blkR (fun _ => ⟨rfl, rfl⟩) rfl rfl, trivial⟩⟩
        · replace hL1 := cond_f hb_42 hL1
          conv => whnf
          obtain ⟨r_12, h_r_12, hL1⟩ := bind_some hL1
          refine ⟨_, _, _, _, _, _, _, _, _, callX false [] [] 0 Try.func33 (by decide) rfl (ref25_Copy_ac e_6 r_12 h_r_12) rfl ⟨(argE (by (conv => lhs; whnf); all_goals rfl) rfl), trivial⟩ rfl trivial rfl rfl rfl lend0 trivial rfl, ?_⟩
          conv => whnf
          obtain ⟨l_13, h_l_13, hL1⟩ := bind_some hL1
          refine ap_q (enc := encManifest) (l := a_3) (y := ([r_12] : List Manifest)) h_l_13 rfl rfl (by decide) ?_
          conv => whnf
          refine ⟨((k_5 + 1 : Nat) : Int), wrapE (by omega) (by omega) (by omega), ?_⟩
          conv => whnf
          exact ⟨(k_5 + 1, l_13), [5], [], [], ⟨hlt_k_5, hL1⟩, by show x_0.length - (k_5 + 1) < x_0.length - k_5; omega, wk_mk [5] [] [] rfl ⟨argE (by (conv => lhs; whnf); all_goals rfl) rfl, argE (by (conv => lhs; whnf); all_goals rfl) rfl, argO (id := 5) (by (conv => lhs; whnf); all_goals rfl) rfl, argE (by (conv => lhs; whnf); all_goals rfl) rfl, trivial⟩ ⟨blkR (fun _ => ⟨rfl, rfl⟩) rfl rfl, trivial⟩⟩
      · rw [drop_nil (show x_0.length ≤ k_5 by have h := of_decide_eq_false h; omega), ref25_Join_L1.eq_1] at hL1
        conv => whnf
        obtain rfl := Option.some.inj hL1
        replace hF := fin_brk hF
        try dsimp only at hF
        obtain ⟨c_2, hc_2, hF⟩ := fin_some hF
        refine sw_bv 1 (v := .lst 7 (x_1.map encManifest)) (by (conv => lhs; whnf); all_goals rfl) (fun hb => ?_)
        have hbd_k_18 : x_1.length ≤ 9223372036854775807 := bnd_len (enc := encManifest) (hb)
        refine sw_loop tab_ok follows_ok (fun y : Nat × (List Manifest) => y.1 ≤ x_1.length ∧ ref25_Join_L2 x_0 (x_1.drop y.1) y.1 y.2 = some c_2) (fun y => ⟨eL [(0, .lst 7 (x_0.map encManifest)), (1, .lst 7 (x_1.map encManifest)), (8, .osl 0), (14, .int .i64 (y.1 : Int))], hL [(0, .row 7 (y.2.map encManifest))], 1⟩) (fun y => x_1.length - y.1) (0, a_3) ⟨Nat.zero_le _, hc_2⟩ (wk_mk [0] [] [] rfl ⟨argE (by (conv => lhs; whnf); all_goals rfl) rfl, argE (by (conv => lhs; whnf); all_goals rfl) rfl, argO (id := 0) (by (conv => lhs; whnf); all_goals rfl) rfl, argE (by (conv => lhs; whnf); all_goals rfl) rfl, trivial⟩ ⟨blkR (fun _ => ⟨rfl, rfl⟩) rfl rfl, trivial⟩) ?_
        rintro ⟨k_18, a_16⟩ ⟨hk_k_18, hL1⟩
        try dsimp only at hk_k_18 hL1
        show awp _ _ _ _ _ _ ⟨eL [(0, .lst 7 (x_0.map encManifest)), (1, .lst 7 (x_1.map encManifest)), (8, .osl 0), (14, .int .i64 (k_18 : Int))], hL [(0, .row 7 (a_16.map encManifest))], 1⟩
        conv => whnf
        refine len_q (enc := encManifest) (l := x_1) rfl ?_
        conv => whnf
        refine ⟨fun h => ?_, fun h => ?_⟩
        · have hlt_k_18 : k_18 < x_1.length := by have h := of_decide_eq_true h; omega
          obtain ⟨e_19, h_e_19⟩ : ∃ y, x_1[k_18]? = some y := ⟨_, List.getElem?_eq_getElem hlt_k_18⟩
          rw [drop_cons h_e_19, ref25_Join_L2.eq_2] at hL1
          conv => whnf
          refine ⟨k_18, _, rfl, ix_map h_e_19, ?_⟩
          conv => whnf
          obtain ⟨r_20, h_r_20, hL1⟩ := bind_some hL1
          refine ⟨_, _, _, _, _, _, _, _, _, callX false [] [] 0 Try.func40 (by decide) rfl (ref25_find_ac x_0 e_19.Flight r_20 h_r_20) rfl ⟨(argE (by (conv => lhs; whnf); all_goals rfl) rfl), (argE (by (conv => lhs; whnf); all_goals rfl) rfl), trivial⟩ rfl trivial rfl rfl rfl lend0 trivial rfl, ?_⟩
          conv => whnf
          refine ⟨fun hb_44 => ?_, fun hb_44 => ?_⟩
          · replace hL1 := cond_t hb_44 hL1
            conv => whnf
            refine ⟨((k_18 + 1 : Nat) : Int), wrapE (by omega) (by omega) (by omega), ?_⟩
            conv => whnf
            exact ⟨(k_18 + 1, a_16), [0], [], [], ⟨hlt_k_18, hL1⟩, by show x_1.length - (k_18 + 1) < x_1.length - k_18; omega, wk_mk [0] [] [] rfl ⟨argE (by (conv => lhs; whnf); all_goals rfl) rfl, argE (by (conv => lhs; whnf); all_goals rfl) rfl, argO (id := 0) (by (conv => lhs; whnf); all_goals rfl) rfl, argE (by (conv => lhs; whnf); all_goals rfl) rfl, trivial⟩ ⟨blkR (fun _ => ⟨rfl, rfl⟩) rfl rfl, trivial⟩⟩
          · replace hL1 := cond_f hb_44 hL1
            conv => whnf
            obtain ⟨c_3, hc_3, hL1⟩ := sub_some hL1
            refine sw_br 0 (sz := 7) (xs := a_16.map encManifest) (by (conv => lhs; whnf); all_goals rfl) (fun hb => ?_)
            have hbd_k_22 : a_16.length ≤ 9223372036854775807 := bnd_len (enc := encManifest) (hb)
            refine sw_loop tab_ok follows_ok (fun y : Nat => y ≤ a_16.length ∧ ref25_Join_L3 e_19 (a_16.drop y) y = some c_3) (fun y => ⟨eL [(0, .lst 7 (x_0.map encManifest)), (1, .lst 7 (x_1.map encManifest)), (8, .osl 0), (14, .int .i64 (k_18 : Int)), (15, .int .i64 (y : Int))], hL [(0, .row 7 (a_16.map encManifest))], 1⟩) (fun y => a_16.length - y) 0 ⟨Nat.zero_le _, hc_3⟩ (wk_mk [0] [] [] rfl ⟨argE (by (conv => lhs; whnf); all_goals rfl) rfl, argE (by (conv => lhs; whnf); all_goals rfl) rfl, argO (id := 0) (by (conv => lhs; whnf); all_goals rfl) rfl, argE (by (conv => lhs; whnf); all_goals rfl) rfl, argE (by (conv => lhs; whnf); all_goals rfl) rfl, trivial⟩ ⟨blkR (fun _ => ⟨rfl, rfl⟩) rfl rfl, trivial⟩) ?_
            rintro k_22 ⟨hk_k_22, hL2⟩
            try dsimp only at hk_k_22 hL2
            show awp _ _ _ _ _ _ ⟨eL [(0, .lst 7 (x_0.map encManifest)), (1, .lst 7 (x_1.map encManifest)), (8, .osl 0), (14, .int .i64 (k_18 : Int)), (15, .int .i64 (k_22 : Int))], hL [(0, .row 7 (a_16.map encManifest))], 1⟩
            conv => whnf
            refine len_q (enc := encManifest) (l := a_16) rfl ?_
            conv => whnf
            refine ⟨fun h => ?_, fun h => ?_⟩
            · have hlt_k_22 : k_22 < a_16.length := by have h := of_decide_eq_true h; omega
              obtain ⟨e_23, h_e_23⟩ : ∃ y, a_16[k_22]? = some y := ⟨_, List.getElem?_eq_getElem hlt_k_22⟩
              rw [drop_cons h_e_23, ref25_Join_L3.eq_2] at hL2
              conv => whnf
              refine ⟨k_22, rfl, by rw [List.length_map]; exact hlt_k_22, ?_⟩
              conv => whnf
              refine ⟨_, ix_map (enc := encManifest) h_e_23, ?_⟩
              conv => whnf
              refine ⟨k_18, _, rfl, ix_map h_e_19, ?_⟩
              conv => whnf
              obtain ⟨r_24, h_r_24, hL2⟩ := bind_some hL2
              refine ⟨_, _, _, _, _, _, _, _, _, callX false [] [] 0 Try.func37 (by decide) rfl (ref02_Compare_ac e_23.Flight e_19.Flight r_24 h_r_24) rfl ⟨(argE (by (conv => lhs; whnf); all_goals rfl) rfl), (argE (by (conv => lhs; whnf); all_goals rfl) rfl), trivial⟩ rfl trivial rfl rfl rfl lend0 trivial rfl, ?_⟩
              conv => whnf
              refine ⟨by kernel_rfl, ?_⟩
              conv => whnf
              refine ⟨fun hb_45 => ?_, fun hb_45 => ?_⟩
              · replace hL2 := cond_t hb_45 hL2
                conv => whnf
                refine ⟨((k_22 + 1 : Nat) : Int), wrapE (by omega) (by omega) (by omega), ?_⟩
                conv => whnf
                exact ⟨k_22 + 1, [0], [], [], ⟨hlt_k_22, hL2⟩, by show a_16.length - (k_22 + 1) < a_16.length - k_22; omega, wk_mk [0] [] [] rfl ⟨argE (by (conv => lhs; whnf); all_goals rfl) rfl, argE (by (conv => lhs; whnf); all_goals rfl) rfl, argO (id := 0) (by (conv => lhs; whnf); all_goals rfl) rfl, argE (by (conv => lhs; whnf); all_goals rfl) rfl, argE (by (conv => lhs; whnf); all_goals rfl) rfl, trivial⟩ ⟨blkR (fun _ => ⟨rfl, rfl⟩) rfl rfl, trivial⟩⟩
              · replace hL2 := cond_f hb_45 hL2
                conv => whnf
                obtain rfl := Option.some.inj hL2
                replace hL1 := sub_brk hL1
                try dsimp only at hL1
                refine ⟨k_18, _, rfl, ix_map h_e_19, ?_⟩
                conv => whnf
                obtain ⟨r_27, h_r_27, hL1⟩ := bind_some hL1
                refine ⟨_, _, _, _, _, _, _, _, _, callX false [] [] 0 Try.func33 (by decide) rfl (ref25_Copy_ac e_19 r_27 h_r_27) rfl ⟨(argE (by (conv => lhs; whnf); all_goals rfl) rfl), trivial⟩ rfl trivial rfl rfl rfl lend0 trivial rfl, ?_⟩
                conv => whnf
                obtain ⟨l_28, h_l_28, hL1⟩ := bind_some hL1
                refine sub_q10 (enc := encManifest) (l := a_16) h_l_28 rfl (fun n_l_28 f_l_28 => ?_)
                conv => whnf
                obtain ⟨l_29, h_l_29, hL1⟩ := bind_some hL1
                refine ⟨sub_lo f_l_28, sub_le f_l_28, (fun m e => by cases e), ?_⟩
                conv => whnf
                refine ap_q (enc := encManifest) (l := ([r_27] : List Manifest)) (y := l_28) h_l_29 rfl (sub_part f_l_28) (by decide) ?_
                conv => whnf
                refine ⟨by kernel_rfl, ?_⟩
                conv => whnf
                obtain ⟨l_30, h_l_30, hL1⟩ := bind_some hL1
                refine sub_q01m (enc := encManifest) (l := a_16) h_l_30 rfl (fun m_l_30 f_l_30 => ?_)
                conv => whnf
                obtain ⟨l_31, h_l_31, hL1⟩ := bind_some hL1
                refine ⟨rfl, rfl, sub_le f_l_30, ?_⟩
                conv => whnf
                refine ap_q (enc := encManifest) (l := l_30) (y := l_29) h_l_31 (sub_take f_l_30) rfl (by decide) ?_
                conv => whnf
                refine ⟨((k_18 + 1 : Nat) : Int), wrapE (by omega) (by omega) (by omega), ?_⟩
                conv => whnf
                exact ⟨(k_18 + 1, l_31), [5], [], [], ⟨hlt_k_18, hL1⟩, by show x_1.length - (k_18 + 1) < x_1.length - k_18; omega, wk_mk [5] [] [] rfl ⟨argE (by (conv => lhs; whnf); all_goals rfl) rfl, argE (by (conv => lhs; whnf); all_goals rfl) rfl, argO (id := 5) (by (conv => lhs; whnf); all_goals rfl) rfl, argE (by (conv => lhs; whnf); all_goals rfl) rfl, trivial⟩ ⟨blkR (fun _ => ⟨rfl, rfl⟩) rfl rfl, trivial⟩⟩
            · rw [drop_nil (show a_16.length ≤ k_22 by have h := of_decide_eq_false h; omega), ref25_Join_L3.eq_1] at hL2
              conv => whnf
              refine ⟨by kernel_rfl, ?_⟩
              conv => whnf
              obtain rfl := Option.some.inj hL2
              replace hL1 := sub_brk hL1
              try dsimp only at hL1
              refine ⟨k_18, _, rfl, ix_map h_e_19, ?_⟩
              conv => whnf
              obtain ⟨r_27, h_r_27, hL1⟩ := bind_some hL1
              refine ⟨_, _, _, _, _, _, _, _, _, callX false [] [] 0 Try.func33 (by decide) rfl (ref25_Copy_ac e_19 r_27 h_r_27) rfl ⟨(argE (by (conv => lhs; whnf); all_goals rfl) rfl), trivial⟩ rfl trivial rfl rfl rfl lend0 trivial rfl, ?_⟩
              conv => whnf
              obtain ⟨l_28, h_l_28, hL1⟩ := bind_some hL1
              refine sub_q10 (enc := encManifest) (l := a_16) h_l_28 rfl (fun n_l_28 f_l_28 => ?_)
              conv => whnf
              obtain ⟨l_29, h_l_29, hL1⟩ := bind_some hL1
              refine ⟨sub_lo f_l_28, sub_le f_l_28, (fun m e => by cases e), ?_⟩
              conv => whnf
              refine ap_q (enc := encManifest) (l := ([r_27] : List Manifest)) (y := l_28) h_l_29 rfl (sub_part f_l_28) (by decide) ?_
              conv => whnf
              refine ⟨by kernel_rfl, ?_⟩
              conv => whnf
              obtain ⟨l_30, h_l_30, hL1⟩ := bind_some hL1
              refine sub_q01m (enc := encManifest) (l := a_16) h_l_30 rfl (fun m_l_30 f_l_30 => ?_)
              conv => whnf
              obtain ⟨l_31, h_l_31, hL1⟩ := bind_some hL1
              refine ⟨rfl, rfl, sub_le f_l_30, ?_⟩
              conv => whnf
              refine ap_q (enc := encManifest) (l := l_30) (y := l_29) h_l_31 (sub_take f_l_30) rfl (by decide) ?_
              conv => whnf
              refine ⟨((k_18 + 1 : Nat) : Int), wrapE (by omega) (by omega) (by omega), ?_⟩
              conv => whnf
              exact ⟨(k_18 + 1, l_31), [4], [], [], ⟨hlt_k_18, hL1⟩, by show x_1.length - (k_18 + 1) < x_1.length - k_18; omega, wk_mk [4] [] [] rfl ⟨argE (by (conv => lhs; whnf); all_goals rfl) rfl, argE (by (conv => lhs; whnf); all_goals rfl) rfl, argO (id := 4) (by (conv => lhs; whnf); all_goals rfl) rfl, argE (by (conv => lhs; whnf); all_goals rfl) rfl, trivial⟩ ⟨blkR (fun _ => ⟨rfl, rfl⟩) rfl rfl, trivial⟩⟩
        · rw [drop_nil (show x_1.length ≤ k_18 by have h := of_decide_eq_false h; omega), ref25_Join_L2.eq_1] at hL1
          conv => whnf
          obtain rfl := Option.some.inj hL1
          replace hF := fin_brk hF
          try dsimp only at hF
          refine len_q (enc := encManifest) (l := a_16) rfl ?_
          conv => whnf
          refine ⟨fun hb_46 => ?_, fun hb_46 => ?_⟩
          · replace hF := cond_t hb_46 hF
            conv => whnf
            obtain rfl := Option.some.inj hF
            exact ret_gz [] [] [] rfl (tupL rfl ⟨(argN (by (conv => lhs; whnf); all_goals rfl)), (argE (by (conv => lhs; whnf); all_goals rfl) rfl), trivial⟩) trivial
          · replace hF := cond_f hb_46 hF
            conv => whnf
            obtain rfl := Option.some.inj hF
            exact ret_gz [] [] [0] rfl (tupL rfl ⟨(argOL 0 (by (conv => lhs; whnf); all_goals rfl) rfl rfl (map_ni (fun _ => ⟨rfl, rfl⟩) _)), (argE (by (conv => lhs; whnf); all_goals rfl) rfl), trivial⟩) trivial

set_option maxRecDepth 100000 in
set_option maxHeartbeats 40000000 in
theorem ref25_Apply_ac (x_0 : (List Manifest)) (x_1 : Message) (r : (List Manifest) × Int) (hF : ref25_Apply x_0 x_1 = some r) : AC Try.prog 26 [.lst 7 (x_0.map encManifest), .agg (encMessage x_1)] [] (.tup [.lst 7 (r.1.map encManifest), .int .i64 r.2]) [] := by
  refine ac_of tab_ok follows_ok Try.func26 rfl Try.ntmps26 rfl ?_
  unfold ref25_Apply at hF
  conv => whnf
  obtain ⟨r_1, h_r_1, hF⟩ := bind_some hF
  refine ⟨_, _, _, _, _, _, _, _, _, callX false [] [] 0 Try.func15 (by decide) rfl (ref25_Validate_ac x_0 r_1 h_r_1) rfl ⟨(argE (by (conv => lhs; whnf); all_goals rfl) rfl), trivial⟩ rfl trivial rfl rfl rfl lend0 trivial rfl, ?_⟩
  conv => whnf
  refine ⟨fun hb_4 => ?_, fun hb_4 => ?_⟩
  · replace hF := cond_t hb_4 hF
    conv => whnf
    obtain rfl := Option.some.inj hF
    exact ret_gz [] [] [] rfl (tupL rfl ⟨(argN (by (conv => lhs; whnf); all_goals rfl)), (argE (by (conv => lhs; whnf); all_goals rfl) rfl), trivial⟩) trivial
  · replace hF := cond_f hb_4 hF
    conv => whnf
    obtain ⟨r_2, h_r_2, hF⟩ := bind_some hF
    refine ⟨_, _, _, _, _, _, _, _, _, callX false [] [] 0 Try.func44 (by decide) rfl (ref04_Validate_ac x_1 r_2 h_r_2) rfl ⟨(argE (by (conv => lhs; whnf); all_goals rfl) rfl), trivial⟩ rfl trivial rfl rfl rfl lend0 trivial rfl, ?_⟩
    conv => whnf
    refine ⟨fun hb_5 => ?_, fun hb_5 => ?_⟩
    · replace hF := cond_t hb_5 hF
      conv => whnf
      obtain rfl := Option.some.inj hF
      exact ret_gz [] [] [] rfl (tupL rfl ⟨(argN (by (conv => lhs; whnf); all_goals rfl)), (argE (by (conv => lhs; whnf); all_goals rfl) rfl), trivial⟩) trivial
    · replace hF := cond_f hb_5 hF
      conv => whnf
      refine ⟨fun hb_6 => ?_, fun hb_6 => ?_⟩
      · replace hF := cond_t hb_6 hF
        conv => whnf
        obtain rfl := Option.some.inj hF
        exact ret_gz [] [] [] rfl (tupL rfl ⟨(argN (by (conv => lhs; whnf); all_goals rfl)), (argE (by (conv => lhs; whnf); all_goals rfl) rfl), trivial⟩) trivial
      · replace hF := cond_f hb_6 hF
        conv => whnf
        obtain ⟨r_3, h_r_3, hF⟩ := bind_some hF
        refine ⟨_, _, _, _, _, _, _, _, _, callX false [] [] 0 Try.func32 (by decide) rfl (ref25_One_ac x_1 r_3 h_r_3) rfl ⟨(argE (by (conv => lhs; whnf); all_goals rfl) rfl), trivial⟩ rfl trivial rfl rfl rfl lend0 trivial rfl, ?_⟩
        conv => whnf
        obtain ⟨r_4, h_r_4, hF⟩ := bind_some hF
        refine ⟨_, _, _, _, _, _, _, _, _, callX false [] [] 0 Try.func31 (by decide) rfl (ref25_Join_ac x_0 r_3 r_4 h_r_4) rfl ⟨(argE (by (conv => lhs; whnf); all_goals rfl) rfl), (argE (by (conv => lhs; whnf); all_goals rfl) rfl), trivial⟩ rfl trivial rfl rfl rfl lend0 trivial rfl, ?_⟩
        conv => whnf
        obtain rfl := Option.some.inj hF
        exact ret_gz [] [] [] rfl (tupL rfl ⟨(argE (by (conv => lhs; whnf); all_goals rfl) rfl), (argE (by (conv => lhs; whnf); all_goals rfl) rfl), trivial⟩) trivial
end Go.Proofs.Ytajmhegkkbnkcaa.Ex
