/- The functions of the program compute what was printed; walks printed by a program. -/
import Derived.Test.YtkliakcegihikaaExF
import Derived.Test.YtkliakcegihikaaExP1
import Derived.Test.YtkliakcegihikaaExP2
import Derived.Test.YtkliakcegihikaaExP3
import Derived.Test.YtkliakcegihikaaExP4
namespace Go.Proofs.Ytkliakcegihikaa.Ex
open Go.RowKit Go.Proofs.Ytkliakcegihikaa.Ax
set_option linter.unusedVariables false
set_option linter.unusedSimpArgs false
set_option maxRecDepth 100000 in
set_option maxHeartbeats 40000000 in
theorem law06_RegistryApplies_ac (x_0 : (List Int)) (x_1 : Registry) (x_2 : Message) (r : Bool) (hF : law06_RegistryApplies x_0 x_1 x_2 = some r) : AC Try.prog 3 [.lst 1 (x_0.map iA), .agg (encRegistry x_1), .agg (encMessage x_2)] [] (.bool r) [] := by
  refine ac_of tab_ok follows_ok Try.func3 rfl Try.ntmps3 rfl ?_
  unfold law06_RegistryApplies at hF
  conv => whnf
  obtain ⟨r_1, h_r_1, hF⟩ := bind_some hF
  refine ⟨_, _, _, _, _, _, _, _, callX false [] [] Try.func9 (by decide) rfl (law06_light_ac x_1 r_1 h_r_1) rfl ⟨(argE (by (conv => lhs; whnf); all_goals rfl) rfl), trivial⟩ rfl trivial rfl rfl rfl lend0 trivial, ?_⟩
  conv => whnf
  refine ⟨fun hb_67 => ?_, fun hb_67 => ?_⟩
  · replace hF := cond_f hb_67 hF
    conv => whnf
    refine len_q (enc := encLeg) (l := x_2.Onward) rfl ?_
    conv => whnf
    refine ⟨fun hb_68 => ?_, fun hb_68 => ?_⟩
    · replace hF := cond_f hb_68 hF
      conv => whnf
      refine len_q (enc := iA) (l := x_2.List) rfl ?_
      conv => whnf
      refine ⟨fun hb_69 => ?_, fun hb_69 => ?_⟩
      · replace hF := cond_t hb_69 hF
        conv => whnf
        obtain ⟨r_4, h_r_4, hF⟩ := bind_some hF
        refine ⟨_, _, _, _, _, _, _, _, callX false [] [] Try.func10 (by decide) rfl (law06_awake_ac r_4 h_r_4) rfl trivial rfl trivial rfl rfl rfl lend0 trivial, ?_⟩
        conv => whnf
        obtain rfl := Option.some.inj hF
        exact ret_gz [] [] [] rfl (argE (by (conv => lhs; whnf); all_goals rfl) rfl) trivial
      · replace hF := cond_f hb_69 hF
        conv => whnf
        obtain ⟨r_5, h_r_5, hF⟩ := bind_some hF
        refine ⟨_, _, _, _, _, _, _, _, callX false [] [] Try.func11 (by decide) rfl (keep_New_ac x_0 r_5 h_r_5) rfl ⟨(argE (by (conv => lhs; whnf); all_goals rfl) rfl), trivial⟩ rfl trivial rfl rfl rfl lend0 ⟨rfl, trivial⟩, ?_⟩
        conv => whnf
        obtain ⟨c_1, hc_1, hF⟩ := fin_some hF
        refine sw_loop tab_ok follows_ok (fun y : Nat × (List Int) × Int × (List Bag) × Int => law06_RegistryApplies_L1 y.1 y.2.1 y.2.2.1 y.2.2.2.1 y.2.2.2.2 = some c_1) (fun y => ⟨eL [(4, .ptr 0 0), (5, .ptr 1 0), (7, .ptr 2 0), (8, .ptr 3 0), (9, .int .i64 y.2.2.2.2)], hL [(0, .box [.lst 25 (x_1.L.map encBag)]), (1, .box [.int .i64 x_2.Kind, .int .i64 x_2.Do, .str x_2.Port, .int .i64 x_2.Number, .str x_2.In.Flight.Carrier, .int .i64 x_2.In.Flight.Number, .str x_2.In.Flight.Suffix, .int .i64 x_2.In.Flight.Day, .str x_2.In.Port, .str x_2.In.Class, .str x_2.Out.Flight.Carrier, .int .i64 x_2.Out.Flight.Number, .str x_2.Out.Flight.Suffix, .int .i64 x_2.Out.Flight.Day, .str x_2.Out.Port, .str x_2.Out.Class, .lst 6 (x_2.Onward.map encLeg), .int .i64 x_2.First.Lead, .int .i64 x_2.First.Airline, .int .i64 x_2.First.Serial, .int .i64 x_2.Count, .bool x_2.Load, .int .i64 x_2.Status, .int .i64 x_2.Sequence, .int .i64 x_2.Weight, .str x_2.Surname, .str x_2.Given, .int .i64 x_2.Exception, .str x_2.Node, .lst 1 (x_2.List.map iA)]), (2, .box [.lst 1 (y.2.1.map iA), .int .i64 y.2.2.1]), (3, .box [.lst 25 (y.2.2.2.1.map encBag)])], 4⟩) (fun y => y.1) (9223372036854775807, r_5.L, r_5.At, ([] : List Bag), (0 : Int)) hc_1 (wk_mk [0, 1, 3, 5] [] [] rfl ⟨argP (id := 0) (by (conv => lhs; whnf); all_goals rfl) rfl, argP (id := 1) (by (conv => lhs; whnf); all_goals rfl) rfl, argP (id := 3) (by (conv => lhs; whnf); all_goals rfl) rfl, argP (id := 5) (by (conv => lhs; whnf); all_goals rfl) rfl, argE (by (conv => lhs; whnf); all_goals rfl) rfl, trivial⟩ ⟨boxL rfl rfl rfl ⟨(.ni _ rfl), trivial⟩, boxL rfl rfl rfl ⟨(.ni _ rfl), (.ni _ rfl), (.ni _ rfl), (.ni _ rfl), (.ni _ rfl), (.ni _ rfl), (.ni _ rfl), (.ni _ rfl), (.ni _ rfl), (.ni _ rfl), (.ni _ rfl), (.ni _ rfl), (.ni _ rfl), (.ni _ rfl), (.ni _ rfl), (.ni _ rfl), (.ni _ rfl), (.ni _ rfl), (.ni _ rfl), (.ni _ rfl), (.ni _ rfl), (.ni _ rfl), (.ni _ rfl), (.ni _ rfl), (.ni _ rfl), (.ni _ rfl), (.ni _ rfl), (.ni _ rfl), (.ni _ rfl), (.ni _ rfl), trivial⟩, boxL rfl rfl rfl ⟨(.ni _ rfl), (.ni _ rfl), trivial⟩, boxL rfl rfl rfl ⟨(.nils _), trivial⟩, trivial⟩) ?_
        rintro ⟨q_21, a_6, i_7, a_8, i_9⟩ hL1
        try dsimp only at hL1
        rcases q_21 with _ | q_21
        · rw [law06_RegistryApplies_L1.eq_1] at hL1
          cases hL1
        rw [law06_RegistryApplies_L1.eq_2] at hL1
        show awp _ _ _ _ _ _ ⟨eL [(4, .ptr 0 0), (5, .ptr 1 0), (7, .ptr 2 0), (8, .ptr 3 0), (9, .int .i64 i_9)], hL [(0, .box [.lst 25 (x_1.L.map encBag)]), (1, .box [.int .i64 x_2.Kind, .int .i64 x_2.Do, .str x_2.Port, .int .i64 x_2.Number, .str x_2.In.Flight.Carrier, .int .i64 x_2.In.Flight.Number, .str x_2.In.Flight.Suffix, .int .i64 x_2.In.Flight.Day, .str x_2.In.Port, .str x_2.In.Class, .str x_2.Out.Flight.Carrier, .int .i64 x_2.Out.Flight.Number, .str x_2.Out.Flight.Suffix, .int .i64 x_2.Out.Flight.Day, .str x_2.Out.Port, .str x_2.Out.Class, .lst 6 (x_2.Onward.map encLeg), .int .i64 x_2.First.Lead, .int .i64 x_2.First.Airline, .int .i64 x_2.First.Serial, .int .i64 x_2.Count, .bool x_2.Load, .int .i64 x_2.Status, .int .i64 x_2.Sequence, .int .i64 x_2.Weight, .str x_2.Surname, .str x_2.Given, .int .i64 x_2.Exception, .str x_2.Node, .lst 1 (x_2.List.map iA)]), (2, .box [.lst 1 (a_6.map iA), .int .i64 i_7]), (3, .box [.lst 25 (a_8.map encBag)])], 4⟩
        conv => whnf
        refine ⟨fun hb_70 => ?_, fun hb_70 => ?_⟩
        · replace hL1 := cond_t hb_70 hL1
          conv => whnf
          refine ⟨fun hb_71 => ?_, fun hb_71 => ?_⟩
          · replace hL1 := cond_f hb_71 hL1
            conv => whnf
            obtain ⟨r_15, h_r_15, hL1⟩ := bind_some hL1
            refine ⟨_, _, _, _, _, _, _, _, callX false [] [2] Try.func12 (by decide) rfl (keep_Src_More_ac (⟨a_6, i_7⟩ : Src) r_15 h_r_15) rfl ⟨(argIb 2 _ (by (conv => lhs; whnf); all_goals rfl) rfl rfl rfl rfl), trivial⟩ rfl trivial rfl rfl rfl (lendF rfl) trivial, ?_⟩
            conv => whnf
            refine ⟨fun hb_76 => ?_, fun hb_76 => ?_⟩
            · replace hL1 := cond_t hb_76 hL1
              conv => whnf
              obtain ⟨r_16, h_r_16, hL1⟩ := bind_some hL1
              refine ⟨_, _, _, _, _, _, _, _, callX false [2] [] Try.func13 (by decide) rfl (keep_Src_Message_ac (⟨a_6, i_7⟩ : Src) (0 : Int) r_16 h_r_16) rfl ⟨(argP (id := 2) (by (conv => lhs; whnf); all_goals rfl) rfl), (argE (by (conv => lhs; whnf); all_goals rfl) rfl), trivial⟩ rfl ⟨rfl, trivial⟩ rfl rfl rfl lend0 ⟨rfl, trivial⟩, ?_⟩
              conv => whnf
              obtain ⟨r_17, h_r_17, hL1⟩ := bind_some hL1
              refine ⟨_, _, _, _, _, _, _, _, callX false [] [] Try.func14 (by decide) rfl (registry_Apply_ac (⟨a_8⟩ : Registry) r_16.1 r_17 h_r_17) rfl ⟨(argE (by (conv => lhs; whnf); all_goals rfl) rfl), (argE (by (conv => lhs; whnf); all_goals rfl) rfl), trivial⟩ rfl trivial rfl rfl rfl lend0 trivial, ?_⟩
              conv => whnf
              obtain ⟨r_18, h_r_18, hL1⟩ := bind_some hL1
              refine ⟨_, _, _, _, _, _, _, _, callX false [] [] Try.func15 (by decide) rfl (ref06_Apply_ac (⟨a_8⟩ : Registry) r_16.1 r_18 h_r_18) rfl ⟨(argE (by (conv => lhs; whnf); all_goals rfl) rfl), (argE (by (conv => lhs; whnf); all_goals rfl) rfl), trivial⟩ rfl trivial rfl rfl rfl lend0 trivial, ?_⟩
              conv => whnf
              refine ⟨fun hb_77 => ?_, fun hb_77 => ?_⟩
              · replace hL1 := cond_f hb_77 hL1
                conv => whnf
                obtain ⟨r_19, h_r_19, hL1⟩ := bind_some hL1
                refine ⟨_, _, _, _, _, _, _, _, callX false [] [] Try.func16 (by decide) rfl (ref06_Same_ac r_17.1 r_18.1 r_19 h_r_19) rfl ⟨(argE (by (conv => lhs; whnf); all_goals rfl) rfl), (argE (by (conv => lhs; whnf); all_goals rfl) rfl), trivial⟩ rfl trivial rfl rfl rfl lend0 trivial, ?_⟩
                conv => whnf
                refine ⟨fun hb_78 => ?_, fun hb_78 => ?_⟩
                · replace hL1 := cond_f hb_78 hL1
                  conv => whnf
                  obtain ⟨r_20, h_r_20, hL1⟩ := bind_some hL1
                  refine ⟨_, _, _, _, _, _, _, _, callX false [] [] Try.func17 (by decide) rfl (registry_Validate_ac (⟨a_8⟩ : Registry) r_20 h_r_20) rfl ⟨(argE (by (conv => lhs; whnf); all_goals rfl) rfl), trivial⟩ rfl trivial rfl rfl rfl lend0 trivial, ?_⟩
                  conv => whnf
                  refine ⟨fun hb_79 => ?_, fun hb_79 => ?_⟩
                  · replace hL1 := cond_t hb_79 hL1
                    conv => whnf
                    obtain rfl := Option.some.inj hL1
                    replace hF := fin_ret hF
                    obtain rfl := Option.some.inj hF
                    exact ret_gz [] [] [] rfl (argFl (by (conv => lhs; whnf); all_goals rfl)) trivial
                  · replace hL1 := cond_f hb_79 hL1
                    conv => whnf
                    refine ⟨fun hb_80 => ?_, fun hb_80 => ?_⟩
                    · replace hL1 := cond_t hb_80 hL1
                      conv => whnf
                      refine ⟨_, rfl, ?_⟩
                      conv => whnf
                      exact ⟨(q_21, r_16.2.L, r_16.2.At, r_17.1.L, (w64 (i_9 + (1 : Int)))), [0, 1, 2, 3], [], [], hL1, Nat.lt_succ_self _, wk_mk [0, 1, 2, 3] [] [] rfl ⟨argP (id := 0) (by (conv => lhs; whnf); all_goals rfl) rfl, argP (id := 1) (by (conv => lhs; whnf); all_goals rfl) rfl, argP (id := 2) (by (conv => lhs; whnf); all_goals rfl) rfl, argP (id := 3) (by (conv => lhs; whnf); all_goals rfl) rfl, argE (by (conv => lhs; whnf); all_goals rfl) rfl, trivial⟩ ⟨boxL rfl rfl rfl ⟨(.ni _ rfl), trivial⟩, boxL rfl rfl rfl ⟨(.ni _ rfl), (.ni _ rfl), (.ni _ rfl), (.ni _ rfl), (.ni _ rfl), (.ni _ rfl), (.ni _ rfl), (.ni _ rfl), (.ni _ rfl), (.ni _ rfl), (.ni _ rfl), (.ni _ rfl), (.ni _ rfl), (.ni _ rfl), (.ni _ rfl), (.ni _ rfl), (.ni _ rfl), (.ni _ rfl), (.ni _ rfl), (.ni _ rfl), (.ni _ rfl), (.ni _ rfl), (.ni _ rfl), (.ni _ rfl), (.ni _ rfl), (.ni _ rfl), (.ni _ rfl), (.ni _ rfl), (.ni _ rfl), (.ni _ rfl), trivial⟩, boxL rfl rfl rfl ⟨(.ni _ rfl), (.ni _ rfl), trivial⟩, boxL rfl rfl rfl ⟨(.ni _ rfl), trivial⟩, trivial⟩⟩
                    · replace hL1 := cond_f hb_80 hL1
                      conv => whnf
                      refine ⟨_, rfl, ?_⟩
                      conv => whnf
                      exact ⟨(q_21, r_16.2.L, r_16.2.At, a_8, (w64 (i_9 + (1 : Int)))), [0, 1, 2, 3], [], [], hL1, Nat.lt_succ_self _, wk_mk [0, 1, 2, 3] [] [] rfl ⟨argP (id := 0) (by (conv => lhs; whnf); all_goals rfl) rfl, argP (id := 1) (by (conv => lhs; whnf); all_goals rfl) rfl, argP (id := 2) (by (conv => lhs; whnf); all_goals rfl) rfl, argP (id := 3) (by (conv => lhs; whnf); all_goals rfl) rfl, argE (by (conv => lhs; whnf); all_goals rfl) rfl, trivial⟩ ⟨boxL rfl rfl rfl ⟨(.ni _ rfl), trivial⟩, boxL rfl rfl rfl ⟨(.ni _ rfl), (.ni _ rfl), (.ni _ rfl), (.ni _ rfl), (.ni _ rfl), (.ni _ rfl), (.ni _ rfl), (.ni _ rfl), (.ni _ rfl), (.ni _ rfl), (.ni _ rfl), (.ni _ rfl), (.ni _ rfl), (.ni _ rfl), (.ni _ rfl), (.ni _ rfl), (.ni _ rfl), (.ni _ rfl), (.ni _ rfl), (.ni _ rfl), (.ni _ rfl), (.ni _ rfl), (.ni _ rfl), (.ni _ rfl), (.ni _ rfl), (.ni _ rfl), (.ni _ rfl), (.ni _ rfl), (.ni _ rfl), (.ni _ rfl), trivial⟩, boxL rfl rfl rfl ⟨(.ni _ rfl), (.ni _ rfl), trivial⟩, boxL rfl rfl rfl ⟨(.ni _ rfl), trivial⟩, trivial⟩⟩
                · replace hL1 := cond_t hb_78 hL1
                  conv => whnf
                  obtain rfl := Option.some.inj hL1
                  replace hF := fin_ret hF
                  obtain rfl := Option.some.inj hF
                  exact ret_gz [] [] [] rfl (argFl (by (conv => lhs; whnf); all_goals rfl)) trivial
              · replace hL1 := cond_t hb_77 hL1
                conv => whnf
                obtain rfl := Option.some.inj hL1
                replace hF := fin_ret hF
                obtain rfl := Option.some.inj hF
                exact ret_gz [] [] [] rfl (argFl (by (conv => lhs; whnf); all_goals rfl)) trivial
            · replace hL1 := cond_f hb_76 hL1
              conv => whnf
              obtain rfl := Option.some.inj hL1
              replace hF := fin_brk hF
              try dsimp only at hF
              obtain ⟨r_23, h_r_23, hF⟩ := bind_some hF
              refine ⟨_, _, _, _, _, _, _, _, callX false [2] [] Try.func13 (by decide) rfl (keep_Src_Message_ac (⟨a_6, i_7⟩ : Src) (0 : Int) r_23 h_r_23) rfl ⟨(argP (id := 2) (by (conv => lhs; whnf); all_goals rfl) rfl), (argE (by (conv => lhs; whnf); all_goals rfl) rfl), trivial⟩ rfl ⟨rfl, trivial⟩ rfl rfl rfl lend0 ⟨rfl, trivial⟩, ?_⟩
              conv => whnf
              refine len_q (enc := encMessage) (l := ([x_2, r_23.1] : List Message)) rfl ?_
              conv => whnf
              refine ⟨by kernel_rfl, ?_⟩
              conv => whnf
              obtain ⟨c_2, hc_2, hF⟩ := fin_some hF
              refine sw_br 6 (sz := 30) (xs := ([x_2, r_23.1] : List Message).map encMessage) (by (conv => lhs; whnf); all_goals rfl) (fun hb => ?_)
              have hbd_k_25 : ([x_2, r_23.1] : List Message).length ≤ 9223372036854775807 := bnd_len (enc := encMessage) (hb)
              refine sw_loop tab_ok follows_ok (fun y : Nat => y ≤ ([x_2, r_23.1] : List Message).length ∧ law06_RegistryApplies_L2 x_1 (a_6, i_7, a_8) (([x_2, r_23.1] : List Message).drop y) y = some c_2) (fun y => ⟨eL [(4, .ptr 0 0), (8, .ptr 1 0), (89, .osl 2), (90, .int .i64 (([x_2, r_23.1] : List Message).length : Int)), (91, .int .i64 (y : Int))], hL [(0, .box [.lst 25 (x_1.L.map encBag)]), (1, .box [.lst 25 (a_8.map encBag)]), (2, .row 30 (([x_2, r_23.1] : List Message).map encMessage))], 3⟩) (fun y => ([x_2, r_23.1] : List Message).length - y) 0 ⟨Nat.zero_le _, hc_2⟩ (wk_mk [0, 3, 6] [] [] rfl ⟨argP (id := 0) (by (conv => lhs; whnf); all_goals rfl) rfl, argP (id := 3) (by (conv => lhs; whnf); all_goals rfl) rfl, argO (id := 6) (by (conv => lhs; whnf); all_goals rfl) rfl, argE (by (conv => lhs; whnf); all_goals rfl) rfl, argE (by (conv => lhs; whnf); all_goals rfl) rfl, trivial⟩ ⟨boxL rfl rfl rfl ⟨(.ni _ rfl), trivial⟩, boxL rfl rfl rfl ⟨(.ni _ rfl), trivial⟩, blkR (fun _ => ⟨rfl, rfl⟩) rfl rfl, trivial⟩) ?_
              rintro k_25 ⟨hk_k_25, hL1⟩
              try dsimp only at hk_k_25 hL1
              show awp _ _ _ _ _ _ ⟨eL [(4, .ptr 0 0), (8, .ptr 1 0), (89, .osl 2), (90, .int .i64 (([x_2, r_23.1] : List Message).length : Int)), (91, .int .i64 (k_25 : Int))], hL [(0, .box [.lst 25 (x_1.L.map encBag)]), (1, .box [.lst 25 (a_8.map encBag)]), (2, .row 30 (([x_2, r_23.1] : List Message).map encMessage))], 3⟩
              conv => whnf
              refine ⟨fun h => ?_, fun h => ?_⟩
              · have hlt_k_25 : k_25 < ([x_2, r_23.1] : List Message).length := by have h := of_decide_eq_true h; omega
                obtain ⟨e_26, h_e_26⟩ : ∃ y, ([x_2, r_23.1] : List Message)[k_25]? = some y := ⟨_, List.getElem?_eq_getElem hlt_k_25⟩
                rw [drop_cons h_e_26, law06_RegistryApplies_L2.eq_2] at hL1
                conv => whnf
                refine ⟨k_25, rfl, by rw [List.length_map]; exact hlt_k_25, ?_⟩
                conv => whnf
                refine ⟨_, ix_map h_e_26, ?_⟩
                conv => whnf
                obtain ⟨r_27, h_r_27, hL1⟩ := bind_some hL1
                refine ⟨_, _, _, _, _, _, _, _, callX false [] [] Try.func14 (by decide) rfl (registry_Apply_ac x_1 e_26 r_27 h_r_27) rfl ⟨(argE (by (conv => lhs; whnf); all_goals rfl) rfl), (argE (by (conv => lhs; whnf); all_goals rfl) rfl), trivial⟩ rfl trivial rfl rfl rfl lend0 trivial, ?_⟩
                conv => whnf
                obtain ⟨r_28, h_r_28, hL1⟩ := bind_some hL1
                refine ⟨_, _, _, _, _, _, _, _, callX false [] [] Try.func15 (by decide) rfl (ref06_Apply_ac x_1 e_26 r_28 h_r_28) rfl ⟨(argE (by (conv => lhs; whnf); all_goals rfl) rfl), (argE (by (conv => lhs; whnf); all_goals rfl) rfl), trivial⟩ rfl trivial rfl rfl rfl lend0 trivial, ?_⟩
                conv => whnf
                obtain ⟨r_29, h_r_29, hL1⟩ := bind_some hL1
                refine ⟨_, _, _, _, _, _, _, _, callX false [] [] Try.func14 (by decide) rfl (registry_Apply_ac (⟨a_8⟩ : Registry) e_26 r_29 h_r_29) rfl ⟨(argE (by (conv => lhs; whnf); all_goals rfl) rfl), (argE (by (conv => lhs; whnf); all_goals rfl) rfl), trivial⟩ rfl trivial rfl rfl rfl lend0 trivial, ?_⟩
                conv => whnf
                obtain ⟨r_30, h_r_30, hL1⟩ := bind_some hL1
                refine ⟨_, _, _, _, _, _, _, _, callX false [] [] Try.func15 (by decide) rfl (ref06_Apply_ac (⟨a_8⟩ : Registry) e_26 r_30 h_r_30) rfl ⟨(argE (by (conv => lhs; whnf); all_goals rfl) rfl), (argE (by (conv => lhs; whnf); all_goals rfl) rfl), trivial⟩ rfl trivial rfl rfl rfl lend0 trivial, ?_⟩
                conv => whnf
                refine ⟨fun hb_81 => ?_, fun hb_81 => ?_⟩
                · replace hL1 := cond_f hb_81 hL1
                  conv => whnf
                  refine ⟨fun hb_82 => ?_, fun hb_82 => ?_⟩
                  · replace hL1 := cond_f hb_82 hL1
                    conv => whnf
                    obtain ⟨r_31, h_r_31, hL1⟩ := bind_some hL1
                    refine ⟨_, _, _, _, _, _, _, _, callX false [] [] Try.func16 (by decide) rfl (ref06_Same_ac r_27.1 r_28.1 r_31 h_r_31) rfl ⟨(argE (by (conv => lhs; whnf); all_goals rfl) rfl), (argE (by (conv => lhs; whnf); all_goals rfl) rfl), trivial⟩ rfl trivial rfl rfl rfl lend0 trivial, ?_⟩
                    conv => whnf
                    refine ⟨fun hb_83 => ?_, fun hb_83 => ?_⟩
                    · replace hL1 := cond_f hb_83 hL1
                      conv => whnf
                      obtain ⟨r_32, h_r_32, hL1⟩ := bind_some hL1
                      refine ⟨_, _, _, _, _, _, _, _, callX false [] [] Try.func16 (by decide) rfl (ref06_Same_ac r_29.1 r_30.1 r_32 h_r_32) rfl ⟨(argE (by (conv => lhs; whnf); all_goals rfl) rfl), (argE (by (conv => lhs; whnf); all_goals rfl) rfl), trivial⟩ rfl trivial rfl rfl rfl lend0 trivial, ?_⟩
                      conv => whnf
                      refine ⟨fun hb_84 => ?_, fun hb_84 => ?_⟩
                      · replace hL1 := cond_t hb_84 hL1
                        conv => whnf
                        obtain rfl := Option.some.inj hL1
                        replace hF := fin_ret hF
                        obtain rfl := Option.some.inj hF
                        exact ret_gz [] [] [] rfl (argFl (by (conv => lhs; whnf); all_goals rfl)) trivial
                      · replace hL1 := cond_f hb_84 hL1
                        conv => whnf
                        refine ⟨((k_25 + 1 : Nat) : Int), wrapE (by omega) (by omega) (by omega), ?_⟩
                        conv => whnf
                        exact ⟨k_25 + 1, [0, 1, 2], [], [], ⟨hlt_k_25, hL1⟩, by show ([x_2, r_23.1] : List Message).length - (k_25 + 1) < ([x_2, r_23.1] : List Message).length - k_25; omega, wk_mk [0, 1, 2] [] [] rfl ⟨argP (id := 0) (by (conv => lhs; whnf); all_goals rfl) rfl, argP (id := 1) (by (conv => lhs; whnf); all_goals rfl) rfl, argO (id := 2) (by (conv => lhs; whnf); all_goals rfl) rfl, argE (by (conv => lhs; whnf); all_goals rfl) rfl, argE (by (conv => lhs; whnf); all_goals rfl) rfl, trivial⟩ ⟨boxL rfl rfl rfl ⟨(.ni _ rfl), trivial⟩, boxL rfl rfl rfl ⟨(.ni _ rfl), trivial⟩, blkR (fun _ => ⟨rfl, rfl⟩) rfl rfl, trivial⟩⟩
                    · replace hL1 := cond_t hb_83 hL1
                      conv => whnf
                      obtain rfl := Option.some.inj hL1
                      replace hF := fin_ret hF
                      obtain rfl := Option.some.inj hF
                      exact ret_gz [] [] [] rfl (argFl (by (conv => lhs; whnf); all_goals rfl)) trivial
                  · replace hL1 := cond_t hb_82 hL1
                    conv => whnf
                    obtain rfl := Option.some.inj hL1
                    replace hF := fin_ret hF
                    obtain rfl := Option.some.inj hF
                    exact ret_gz [] [] [] rfl (argFl (by (conv => lhs; whnf); all_goals rfl)) trivial
                · replace hL1 := cond_t hb_81 hL1
                  conv => whnf
                  obtain rfl := Option.some.inj hL1
                  replace hF := fin_ret hF
                  obtain rfl := Option.some.inj hF
                  exact ret_gz [] [] [] rfl (argFl (by (conv => lhs; whnf); all_goals rfl)) trivial
              · rw [drop_nil (show ([x_2, r_23.1] : List Message).length ≤ k_25 by have h := of_decide_eq_false h; omega), law06_RegistryApplies_L2.eq_1] at hL1
                conv => whnf
                obtain rfl := Option.some.inj hL1
                replace hF := fin_brk hF
                try dsimp only at hF
                obtain ⟨r_35, h_r_35, hF⟩ := bind_some hF
                refine ⟨_, _, _, _, _, _, _, _, callX false [] [] Try.func17 (by decide) rfl (registry_Validate_ac x_1 r_35 h_r_35) rfl ⟨(argE (by (conv => lhs; whnf); all_goals rfl) rfl), trivial⟩ rfl trivial rfl rfl rfl lend0 trivial, ?_⟩
                conv => whnf
                obtain ⟨r_36, h_r_36, hF⟩ := bind_some hF
                refine ⟨_, _, _, _, _, _, _, _, callX false [] [] Try.func18 (by decide) rfl (ref06_Validate_ac x_1 r_36 h_r_36) rfl ⟨(argE (by (conv => lhs; whnf); all_goals rfl) rfl), trivial⟩ rfl trivial rfl rfl rfl lend0 trivial, ?_⟩
                conv => whnf
                refine ⟨fun hb_85 => ?_, fun hb_85 => ?_⟩
                · replace hF := cond_t hb_85 hF
                  conv => whnf
                  obtain ⟨r_37, h_r_37, hF⟩ := bind_some hF
                  refine ⟨_, _, _, _, _, _, _, _, callX false [] [] Try.func10 (by decide) rfl (law06_awake_ac r_37 h_r_37) rfl trivial rfl trivial rfl rfl rfl lend0 trivial, ?_⟩
                  conv => whnf
                  refine ⟨by kernel_rfl, ?_⟩
                  conv => whnf
                  obtain rfl := Option.some.inj hF
                  exact ret_gz [] [] [] rfl (argE (by (conv => lhs; whnf); all_goals rfl) rfl) trivial
                · replace hF := cond_f hb_85 hF
                  conv => whnf
                  refine ⟨by kernel_rfl, ?_⟩
                  conv => whnf
                  obtain rfl := Option.some.inj hF
                  exact ret_gz [] [] [] rfl (argFl (by (conv => lhs; whnf); all_goals rfl)) trivial
          · replace hL1 := cond_t hb_71 hL1
            conv => whnf
            obtain ⟨r_10, h_r_10, hL1⟩ := bind_some hL1
            refine ⟨_, _, _, _, _, _, _, _, callX false [2] [] Try.func13 (by decide) rfl (keep_Src_Message_ac (⟨a_6, i_7⟩ : Src) (0 : Int) r_10 h_r_10) rfl ⟨(argP (id := 2) (by (conv => lhs; whnf); all_goals rfl) rfl), (argE (by (conv => lhs; whnf); all_goals rfl) rfl), trivial⟩ rfl ⟨rfl, trivial⟩ rfl rfl rfl lend0 ⟨rfl, trivial⟩, ?_⟩
            conv => whnf
            obtain ⟨r_11, h_r_11, hL1⟩ := bind_some hL1
            refine ⟨_, _, _, _, _, _, _, _, callX false [] [] Try.func14 (by decide) rfl (registry_Apply_ac (⟨a_8⟩ : Registry) r_10.1 r_11 h_r_11) rfl ⟨(argE (by (conv => lhs; whnf); all_goals rfl) rfl), (argE (by (conv => lhs; whnf); all_goals rfl) rfl), trivial⟩ rfl trivial rfl rfl rfl lend0 trivial, ?_⟩
            conv => whnf
            obtain ⟨r_12, h_r_12, hL1⟩ := bind_some hL1
            refine ⟨_, _, _, _, _, _, _, _, callX false [] [] Try.func15 (by decide) rfl (ref06_Apply_ac (⟨a_8⟩ : Registry) r_10.1 r_12 h_r_12) rfl ⟨(argE (by (conv => lhs; whnf); all_goals rfl) rfl), (argE (by (conv => lhs; whnf); all_goals rfl) rfl), trivial⟩ rfl trivial rfl rfl rfl lend0 trivial, ?_⟩
            conv => whnf
            refine ⟨fun hb_72 => ?_, fun hb_72 => ?_⟩
            · replace hL1 := cond_f hb_72 hL1
              conv => whnf
              obtain ⟨r_13, h_r_13, hL1⟩ := bind_some hL1
              refine ⟨_, _, _, _, _, _, _, _, callX false [] [] Try.func16 (by decide) rfl (ref06_Same_ac r_11.1 r_12.1 r_13 h_r_13) rfl ⟨(argE (by (conv => lhs; whnf); all_goals rfl) rfl), (argE (by (conv => lhs; whnf); all_goals rfl) rfl), trivial⟩ rfl trivial rfl rfl rfl lend0 trivial, ?_⟩
              conv => whnf
              refine ⟨fun hb_73 => ?_, fun hb_73 => ?_⟩
              · replace hL1 := cond_f hb_73 hL1
                conv => whnf
                obtain ⟨r_14, h_r_14, hL1⟩ := bind_some hL1
                refine ⟨_, _, _, _, _, _, _, _, callX false [] [] Try.func17 (by decide) rfl (registry_Validate_ac (⟨a_8⟩ : Registry) r_14 h_r_14) rfl ⟨(argE (by (conv => lhs; whnf); all_goals rfl) rfl), trivial⟩ rfl trivial rfl rfl rfl lend0 trivial, ?_⟩
                conv => whnf
                refine ⟨fun hb_74 => ?_, fun hb_74 => ?_⟩
                · replace hL1 := cond_t hb_74 hL1
                  conv => whnf
                  obtain rfl := Option.some.inj hL1
                  replace hF := fin_ret hF
                  obtain rfl := Option.some.inj hF
                  exact ret_gz [] [] [] rfl (argFl (by (conv => lhs; whnf); all_goals rfl)) trivial
                · replace hL1 := cond_f hb_74 hL1
                  conv => whnf
                  refine ⟨fun hb_75 => ?_, fun hb_75 => ?_⟩
                  · replace hL1 := cond_t hb_75 hL1
                    conv => whnf
                    refine ⟨_, rfl, ?_⟩
                    conv => whnf
                    exact ⟨(q_21, r_10.2.L, r_10.2.At, r_11.1.L, (w64 (i_9 + (1 : Int)))), [0, 1, 2, 3], [], [], hL1, Nat.lt_succ_self _, wk_mk [0, 1, 2, 3] [] [] rfl ⟨argP (id := 0) (by (conv => lhs; whnf); all_goals rfl) rfl, argP (id := 1) (by (conv => lhs; whnf); all_goals rfl) rfl, argP (id := 2) (by (conv => lhs; whnf); all_goals rfl) rfl, argP (id := 3) (by (conv => lhs; whnf); all_goals rfl) rfl, argE (by (conv => lhs; whnf); all_goals rfl) rfl, trivial⟩ ⟨boxL rfl rfl rfl ⟨(.ni _ rfl), trivial⟩, boxL rfl rfl rfl ⟨(.ni _ rfl), (.ni _ rfl), (.ni _ rfl), (.ni _ rfl), (.ni _ rfl), (.ni _ rfl), (.ni _ rfl), (.ni _ rfl), (.ni _ rfl), (.ni _ rfl), (.ni _ rfl), (.ni _ rfl), (.ni _ rfl), (.ni _ rfl), (.ni _ rfl), (.ni _ rfl), (.ni _ rfl), (.ni _ rfl), (.ni _ rfl), (.ni _ rfl), (.ni _ rfl), (.ni _ rfl), (.ni _ rfl), (.ni _ rfl), (.ni _ rfl), (.ni _ rfl), (.ni _ rfl), (.ni _ rfl), (.ni _ rfl), (.ni _ rfl), trivial⟩, boxL rfl rfl rfl ⟨(.ni _ rfl), (.ni _ rfl), trivial⟩, boxL rfl rfl rfl ⟨(.ni _ rfl), trivial⟩, trivial⟩⟩
                  · replace hL1 := cond_f hb_75 hL1
                    conv => whnf
                    refine ⟨_, rfl, ?_⟩
                    conv => whnf
                    exact ⟨(q_21, r_10.2.L, r_10.2.At, a_8, (w64 (i_9 + (1 : Int)))), [0, 1, 2, 3], [], [], hL1, Nat.lt_succ_self _, wk_mk [0, 1, 2, 3] [] [] rfl ⟨argP (id := 0) (by (conv => lhs; whnf); all_goals rfl) rfl, argP (id := 1) (by (conv => lhs; whnf); all_goals rfl) rfl, argP (id := 2) (by (conv => lhs; whnf); all_goals rfl) rfl, argP (id := 3) (by (conv => lhs; whnf); all_goals rfl) rfl, argE (by (conv => lhs; whnf); all_goals rfl) rfl, trivial⟩ ⟨boxL rfl rfl rfl ⟨(.ni _ rfl), trivial⟩, boxL rfl rfl rfl ⟨(.ni _ rfl), (.ni _ rfl), (.ni _ rfl), (.ni _ rfl), (.ni _ rfl), (.ni _ rfl), (.ni _ rfl), (.ni _ rfl), (.ni _ rfl), (.ni _ rfl), (.ni _ rfl), (.ni _ rfl), (.ni _ rfl), (.ni _ rfl), (.ni _ rfl), (.ni _ rfl), (.ni _ rfl), (.ni _ rfl), (.ni _ rfl), (.ni _ rfl), (.ni _ rfl), (.ni _ rfl), (.ni _ rfl), (.ni _ rfl), (.ni _ rfl), (.ni _ rfl), (.ni _ rfl), (.ni _ rfl), (.ni _ rfl), (.ni _ rfl), trivial⟩, boxL rfl rfl rfl ⟨(.ni _ rfl), (.ni _ rfl), trivial⟩, boxL rfl rfl rfl ⟨(.ni _ rfl), trivial⟩, trivial⟩⟩
              · replace hL1 := cond_t hb_73 hL1
                conv => whnf
                obtain rfl := Option.some.inj hL1
                replace hF := fin_ret hF
                obtain rfl := Option.some.inj hF
                exact ret_gz [] [] [] rfl (argFl (by (conv => lhs; whnf); all_goals rfl)) trivial
            · replace hL1 := cond_t hb_72 hL1
              conv => whnf
              obtain rfl := Option.some.inj hL1
              replace hF := fin_ret hF
              obtain rfl := Option.some.inj hF
              exact ret_gz [] [] [] rfl (argFl (by (conv => lhs; whnf); all_goals rfl)) trivial
        · replace hL1 := cond_f hb_70 hL1
          conv => whnf
          obtain rfl := Option.some.inj hL1
          replace hF := fin_brk hF
          try dsimp only at hF
          obtain ⟨r_23, h_r_23, hF⟩ := bind_some hF
          refine ⟨_, _, _, _, _, _, _, _, callX false [2] [] Try.func13 (by decide) rfl (keep_Src_Message_ac (⟨a_6, i_7⟩ : Src) (0 : Int) r_23 h_r_23) rfl ⟨(argP (id := 2) (by (conv => lhs; whnf); all_goals rfl) rfl), (argE (by (conv => lhs; whnf); all_goals rfl) rfl), trivial⟩ rfl ⟨rfl, trivial⟩ rfl rfl rfl lend0 ⟨rfl, trivial⟩, ?_⟩
          conv => whnf
          refine len_q (enc := encMessage) (l := ([x_2, r_23.1] : List Message)) rfl ?_
          conv => whnf
          refine ⟨by kernel_rfl, ?_⟩
          conv => whnf
          obtain ⟨c_2, hc_2, hF⟩ := fin_some hF
          refine sw_br 5 (sz := 30) (xs := ([x_2, r_23.1] : List Message).map encMessage) (by (conv => lhs; whnf); all_goals rfl) (fun hb => ?_)
          have hbd_k_25 : ([x_2, r_23.1] : List Message).length ≤ 9223372036854775807 := bnd_len (enc := encMessage) (hb)
          refine sw_loop tab_ok follows_ok (fun y : Nat => y ≤ ([x_2, r_23.1] : List Message).length ∧ law06_RegistryApplies_L2 x_1 (a_6, i_7, a_8) (([x_2, r_23.1] : List Message).drop y) y = some c_2) (fun y => ⟨eL [(4, .ptr 0 0), (8, .ptr 1 0), (89, .osl 2), (90, .int .i64 (([x_2, r_23.1] : List Message).length : Int)), (91, .int .i64 (y : Int))], hL [(0, .box [.lst 25 (x_1.L.map encBag)]), (1, .box [.lst 25 (a_8.map encBag)]), (2, .row 30 (([x_2, r_23.1] : List Message).map encMessage))], 3⟩) (fun y => ([x_2, r_23.1] : List Message).length - y) 0 ⟨Nat.zero_le _, hc_2⟩ (wk_mk [0, 3, 5] [] [] rfl ⟨argP (id := 0) (by (conv => lhs; whnf); all_goals rfl) rfl, argP (id := 3) (by (conv => lhs; whnf); all_goals rfl) rfl, argO (id := 5) (by (conv => lhs; whnf); all_goals rfl) rfl, argE (by (conv => lhs; whnf); all_goals rfl) rfl, argE (by (conv => lhs; whnf); all_goals rfl) rfl, trivial⟩ ⟨boxL rfl rfl rfl ⟨(.ni _ rfl), trivial⟩, boxL rfl rfl rfl ⟨(.ni _ rfl), trivial⟩, blkR (fun _ => ⟨rfl, rfl⟩) rfl rfl, trivial⟩) ?_
          rintro k_25 ⟨hk_k_25, hL1⟩
          try dsimp only at hk_k_25 hL1
          show awp _ _ _ _ _ _ ⟨eL [(4, .ptr 0 0), (8, .ptr 1 0), (89, .osl 2), (90, .int .i64 (([x_2, r_23.1] : List Message).length : Int)), (91, .int .i64 (k_25 : Int))], hL [(0, .box [.lst 25 (x_1.L.map encBag)]), (1, .box [.lst 25 (a_8.map encBag)]), (2, .row 30 (([x_2, r_23.1] : List Message).map encMessage))], 3⟩
          conv => whnf
          refine ⟨fun h => ?_, fun h => ?_⟩
          · have hlt_k_25 : k_25 < ([x_2, r_23.1] : List Message).length := by have h := of_decide_eq_true h; omega
            obtain ⟨e_26, h_e_26⟩ : ∃ y, ([x_2, r_23.1] : List Message)[k_25]? = some y := ⟨_, List.getElem?_eq_getElem hlt_k_25⟩
            rw [drop_cons h_e_26, law06_RegistryApplies_L2.eq_2] at hL1
            conv => whnf
            refine ⟨k_25, rfl, by rw [List.length_map]; exact hlt_k_25, ?_⟩
            conv => whnf
            refine ⟨_, ix_map h_e_26, ?_⟩
            conv => whnf
            obtain ⟨r_27, h_r_27, hL1⟩ := bind_some hL1
            refine ⟨_, _, _, _, _, _, _, _, callX false [] [] Try.func14 (by decide) rfl (registry_Apply_ac x_1 e_26 r_27 h_r_27) rfl ⟨(argE (by (conv => lhs; whnf); all_goals rfl) rfl), (argE (by (conv => lhs; whnf); all_goals rfl) rfl), trivial⟩ rfl trivial rfl rfl rfl lend0 trivial, ?_⟩
            conv => whnf
            obtain ⟨r_28, h_r_28, hL1⟩ := bind_some hL1
            refine ⟨_, _, _, _, _, _, _, _, callX false [] [] Try.func15 (by decide) rfl (ref06_Apply_ac x_1 e_26 r_28 h_r_28) rfl ⟨(argE (by (conv => lhs; whnf); all_goals rfl) rfl), (argE (by (conv => lhs; whnf); all_goals rfl) rfl), trivial⟩ rfl trivial rfl rfl rfl lend0 trivial, ?_⟩
            conv => whnf
            obtain ⟨r_29, h_r_29, hL1⟩ := bind_some hL1
            refine ⟨_, _, _, _, _, _, _, _, callX false [] [] Try.func14 (by decide) rfl (registry_Apply_ac (⟨a_8⟩ : Registry) e_26 r_29 h_r_29) rfl ⟨(argE (by (conv => lhs; whnf); all_goals rfl) rfl), (argE (by (conv => lhs; whnf); all_goals rfl) rfl), trivial⟩ rfl trivial rfl rfl rfl lend0 trivial, ?_⟩
            conv => whnf
            obtain ⟨r_30, h_r_30, hL1⟩ := bind_some hL1
            refine ⟨_, _, _, _, _, _, _, _, callX false [] [] Try.func15 (by decide) rfl (ref06_Apply_ac (⟨a_8⟩ : Registry) e_26 r_30 h_r_30) rfl ⟨(argE (by (conv => lhs; whnf); all_goals rfl) rfl), (argE (by (conv => lhs; whnf); all_goals rfl) rfl), trivial⟩ rfl trivial rfl rfl rfl lend0 trivial, ?_⟩
            conv => whnf
            refine ⟨fun hb_86 => ?_, fun hb_86 => ?_⟩
            · replace hL1 := cond_f hb_86 hL1
              conv => whnf
              refine ⟨fun hb_87 => ?_, fun hb_87 => ?_⟩
              · replace hL1 := cond_f hb_87 hL1
                conv => whnf
                obtain ⟨r_31, h_r_31, hL1⟩ := bind_some hL1
                refine ⟨_, _, _, _, _, _, _, _, callX false [] [] Try.func16 (by decide) rfl (ref06_Same_ac r_27.1 r_28.1 r_31 h_r_31) rfl ⟨(argE (by (conv => lhs; whnf); all_goals rfl) rfl), (argE (by (conv => lhs; whnf); all_goals rfl) rfl), trivial⟩ rfl trivial rfl rfl rfl lend0 trivial, ?_⟩
                conv => whnf
                refine ⟨fun hb_88 => ?_, fun hb_88 => ?_⟩
                · replace hL1 := cond_f hb_88 hL1
                  conv => whnf
                  obtain ⟨r_32, h_r_32, hL1⟩ := bind_some hL1
                  refine ⟨_, _, _, _, _, _, _, _, callX false [] [] Try.func16 (by decide) rfl (ref06_Same_ac r_29.1 r_30.1 r_32 h_r_32) rfl ⟨(argE (by (conv => lhs; whnf); all_goals rfl) rfl), (argE (by (conv => lhs; whnf); all_goals rfl) rfl), trivial⟩ rfl trivial rfl rfl rfl lend0 trivial, ?_⟩
                  conv => whnf
                  refine ⟨fun hb_89 => ?_, fun hb_89 => ?_⟩
                  · replace hL1 := cond_t hb_89 hL1
                    conv => whnf
                    obtain rfl := Option.some.inj hL1
                    replace hF := fin_ret hF
                    obtain rfl := Option.some.inj hF
                    exact ret_gz [] [] [] rfl (argFl (by (conv => lhs; whnf); all_goals rfl)) trivial
                  · replace hL1 := cond_f hb_89 hL1
                    conv => whnf
                    refine ⟨((k_25 + 1 : Nat) : Int), wrapE (by omega) (by omega) (by omega), ?_⟩
                    conv => whnf
                    exact ⟨k_25 + 1, [0, 1, 2], [], [], ⟨hlt_k_25, hL1⟩, by show ([x_2, r_23.1] : List Message).length - (k_25 + 1) < ([x_2, r_23.1] : List Message).length - k_25; omega, wk_mk [0, 1, 2] [] [] rfl ⟨argP (id := 0) (by (conv => lhs; whnf); all_goals rfl) rfl, argP (id := 1) (by (conv => lhs; whnf); all_goals rfl) rfl, argO (id := 2) (by (conv => lhs; whnf); all_goals rfl) rfl, argE (by (conv => lhs; whnf); all_goals rfl) rfl, argE (by (conv => lhs; whnf); all_goals rfl) rfl, trivial⟩ ⟨boxL rfl rfl rfl ⟨(.ni _ rfl), trivial⟩, boxL rfl rfl rfl ⟨(.ni _ rfl), trivial⟩, blkR (fun _ => ⟨rfl, rfl⟩) rfl rfl, trivial⟩⟩
                · replace hL1 := cond_t hb_88 hL1
                  conv => whnf
                  obtain rfl := Option.some.inj hL1
                  replace hF := fin_ret hF
                  obtain rfl := Option.some.inj hF
                  exact ret_gz [] [] [] rfl (argFl (by (conv => lhs; whnf); all_goals rfl)) trivial
              · replace hL1 := cond_t hb_87 hL1
                conv => whnf
                obtain rfl := Option.some.inj hL1
                replace hF := fin_ret hF
                obtain rfl := Option.some.inj hF
                exact ret_gz [] [] [] rfl (argFl (by (conv => lhs; whnf); all_goals rfl)) trivial
            · replace hL1 := cond_t hb_86 hL1
              conv => whnf
              obtain rfl := Option.some.inj hL1
              replace hF := fin_ret hF
              obtain rfl := Option.some.inj hF
              exact ret_gz [] [] [] rfl (argFl (by (conv => lhs; whnf); all_goals rfl)) trivial
          · rw [drop_nil (show ([x_2, r_23.1] : List Message).length ≤ k_25 by have h := of_decide_eq_false h; omega), law06_RegistryApplies_L2.eq_1] at hL1
            conv => whnf
            obtain rfl := Option.some.inj hL1
            replace hF := fin_brk hF
            try dsimp only at hF
            obtain ⟨r_35, h_r_35, hF⟩ := bind_some hF
            refine ⟨_, _, _, _, _, _, _, _, callX false [] [] Try.func17 (by decide) rfl (registry_Validate_ac x_1 r_35 h_r_35) rfl ⟨(argE (by (conv => lhs; whnf); all_goals rfl) rfl), trivial⟩ rfl trivial rfl rfl rfl lend0 trivial, ?_⟩
            conv => whnf
            obtain ⟨r_36, h_r_36, hF⟩ := bind_some hF
            refine ⟨_, _, _, _, _, _, _, _, callX false [] [] Try.func18 (by decide) rfl (ref06_Validate_ac x_1 r_36 h_r_36) rfl ⟨(argE (by (conv => lhs; whnf); all_goals rfl) rfl), trivial⟩ rfl trivial rfl rfl rfl lend0 trivial, ?_⟩
            conv => whnf
            refine ⟨fun hb_90 => ?_, fun hb_90 => ?_⟩
            · replace hF := cond_t hb_90 hF
              conv => whnf
              obtain ⟨r_37, h_r_37, hF⟩ := bind_some hF
              refine ⟨_, _, _, _, _, _, _, _, callX false [] [] Try.func10 (by decide) rfl (law06_awake_ac r_37 h_r_37) rfl trivial rfl trivial rfl rfl rfl lend0 trivial, ?_⟩
              conv => whnf
              refine ⟨by kernel_rfl, ?_⟩
              conv => whnf
              obtain rfl := Option.some.inj hF
              exact ret_gz [] [] [] rfl (argE (by (conv => lhs; whnf); all_goals rfl) rfl) trivial
            · replace hF := cond_f hb_90 hF
              conv => whnf
              refine ⟨by kernel_rfl, ?_⟩
              conv => whnf
              obtain rfl := Option.some.inj hF
              exact ret_gz [] [] [] rfl (argFl (by (conv => lhs; whnf); all_goals rfl)) trivial
    · replace hF := cond_t hb_68 hF
      conv => whnf
      obtain ⟨r_3, h_r_3, hF⟩ := bind_some hF
      refine ⟨_, _, _, _, _, _, _, _, callX false [] [] Try.func10 (by decide) rfl (law06_awake_ac r_3 h_r_3) rfl trivial rfl trivial rfl rfl rfl lend0 trivial, ?_⟩
      conv => whnf
      obtain rfl := Option.some.inj hF
      exact ret_gz [] [] [] rfl (argE (by (conv => lhs; whnf); all_goals rfl) rfl) trivial
  · replace hF := cond_t hb_67 hF
    conv => whnf
    obtain ⟨r_2, h_r_2, hF⟩ := bind_some hF
    refine ⟨_, _, _, _, _, _, _, _, callX false [] [] Try.func10 (by decide) rfl (law06_awake_ac r_2 h_r_2) rfl trivial rfl trivial rfl rfl rfl lend0 trivial, ?_⟩
    conv => whnf
    obtain rfl := Option.some.inj hF
    exact ret_gz [] [] [] rfl (argE (by (conv => lhs; whnf); all_goals rfl) rfl) trivial
end Go.Proofs.Ytkliakcegihikaa.Ex
