/- The functions of the program compute what was printed; walks printed by a program. -/
import Derived.Test.YtpipggnfbgjefaaExF
import Derived.Test.YtpipggnfbgjefaaExP1
import Derived.Test.YtpipggnfbgjefaaExP2
import Derived.Test.YtpipggnfbgjefaaExP3
import Derived.Test.YtpipggnfbgjefaaExP4
namespace Go.Proofs.Ytpipggnfbgjefaa.Ex
open Go.RowKit Go.Proofs.Ytpipggnfbgjefaa.Ax
set_option linter.unusedVariables false
set_option linter.unusedSimpArgs false
set_option maxRecDepth 100000 in
set_option maxHeartbeats 40000000 in
theorem law05_InboxScript_ac (x_0 : Int) (x_1 : (List Int)) (x_2 : Message) (r : Bool) (hF : law05_InboxScript x_0 x_1 x_2 = some r) : AC Try.prog 6 [.int .i64 x_0, .lst 1 (x_1.map iA), .agg (encMessage x_2)] [] (.bool r) [] := by
  refine ac_of tab_ok follows_ok Try.func6 rfl Try.ntmps6 rfl ?_
  unfold law05_InboxScript at hF
  conv => whnf
  refine len_q (enc := encLeg) (l := x_2.Onward) rfl ?_
  conv => whnf
  refine ⟨fun hb_171 => ?_, fun hb_171 => ?_⟩
  · replace hF := cond_f hb_171 hF
    conv => whnf
    refine len_q (enc := iA) (l := x_2.List) rfl ?_
    conv => whnf
    refine ⟨fun hb_172 => ?_, fun hb_172 => ?_⟩
    · replace hF := cond_t hb_172 hF
      conv => whnf
      obtain ⟨r_2, h_r_2, hF⟩ := bind_some hF
      refine ⟨_, _, _, _, _, _, _, _, _, callX false [] [] 0 Try.func17 (by decide) rfl (law05_awake_ac r_2 h_r_2) rfl trivial rfl trivial rfl rfl rfl lend0 trivial rfl, ?_⟩
      conv => whnf
      obtain rfl := Option.some.inj hF
      exact ret_gz [] [] [] rfl (argE (by (conv => lhs; whnf); all_goals rfl) rfl) trivial
    · replace hF := cond_f hb_172 hF
      conv => whnf
      obtain ⟨r_3, h_r_3, hF⟩ := bind_some hF
      refine ⟨_, _, _, _, _, _, _, _, _, callX false [] [] 1 Try.func10 (by decide) rfl (keep_New_ac x_1 r_3 h_r_3) rfl ⟨(argE (by (conv => lhs; whnf); all_goals rfl) rfl), trivial⟩ rfl trivial rfl rfl rfl lend0 ⟨rfl, trivial⟩ rfl, ?_⟩
      conv => whnf
      obtain ⟨r_4, h_r_4, hF⟩ := bind_some hF
      refine ⟨_, _, _, _, _, _, _, _, _, callX false [1] [] 0 Try.func11 (by decide) rfl (keep_Src_Range_ac r_3 (0 : Int) (9 : Int) r_4 h_r_4) rfl ⟨(argP (id := 1) (by (conv => lhs; whnf); all_goals rfl) rfl), (argE (by (conv => lhs; whnf); all_goals rfl) rfl), (argE (by (conv => lhs; whnf); all_goals rfl) rfl), trivial⟩ rfl ⟨rfl, trivial⟩ rfl rfl rfl lend0 ⟨rfl, trivial⟩ rfl, ?_⟩
      conv => whnf
      refine len_q (enc := iA) (l := ([x_0, r_4.1] : List Int)) rfl ?_
      conv => whnf
      obtain ⟨c_1, hc_1, hF⟩ := fin_some hF
      refine sw_br 4 (sz := 1) (xs := ([x_0, r_4.1] : List Int).map iA) (by (conv => lhs; whnf); all_goals rfl) (fun hb => ?_)
      have hbd_k_6 : ([x_0, r_4.1] : List Int).length ≤ 9223372036854775807 := bnd_len (enc := iA) (hb)
      refine sw_loop tab_ok follows_ok (fun y : Nat => y ≤ ([x_0, r_4.1] : List Int).length ∧ law05_InboxScript_L1 (([x_0, r_4.1] : List Int).drop y) y = some c_1) (fun y => ⟨eL [(5, .ptr 0 0), (7, .ptr 1 0), (50, .osl 2), (51, .int .i64 (([x_0, r_4.1] : List Int).length : Int)), (52, .int .i64 (y : Int))], hL [(0, .box [.int .i64 x_2.Kind, .int .i64 x_2.Do, .str x_2.Port, .int .i64 x_2.Number, .str x_2.In.Flight.Carrier, .int .i64 x_2.In.Flight.Number, .str x_2.In.Flight.Suffix, .int .i64 x_2.In.Flight.Day, .str x_2.In.Port, .str x_2.In.Class, .str x_2.Out.Flight.Carrier, .int .i64 x_2.Out.Flight.Number, .str x_2.Out.Flight.Suffix, .int .i64 x_2.Out.Flight.Day, .str x_2.Out.Port, .str x_2.Out.Class, .lst 6 (x_2.Onward.map encLeg), .int .i64 x_2.First.Lead, .int .i64 x_2.First.Airline, .int .i64 x_2.First.Serial, .int .i64 x_2.Count, .bool x_2.Load, .int .i64 x_2.Status, .int .i64 x_2.Sequence, .int .i64 x_2.Weight, .str x_2.Surname, .str x_2.Given, .int .i64 x_2.Exception, .str x_2.Node, .lst 1 (x_2.List.map iA)]), (1, .box [.lst 1 (r_4.2.L.map iA), .int .i64 r_4.2.At]), (2, .row 1 (([x_0, r_4.1] : List Int).map iA))], 3⟩) (fun y => ([x_0, r_4.1] : List Int).length - y) 0 ⟨Nat.zero_le _, hc_1⟩ (wk_mk [0, 1, 4] [] [] rfl ⟨argP (id := 0) (by (conv => lhs; whnf); all_goals rfl) rfl, argP (id := 1) (by (conv => lhs; whnf); all_goals rfl) rfl, argO (id := 4) (by (conv => lhs; whnf); all_goals rfl) rfl, argE (by (conv => lhs; whnf); all_goals rfl) rfl, argE (by (conv => lhs; whnf); all_goals rfl) rfl, trivial⟩ ⟨boxL rfl rfl rfl ⟨(.ni _ rfl), (.ni _ rfl), (.ni _ rfl), (.ni _ rfl), (.ni _ rfl), (.ni _ rfl), (.ni _ rfl), (.ni _ rfl), (.ni _ rfl), (.ni _ rfl), (.ni _ rfl), (.ni _ rfl), (.ni _ rfl), (.ni _ rfl), (.ni _ rfl), (.ni _ rfl), (.ni _ rfl), (.ni _ rfl), (.ni _ rfl), (.ni _ rfl), (.ni _ rfl), (.ni _ rfl), (.ni _ rfl), (.ni _ rfl), (.ni _ rfl), (.ni _ rfl), (.ni _ rfl), (.ni _ rfl), (.ni _ rfl), (.ni _ rfl), trivial⟩, boxL rfl rfl rfl ⟨(.ni _ rfl), (.ni _ rfl), trivial⟩, blkR (fun _ => ⟨rfl, rfl⟩) rfl rfl, trivial⟩) ?_
      rintro k_6 ⟨hk_k_6, hL1⟩
      try dsimp only at hk_k_6 hL1
      show awp _ _ _ _ _ _ ⟨eL [(5, .ptr 0 0), (7, .ptr 1 0), (50, .osl 2), (51, .int .i64 (([x_0, r_4.1] : List Int).length : Int)), (52, .int .i64 (k_6 : Int))], hL [(0, .box [.int .i64 x_2.Kind, .int .i64 x_2.Do, .str x_2.Port, .int .i64 x_2.Number, .str x_2.In.Flight.Carrier, .int .i64 x_2.In.Flight.Number, .str x_2.In.Flight.Suffix, .int .i64 x_2.In.Flight.Day, .str x_2.In.Port, .str x_2.In.Class, .str x_2.Out.Flight.Carrier, .int .i64 x_2.Out.Flight.Number, .str x_2.Out.Flight.Suffix, .int .i64 x_2.Out.Flight.Day, .str x_2.Out.Port, .str x_2.Out.Class, .lst 6 (x_2.Onward.map encLeg), .int .i64 x_2.First.Lead, .int .i64 x_2.First.Airline, .int .i64 x_2.First.Serial, .int .i64 x_2.Count, .bool x_2.Load, .int .i64 x_2.Status, .int .i64 x_2.Sequence, .int .i64 x_2.Weight, .str x_2.Surname, .str x_2.Given, .int .i64 x_2.Exception, .str x_2.Node, .lst 1 (x_2.List.map iA)]), (1, .box [.lst 1 (r_4.2.L.map iA), .int .i64 r_4.2.At]), (2, .row 1 (([x_0, r_4.1] : List Int).map iA))], 3⟩
      conv => whnf
      refine ⟨fun h => ?_, fun h => ?_⟩
      · have hlt_k_6 : k_6 < ([x_0, r_4.1] : List Int).length := by have h := of_decide_eq_true h; omega
        obtain ⟨e_7, h_e_7⟩ : ∃ y, ([x_0, r_4.1] : List Int)[k_6]? = some y := ⟨_, List.getElem?_eq_getElem hlt_k_6⟩
        rw [drop_cons h_e_7, law05_InboxScript_L1.eq_2] at hL1
        conv => whnf
        refine ⟨k_6, rfl, by rw [List.length_map]; exact hlt_k_6, ?_⟩
        conv => whnf
        refine ⟨_, ix_map (enc := iA) h_e_7, ?_⟩
        conv => whnf
        obtain ⟨r_8, h_r_8, hL1⟩ := bind_some hL1
        refine ⟨_, _, _, _, _, _, _, _, _, callX false [] [] 0 Try.func9 (by decide) rfl (inbox_New_ac e_7 r_8 h_r_8) rfl ⟨(argE (by (conv => lhs; whnf); all_goals rfl) rfl), trivial⟩ rfl trivial rfl rfl rfl lend0 trivial rfl, ?_⟩
        conv => whnf
        obtain ⟨r_9, h_r_9, hL1⟩ := bind_some hL1
        refine ⟨_, _, _, _, _, _, _, _, _, callX false [] [] 0 Try.func22 (by decide) rfl (ref05_New_ac e_7 r_9 h_r_9) rfl ⟨(argE (by (conv => lhs; whnf); all_goals rfl) rfl), trivial⟩ rfl trivial rfl rfl rfl lend0 trivial rfl, ?_⟩
        conv => whnf
        refine ⟨fun hb_173 => ?_, fun hb_173 => ?_⟩
        · replace hL1 := cond_f hb_173 hL1
          conv => whnf
          obtain ⟨r_10, h_r_10, hL1⟩ := bind_some hL1
          refine ⟨_, _, _, _, _, _, _, _, _, callX false [] [] 0 Try.func21 (by decide) rfl (ref05_Same_ac r_8.1 r_9.1 r_10 h_r_10) rfl ⟨(argE (by (conv => lhs; whnf); all_goals rfl) rfl), (argE (by (conv => lhs; whnf); all_goals rfl) rfl), trivial⟩ rfl trivial rfl rfl rfl lend0 trivial rfl, ?_⟩
          conv => whnf
          refine ⟨fun hb_174 => ?_, fun hb_174 => ?_⟩
          · replace hL1 := cond_t hb_174 hL1
            conv => whnf
            obtain rfl := Option.some.inj hL1
            replace hF := fin_ret hF
            obtain rfl := Option.some.inj hF
            exact ret_gz [] [] [] rfl (argFl (by (conv => lhs; whnf); all_goals rfl)) trivial
          · replace hL1 := cond_f hb_174 hL1
            conv => whnf
            refine ⟨((k_6 + 1 : Nat) : Int), wrapE (by omega) (by omega) (by omega), ?_⟩
            conv => whnf
            exact ⟨k_6 + 1, [0, 1, 2], [], [], ⟨hlt_k_6, hL1⟩, by show ([x_0, r_4.1] : List Int).length - (k_6 + 1) < ([x_0, r_4.1] : List Int).length - k_6; omega, wk_mk [0, 1, 2] [] [] rfl ⟨argP (id := 0) (by (conv => lhs; whnf); all_goals rfl) rfl, argP (id := 1) (by (conv => lhs; whnf); all_goals rfl) rfl, argO (id := 2) (by (conv => lhs; whnf); all_goals rfl) rfl, argE (by (conv => lhs; whnf); all_goals rfl) rfl, argE (by (conv => lhs; whnf); all_goals rfl) rfl, trivial⟩ ⟨boxL rfl rfl rfl ⟨(.ni _ rfl), (.ni _ rfl), (.ni _ rfl), (.ni _ rfl), (.ni _ rfl), (.ni _ rfl), (.ni _ rfl), (.ni _ rfl), (.ni _ rfl), (.ni _ rfl), (.ni _ rfl), (.ni _ rfl), (.ni _ rfl), (.ni _ rfl), (.ni _ rfl), (.ni _ rfl), (.ni _ rfl), (.ni _ rfl), (.ni _ rfl), (.ni _ rfl), (.ni _ rfl), (.ni _ rfl), (.ni _ rfl), (.ni _ rfl), (.ni _ rfl), (.ni _ rfl), (.ni _ rfl), (.ni _ rfl), (.ni _ rfl), (.ni _ rfl), trivial⟩, boxL rfl rfl rfl ⟨(.ni _ rfl), (.ni _ rfl), trivial⟩, blkR (fun _ => ⟨rfl, rfl⟩) rfl rfl, trivial⟩⟩
        · replace hL1 := cond_t hb_173 hL1
          conv => whnf
          obtain rfl := Option.some.inj hL1
          replace hF := fin_ret hF
          obtain rfl := Option.some.inj hF
          exact ret_gz [] [] [] rfl (argFl (by (conv => lhs; whnf); all_goals rfl)) trivial
      · rw [drop_nil (show ([x_0, r_4.1] : List Int).length ≤ k_6 by have h := of_decide_eq_false h; omega), law05_InboxScript_L1.eq_1] at hL1
        conv => whnf
        obtain rfl := Option.some.inj hL1
        replace hF := fin_brk hF
        try dsimp only at hF
        obtain ⟨r_13, h_r_13, hF⟩ := bind_some hF
        refine ⟨_, _, _, _, _, _, _, _, _, callX false [1] [] 0 Try.func11 (by decide) rfl (keep_Src_Range_ac r_4.2 (1 : Int) (4 : Int) r_13 h_r_13) rfl ⟨(argP (id := 1) (by (conv => lhs; whnf); all_goals rfl) rfl), (argE (by (conv => lhs; whnf); all_goals rfl) rfl), (argE (by (conv => lhs; whnf); all_goals rfl) rfl), trivial⟩ rfl ⟨rfl, trivial⟩ rfl rfl rfl lend0 ⟨rfl, trivial⟩ rfl, ?_⟩
        conv => whnf
        obtain ⟨r_14, h_r_14, hF⟩ := bind_some hF
        refine ⟨_, _, _, _, _, _, _, _, _, callX false [] [] 0 Try.func9 (by decide) rfl (inbox_New_ac r_13.1 r_14 h_r_14) rfl ⟨(argE (by (conv => lhs; whnf); all_goals rfl) rfl), trivial⟩ rfl trivial rfl rfl rfl lend0 trivial rfl, ?_⟩
        conv => whnf
        obtain ⟨c_2, hc_2, hF⟩ := fin_some hF
        refine sw_loop tab_ok follows_ok (fun y : Nat × (List Int) × Int × Int × (List Sender) × Int × (List Sender) × Int => law05_InboxScript_L2 x_2 y.1 y.2.1 y.2.2.1 y.2.2.2.1 y.2.2.2.2.1 y.2.2.2.2.2.1 y.2.2.2.2.2.2.1 y.2.2.2.2.2.2.2 = some c_2) (fun y => ⟨eL [(5, .ptr 0 0), (7, .ptr 1 0), (14, .ptr 2 0), (16, .ptr 3 0), (17, .int .i64 y.2.2.2.2.2.2.2)], hL [(0, .box [.int .i64 x_2.Kind, .int .i64 x_2.Do, .str x_2.Port, .int .i64 x_2.Number, .str x_2.In.Flight.Carrier, .int .i64 x_2.In.Flight.Number, .str x_2.In.Flight.Suffix, .int .i64 x_2.In.Flight.Day, .str x_2.In.Port, .str x_2.In.Class, .str x_2.Out.Flight.Carrier, .int .i64 x_2.Out.Flight.Number, .str x_2.Out.Flight.Suffix, .int .i64 x_2.Out.Flight.Day, .str x_2.Out.Port, .str x_2.Out.Class, .lst 6 (x_2.Onward.map encLeg), .int .i64 x_2.First.Lead, .int .i64 x_2.First.Airline, .int .i64 x_2.First.Serial, .int .i64 x_2.Count, .bool x_2.Load, .int .i64 x_2.Status, .int .i64 x_2.Sequence, .int .i64 x_2.Weight, .str x_2.Surname, .str x_2.Given, .int .i64 x_2.Exception, .str x_2.Node, .lst 1 (x_2.List.map iA)]), (1, .box [.lst 1 (y.2.1.map iA), .int .i64 y.2.2.1]), (2, .box [.int .i64 y.2.2.2.1, .lst 3 (y.2.2.2.2.1.map encSender)]), (3, .box [.int .i64 y.2.2.2.2.2.1, .lst 3 (y.2.2.2.2.2.2.1.map encSender)])], 4⟩) (fun y => y.1) (9223372036854775807, r_13.2.L, r_13.2.At, r_14.1.Window, r_14.1.L, r_14.1.Window, r_14.1.L, (0 : Int)) hc_2 (wk_mk [0, 1, 5, 6] [] [] rfl ⟨argP (id := 0) (by (conv => lhs; whnf); all_goals rfl) rfl, argP (id := 1) (by (conv => lhs; whnf); all_goals rfl) rfl, argP (id := 5) (by (conv => lhs; whnf); all_goals rfl) rfl, argP (id := 6) (by (conv => lhs; whnf); all_goals rfl) rfl, argE (by (conv => lhs; whnf); all_goals rfl) rfl, trivial⟩ ⟨boxL rfl rfl rfl ⟨(.ni _ rfl), (.ni _ rfl), (.ni _ rfl), (.ni _ rfl), (.ni _ rfl), (.ni _ rfl), (.ni _ rfl), (.ni _ rfl), (.ni _ rfl), (.ni _ rfl), (.ni _ rfl), (.ni _ rfl), (.ni _ rfl), (.ni _ rfl), (.ni _ rfl), (.ni _ rfl), (.ni _ rfl), (.ni _ rfl), (.ni _ rfl), (.ni _ rfl), (.ni _ rfl), (.ni _ rfl), (.ni _ rfl), (.ni _ rfl), (.ni _ rfl), (.ni _ rfl), (.ni _ rfl), (.ni _ rfl), (.ni _ rfl), (.ni _ rfl), trivial⟩, boxL rfl rfl rfl ⟨(.ni _ rfl), (.ni _ rfl), trivial⟩, boxL rfl rfl rfl ⟨(.ni _ rfl), (.ni _ rfl), trivial⟩, boxL rfl rfl rfl ⟨(.ni _ rfl), (.ni _ rfl), trivial⟩, trivial⟩) ?_
        rintro ⟨q_77, a_15, i_16, i_17, a_18, i_19, a_20, i_21⟩ hL1
        try dsimp only at hL1
        rcases q_77 with _ | q_77
        · rw [law05_InboxScript_L2.eq_1] at hL1
          cases hL1
        rw [law05_InboxScript_L2.eq_2] at hL1
        show awp _ _ _ _ _ _ ⟨eL [(5, .ptr 0 0), (7, .ptr 1 0), (14, .ptr 2 0), (16, .ptr 3 0), (17, .int .i64 i_21)], hL [(0, .box [.int .i64 x_2.Kind, .int .i64 x_2.Do, .str x_2.Port, .int .i64 x_2.Number, .str x_2.In.Flight.Carrier, .int .i64 x_2.In.Flight.Number, .str x_2.In.Flight.Suffix, .int .i64 x_2.In.Flight.Day, .str x_2.In.Port, .str x_2.In.Class, .str x_2.Out.Flight.Carrier, .int .i64 x_2.Out.Flight.Number, .str x_2.Out.Flight.Suffix, .int .i64 x_2.Out.Flight.Day, .str x_2.Out.Port, .str x_2.Out.Class, .lst 6 (x_2.Onward.map encLeg), .int .i64 x_2.First.Lead, .int .i64 x_2.First.Airline, .int .i64 x_2.First.Serial, .int .i64 x_2.Count, .bool x_2.Load, .int .i64 x_2.Status, .int .i64 x_2.Sequence, .int .i64 x_2.Weight, .str x_2.Surname, .str x_2.Given, .int .i64 x_2.Exception, .str x_2.Node, .lst 1 (x_2.List.map iA)]), (1, .box [.lst 1 (a_15.map iA), .int .i64 i_16]), (2, .box [.int .i64 i_17, .lst 3 (a_18.map encSender)]), (3, .box [.int .i64 i_19, .lst 3 (a_20.map encSender)])], 4⟩
        conv => whnf
        refine ⟨fun hb_175 => ?_, fun hb_175 => ?_⟩
        · replace hL1 := cond_t hb_175 hL1
          conv => whnf
          refine ⟨fun hb_176 => ?_, fun hb_176 => ?_⟩
          · replace hL1 := cond_f hb_176 hL1
            conv => whnf
            obtain ⟨r_49, h_r_49, hL1⟩ := bind_some hL1
            refine ⟨_, _, _, _, _, _, _, _, _, callX false [] [1] 0 Try.func12 (by decide) rfl (keep_Src_More_ac (⟨a_15, i_16⟩ : Src) r_49 h_r_49) rfl ⟨(argIb 1 _ (by (conv => lhs; whnf); all_goals rfl) rfl rfl rfl rfl), trivial⟩ rfl trivial rfl rfl rfl (lendF rfl) trivial rfl, ?_⟩
            conv => whnf
            refine ⟨fun hb_200 => ?_, fun hb_200 => ?_⟩
            · replace hL1 := cond_t hb_200 hL1
              conv => whnf
              obtain ⟨r_50, h_r_50, hL1⟩ := bind_some hL1
              refine ⟨_, _, _, _, _, _, _, _, _, callX false [1] [] 0 Try.func18 (by decide) rfl (keep_Src_Message_ac (⟨a_15, i_16⟩ : Src) (0 : Int) r_50 h_r_50) rfl ⟨(argP (id := 1) (by (conv => lhs; whnf); all_goals rfl) rfl), (argE (by (conv => lhs; whnf); all_goals rfl) rfl), trivial⟩ rfl ⟨rfl, trivial⟩ rfl rfl rfl lend0 ⟨rfl, trivial⟩ rfl, ?_⟩
              conv => whnf
              refine ⟨fun hb_201 => ?_, fun hb_201 => ?_⟩
              · replace hL1 := cond_t hb_201 hL1
                conv => whnf
                obtain ⟨r_51, h_r_51, hL1⟩ := bind_some hL1
                refine ⟨_, _, _, _, _, _, _, _, _, callX false [1] [] 0 Try.func23 (by decide) rfl (keep_Src_N_ac r_50.2 (6 : Int) r_51 h_r_51) rfl ⟨(argP (id := 1) (by (conv => lhs; whnf); all_goals rfl) rfl), (argE (by (conv => lhs; whnf); all_goals rfl) rfl), trivial⟩ rfl ⟨rfl, trivial⟩ rfl rfl rfl lend0 ⟨rfl, trivial⟩ rfl, ?_⟩
                conv => whnf
                refine ⟨fun hb_202 => ?_, fun hb_202 => ?_⟩
                · replace hL1 := cond_t hb_202 hL1
                  conv => whnf
                  obtain ⟨r_52, h_r_52, hL1⟩ := bind_some hL1
                  refine ⟨_, _, _, _, _, _, _, _, _, callX true [1] [8] 0 Try.func24 (by decide) rfl (keep_Src_Text_ac r_51.2 ([(⟨#[65, 82, 78]⟩ : ByteArray), (⟨#[67, 80, 72]⟩ : ByteArray), (⟨#[79, 83, 76]⟩ : ByteArray)] : List ByteArray) r_52 h_r_52) rfl ⟨(argP (id := 1) (by (conv => lhs; whnf); all_goals rfl) rfl), (argOL 8 (by (conv => lhs; whnf); all_goals rfl) rfl rfl (map_ni (fun _ => ⟨rfl, rfl⟩) _)), trivial⟩ rfl ⟨rfl, trivial⟩ rfl rfl rfl giveU ⟨rfl, trivial⟩ rfl, ?_⟩
                  conv => whnf
                  obtain ⟨r_53, h_r_53, hL1⟩ := bind_some hL1
                  refine ⟨_, _, _, _, _, _, _, _, _, callX false [] [] 0 Try.func16 (by decide) rfl (inbox_Missing_ac (⟨i_17, a_18⟩ : Inbox) r_52.1 r_53 h_r_53) rfl ⟨(argE (by (conv => lhs; whnf); all_goals rfl) rfl), (argE (by (conv => lhs; whnf); all_goals rfl) rfl), trivial⟩ rfl trivial rfl rfl rfl lend0 trivial rfl, ?_⟩
                  conv => whnf
                  obtain ⟨r_54, h_r_54, hL1⟩ := bind_some hL1
                  refine ⟨_, _, _, _, _, _, _, _, _, callX false [] [] 0 Try.func25 (by decide) rfl (ref05_Missing_ac (⟨i_19, a_20⟩ : Inbox) r_52.1 r_54 h_r_54) rfl ⟨(argE (by (conv => lhs; whnf); all_goals rfl) rfl), (argE (by (conv => lhs; whnf); all_goals rfl) rfl), trivial⟩ rfl trivial rfl rfl rfl lend0 trivial rfl, ?_⟩
                  conv => whnf
                  obtain ⟨r_55, h_r_55, hL1⟩ := bind_some hL1
                  refine ⟨_, _, _, _, _, _, _, _, _, callX false [] [] 0 Try.func20 (by decide) rfl (keep_Ints_ac r_53 r_54 r_55 h_r_55) rfl ⟨(argE (by (conv => lhs; whnf); all_goals rfl) rfl), (argE (by (conv => lhs; whnf); all_goals rfl) rfl), trivial⟩ rfl trivial rfl rfl rfl lend0 trivial rfl, ?_⟩
                  conv => whnf
                  refine ⟨by kernel_rfl, ?_⟩
                  conv => whnf
                  refine ⟨fun hb_203 => ?_, fun hb_203 => ?_⟩
                  · replace hL1 := cond_t hb_203 hL1
                    conv => whnf
                    obtain rfl := Option.some.inj hL1
                    replace hF := fin_ret hF
                    obtain rfl := Option.some.inj hF
                    exact ret_gz [] [] [] rfl (argFl (by (conv => lhs; whnf); all_goals rfl)) trivial
                  · replace hL1 := cond_f hb_203 hL1
                    conv => whnf
                    obtain ⟨r_56, h_r_56, hL1⟩ := bind_some hL1
                    refine ⟨_, _, _, _, _, _, _, _, _, callX false [] [] 0 Try.func26 (by decide) rfl (inbox_Skip_ac (⟨i_17, a_18⟩ : Inbox) r_52.1 r_56 h_r_56) rfl ⟨(argE (by (conv => lhs; whnf); all_goals rfl) rfl), (argE (by (conv => lhs; whnf); all_goals rfl) rfl), trivial⟩ rfl trivial rfl rfl rfl lend0 trivial rfl, ?_⟩
                    conv => whnf
                    obtain ⟨r_57, h_r_57, hL1⟩ := bind_some hL1
                    refine ⟨_, _, _, _, _, _, _, _, _, callX false [] [] 0 Try.func27 (by decide) rfl (ref05_Skip_ac (⟨i_19, a_20⟩ : Inbox) r_52.1 r_57 h_r_57) rfl ⟨(argE (by (conv => lhs; whnf); all_goals rfl) rfl), (argE (by (conv => lhs; whnf); all_goals rfl) rfl), trivial⟩ rfl trivial rfl rfl rfl lend0 trivial rfl, ?_⟩
                    conv => whnf
                    refine ⟨fun hb_204 => ?_, fun hb_204 => ?_⟩
                    · replace hL1 := cond_f hb_204 hL1
                      conv => whnf
                      obtain ⟨r_58, h_r_58, hL1⟩ := bind_some hL1
                      refine ⟨_, _, _, _, _, _, _, _, _, callX false [] [] 0 Try.func21 (by decide) rfl (ref05_Same_ac r_56.1 r_57.1 r_58 h_r_58) rfl ⟨(argE (by (conv => lhs; whnf); all_goals rfl) rfl), (argE (by (conv => lhs; whnf); all_goals rfl) rfl), trivial⟩ rfl trivial rfl rfl rfl lend0 trivial rfl, ?_⟩
                      conv => whnf
                      refine ⟨fun hb_205 => ?_, fun hb_205 => ?_⟩
                      · replace hL1 := cond_f hb_205 hL1
                        conv => whnf
                        obtain ⟨r_59, h_r_59, hL1⟩ := bind_some hL1
                        refine ⟨_, _, _, _, _, _, _, _, _, callX false [] [] 0 Try.func19 (by decide) rfl (ref05_SameList_ac r_56.2.1 r_57.2.1 r_59 h_r_59) rfl ⟨(argE (by (conv => lhs; whnf); all_goals rfl) rfl), (argE (by (conv => lhs; whnf); all_goals rfl) rfl), trivial⟩ rfl trivial rfl rfl rfl lend0 trivial rfl, ?_⟩
                        conv => whnf
                        refine ⟨fun hb_206 => ?_, fun hb_206 => ?_⟩
                        · replace hL1 := cond_t hb_206 hL1
                          conv => whnf
                          obtain rfl := Option.some.inj hL1
                          replace hF := fin_ret hF
                          obtain rfl := Option.some.inj hF
                          exact ret_gz [] [] [] rfl (argFl (by (conv => lhs; whnf); all_goals rfl)) trivial
                        · replace hL1 := cond_f hb_206 hL1
                          conv => whnf
                          refine ⟨fun hb_207 => ?_, fun hb_207 => ?_⟩
                          · replace hL1 := cond_t hb_207 hL1
                            conv => whnf
                            refine ⟨by kernel_rfl, ?_⟩
                            conv => whnf
                            refine ⟨_, rfl, ?_⟩
                            conv => whnf
                            exact ⟨(q_77, r_52.2.L, r_52.2.At, r_56.1.Window, r_56.1.L, r_57.1.Window, r_57.1.L, (w64 (i_21 + (1 : Int)))), [0, 1, 2, 3], [], [], hL1, Nat.lt_succ_self _, wk_mk [0, 1, 2, 3] [] [] rfl ⟨argP (id := 0) (by (conv => lhs; whnf); all_goals rfl) rfl, argP (id := 1) (by (conv => lhs; whnf); all_goals rfl) rfl, argP (id := 2) (by (conv => lhs; whnf); all_goals rfl) rfl, argP (id := 3) (by (conv => lhs; whnf); all_goals rfl) rfl, argE (by (conv => lhs; whnf); all_goals rfl) rfl, trivial⟩ ⟨boxL rfl rfl rfl ⟨(.ni _ rfl), (.ni _ rfl), (.ni _ rfl), (.ni _ rfl), (.ni _ rfl), (.ni _ rfl), (.ni _ rfl), (.ni _ rfl), (.ni _ rfl), (.ni _ rfl), (.ni _ rfl), (.ni _ rfl), (.ni _ rfl), (.ni _ rfl), (.ni _ rfl), (.ni _ rfl), (.ni _ rfl), (.ni _ rfl), (.ni _ rfl), (.ni _ rfl), (.ni _ rfl), (.ni _ rfl), (.ni _ rfl), (.ni _ rfl), (.ni _ rfl), (.ni _ rfl), (.ni _ rfl), (.ni _ rfl), (.ni _ rfl), (.ni _ rfl), trivial⟩, boxL rfl rfl rfl ⟨(.ni _ rfl), (.ni _ rfl), trivial⟩, boxL rfl rfl rfl ⟨(.ni _ rfl), (.ni _ rfl), trivial⟩, boxL rfl rfl rfl ⟨(.ni _ rfl), (.ni _ rfl), trivial⟩, trivial⟩⟩
                          · replace hL1 := cond_f hb_207 hL1
                            conv => whnf
                            refine ⟨_, rfl, ?_⟩
                            conv => whnf
                            exact ⟨(q_77, r_52.2.L, r_52.2.At, i_17, a_18, i_19, a_20, (w64 (i_21 + (1 : Int)))), [0, 1, 2, 3], [], [], hL1, Nat.lt_succ_self _, wk_mk [0, 1, 2, 3] [] [] rfl ⟨argP (id := 0) (by (conv => lhs; whnf); all_goals rfl) rfl, argP (id := 1) (by (conv => lhs; whnf); all_goals rfl) rfl, argP (id := 2) (by (conv => lhs; whnf); all_goals rfl) rfl, argP (id := 3) (by (conv => lhs; whnf); all_goals rfl) rfl, argE (by (conv => lhs; whnf); all_goals rfl) rfl, trivial⟩ ⟨boxL rfl rfl rfl ⟨(.ni _ rfl), (.ni _ rfl), (.ni _ rfl), (.ni _ rfl), (.ni _ rfl), (.ni _ rfl), (.ni _ rfl), (.ni _ rfl), (.ni _ rfl), (.ni _ rfl), (.ni _ rfl), (.ni _ rfl), (.ni _ rfl), (.ni _ rfl), (.ni _ rfl), (.ni _ rfl), (.ni _ rfl), (.ni _ rfl), (.ni _ rfl), (.ni _ rfl), (.ni _ rfl), (.ni _ rfl), (.ni _ rfl), (.ni _ rfl), (.ni _ rfl), (.ni _ rfl), (.ni _ rfl), (.ni _ rfl), (.ni _ rfl), (.ni _ rfl), trivial⟩, boxL rfl rfl rfl ⟨(.ni _ rfl), (.ni _ rfl), trivial⟩, boxL rfl rfl rfl ⟨(.ni _ rfl), (.ni _ rfl), trivial⟩, boxL rfl rfl rfl ⟨(.ni _ rfl), (.ni _ rfl), trivial⟩, trivial⟩⟩
                      · replace hL1 := cond_t hb_205 hL1
                        conv => whnf
                        obtain rfl := Option.some.inj hL1
                        replace hF := fin_ret hF
                        obtain rfl := Option.some.inj hF
                        exact ret_gz [] [] [] rfl (argFl (by (conv => lhs; whnf); all_goals rfl)) trivial
                    · replace hL1 := cond_t hb_204 hL1
                      conv => whnf
                      obtain rfl := Option.some.inj hL1
                      replace hF := fin_ret hF
                      obtain rfl := Option.some.inj hF
                      exact ret_gz [] [] [] rfl (argFl (by (conv => lhs; whnf); all_goals rfl)) trivial
                · replace hL1 := cond_f hb_202 hL1
                  conv => whnf
                  obtain ⟨r_60, h_r_60, hL1⟩ := bind_some hL1
                  refine ⟨_, _, _, _, _, _, _, _, _, callX false [] [] 0 Try.func13 (by decide) rfl (inbox_Receive_ac (⟨i_17, a_18⟩ : Inbox) x_2 r_60 h_r_60) rfl ⟨(argE (by (conv => lhs; whnf); all_goals rfl) rfl), (argE (by (conv => lhs; whnf); all_goals rfl) rfl), trivial⟩ rfl trivial rfl rfl rfl lend0 trivial rfl, ?_⟩
                  conv => whnf
                  obtain ⟨r_61, h_r_61, hL1⟩ := bind_some hL1
                  refine ⟨_, _, _, _, _, _, _, _, _, callX false [] [] 0 Try.func28 (by decide) rfl (ref05_Receive_ac (⟨i_19, a_20⟩ : Inbox) x_2 r_61 h_r_61) rfl ⟨(argE (by (conv => lhs; whnf); all_goals rfl) rfl), (argE (by (conv => lhs; whnf); all_goals rfl) rfl), trivial⟩ rfl trivial rfl rfl rfl lend0 trivial rfl, ?_⟩
                  conv => whnf
                  refine ⟨fun hb_208 => ?_, fun hb_208 => ?_⟩
                  · replace hL1 := cond_f hb_208 hL1
                    conv => whnf
                    refine ⟨fun hb_209 => ?_, fun hb_209 => ?_⟩
                    · replace hL1 := cond_f hb_209 hL1
                      conv => whnf
                      obtain ⟨r_62, h_r_62, hL1⟩ := bind_some hL1
                      refine ⟨_, _, _, _, _, _, _, _, _, callX false [] [] 0 Try.func21 (by decide) rfl (ref05_Same_ac r_60.1 r_61.1 r_62 h_r_62) rfl ⟨(argE (by (conv => lhs; whnf); all_goals rfl) rfl), (argE (by (conv => lhs; whnf); all_goals rfl) rfl), trivial⟩ rfl trivial rfl rfl rfl lend0 trivial rfl, ?_⟩
                      conv => whnf
                      refine ⟨fun hb_210 => ?_, fun hb_210 => ?_⟩
                      · replace hL1 := cond_f hb_210 hL1
                        conv => whnf
                        obtain ⟨r_63, h_r_63, hL1⟩ := bind_some hL1
                        refine ⟨_, _, _, _, _, _, _, _, _, callX false [] [] 0 Try.func19 (by decide) rfl (ref05_SameList_ac r_60.2.1 r_61.2.1 r_63 h_r_63) rfl ⟨(argE (by (conv => lhs; whnf); all_goals rfl) rfl), (argE (by (conv => lhs; whnf); all_goals rfl) rfl), trivial⟩ rfl trivial rfl rfl rfl lend0 trivial rfl, ?_⟩
                        conv => whnf
                        refine ⟨fun hb_211 => ?_, fun hb_211 => ?_⟩
                        · replace hL1 := cond_t hb_211 hL1
                          conv => whnf
                          obtain rfl := Option.some.inj hL1
                          replace hF := fin_ret hF
                          obtain rfl := Option.some.inj hF
                          exact ret_gz [] [] [] rfl (argFl (by (conv => lhs; whnf); all_goals rfl)) trivial
                        · replace hL1 := cond_f hb_211 hL1
                          conv => whnf
                          refine ⟨fun hb_212 => ?_, fun hb_212 => ?_⟩
                          · replace hL1 := cond_t hb_212 hL1
                            conv => whnf
                            refine ⟨by kernel_rfl, ?_⟩
                            conv => whnf
                            refine ⟨_, rfl, ?_⟩
                            conv => whnf
                            exact ⟨(q_77, r_51.2.L, r_51.2.At, r_60.1.Window, r_60.1.L, r_61.1.Window, r_61.1.L, (w64 (i_21 + (1 : Int)))), [0, 1, 2, 3], [], [], hL1, Nat.lt_succ_self _, wk_mk [0, 1, 2, 3] [] [] rfl ⟨argP (id := 0) (by (conv => lhs; whnf); all_goals rfl) rfl, argP (id := 1) (by (conv => lhs; whnf); all_goals rfl) rfl, argP (id := 2) (by (conv => lhs; whnf); all_goals rfl) rfl, argP (id := 3) (by (conv => lhs; whnf); all_goals rfl) rfl, argE (by (conv => lhs; whnf); all_goals rfl) rfl, trivial⟩ ⟨boxL rfl rfl rfl ⟨(.ni _ rfl), (.ni _ rfl), (.ni _ rfl), (.ni _ rfl), (.ni _ rfl), (.ni _ rfl), (.ni _ rfl), (.ni _ rfl), (.ni _ rfl), (.ni _ rfl), (.ni _ rfl), (.ni _ rfl), (.ni _ rfl), (.ni _ rfl), (.ni _ rfl), (.ni _ rfl), (.ni _ rfl), (.ni _ rfl), (.ni _ rfl), (.ni _ rfl), (.ni _ rfl), (.ni _ rfl), (.ni _ rfl), (.ni _ rfl), (.ni _ rfl), (.ni _ rfl), (.ni _ rfl), (.ni _ rfl), (.ni _ rfl), (.ni _ rfl), trivial⟩, boxL rfl rfl rfl ⟨(.ni _ rfl), (.ni _ rfl), trivial⟩, boxL rfl rfl rfl ⟨(.ni _ rfl), (.ni _ rfl), trivial⟩, boxL rfl rfl rfl ⟨(.ni _ rfl), (.ni _ rfl), trivial⟩, trivial⟩⟩
                          · replace hL1 := cond_f hb_212 hL1
                            conv => whnf
                            refine ⟨_, rfl, ?_⟩
                            conv => whnf
                            exact ⟨(q_77, r_51.2.L, r_51.2.At, i_17, a_18, i_19, a_20, (w64 (i_21 + (1 : Int)))), [0, 1, 2, 3], [], [], hL1, Nat.lt_succ_self _, wk_mk [0, 1, 2, 3] [] [] rfl ⟨argP (id := 0) (by (conv => lhs; whnf); all_goals rfl) rfl, argP (id := 1) (by (conv => lhs; whnf); all_goals rfl) rfl, argP (id := 2) (by (conv => lhs; whnf); all_goals rfl) rfl, argP (id := 3) (by (conv => lhs; whnf); all_goals rfl) rfl, argE (by (conv => lhs; whnf); all_goals rfl) rfl, trivial⟩ ⟨boxL rfl rfl rfl ⟨(.ni _ rfl), (.ni _ rfl), (.ni _ rfl), (.ni _ rfl), (.ni _ rfl), (.ni _ rfl), (.ni _ rfl), (.ni _ rfl), (.ni _ rfl), (.ni _ rfl), (.ni _ rfl), (.ni _ rfl), (.ni _ rfl), (.ni _ rfl), (.ni _ rfl), (.ni _ rfl), (.ni _ rfl), (.ni _ rfl), (.ni _ rfl), (.ni _ rfl), (.ni _ rfl), (.ni _ rfl), (.ni _ rfl), (.ni _ rfl), (.ni _ rfl), (.ni _ rfl), (.ni _ rfl), (.ni _ rfl), (.ni _ rfl), (.ni _ rfl), trivial⟩, boxL rfl rfl rfl ⟨(.ni _ rfl), (.ni _ rfl), trivial⟩, boxL rfl rfl rfl ⟨(.ni _ rfl), (.ni _ rfl), trivial⟩, boxL rfl rfl rfl ⟨(.ni _ rfl), (.ni _ rfl), trivial⟩, trivial⟩⟩
                      · replace hL1 := cond_t hb_210 hL1
                        conv => whnf
                        obtain rfl := Option.some.inj hL1
                        replace hF := fin_ret hF
                        obtain rfl := Option.some.inj hF
                        exact ret_gz [] [] [] rfl (argFl (by (conv => lhs; whnf); all_goals rfl)) trivial
                    · replace hL1 := cond_t hb_209 hL1
                      conv => whnf
                      obtain rfl := Option.some.inj hL1
                      replace hF := fin_ret hF
                      obtain rfl := Option.some.inj hF
                      exact ret_gz [] [] [] rfl (argFl (by (conv => lhs; whnf); all_goals rfl)) trivial
                  · replace hL1 := cond_t hb_208 hL1
                    conv => whnf
                    obtain rfl := Option.some.inj hL1
                    replace hF := fin_ret hF
                    obtain rfl := Option.some.inj hF
                    exact ret_gz [] [] [] rfl (argFl (by (conv => lhs; whnf); all_goals rfl)) trivial
              · replace hL1 := cond_f hb_201 hL1
                conv => whnf
                obtain ⟨r_64, h_r_64, hL1⟩ := bind_some hL1
                refine ⟨_, _, _, _, _, _, _, _, _, callX false [1] [] 0 Try.func23 (by decide) rfl (keep_Src_N_ac r_50.2 (6 : Int) r_64 h_r_64) rfl ⟨(argP (id := 1) (by (conv => lhs; whnf); all_goals rfl) rfl), (argE (by (conv => lhs; whnf); all_goals rfl) rfl), trivial⟩ rfl ⟨rfl, trivial⟩ rfl rfl rfl lend0 ⟨rfl, trivial⟩ rfl, ?_⟩
                conv => whnf
                refine ⟨fun hb_213 => ?_, fun hb_213 => ?_⟩
                · replace hL1 := cond_t hb_213 hL1
                  conv => whnf
                  obtain ⟨r_65, h_r_65, hL1⟩ := bind_some hL1
                  refine ⟨_, _, _, _, _, _, _, _, _, callX true [1] [8] 0 Try.func24 (by decide) rfl (keep_Src_Text_ac r_64.2 ([(⟨#[65, 82, 78]⟩ : ByteArray), (⟨#[67, 80, 72]⟩ : ByteArray), (⟨#[79, 83, 76]⟩ : ByteArray)] : List ByteArray) r_65 h_r_65) rfl ⟨(argP (id := 1) (by (conv => lhs; whnf); all_goals rfl) rfl), (argOL 8 (by (conv => lhs; whnf); all_goals rfl) rfl rfl (map_ni (fun _ => ⟨rfl, rfl⟩) _)), trivial⟩ rfl ⟨rfl, trivial⟩ rfl rfl rfl giveU ⟨rfl, trivial⟩ rfl, ?_⟩
                  conv => whnf
                  obtain ⟨r_66, h_r_66, hL1⟩ := bind_some hL1
                  refine ⟨_, _, _, _, _, _, _, _, _, callX false [] [] 0 Try.func16 (by decide) rfl (inbox_Missing_ac (⟨i_17, a_18⟩ : Inbox) r_65.1 r_66 h_r_66) rfl ⟨(argE (by (conv => lhs; whnf); all_goals rfl) rfl), (argE (by (conv => lhs; whnf); all_goals rfl) rfl), trivial⟩ rfl trivial rfl rfl rfl lend0 trivial rfl, ?_⟩
                  conv => whnf
                  obtain ⟨r_67, h_r_67, hL1⟩ := bind_some hL1
                  refine ⟨_, _, _, _, _, _, _, _, _, callX false [] [] 0 Try.func25 (by decide) rfl (ref05_Missing_ac (⟨i_19, a_20⟩ : Inbox) r_65.1 r_67 h_r_67) rfl ⟨(argE (by (conv => lhs; whnf); all_goals rfl) rfl), (argE (by (conv => lhs; whnf); all_goals rfl) rfl), trivial⟩ rfl trivial rfl rfl rfl lend0 trivial rfl, ?_⟩
                  conv => whnf
                  obtain ⟨r_68, h_r_68, hL1⟩ := bind_some hL1
                  refine ⟨_, _, _, _, _, _, _, _, _, callX false [] [] 0 Try.func20 (by decide) rfl (keep_Ints_ac r_66 r_67 r_68 h_r_68) rfl ⟨(argE (by (conv => lhs; whnf); all_goals rfl) rfl), (argE (by (conv => lhs; whnf); all_goals rfl) rfl), trivial⟩ rfl trivial rfl rfl rfl lend0 trivial rfl, ?_⟩
                  conv => whnf
                  refine ⟨by kernel_rfl, ?_⟩
                  conv => whnf
                  refine ⟨fun hb_214 => ?_, fun hb_214 => ?_⟩
                  · replace hL1 := cond_t hb_214 hL1
                    conv => whnf
                    obtain rfl := Option.some.inj hL1
                    replace hF := fin_ret hF
                    obtain rfl := Option.some.inj hF
                    exact ret_gz [] [] [] rfl (argFl (by (conv => lhs; whnf); all_goals rfl)) trivial
                  · replace hL1 := cond_f hb_214 hL1
                    conv => whnf
                    obtain ⟨r_69, h_r_69, hL1⟩ := bind_some hL1
                    refine ⟨_, _, _, _, _, _, _, _, _, callX false [] [] 0 Try.func26 (by decide) rfl (inbox_Skip_ac (⟨i_17, a_18⟩ : Inbox) r_65.1 r_69 h_r_69) rfl ⟨(argE (by (conv => lhs; whnf); all_goals rfl) rfl), (argE (by (conv => lhs; whnf); all_goals rfl) rfl), trivial⟩ rfl trivial rfl rfl rfl lend0 trivial rfl, ?_⟩
                    conv => whnf
                    obtain ⟨r_70, h_r_70, hL1⟩ := bind_some hL1
                    refine ⟨_, _, _, _, _, _, _, _, _, callX false [] [] 0 Try.func27 (by decide) rfl (ref05_Skip_ac (⟨i_19, a_20⟩ : Inbox) r_65.1 r_70 h_r_70) rfl ⟨(argE (by (conv => lhs; whnf); all_goals rfl) rfl), (argE (by (conv => lhs; whnf); all_goals rfl) rfl), trivial⟩ rfl trivial rfl rfl rfl lend0 trivial rfl, ?_⟩
                    conv => whnf
                    refine ⟨fun hb_215 => ?_, fun hb_215 => ?_⟩
                    · replace hL1 := cond_f hb_215 hL1
                      conv => whnf
                      obtain ⟨r_71, h_r_71, hL1⟩ := bind_some hL1
                      refine ⟨_, _, _, _, _, _, _, _, _, callX false [] [] 0 Try.func21 (by decide) rfl (ref05_Same_ac r_69.1 r_70.1 r_71 h_r_71) rfl ⟨(argE (by (conv => lhs; whnf); all_goals rfl) rfl), (argE (by (conv => lhs; whnf); all_goals rfl) rfl), trivial⟩ rfl trivial rfl rfl rfl lend0 trivial rfl, ?_⟩
                      conv => whnf
                      refine ⟨fun hb_216 => ?_, fun hb_216 => ?_⟩
                      · replace hL1 := cond_f hb_216 hL1
                        conv => whnf
                        obtain ⟨r_72, h_r_72, hL1⟩ := bind_some hL1
                        refine ⟨_, _, _, _, _, _, _, _, _, callX false [] [] 0 Try.func19 (by decide) rfl (ref05_SameList_ac r_69.2.1 r_70.2.1 r_72 h_r_72) rfl ⟨(argE (by (conv => lhs; whnf); all_goals rfl) rfl), (argE (by (conv => lhs; whnf); all_goals rfl) rfl), trivial⟩ rfl trivial rfl rfl rfl lend0 trivial rfl, ?_⟩
                        conv => whnf
                        refine ⟨fun hb_217 => ?_, fun hb_217 => ?_⟩
                        · replace hL1 := cond_t hb_217 hL1
                          conv => whnf
                          obtain rfl := Option.some.inj hL1
                          replace hF := fin_ret hF
                          obtain rfl := Option.some.inj hF
                          exact ret_gz [] [] [] rfl (argFl (by (conv => lhs; whnf); all_goals rfl)) trivial
                        · replace hL1 := cond_f hb_217 hL1
                          conv => whnf
                          refine ⟨fun hb_218 => ?_, fun hb_218 => ?_⟩
                          · replace hL1 := cond_t hb_218 hL1
                            conv => whnf
                            refine ⟨by kernel_rfl, ?_⟩
                            conv => whnf
                            refine ⟨_, rfl, ?_⟩
                            conv => whnf
                            exact ⟨(q_77, r_65.2.L, r_65.2.At, r_69.1.Window, r_69.1.L, r_70.1.Window, r_70.1.L, (w64 (i_21 + (1 : Int)))), [0, 1, 2, 3], [], [], hL1, Nat.lt_succ_self _, wk_mk [0, 1, 2, 3] [] [] rfl ⟨argP (id := 0) (by (conv => lhs; whnf); all_goals rfl) rfl, argP (id := 1) (by (conv => lhs; whnf); all_goals rfl) rfl, argP (id := 2) (by (conv => lhs; whnf); all_goals rfl) rfl, argP (id := 3) (by (conv => lhs; whnf); all_goals rfl) rfl, argE (by (conv => lhs; whnf); all_goals rfl) rfl, trivial⟩ ⟨boxL rfl rfl rfl ⟨(.ni _ rfl), (.ni _ rfl), (.ni _ rfl), (.ni _ rfl), (.ni _ rfl), (.ni _ rfl), (.ni _ rfl), (.ni _ rfl), (.ni _ rfl), (.ni _ rfl), (.ni _ rfl), (.ni _ rfl), (.ni _ rfl), (.ni _ rfl), (.ni _ rfl), (.ni _ rfl), (.ni _ rfl), (.ni _ rfl), (.ni _ rfl), (.ni _ rfl), (.ni _ rfl), (.ni _ rfl), (.ni _ rfl), (.ni _ rfl), (.ni _ rfl), (.ni _ rfl), (.ni _ rfl), (.ni _ rfl), (.ni _ rfl), (.ni _ rfl), trivial⟩, boxL rfl rfl rfl ⟨(.ni _ rfl), (.ni _ rfl), trivial⟩, boxL rfl rfl rfl ⟨(.ni _ rfl), (.ni _ rfl), trivial⟩, boxL rfl rfl rfl ⟨(.ni _ rfl), (.ni _ rfl), trivial⟩, trivial⟩⟩
                          · replace hL1 := cond_f hb_218 hL1
                            conv => whnf
                            refine ⟨_, rfl, ?_⟩
                            conv => whnf
                            exact ⟨(q_77, r_65.2.L, r_65.2.At, i_17, a_18, i_19, a_20, (w64 (i_21 + (1 : Int)))), [0, 1, 2, 3], [], [], hL1, Nat.lt_succ_self _, wk_mk [0, 1, 2, 3] [] [] rfl ⟨argP (id := 0) (by (conv => lhs; whnf); all_goals rfl) rfl, argP (id := 1) (by (conv => lhs; whnf); all_goals rfl) rfl, argP (id := 2) (by (conv => lhs; whnf); all_goals rfl) rfl, argP (id := 3) (by (conv => lhs; whnf); all_goals rfl) rfl, argE (by (conv => lhs; whnf); all_goals rfl) rfl, trivial⟩ ⟨boxL rfl rfl rfl ⟨(.ni _ rfl), (.ni _ rfl), (.ni _ rfl), (.ni _ rfl), (.ni _ rfl), (.ni _ rfl), (.ni _ rfl), (.ni _ rfl), (.ni _ rfl), (.ni _ rfl), (.ni _ rfl), (.ni _ rfl), (.ni _ rfl), (.ni _ rfl), (.ni _ rfl), (.ni _ rfl), (.ni _ rfl), (.ni _ rfl), (.ni _ rfl), (.ni _ rfl), (.ni _ rfl), (.ni _ rfl), (.ni _ rfl), (.ni _ rfl), (.ni _ rfl), (.ni _ rfl), (.ni _ rfl), (.ni _ rfl), (.ni _ rfl), (.ni _ rfl), trivial⟩, boxL rfl rfl rfl ⟨(.ni _ rfl), (.ni _ rfl), trivial⟩, boxL rfl rfl rfl ⟨(.ni _ rfl), (.ni _ rfl), trivial⟩, boxL rfl rfl rfl ⟨(.ni _ rfl), (.ni _ rfl), trivial⟩, trivial⟩⟩
                      · replace hL1 := cond_t hb_216 hL1
                        conv => whnf
                        obtain rfl := Option.some.inj hL1
                        replace hF := fin_ret hF
                        obtain rfl := Option.some.inj hF
                        exact ret_gz [] [] [] rfl (argFl (by (conv => lhs; whnf); all_goals rfl)) trivial
                    · replace hL1 := cond_t hb_215 hL1
                      conv => whnf
                      obtain rfl := Option.some.inj hL1
                      replace hF := fin_ret hF
                      obtain rfl := Option.some.inj hF
                      exact ret_gz [] [] [] rfl (argFl (by (conv => lhs; whnf); all_goals rfl)) trivial
                · replace hL1 := cond_f hb_213 hL1
                  conv => whnf
                  obtain ⟨r_73, h_r_73, hL1⟩ := bind_some hL1
                  refine ⟨_, _, _, _, _, _, _, _, _, callX false [] [] 0 Try.func13 (by decide) rfl (inbox_Receive_ac (⟨i_17, a_18⟩ : Inbox) r_50.1 r_73 h_r_73) rfl ⟨(argE (by (conv => lhs; whnf); all_goals rfl) rfl), (argE (by (conv => lhs; whnf); all_goals rfl) rfl), trivial⟩ rfl trivial rfl rfl rfl lend0 trivial rfl, ?_⟩
                  conv => whnf
                  obtain ⟨r_74, h_r_74, hL1⟩ := bind_some hL1
                  refine ⟨_, _, _, _, _, _, _, _, _, callX false [] [] 0 Try.func28 (by decide) rfl (ref05_Receive_ac (⟨i_19, a_20⟩ : Inbox) r_50.1 r_74 h_r_74) rfl ⟨(argE (by (conv => lhs; whnf); all_goals rfl) rfl), (argE (by (conv => lhs; whnf); all_goals rfl) rfl), trivial⟩ rfl trivial rfl rfl rfl lend0 trivial rfl, ?_⟩
                  conv => whnf
                  refine ⟨fun hb_219 => ?_, fun hb_219 => ?_⟩
                  · replace hL1 := cond_f hb_219 hL1
                    conv => whnf
                    refine ⟨fun hb_220 => ?_, fun hb_220 => ?_⟩
                    · replace hL1 := cond_f hb_220 hL1
                      conv => whnf
                      obtain ⟨r_75, h_r_75, hL1⟩ := bind_some hL1
                      refine ⟨_, _, _, _, _, _, _, _, _, callX false [] [] 0 Try.func21 (by decide) rfl (ref05_Same_ac r_73.1 r_74.1 r_75 h_r_75) rfl ⟨(argE (by (conv => lhs; whnf); all_goals rfl) rfl), (argE (by (conv => lhs; whnf); all_goals rfl) rfl), trivial⟩ rfl trivial rfl rfl rfl lend0 trivial rfl, ?_⟩
                      conv => whnf
                      refine ⟨fun hb_221 => ?_, fun hb_221 => ?_⟩
                      · replace hL1 := cond_f hb_221 hL1
                        conv => whnf
                        obtain ⟨r_76, h_r_76, hL1⟩ := bind_some hL1
                        refine ⟨_, _, _, _, _, _, _, _, _, callX false [] [] 0 Try.func19 (by decide) rfl (ref05_SameList_ac r_73.2.1 r_74.2.1 r_76 h_r_76) rfl ⟨(argE (by (conv => lhs; whnf); all_goals rfl) rfl), (argE (by (conv => lhs; whnf); all_goals rfl) rfl), trivial⟩ rfl trivial rfl rfl rfl lend0 trivial rfl, ?_⟩
                        conv => whnf
                        refine ⟨fun hb_222 => ?_, fun hb_222 => ?_⟩
                        · replace hL1 := cond_t hb_222 hL1
                          conv => whnf
                          obtain rfl := Option.some.inj hL1
                          replace hF := fin_ret hF
                          obtain rfl := Option.some.inj hF
                          exact ret_gz [] [] [] rfl (argFl (by (conv => lhs; whnf); all_goals rfl)) trivial
                        · replace hL1 := cond_f hb_222 hL1
                          conv => whnf
                          refine ⟨fun hb_223 => ?_, fun hb_223 => ?_⟩
                          · replace hL1 := cond_t hb_223 hL1
                            conv => whnf
                            refine ⟨by kernel_rfl, ?_⟩
                            conv => whnf
                            refine ⟨_, rfl, ?_⟩
                            conv => whnf
                            exact ⟨(q_77, r_64.2.L, r_64.2.At, r_73.1.Window, r_73.1.L, r_74.1.Window, r_74.1.L, (w64 (i_21 + (1 : Int)))), [0, 1, 2, 3], [], [], hL1, Nat.lt_succ_self _, wk_mk [0, 1, 2, 3] [] [] rfl ⟨argP (id := 0) (by (conv => lhs; whnf); all_goals rfl) rfl, argP (id := 1) (by (conv => lhs; whnf); all_goals rfl) rfl, argP (id := 2) (by (conv => lhs; whnf); all_goals rfl) rfl, argP (id := 3) (by (conv => lhs; whnf); all_goals rfl) rfl, argE (by (conv => lhs; whnf); all_goals rfl) rfl, trivial⟩ ⟨boxL rfl rfl rfl ⟨(.ni _ rfl), (.ni _ rfl), (.ni _ rfl), (.ni _ rfl), (.ni _ rfl), (.ni _ rfl), (.ni _ rfl), (.ni _ rfl), (.ni _ rfl), (.ni _ rfl), (.ni _ rfl), (.ni _ rfl), (.ni _ rfl), (.ni _ rfl), (.ni _ rfl), (.ni _ rfl), (.ni _ rfl), (.ni _ rfl), (.ni _ rfl), (.ni _ rfl), (.ni _ rfl), (.ni _ rfl), (.ni _ rfl), (.ni _ rfl), (.ni _ rfl), (.ni _ rfl), (.ni _ rfl), (.ni _ rfl), (.ni _ rfl), (.ni _ rfl), trivial⟩, boxL rfl rfl rfl ⟨(.ni _ rfl), (.ni _ rfl), trivial⟩, boxL rfl rfl rfl ⟨(.ni _ rfl), (.ni _ rfl), trivial⟩, boxL rfl rfl rfl ⟨(.ni _ rfl), (.ni _ rfl), trivial⟩, trivial⟩⟩
                          · replace hL1 := cond_f hb_223 hL1
                            conv => whnf
                            refine ⟨_, rfl, ?_⟩
                            conv => whnf
                            exact ⟨(q_77, r_64.2.L, r_64.2.At, i_17, a_18, i_19, a_20, (w64 (i_21 + (1 : Int)))), [0, 1, 2, 3], [], [], hL1, Nat.lt_succ_self _, wk_mk [0, 1, 2, 3] [] [] rfl ⟨argP (id := 0) (by (conv => lhs; whnf); all_goals rfl) rfl, argP (id := 1) (by (conv => lhs; whnf); all_goals rfl) rfl, argP (id := 2) (by (conv => lhs; whnf); all_goals rfl) rfl, argP (id := 3) (by (conv => lhs; whnf); all_goals rfl) rfl, argE (by (conv => lhs; whnf); all_goals rfl) rfl, trivial⟩ ⟨boxL rfl rfl rfl ⟨(.ni _ rfl), (.ni _ rfl), (.ni _ rfl), (.ni _ rfl), (.ni _ rfl), (.ni _ rfl), (.ni _ rfl), (.ni _ rfl), (.ni _ rfl), (.ni _ rfl), (.ni _ rfl), (.ni _ rfl), (.ni _ rfl), (.ni _ rfl), (.ni _ rfl), (.ni _ rfl), (.ni _ rfl), (.ni _ rfl), (.ni _ rfl), (.ni _ rfl), (.ni _ rfl), (.ni _ rfl), (.ni _ rfl), (.ni _ rfl), (.ni _ rfl), (.ni _ rfl), (.ni _ rfl), (.ni _ rfl), (.ni _ rfl), (.ni _ rfl), trivial⟩, boxL rfl rfl rfl ⟨(.ni _ rfl), (.ni _ rfl), trivial⟩, boxL rfl rfl rfl ⟨(.ni _ rfl), (.ni _ rfl), trivial⟩, boxL rfl rfl rfl ⟨(.ni _ rfl), (.ni _ rfl), trivial⟩, trivial⟩⟩
                      · replace hL1 := cond_t hb_221 hL1
                        conv => whnf
                        obtain rfl := Option.some.inj hL1
                        replace hF := fin_ret hF
                        obtain rfl := Option.some.inj hF
                        exact ret_gz [] [] [] rfl (argFl (by (conv => lhs; whnf); all_goals rfl)) trivial
                    · replace hL1 := cond_t hb_220 hL1
                      conv => whnf
                      obtain rfl := Option.some.inj hL1
                      replace hF := fin_ret hF
                      obtain rfl := Option.some.inj hF
                      exact ret_gz [] [] [] rfl (argFl (by (conv => lhs; whnf); all_goals rfl)) trivial
                  · replace hL1 := cond_t hb_219 hL1
                    conv => whnf
                    obtain rfl := Option.some.inj hL1
                    replace hF := fin_ret hF
                    obtain rfl := Option.some.inj hF
                    exact ret_gz [] [] [] rfl (argFl (by (conv => lhs; whnf); all_goals rfl)) trivial
            · replace hL1 := cond_f hb_200 hL1
              conv => whnf
              obtain rfl := Option.some.inj hL1
              replace hF := fin_brk hF
              try dsimp only at hF
              obtain ⟨r_79, h_r_79, hF⟩ := bind_some hF
              refine ⟨_, _, _, _, _, _, _, _, _, callX false [] [] 0 Try.func17 (by decide) rfl (law05_awake_ac r_79 h_r_79) rfl trivial rfl trivial rfl rfl rfl lend0 trivial rfl, ?_⟩
              conv => whnf
              obtain rfl := Option.some.inj hF
              exact ret_gz [] [] [] rfl (argE (by (conv => lhs; whnf); all_goals rfl) rfl) trivial
          · replace hL1 := cond_t hb_176 hL1
            conv => whnf
            obtain ⟨r_22, h_r_22, hL1⟩ := bind_some hL1
            refine ⟨_, _, _, _, _, _, _, _, _, callX false [1] [] 0 Try.func18 (by decide) rfl (keep_Src_Message_ac (⟨a_15, i_16⟩ : Src) (0 : Int) r_22 h_r_22) rfl ⟨(argP (id := 1) (by (conv => lhs; whnf); all_goals rfl) rfl), (argE (by (conv => lhs; whnf); all_goals rfl) rfl), trivial⟩ rfl ⟨rfl, trivial⟩ rfl rfl rfl lend0 ⟨rfl, trivial⟩ rfl, ?_⟩
            conv => whnf
            refine ⟨fun hb_177 => ?_, fun hb_177 => ?_⟩
            · replace hL1 := cond_t hb_177 hL1
              conv => whnf
              obtain ⟨r_23, h_r_23, hL1⟩ := bind_some hL1
              refine ⟨_, _, _, _, _, _, _, _, _, callX false [1] [] 0 Try.func23 (by decide) rfl (keep_Src_N_ac r_22.2 (6 : Int) r_23 h_r_23) rfl ⟨(argP (id := 1) (by (conv => lhs; whnf); all_goals rfl) rfl), (argE (by (conv => lhs; whnf); all_goals rfl) rfl), trivial⟩ rfl ⟨rfl, trivial⟩ rfl rfl rfl lend0 ⟨rfl, trivial⟩ rfl, ?_⟩
              conv => whnf
              refine ⟨fun hb_178 => ?_, fun hb_178 => ?_⟩
              · replace hL1 := cond_t hb_178 hL1
                conv => whnf
                obtain ⟨r_24, h_r_24, hL1⟩ := bind_some hL1
                refine ⟨_, _, _, _, _, _, _, _, _, callX true [1] [7] 0 Try.func24 (by decide) rfl (keep_Src_Text_ac r_23.2 ([(⟨#[65, 82, 78]⟩ : ByteArray), (⟨#[67, 80, 72]⟩ : ByteArray), (⟨#[79, 83, 76]⟩ : ByteArray)] : List ByteArray) r_24 h_r_24) rfl ⟨(argP (id := 1) (by (conv => lhs; whnf); all_goals rfl) rfl), (argOL 7 (by (conv => lhs; whnf); all_goals rfl) rfl rfl (map_ni (fun _ => ⟨rfl, rfl⟩) _)), trivial⟩ rfl ⟨rfl, trivial⟩ rfl rfl rfl giveU ⟨rfl, trivial⟩ rfl, ?_⟩
                conv => whnf
                obtain ⟨r_25, h_r_25, hL1⟩ := bind_some hL1
                refine ⟨_, _, _, _, _, _, _, _, _, callX false [] [] 0 Try.func16 (by decide) rfl (inbox_Missing_ac (⟨i_17, a_18⟩ : Inbox) r_24.1 r_25 h_r_25) rfl ⟨(argE (by (conv => lhs; whnf); all_goals rfl) rfl), (argE (by (conv => lhs; whnf); all_goals rfl) rfl), trivial⟩ rfl trivial rfl rfl rfl lend0 trivial rfl, ?_⟩
                conv => whnf
                obtain ⟨r_26, h_r_26, hL1⟩ := bind_some hL1
                refine ⟨_, _, _, _, _, _, _, _, _, callX false [] [] 0 Try.func25 (by decide) rfl (ref05_Missing_ac (⟨i_19, a_20⟩ : Inbox) r_24.1 r_26 h_r_26) rfl ⟨(argE (by (conv => lhs; whnf); all_goals rfl) rfl), (argE (by (conv => lhs; whnf); all_goals rfl) rfl), trivial⟩ rfl trivial rfl rfl rfl lend0 trivial rfl, ?_⟩
                conv => whnf
                obtain ⟨r_27, h_r_27, hL1⟩ := bind_some hL1
                refine ⟨_, _, _, _, _, _, _, _, _, callX false [] [] 0 Try.func20 (by decide) rfl (keep_Ints_ac r_25 r_26 r_27 h_r_27) rfl ⟨(argE (by (conv => lhs; whnf); all_goals rfl) rfl), (argE (by (conv => lhs; whnf); all_goals rfl) rfl), trivial⟩ rfl trivial rfl rfl rfl lend0 trivial rfl, ?_⟩
                conv => whnf
                refine ⟨by kernel_rfl, ?_⟩
                conv => whnf
                refine ⟨fun hb_179 => ?_, fun hb_179 => ?_⟩
                · replace hL1 := cond_t hb_179 hL1
                  conv => whnf
                  obtain rfl := Option.some.inj hL1
                  replace hF := fin_ret hF
                  obtain rfl := Option.some.inj hF
                  exact ret_gz [] [] [] rfl (argFl (by (conv => lhs; whnf); all_goals rfl)) trivial
                · replace hL1 := cond_f hb_179 hL1
                  conv => whnf
                  obtain ⟨r_28, h_r_28, hL1⟩ := bind_some hL1
                  refine ⟨_, _, _, _, _, _, _, _, _, callX false [] [] 0 Try.func26 (by decide) rfl (inbox_Skip_ac (⟨i_17, a_18⟩ : Inbox) r_24.1 r_28 h_r_28) rfl ⟨(argE (by (conv => lhs; whnf); all_goals rfl) rfl), (argE (by (conv => lhs; whnf); all_goals rfl) rfl), trivial⟩ rfl trivial rfl rfl rfl lend0 trivial rfl, ?_⟩
                  conv => whnf
                  obtain ⟨r_29, h_r_29, hL1⟩ := bind_some hL1
                  refine ⟨_, _, _, _, _, _, _, _, _, callX false [] [] 0 Try.func27 (by decide) rfl (ref05_Skip_ac (⟨i_19, a_20⟩ : Inbox) r_24.1 r_29 h_r_29) rfl ⟨(argE (by (conv => lhs; whnf); all_goals rfl) rfl), (argE (by (conv => lhs; whnf); all_goals rfl) rfl), trivial⟩ rfl trivial rfl rfl rfl lend0 trivial rfl, ?_⟩
                  conv => whnf
                  refine ⟨fun hb_180 => ?_, fun hb_180 => ?_⟩
                  · replace hL1 := cond_f hb_180 hL1
                    conv => whnf
                    obtain ⟨r_30, h_r_30, hL1⟩ := bind_some hL1
                    refine ⟨_, _, _, _, _, _, _, _, _, callX false [] [] 0 Try.func21 (by decide) rfl (ref05_Same_ac r_28.1 r_29.1 r_30 h_r_30) rfl ⟨(argE (by (conv => lhs; whnf); all_goals rfl) rfl), (argE (by (conv => lhs; whnf); all_goals rfl) rfl), trivial⟩ rfl trivial rfl rfl rfl lend0 trivial rfl, ?_⟩
                    conv => whnf
                    refine ⟨fun hb_181 => ?_, fun hb_181 => ?_⟩
                    · replace hL1 := cond_f hb_181 hL1
                      conv => whnf
                      obtain ⟨r_31, h_r_31, hL1⟩ := bind_some hL1
                      refine ⟨_, _, _, _, _, _, _, _, _, callX false [] [] 0 Try.func19 (by decide) rfl (ref05_SameList_ac r_28.2.1 r_29.2.1 r_31 h_r_31) rfl ⟨(argE (by (conv => lhs; whnf); all_goals rfl) rfl), (argE (by (conv => lhs; whnf); all_goals rfl) rfl), trivial⟩ rfl trivial rfl rfl rfl lend0 trivial rfl, ?_⟩
                      conv => whnf
                      refine ⟨fun hb_182 => ?_, fun hb_182 => ?_⟩
                      · replace hL1 := cond_t hb_182 hL1
                        conv => whnf
                        obtain rfl := Option.some.inj hL1
                        replace hF := fin_ret hF
                        obtain rfl := Option.some.inj hF
                        exact ret_gz [] [] [] rfl (argFl (by (conv => lhs; whnf); all_goals rfl)) trivial
                      · replace hL1 := cond_f hb_182 hL1
                        conv => whnf
                        refine ⟨fun hb_183 => ?_, fun hb_183 => ?_⟩
                        · replace hL1 := cond_t hb_183 hL1
                          conv => whnf
                          refine ⟨by kernel_rfl, ?_⟩
                          conv => whnf
                          refine ⟨_, rfl, ?_⟩
                          conv => whnf
                          exact ⟨(q_77, r_24.2.L, r_24.2.At, r_28.1.Window, r_28.1.L, r_29.1.Window, r_29.1.L, (w64 (i_21 + (1 : Int)))), [0, 1, 2, 3], [], [], hL1, Nat.lt_succ_self _, wk_mk [0, 1, 2, 3] [] [] rfl ⟨argP (id := 0) (by (conv => lhs; whnf); all_goals rfl) rfl, argP (id := 1) (by (conv => lhs; whnf); all_goals rfl) rfl, argP (id := 2) (by (conv => lhs; whnf); all_goals rfl) rfl, argP (id := 3) (by (conv => lhs; whnf); all_goals rfl) rfl, argE (by (conv => lhs; whnf); all_goals rfl) rfl, trivial⟩ ⟨boxL rfl rfl rfl ⟨(.ni _ rfl), (.ni _ rfl), (.ni _ rfl), (.ni _ rfl), (.ni _ rfl), (.ni _ rfl), (.ni _ rfl), (.ni _ rfl), (.ni _ rfl), (.ni _ rfl), (.ni _ rfl), (.ni _ rfl), (.ni _ rfl), (.ni _ rfl), (.ni _ rfl), (.ni _ rfl), (.ni _ rfl), (.ni _ rfl), (.ni _ rfl), (.ni _ rfl), (.ni _ rfl), (.ni _ rfl), (.ni _ rfl), (.ni _ rfl), (.ni _ rfl), (.ni _ rfl), (.ni _ rfl), (.ni _ rfl), (.ni _ rfl), (.ni _ rfl), trivial⟩, boxL rfl rfl rfl ⟨(.ni _ rfl), (.ni _ rfl), trivial⟩, boxL rfl rfl rfl ⟨(.ni _ rfl), (.ni _ rfl), trivial⟩, boxL rfl rfl rfl ⟨(.ni _ rfl), (.ni _ rfl), trivial⟩, trivial⟩⟩
                        · replace hL1 := cond_f hb_183 hL1
                          conv => whnf
                          refine ⟨_, rfl, ?_⟩
                          conv => whnf
                          exact ⟨(q_77, r_24.2.L, r_24.2.At, i_17, a_18, i_19, a_20, (w64 (i_21 + (1 : Int)))), [0, 1, 2, 3], [], [], hL1, Nat.lt_succ_self _, wk_mk [0, 1, 2, 3] [] [] rfl ⟨argP (id := 0) (by (conv => lhs; whnf); all_goals rfl) rfl, argP (id := 1) (by (conv => lhs; whnf); all_goals rfl) rfl, argP (id := 2) (by (conv => lhs; whnf); all_goals rfl) rfl, argP (id := 3) (by (conv => lhs; whnf); all_goals rfl) rfl, argE (by (conv => lhs; whnf); all_goals rfl) rfl, trivial⟩ ⟨boxL rfl rfl rfl ⟨(.ni _ rfl), (.ni _ rfl), (.ni _ rfl), (.ni _ rfl), (.ni _ rfl), (.ni _ rfl), (.ni _ rfl), (.ni _ rfl), (.ni _ rfl), (.ni _ rfl), (.ni _ rfl), (.ni _ rfl), (.ni _ rfl), (.ni _ rfl), (.ni _ rfl), (.ni _ rfl), (.ni _ rfl), (.ni _ rfl), (.ni _ rfl), (.ni _ rfl), (.ni _ rfl), (.ni _ rfl), (.ni _ rfl), (.ni _ rfl), (.ni _ rfl), (.ni _ rfl), (.ni _ rfl), (.ni _ rfl), (.ni _ rfl), (.ni _ rfl), trivial⟩, boxL rfl rfl rfl ⟨(.ni _ rfl), (.ni _ rfl), trivial⟩, boxL rfl rfl rfl ⟨(.ni _ rfl), (.ni _ rfl), trivial⟩, boxL rfl rfl rfl ⟨(.ni _ rfl), (.ni _ rfl), trivial⟩, trivial⟩⟩
                    · replace hL1 := cond_t hb_181 hL1
                      conv => whnf
                      obtain rfl := Option.some.inj hL1
                      replace hF := fin_ret hF
                      obtain rfl := Option.some.inj hF
                      exact ret_gz [] [] [] rfl (argFl (by (conv => lhs; whnf); all_goals rfl)) trivial
                  · replace hL1 := cond_t hb_180 hL1
                    conv => whnf
                    obtain rfl := Option.some.inj hL1
                    replace hF := fin_ret hF
                    obtain rfl := Option.some.inj hF
                    exact ret_gz [] [] [] rfl (argFl (by (conv => lhs; whnf); all_goals rfl)) trivial
              · replace hL1 := cond_f hb_178 hL1
                conv => whnf
                obtain ⟨r_32, h_r_32, hL1⟩ := bind_some hL1
                refine ⟨_, _, _, _, _, _, _, _, _, callX false [] [] 0 Try.func13 (by decide) rfl (inbox_Receive_ac (⟨i_17, a_18⟩ : Inbox) x_2 r_32 h_r_32) rfl ⟨(argE (by (conv => lhs; whnf); all_goals rfl) rfl), (argE (by (conv => lhs; whnf); all_goals rfl) rfl), trivial⟩ rfl trivial rfl rfl rfl lend0 trivial rfl, ?_⟩
                conv => whnf
                obtain ⟨r_33, h_r_33, hL1⟩ := bind_some hL1
                refine ⟨_, _, _, _, _, _, _, _, _, callX false [] [] 0 Try.func28 (by decide) rfl (ref05_Receive_ac (⟨i_19, a_20⟩ : Inbox) x_2 r_33 h_r_33) rfl ⟨(argE (by (conv => lhs; whnf); all_goals rfl) rfl), (argE (by (conv => lhs; whnf); all_goals rfl) rfl), trivial⟩ rfl trivial rfl rfl rfl lend0 trivial rfl, ?_⟩
                conv => whnf
                refine ⟨fun hb_184 => ?_, fun hb_184 => ?_⟩
                · replace hL1 := cond_f hb_184 hL1
                  conv => whnf
                  refine ⟨fun hb_185 => ?_, fun hb_185 => ?_⟩
                  · replace hL1 := cond_f hb_185 hL1
                    conv => whnf
                    obtain ⟨r_34, h_r_34, hL1⟩ := bind_some hL1
                    refine ⟨_, _, _, _, _, _, _, _, _, callX false [] [] 0 Try.func21 (by decide) rfl (ref05_Same_ac r_32.1 r_33.1 r_34 h_r_34) rfl ⟨(argE (by (conv => lhs; whnf); all_goals rfl) rfl), (argE (by (conv => lhs; whnf); all_goals rfl) rfl), trivial⟩ rfl trivial rfl rfl rfl lend0 trivial rfl, ?_⟩
                    conv => whnf
                    refine ⟨fun hb_186 => ?_, fun hb_186 => ?_⟩
                    · replace hL1 := cond_f hb_186 hL1
                      conv => whnf
                      obtain ⟨r_35, h_r_35, hL1⟩ := bind_some hL1
                      refine ⟨_, _, _, _, _, _, _, _, _, callX false [] [] 0 Try.func19 (by decide) rfl (ref05_SameList_ac r_32.2.1 r_33.2.1 r_35 h_r_35) rfl ⟨(argE (by (conv => lhs; whnf); all_goals rfl) rfl), (argE (by (conv => lhs; whnf); all_goals rfl) rfl), trivial⟩ rfl trivial rfl rfl rfl lend0 trivial rfl, ?_⟩
                      conv => whnf
                      refine ⟨fun hb_187 => ?_, fun hb_187 => ?_⟩
                      · replace hL1 := cond_t hb_187 hL1
                        conv => whnf
                        obtain rfl := Option.some.inj hL1
                        replace hF := fin_ret hF
                        obtain rfl := Option.some.inj hF
                        exact ret_gz [] [] [] rfl (argFl (by (conv => lhs; whnf); all_goals rfl)) trivial
                      · replace hL1 := cond_f hb_187 hL1
                        conv => whnf
                        refine ⟨fun hb_188 => ?_, fun hb_188 => ?_⟩
                        · replace hL1 := cond_t hb_188 hL1
                          conv => whnf
                          refine ⟨by kernel_rfl, ?_⟩
                          conv => whnf
                          refine ⟨_, rfl, ?_⟩
                          conv => whnf
                          exact ⟨(q_77, r_23.2.L, r_23.2.At, r_32.1.Window, r_32.1.L, r_33.1.Window, r_33.1.L, (w64 (i_21 + (1 : Int)))), [0, 1, 2, 3], [], [], hL1, Nat.lt_succ_self _, wk_mk [0, 1, 2, 3] [] [] rfl ⟨argP (id := 0) (by (conv => lhs; whnf); all_goals rfl) rfl, argP (id := 1) (by (conv => lhs; whnf); all_goals rfl) rfl, argP (id := 2) (by (conv => lhs; whnf); all_goals rfl) rfl, argP (id := 3) (by (conv => lhs; whnf); all_goals rfl) rfl, argE (by (conv => lhs; whnf); all_goals rfl) rfl, trivial⟩ ⟨boxL rfl rfl rfl ⟨(.ni _ rfl), (.ni _ rfl), (.ni _ rfl), (.ni _ rfl), (.ni _ rfl), (.ni _ rfl), (.ni _ rfl), (.ni _ rfl), (.ni _ rfl), (.ni _ rfl), (.ni _ rfl), (.ni _ rfl), (.ni _ rfl), (.ni _ rfl), (.ni _ rfl), (.ni _ rfl), (.ni _ rfl), (.ni _ rfl), (.ni _ rfl), (.ni _ rfl), (.ni _ rfl), (.ni _ rfl), (.ni _ rfl), (.ni _ rfl), (.ni _ rfl), (.ni _ rfl), (.ni _ rfl), (.ni _ rfl), (.ni _ rfl), (.ni _ rfl), trivial⟩, boxL rfl rfl rfl ⟨(.ni _ rfl), (.ni _ rfl), trivial⟩, boxL rfl rfl rfl ⟨(.ni _ rfl), (.ni _ rfl), trivial⟩, boxL rfl rfl rfl ⟨(.ni _ rfl), (.ni _ rfl), trivial⟩, trivial⟩⟩
                        · replace hL1 := cond_f hb_188 hL1
                          conv => whnf
                          refine ⟨_, rfl, ?_⟩
                          conv => whnf
                          exact ⟨(q_77, r_23.2.L, r_23.2.At, i_17, a_18, i_19, a_20, (w64 (i_21 + (1 : Int)))), [0, 1, 2, 3], [], [], hL1, Nat.lt_succ_self _, wk_mk [0, 1, 2, 3] [] [] rfl ⟨argP (id := 0) (by (conv => lhs; whnf); all_goals rfl) rfl, argP (id := 1) (by (conv => lhs; whnf); all_goals rfl) rfl, argP (id := 2) (by (conv => lhs; whnf); all_goals rfl) rfl, argP (id := 3) (by (conv => lhs; whnf); all_goals rfl) rfl, argE (by (conv => lhs; whnf); all_goals rfl) rfl, trivial⟩ ⟨boxL rfl rfl rfl ⟨(.ni _ rfl), (.ni _ rfl), (.ni _ rfl), (.ni _ rfl), (.ni _ rfl), (.ni _ rfl), (.ni _ rfl), (.ni _ rfl), (.ni _ rfl), (.ni _ rfl), (.ni _ rfl), (.ni _ rfl), (.ni _ rfl), (.ni _ rfl), (.ni _ rfl), (.ni _ rfl), (.ni _ rfl), (.ni _ rfl), (.ni _ rfl), (.ni _ rfl), (.ni _ rfl), (.ni _ rfl), (.ni _ rfl), (.ni _ rfl), (.ni _ rfl), (.ni _ rfl), (.ni _ rfl), (.ni _ rfl), (.ni _ rfl), (.ni _ rfl), trivial⟩, boxL rfl rfl rfl ⟨(.ni _ rfl), (.ni _ rfl), trivial⟩, boxL rfl rfl rfl ⟨(.ni _ rfl), (.ni _ rfl), trivial⟩, boxL rfl rfl rfl ⟨(.ni _ rfl), (.ni _ rfl), trivial⟩, trivial⟩⟩
                    · replace hL1 := cond_t hb_186 hL1
                      conv => whnf
                      obtain rfl := Option.some.inj hL1
                      replace hF := fin_ret hF
                      obtain rfl := Option.some.inj hF
                      exact ret_gz [] [] [] rfl (argFl (by (conv => lhs; whnf); all_goals rfl)) trivial
                  · replace hL1 := cond_t hb_185 hL1
                    conv => whnf
                    obtain rfl := Option.some.inj hL1
                    replace hF := fin_ret hF
                    obtain rfl := Option.some.inj hF
                    exact ret_gz [] [] [] rfl (argFl (by (conv => lhs; whnf); all_goals rfl)) trivial
                · replace hL1 := cond_t hb_184 hL1
                  conv => whnf
                  obtain rfl := Option.some.inj hL1
                  replace hF := fin_ret hF
                  obtain rfl := Option.some.inj hF
                  exact ret_gz [] [] [] rfl (argFl (by (conv => lhs; whnf); all_goals rfl)) trivial
            · replace hL1 := cond_f hb_177 hL1
              conv => whnf
              obtain ⟨r_36, h_r_36, hL1⟩ := bind_some hL1
              refine ⟨_, _, _, _, _, _, _, _, _, callX false [1] [] 0 Try.func23 (by decide) rfl (keep_Src_N_ac r_22.2 (6 : Int) r_36 h_r_36) rfl ⟨(argP (id := 1) (by (conv => lhs; whnf); all_goals rfl) rfl), (argE (by (conv => lhs; whnf); all_goals rfl) rfl), trivial⟩ rfl ⟨rfl, trivial⟩ rfl rfl rfl lend0 ⟨rfl, trivial⟩ rfl, ?_⟩
              conv => whnf
              refine ⟨fun hb_189 => ?_, fun hb_189 => ?_⟩
              · replace hL1 := cond_t hb_189 hL1
                conv => whnf
                obtain ⟨r_37, h_r_37, hL1⟩ := bind_some hL1
                refine ⟨_, _, _, _, _, _, _, _, _, callX true [1] [7] 0 Try.func24 (by decide) rfl (keep_Src_Text_ac r_36.2 ([(⟨#[65, 82, 78]⟩ : ByteArray), (⟨#[67, 80, 72]⟩ : ByteArray), (⟨#[79, 83, 76]⟩ : ByteArray)] : List ByteArray) r_37 h_r_37) rfl ⟨(argP (id := 1) (by (conv => lhs; whnf); all_goals rfl) rfl), (argOL 7 (by (conv => lhs; whnf); all_goals rfl) rfl rfl (map_ni (fun _ => ⟨rfl, rfl⟩) _)), trivial⟩ rfl ⟨rfl, trivial⟩ rfl rfl rfl giveU ⟨rfl, trivial⟩ rfl, ?_⟩
                conv => whnf
                obtain ⟨r_38, h_r_38, hL1⟩ := bind_some hL1
                refine ⟨_, _, _, _, _, _, _, _, _, callX false [] [] 0 Try.func16 (by decide) rfl (inbox_Missing_ac (⟨i_17, a_18⟩ : Inbox) r_37.1 r_38 h_r_38) rfl ⟨(argE (by (conv => lhs; whnf); all_goals rfl) rfl), (argE (by (conv => lhs; whnf); all_goals rfl) rfl), trivial⟩ rfl trivial rfl rfl rfl lend0 trivial rfl, ?_⟩
                conv => whnf
                obtain ⟨r_39, h_r_39, hL1⟩ := bind_some hL1
                refine ⟨_, _, _, _, _, _, _, _, _, callX false [] [] 0 Try.func25 (by decide) rfl (ref05_Missing_ac (⟨i_19, a_20⟩ : Inbox) r_37.1 r_39 h_r_39) rfl ⟨(argE (by (conv => lhs; whnf); all_goals rfl) rfl), (argE (by (conv => lhs; whnf); all_goals rfl) rfl), trivial⟩ rfl trivial rfl rfl rfl lend0 trivial rfl, ?_⟩
                conv => whnf
                obtain ⟨r_40, h_r_40, hL1⟩ := bind_some hL1
                refine ⟨_, _, _, _, _, _, _, _, _, callX false [] [] 0 Try.func20 (by decide) rfl (keep_Ints_ac r_38 r_39 r_40 h_r_40) rfl ⟨(argE (by (conv => lhs; whnf); all_goals rfl) rfl), (argE (by (conv => lhs; whnf); all_goals rfl) rfl), trivial⟩ rfl trivial rfl rfl rfl lend0 trivial rfl, ?_⟩
                conv => whnf
                refine ⟨by kernel_rfl, ?_⟩
                conv => whnf
                refine ⟨fun hb_190 => ?_, fun hb_190 => ?_⟩
                · replace hL1 := cond_t hb_190 hL1
                  conv => whnf
                  obtain rfl := Option.some.inj hL1
                  replace hF := fin_ret hF
                  obtain rfl := Option.some.inj hF
                  exact ret_gz [] [] [] rfl (argFl (by (conv => lhs; whnf); all_goals rfl)) trivial
                · replace hL1 := cond_f hb_190 hL1
                  conv => whnf
                  obtain ⟨r_41, h_r_41, hL1⟩ := bind_some hL1
                  refine ⟨_, _, _, _, _, _, _, _, _, callX false [] [] 0 Try.func26 (by decide) rfl (inbox_Skip_ac (⟨i_17, a_18⟩ : Inbox) r_37.1 r_41 h_r_41) rfl ⟨(argE (by (conv => lhs; whnf); all_goals rfl) rfl), (argE (by (conv => lhs; whnf); all_goals rfl) rfl), trivial⟩ rfl trivial rfl rfl rfl lend0 trivial rfl, ?_⟩
                  conv => whnf
                  obtain ⟨r_42, h_r_42, hL1⟩ := bind_some hL1
                  refine ⟨_, _, _, _, _, _, _, _, _, callX false [] [] 0 Try.func27 (by decide) rfl (ref05_Skip_ac (⟨i_19, a_20⟩ : Inbox) r_37.1 r_42 h_r_42) rfl ⟨(argE (by (conv => lhs; whnf); all_goals rfl) rfl), (argE (by (conv => lhs; whnf); all_goals rfl) rfl), trivial⟩ rfl trivial rfl rfl rfl lend0 trivial rfl, ?_⟩
                  conv => whnf
                  refine ⟨fun hb_191 => ?_, fun hb_191 => ?_⟩
                  · replace hL1 := cond_f hb_191 hL1
                    conv => whnf
                    obtain ⟨r_43, h_r_43, hL1⟩ := bind_some hL1
                    refine ⟨_, _, _, _, _, _, _, _, _, callX false [] [] 0 Try.func21 (by decide) rfl (ref05_Same_ac r_41.1 r_42.1 r_43 h_r_43) rfl ⟨(argE (by (conv => lhs; whnf); all_goals rfl) rfl), (argE (by (conv => lhs; whnf); all_goals rfl) rfl), trivial⟩ rfl trivial rfl rfl rfl lend0 trivial rfl, ?_⟩
                    conv => whnf
                    refine ⟨fun hb_192 => ?_, fun hb_192 => ?_⟩
                    · replace hL1 := cond_f hb_192 hL1
                      conv => whnf
                      obtain ⟨r_44, h_r_44, hL1⟩ := bind_some hL1
                      refine ⟨_, _, _, _, _, _, _, _, _, callX false [] [] 0 Try.func19 (by decide) rfl (ref05_SameList_ac r_41.2.1 r_42.2.1 r_44 h_r_44) rfl ⟨(argE (by (conv => lhs; whnf); all_goals rfl) rfl), (argE (by (conv => lhs; whnf); all_goals rfl) rfl), trivial⟩ rfl trivial rfl rfl rfl lend0 trivial rfl, ?_⟩
                      conv => whnf
                      refine ⟨fun hb_193 => ?_, fun hb_193 => ?_⟩
                      · replace hL1 := cond_t hb_193 hL1
                        conv => whnf
                        obtain rfl := Option.some.inj hL1
                        replace hF := fin_ret hF
                        obtain rfl := Option.some.inj hF
                        exact ret_gz [] [] [] rfl (argFl (by (conv => lhs; whnf); all_goals rfl)) trivial
                      · replace hL1 := cond_f hb_193 hL1
                        conv => whnf
                        refine ⟨fun hb_194 => ?_, fun hb_194 => ?_⟩
                        · replace hL1 := cond_t hb_194 hL1
                          conv => whnf
                          refine ⟨by kernel_rfl, ?_⟩
                          conv => whnf
                          refine ⟨_, rfl, ?_⟩
                          conv => whnf
                          exact ⟨(q_77, r_37.2.L, r_37.2.At, r_41.1.Window, r_41.1.L, r_42.1.Window, r_42.1.L, (w64 (i_21 + (1 : Int)))), [0, 1, 2, 3], [], [], hL1, Nat.lt_succ_self _, wk_mk [0, 1, 2, 3] [] [] rfl ⟨argP (id := 0) (by (conv => lhs; whnf); all_goals rfl) rfl, argP (id := 1) (by (conv => lhs; whnf); all_goals rfl) rfl, argP (id := 2) (by (conv => lhs; whnf); all_goals rfl) rfl, argP (id := 3) (by (conv => lhs; whnf); all_goals rfl) rfl, argE (by (conv => lhs; whnf); all_goals rfl) rfl, trivial⟩ ⟨boxL rfl rfl rfl ⟨(.ni _ rfl), (.ni _ rfl), (.ni _ rfl), (.ni _ rfl), (.ni _ rfl), (.ni _ rfl), (.ni _ rfl), (.ni _ rfl), (.ni _ rfl), (.ni _ rfl), (.ni _ rfl), (.ni _ rfl), (.ni _ rfl), (.ni _ rfl), (.ni _ rfl), (.ni _ rfl), (.ni _ rfl), (.ni _ rfl), (.ni _ rfl), (.ni _ rfl), (.ni _ rfl), (.ni _ rfl), (.ni _ rfl), (.ni _ rfl), (.ni _ rfl), (.ni _ rfl), (.ni _ rfl), (.ni _ rfl), (.ni _ rfl), (.ni _ rfl), trivial⟩, boxL rfl rfl rfl ⟨(.ni _ rfl), (.ni _ rfl), trivial⟩, boxL rfl rfl rfl ⟨(.ni _ rfl), (.ni _ rfl), trivial⟩, boxL rfl rfl rfl ⟨(.ni _ rfl), (.ni _ rfl), trivial⟩, trivial⟩⟩
                        · replace hL1 := cond_f hb_194 hL1
                          conv => whnf
                          refine ⟨_, rfl, ?_⟩
                          conv => whnf
                          exact ⟨(q_77, r_37.2.L, r_37.2.At, i_17, a_18, i_19, a_20, (w64 (i_21 + (1 : Int)))), [0, 1, 2, 3], [], [], hL1, Nat.lt_succ_self _, wk_mk [0, 1, 2, 3] [] [] rfl ⟨argP (id := 0) (by (conv => lhs; whnf); all_goals rfl) rfl, argP (id := 1) (by (conv => lhs; whnf); all_goals rfl) rfl, argP (id := 2) (by (conv => lhs; whnf); all_goals rfl) rfl, argP (id := 3) (by (conv => lhs; whnf); all_goals rfl) rfl, argE (by (conv => lhs; whnf); all_goals rfl) rfl, trivial⟩ ⟨boxL rfl rfl rfl ⟨(.ni _ rfl), (.ni _ rfl), (.ni _ rfl), (.ni _ rfl), (.ni _ rfl), (.ni _ rfl), (.ni _ rfl), (.ni _ rfl), (.ni _ rfl), (.ni _ rfl), (.ni _ rfl), (.ni _ rfl), (.ni _ rfl), (.ni _ rfl), (.ni _ rfl), (.ni _ rfl), (.ni _ rfl), (.ni _ rfl), (.ni _ rfl), (.ni _ rfl), (.ni _ rfl), (.ni _ rfl), (.ni _ rfl), (.ni _ rfl), (.ni _ rfl), (.ni _ rfl), (.ni _ rfl), (.ni _ rfl), (.ni _ rfl), (.ni _ rfl), trivial⟩, boxL rfl rfl rfl ⟨(.ni _ rfl), (.ni _ rfl), trivial⟩, boxL rfl rfl rfl ⟨(.ni _ rfl), (.ni _ rfl), trivial⟩, boxL rfl rfl rfl ⟨(.ni _ rfl), (.ni _ rfl), trivial⟩, trivial⟩⟩
                    · replace hL1 := cond_t hb_192 hL1
                      conv => whnf
                      obtain rfl := Option.some.inj hL1
                      replace hF := fin_ret hF
                      obtain rfl := Option.some.inj hF
                      exact ret_gz [] [] [] rfl (argFl (by (conv => lhs; whnf); all_goals rfl)) trivial
                  · replace hL1 := cond_t hb_191 hL1
                    conv => whnf
                    obtain rfl := Option.some.inj hL1
                    replace hF := fin_ret hF
                    obtain rfl := Option.some.inj hF
                    exact ret_gz [] [] [] rfl (argFl (by (conv => lhs; whnf); all_goals rfl)) trivial
              · replace hL1 := cond_f hb_189 hL1
                conv => whnf
                obtain ⟨r_45, h_r_45, hL1⟩ := bind_some hL1
                refine ⟨_, _, _, _, _, _, _, _, _, callX false [] [] 0 Try.func13 (by decide) rfl (inbox_Receive_ac (⟨i_17, a_18⟩ : Inbox) r_22.1 r_45 h_r_45) rfl ⟨(argE (by (conv => lhs; whnf); all_goals rfl) rfl), (argE (by (conv => lhs; whnf); all_goals rfl) rfl), trivial⟩ rfl trivial rfl rfl rfl lend0 trivial rfl, ?_⟩
                conv => whnf
                obtain ⟨r_46, h_r_46, hL1⟩ := bind_some hL1
                refine ⟨_, _, _, _, _, _, _, _, _, callX false [] [] 0 Try.func28 (by decide) rfl (ref05_Receive_ac (⟨i_19, a_20⟩ : Inbox) r_22.1 r_46 h_r_46) rfl ⟨(argE (by (conv => lhs; whnf); all_goals rfl) rfl), (argE (by (conv => lhs; whnf); all_goals rfl) rfl), trivial⟩ rfl trivial rfl rfl rfl lend0 trivial rfl, ?_⟩
                conv => whnf
                refine ⟨fun hb_195 => ?_, fun hb_195 => ?_⟩
                · replace hL1 := cond_f hb_195 hL1
                  conv => whnf
                  refine ⟨fun hb_196 => ?_, fun hb_196 => ?_⟩
                  · replace hL1 := cond_f hb_196 hL1
                    conv => whnf
                    obtain ⟨r_47, h_r_47, hL1⟩ := bind_some hL1
                    refine ⟨_, _, _, _, _, _, _, _, _, callX false [] [] 0 Try.func21 (by decide) rfl (ref05_Same_ac r_45.1 r_46.1 r_47 h_r_47) rfl ⟨(argE (by (conv => lhs; whnf); all_goals rfl) rfl), (argE (by (conv => lhs; whnf); all_goals rfl) rfl), trivial⟩ rfl trivial rfl rfl rfl lend0 trivial rfl, ?_⟩
                    conv => whnf
                    refine ⟨fun hb_197 => ?_, fun hb_197 => ?_⟩
                    · replace hL1 := cond_f hb_197 hL1
                      conv => whnf
                      obtain ⟨r_48, h_r_48, hL1⟩ := bind_some hL1
                      refine ⟨_, _, _, _, _, _, _, _, _, callX false [] [] 0 Try.func19 (by decide) rfl (ref05_SameList_ac r_45.2.1 r_46.2.1 r_48 h_r_48) rfl ⟨(argE (by (conv => lhs; whnf); all_goals rfl) rfl), (argE (by (conv => lhs; whnf); all_goals rfl) rfl), trivial⟩ rfl trivial rfl rfl rfl lend0 trivial rfl, ?_⟩
                      conv => whnf
                      refine ⟨fun hb_198 => ?_, fun hb_198 => ?_⟩
                      · replace hL1 := cond_t hb_198 hL1
                        conv => whnf
                        obtain rfl := Option.some.inj hL1
                        replace hF := fin_ret hF
                        obtain rfl := Option.some.inj hF
                        exact ret_gz [] [] [] rfl (argFl (by (conv => lhs; whnf); all_goals rfl)) trivial
                      · replace hL1 := cond_f hb_198 hL1
                        conv => whnf
                        refine ⟨fun hb_199 => ?_, fun hb_199 => ?_⟩
                        · replace hL1 := cond_t hb_199 hL1
                          conv => whnf
                          refine ⟨by kernel_rfl, ?_⟩
                          conv => whnf
                          refine ⟨_, rfl, ?_⟩
                          conv => whnf
                          exact ⟨(q_77, r_36.2.L, r_36.2.At, r_45.1.Window, r_45.1.L, r_46.1.Window, r_46.1.L, (w64 (i_21 + (1 : Int)))), [0, 1, 2, 3], [], [], hL1, Nat.lt_succ_self _, wk_mk [0, 1, 2, 3] [] [] rfl ⟨argP (id := 0) (by (conv => lhs; whnf); all_goals rfl) rfl, argP (id := 1) (by (conv => lhs; whnf); all_goals rfl) rfl, argP (id := 2) (by (conv => lhs; whnf); all_goals rfl) rfl, argP (id := 3) (by (conv => lhs; whnf); all_goals rfl) rfl, argE (by (conv => lhs; whnf); all_goals rfl) rfl, trivial⟩ ⟨boxL rfl rfl rfl ⟨(.ni _ rfl), (.ni _ rfl), (.ni _ rfl), (.ni _ rfl), (.ni _ rfl), (.ni _ rfl), (.ni _ rfl), (.ni _ rfl), (.ni _ rfl), (.ni _ rfl), (.ni _ rfl), (.ni _ rfl), (.ni _ rfl), (.ni _ rfl), (.ni _ rfl), (.ni _ rfl), (.ni _ rfl), (.ni _ rfl), (.ni _ rfl), (.ni _ rfl), (.ni _ rfl), (.ni _ rfl), (.ni _ rfl), (.ni _ rfl), (.ni _ rfl), (.ni _ rfl), (.ni _ rfl), (.ni _ rfl), (.ni _ rfl), (.ni _ rfl), trivial⟩, boxL rfl rfl rfl ⟨(.ni _ rfl), (.ni _ rfl), trivial⟩, boxL rfl rfl rfl ⟨(.ni _ rfl), (.ni _ rfl), trivial⟩, boxL rfl rfl rfl ⟨(.ni _ rfl), (.ni _ rfl), trivial⟩, trivial⟩⟩
                        · replace hL1 := cond_f hb_199 hL1
                          conv => whnf
                          refine ⟨_, rfl, ?_⟩
                          conv => whnf
                          exact ⟨(q_77, r_36.2.L, r_36.2.At, i_17, a_18, i_19, a_20, (w64 (i_21 + (1 : Int)))), [0, 1, 2, 3], [], [], hL1, Nat.lt_succ_self _, wk_mk [0, 1, 2, 3] [] [] rfl ⟨argP (id := 0) (by (conv => lhs; whnf); all_goals rfl) rfl, argP (id := 1) (by (conv => lhs; whnf); all_goals rfl) rfl, argP (id := 2) (by (conv => lhs; whnf); all_goals rfl) rfl, argP (id := 3) (by (conv => lhs; whnf); all_goals rfl) rfl, argE (by (conv => lhs; whnf); all_goals rfl) rfl, trivial⟩ ⟨boxL rfl rfl rfl ⟨(.ni _ rfl), (.ni _ rfl), (.ni _ rfl), (.ni _ rfl), (.ni _ rfl), (.ni _ rfl), (.ni _ rfl), (.ni _ rfl), (.ni _ rfl), (.ni _ rfl), (.ni _ rfl), (.ni _ rfl), (.ni _ rfl), (.ni _ rfl), (.ni _ rfl), (.ni _ rfl), (.ni _ rfl), (.ni _ rfl), (.ni _ rfl), (.ni _ rfl), (.ni _ rfl), (.ni _ rfl), (.ni _ rfl), (.ni _ rfl), (.ni _ rfl), (.ni _ rfl), (.ni _ rfl), (.ni _ rfl), (.ni _ rfl), (.ni _ rfl), trivial⟩, boxL rfl rfl rfl ⟨(.ni _ rfl), (.ni _ rfl), trivial⟩, boxL rfl rfl rfl ⟨(.ni _ rfl), (.ni _ rfl), trivial⟩, boxL rfl rfl rfl ⟨(.ni _ rfl), (.ni _ rfl), trivial⟩, trivial⟩⟩
                    · replace hL1 := cond_t hb_197 hL1
                      conv => whnf
                      obtain rfl := Option.some.inj hL1
                      replace hF := fin_ret hF
                      obtain rfl := Option.some.inj hF
                      exact ret_gz [] [] [] rfl (argFl (by (conv => lhs; whnf); all_goals rfl)) trivial
                  · replace hL1 := cond_t hb_196 hL1
                    conv => whnf
                    obtain rfl := Option.some.inj hL1
                    replace hF := fin_ret hF
                    obtain rfl := Option.some.inj hF
                    exact ret_gz [] [] [] rfl (argFl (by (conv => lhs; whnf); all_goals rfl)) trivial
                · replace hL1 := cond_t hb_195 hL1
                  conv => whnf
                  obtain rfl := Option.some.inj hL1
                  replace hF := fin_ret hF
                  obtain rfl := Option.some.inj hF
                  exact ret_gz [] [] [] rfl (argFl (by (conv => lhs; whnf); all_goals rfl)) trivial
        · replace hL1 := cond_f hb_175 hL1
          conv => whnf
          obtain rfl := Option.some.inj hL1
          replace hF := fin_brk hF
          try dsimp only at hF
          obtain ⟨r_79, h_r_79, hF⟩ := bind_some hF
          refine ⟨_, _, _, _, _, _, _, _, _, callX false [] [] 0 Try.func17 (by decide) rfl (law05_awake_ac r_79 h_r_79) rfl trivial rfl trivial rfl rfl rfl lend0 trivial rfl, ?_⟩
          conv => whnf
          obtain rfl := Option.some.inj hF
          exact ret_gz [] [] [] rfl (argE (by (conv => lhs; whnf); all_goals rfl) rfl) trivial
  · replace hF := cond_t hb_171 hF
    conv => whnf
    obtain ⟨r_1, h_r_1, hF⟩ := bind_some hF
    refine ⟨_, _, _, _, _, _, _, _, _, callX false [] [] 0 Try.func17 (by decide) rfl (law05_awake_ac r_1 h_r_1) rfl trivial rfl trivial rfl rfl rfl lend0 trivial rfl, ?_⟩
    conv => whnf
    obtain rfl := Option.some.inj hF
    exact ret_gz [] [] [] rfl (argE (by (conv => lhs; whnf); all_goals rfl) rfl) trivial
end Go.Proofs.Ytpipggnfbgjefaa.Ex
