/- The functions of the program compute what was printed; walks printed by a program. -/
import Derived.Test.YtkliakcegihikaaExF
import Derived.Test.YtkliakcegihikaaExP2
import Derived.Test.YtkliakcegihikaaExP4
namespace Go.Proofs.Ytkliakcegihikaa.Ex
open Go.RowKit Go.Proofs.Ytkliakcegihikaa.Ax
set_option linter.unusedVariables false
set_option linter.unusedSimpArgs false
set_option maxRecDepth 100000 in
set_option maxHeartbeats 40000000 in
theorem law06_RegistryUndone_ac (x_0 : (List Int)) (x_1 : Int) (r : Bool) (hF : law06_RegistryUndone x_0 x_1 = some r) : AC Try.prog 5 [.lst 1 (x_0.map iA), .int .i64 x_1] [] (.bool r) [] := by
  refine ac_of tab_ok follows_ok Try.func5 rfl Try.ntmps5 rfl ?_
  unfold law06_RegistryUndone at hF
  conv => whnf
  obtain ⟨r_1, h_r_1, hF⟩ := bind_some hF
  refine ⟨_, _, _, _, _, _, _, _, callX false [] [] Try.func11 (by decide) rfl (keep_New_ac x_0 r_1 h_r_1) rfl ⟨(argE (by (conv => lhs; whnf); all_goals rfl) rfl), trivial⟩ rfl trivial rfl rfl rfl lend0 ⟨rfl, trivial⟩, ?_⟩
  conv => whnf
  obtain ⟨r_2, h_r_2, hF⟩ := bind_some hF
  refine ⟨_, _, _, _, _, _, _, _, callX false [0] [] Try.func19 (by decide) rfl (law06_built_ac r_1 (15 : Int) r_2 h_r_2) rfl ⟨(argP (id := 0) (by (conv => lhs; whnf); all_goals rfl) rfl), (argE (by (conv => lhs; whnf); all_goals rfl) rfl), trivial⟩ rfl ⟨rfl, trivial⟩ rfl rfl rfl lend0 ⟨rfl, trivial⟩, ?_⟩
  conv => whnf
  obtain ⟨r_3, h_r_3, hF⟩ := bind_some hF
  refine ⟨_, _, _, _, _, _, _, _, callX false [0] [] Try.func23 (by decide) rfl (keep_Src_Range_ac r_2.2 (1 : Int) (2 : Int) r_3 h_r_3) rfl ⟨(argP (id := 0) (by (conv => lhs; whnf); all_goals rfl) rfl), (argE (by (conv => lhs; whnf); all_goals rfl) rfl), (argE (by (conv => lhs; whnf); all_goals rfl) rfl), trivial⟩ rfl ⟨rfl, trivial⟩ rfl rfl rfl lend0 ⟨rfl, trivial⟩, ?_⟩
  conv => whnf
  obtain ⟨r_4, h_r_4, hF⟩ := bind_some hF
  refine ⟨_, _, _, _, _, _, _, _, callX false [0] [] Try.func13 (by decide) rfl (keep_Src_Message_ac r_3.2 r_3.1 r_4 h_r_4) rfl ⟨(argP (id := 0) (by (conv => lhs; whnf); all_goals rfl) rfl), (argE (by (conv => lhs; whnf); all_goals rfl) rfl), trivial⟩ rfl ⟨rfl, trivial⟩ rfl rfl rfl lend0 ⟨rfl, trivial⟩, ?_⟩
  conv => whnf
  obtain ⟨r_5, h_r_5, hF⟩ := bind_some hF
  refine ⟨_, _, _, _, _, _, _, _, callX false [] [] Try.func24 (by decide) rfl (keep_Mod_ac x_1 (5 : Int) r_5 h_r_5) rfl ⟨(argE (by (conv => lhs; whnf); all_goals rfl) rfl), (argE (by (conv => lhs; whnf); all_goals rfl) rfl), trivial⟩ rfl trivial rfl rfl rfl lend0 trivial, ?_⟩
  conv => whnf
  refine ⟨_, rfl, ?_⟩
  conv => whnf
  obtain ⟨r_6, h_r_6, hF⟩ := bind_some hF
  refine ⟨_, _, _, _, _, _, _, _, callX false [] [] Try.func14 (by decide) rfl (registry_Apply_ac r_2.1 (⟨r_4.1.Kind, (0 : Int), r_4.1.Port, r_4.1.Number, r_4.1.In, r_4.1.Out, r_4.1.Onward, r_4.1.First, (w64 ((1 : Int) + r_5)), r_4.1.Load, r_4.1.Status, r_4.1.Sequence, r_4.1.Weight, r_4.1.Surname, r_4.1.Given, r_4.1.Exception, r_4.1.Node, r_4.1.List⟩ : Message) r_6 h_r_6) rfl ⟨(argE (by (conv => lhs; whnf); all_goals rfl) rfl), (argE (by (conv => lhs; whnf); all_goals rfl) rfl), trivial⟩ rfl trivial rfl rfl rfl lend0 trivial, ?_⟩
  conv => whnf
  obtain ⟨r_7, h_r_7, hF⟩ := bind_some hF
  refine ⟨_, _, _, _, _, _, _, _, callX false [] [] Try.func20 (by decide) rfl (ref04_Plates_ac (⟨r_4.1.Kind, (0 : Int), r_4.1.Port, r_4.1.Number, r_4.1.In, r_4.1.Out, r_4.1.Onward, r_4.1.First, (w64 ((1 : Int) + r_5)), r_4.1.Load, r_4.1.Status, r_4.1.Sequence, r_4.1.Weight, r_4.1.Surname, r_4.1.Given, r_4.1.Exception, r_4.1.Node, r_4.1.List⟩ : Message) r_7 h_r_7) rfl ⟨(argE (by (conv => lhs; whnf); all_goals rfl) rfl), trivial⟩ rfl trivial rfl rfl rfl lend0 trivial, ?_⟩
  conv => whnf
  obtain ⟨c_1, hc_1, hF⟩ := fin_some hF
  refine sw_bv 11 (v := .lst 3 (r_7.map encPlate)) (by (conv => lhs; whnf); all_goals rfl) (fun hb => ?_)
  have hbd_k_10 : r_7.length ≤ 9223372036854775807 := bnd_len (enc := encPlate) (hb)
  refine sw_loop tab_ok follows_ok (fun y : Nat × Bool => y.1 ≤ r_7.length ∧ law06_RegistryUndone_L1 r_2 (r_7.drop y.1) y.1 y.2 = some c_1) (fun y => ⟨eL [(6, .ptr 0 0), (7, .ptr 1 0), (8, .ptr 2 0), (9, .int .i64 r_6.2), (10, .bool y.2), (11, .lst 3 (r_7.map encPlate)), (12, .int .i64 (y.1 : Int))], hL [(0, .box [.lst 25 (r_2.1.L.map encBag)]), (1, .box [.int .i64 r_4.1.Kind, .int .i64 (0 : Int), .str r_4.1.Port, .int .i64 r_4.1.Number, .str r_4.1.In.Flight.Carrier, .int .i64 r_4.1.In.Flight.Number, .str r_4.1.In.Flight.Suffix, .int .i64 r_4.1.In.Flight.Day, .str r_4.1.In.Port, .str r_4.1.In.Class, .str r_4.1.Out.Flight.Carrier, .int .i64 r_4.1.Out.Flight.Number, .str r_4.1.Out.Flight.Suffix, .int .i64 r_4.1.Out.Flight.Day, .str r_4.1.Out.Port, .str r_4.1.Out.Class, .lst 6 (r_4.1.Onward.map encLeg), .int .i64 r_4.1.First.Lead, .int .i64 r_4.1.First.Airline, .int .i64 r_4.1.First.Serial, .int .i64 (w64 ((1 : Int) + r_5)), .bool r_4.1.Load, .int .i64 r_4.1.Status, .int .i64 r_4.1.Sequence, .int .i64 r_4.1.Weight, .str r_4.1.Surname, .str r_4.1.Given, .int .i64 r_4.1.Exception, .str r_4.1.Node, .lst 1 (r_4.1.List.map iA)]), (2, .box [.lst 25 (r_6.1.L.map encBag)])], 3⟩) (fun y => r_7.length - y.1) (0, false) ⟨Nat.zero_le _, hc_1⟩ (wk_mk [3, 6, 9] [] [] rfl ⟨argP (id := 3) (by (conv => lhs; whnf); all_goals rfl) rfl, argP (id := 6) (by (conv => lhs; whnf); all_goals rfl) rfl, argP (id := 9) (by (conv => lhs; whnf); all_goals rfl) rfl, argE (by (conv => lhs; whnf); all_goals rfl) rfl, argFl (by (conv => lhs; whnf); all_goals rfl), argE (by (conv => lhs; whnf); all_goals rfl) rfl, argE (by (conv => lhs; whnf); all_goals rfl) rfl, trivial⟩ ⟨boxL rfl rfl rfl ⟨(.ni _ rfl), trivial⟩, boxL rfl rfl rfl ⟨(.ni _ rfl), (.ni _ rfl), (.ni _ rfl), (.ni _ rfl), (.ni _ rfl), (.ni _ rfl), (.ni _ rfl), (.ni _ rfl), (.ni _ rfl), (.ni _ rfl), (.ni _ rfl), (.ni _ rfl), (.ni _ rfl), (.ni _ rfl), (.ni _ rfl), (.ni _ rfl), (.ni _ rfl), (.ni _ rfl), (.ni _ rfl), (.ni _ rfl), (.ni _ rfl), (.ni _ rfl), (.ni _ rfl), (.ni _ rfl), (.ni _ rfl), (.ni _ rfl), (.ni _ rfl), (.ni _ rfl), (.ni _ rfl), (.ni _ rfl), trivial⟩, boxL rfl rfl rfl ⟨(.ni _ rfl), trivial⟩, trivial⟩) ?_
  rintro ⟨k_10, b_8⟩ ⟨hk_k_10, hL1⟩
  try dsimp only at hk_k_10 hL1
  show awp _ _ _ _ _ _ ⟨eL [(6, .ptr 0 0), (7, .ptr 1 0), (8, .ptr 2 0), (9, .int .i64 r_6.2), (10, .bool b_8), (11, .lst 3 (r_7.map encPlate)), (12, .int .i64 (k_10 : Int))], hL [(0, .box [.lst 25 (r_2.1.L.map encBag)]), (1, .box [.int .i64 r_4.1.Kind, .int .i64 (0 : Int), .str r_4.1.Port, .int .i64 r_4.1.Number, .str r_4.1.In.Flight.Carrier, .int .i64 r_4.1.In.Flight.Number, .str r_4.1.In.Flight.Suffix, .int .i64 r_4.1.In.Flight.Day, .str r_4.1.In.Port, .str r_4.1.In.Class, .str r_4.1.Out.Flight.Carrier, .int .i64 r_4.1.Out.Flight.Number, .str r_4.1.Out.Flight.Suffix, .int .i64 r_4.1.Out.Flight.Day, .str r_4.1.Out.Port, .str r_4.1.Out.Class, .lst 6 (r_4.1.Onward.map encLeg), .int .i64 r_4.1.First.Lead, .int .i64 r_4.1.First.Airline, .int .i64 r_4.1.First.Serial, .int .i64 (w64 ((1 : Int) + r_5)), .bool r_4.1.Load, .int .i64 r_4.1.Status, .int .i64 r_4.1.Sequence, .int .i64 r_4.1.Weight, .str r_4.1.Surname, .str r_4.1.Given, .int .i64 r_4.1.Exception, .str r_4.1.Node, .lst 1 (r_4.1.List.map iA)]), (2, .box [.lst 25 (r_6.1.L.map encBag)])], 3⟩
  conv => whnf
  refine len_q (enc := encPlate) (l := r_7) rfl ?_
  conv => whnf
  refine ⟨fun h => ?_, fun h => ?_⟩
  · have hlt_k_10 : k_10 < r_7.length := by have h := of_decide_eq_true h; omega
    obtain ⟨e_11, h_e_11⟩ : ∃ y, r_7[k_10]? = some y := ⟨_, List.getElem?_eq_getElem hlt_k_10⟩
    rw [drop_cons h_e_11, law06_RegistryUndone_L1.eq_2] at hL1
    conv => whnf
    refine ⟨k_10, _, rfl, ix_map h_e_11, ?_⟩
    conv => whnf
    obtain ⟨r_12, h_r_12, hL1⟩ := bind_some hL1
    refine ⟨_, _, _, _, _, _, _, _, callX false [] [] Try.func25 (by decide) rfl (ref06_Find_ac r_2.1 e_11 r_12 h_r_12) rfl ⟨(argE (by (conv => lhs; whnf); all_goals rfl) rfl), (argE (by (conv => lhs; whnf); all_goals rfl) rfl), trivial⟩ rfl trivial rfl rfl rfl lend0 trivial, ?_⟩
    conv => whnf
    refine ⟨by kernel_rfl, ?_⟩
    conv => whnf
    refine ⟨fun hb_50 => ?_, fun hb_50 => ?_⟩
    · replace hL1 := cond_f hb_50 hL1
      conv => whnf
      refine ⟨((k_10 + 1 : Nat) : Int), wrapE (by omega) (by omega) (by omega), ?_⟩
      conv => whnf
      exact ⟨(k_10 + 1, r_12.2), [0, 1, 2], [], [], ⟨hlt_k_10, hL1⟩, by show r_7.length - (k_10 + 1) < r_7.length - k_10; omega, wk_mk [0, 1, 2] [] [] rfl ⟨argP (id := 0) (by (conv => lhs; whnf); all_goals rfl) rfl, argP (id := 1) (by (conv => lhs; whnf); all_goals rfl) rfl, argP (id := 2) (by (conv => lhs; whnf); all_goals rfl) rfl, argE (by (conv => lhs; whnf); all_goals rfl) rfl, argE (by (conv => lhs; whnf); all_goals rfl) rfl, argE (by (conv => lhs; whnf); all_goals rfl) rfl, argE (by (conv => lhs; whnf); all_goals rfl) rfl, trivial⟩ ⟨boxL rfl rfl rfl ⟨(.ni _ rfl), trivial⟩, boxL rfl rfl rfl ⟨(.ni _ rfl), (.ni _ rfl), (.ni _ rfl), (.ni _ rfl), (.ni _ rfl), (.ni _ rfl), (.ni _ rfl), (.ni _ rfl), (.ni _ rfl), (.ni _ rfl), (.ni _ rfl), (.ni _ rfl), (.ni _ rfl), (.ni _ rfl), (.ni _ rfl), (.ni _ rfl), (.ni _ rfl), (.ni _ rfl), (.ni _ rfl), (.ni _ rfl), (.ni _ rfl), (.ni _ rfl), (.ni _ rfl), (.ni _ rfl), (.ni _ rfl), (.ni _ rfl), (.ni _ rfl), (.ni _ rfl), (.ni _ rfl), (.ni _ rfl), trivial⟩, boxL rfl rfl rfl ⟨(.ni _ rfl), trivial⟩, trivial⟩⟩
    · replace hL1 := cond_t hb_50 hL1
      conv => whnf
      refine ⟨((k_10 + 1 : Nat) : Int), wrapE (by omega) (by omega) (by omega), ?_⟩
      conv => whnf
      exact ⟨(k_10 + 1, true), [0, 1, 2], [], [], ⟨hlt_k_10, hL1⟩, by show r_7.length - (k_10 + 1) < r_7.length - k_10; omega, wk_mk [0, 1, 2] [] [] rfl ⟨argP (id := 0) (by (conv => lhs; whnf); all_goals rfl) rfl, argP (id := 1) (by (conv => lhs; whnf); all_goals rfl) rfl, argP (id := 2) (by (conv => lhs; whnf); all_goals rfl) rfl, argE (by (conv => lhs; whnf); all_goals rfl) rfl, argT (by (conv => lhs; whnf); all_goals rfl), argE (by (conv => lhs; whnf); all_goals rfl) rfl, argE (by (conv => lhs; whnf); all_goals rfl) rfl, trivial⟩ ⟨boxL rfl rfl rfl ⟨(.ni _ rfl), trivial⟩, boxL rfl rfl rfl ⟨(.ni _ rfl), (.ni _ rfl), (.ni _ rfl), (.ni _ rfl), (.ni _ rfl), (.ni _ rfl), (.ni _ rfl), (.ni _ rfl), (.ni _ rfl), (.ni _ rfl), (.ni _ rfl), (.ni _ rfl), (.ni _ rfl), (.ni _ rfl), (.ni _ rfl), (.ni _ rfl), (.ni _ rfl), (.ni _ rfl), (.ni _ rfl), (.ni _ rfl), (.ni _ rfl), (.ni _ rfl), (.ni _ rfl), (.ni _ rfl), (.ni _ rfl), (.ni _ rfl), (.ni _ rfl), (.ni _ rfl), (.ni _ rfl), (.ni _ rfl), trivial⟩, boxL rfl rfl rfl ⟨(.ni _ rfl), trivial⟩, trivial⟩⟩
  · rw [drop_nil (show r_7.length ≤ k_10 by have h := of_decide_eq_false h; omega), law06_RegistryUndone_L1.eq_1] at hL1
    conv => whnf
    obtain rfl := Option.some.inj hL1
    replace hF := fin_brk hF
    try dsimp only at hF
    refine ⟨fun hb_51 => ?_, fun hb_51 => ?_⟩
    · replace hF := cond_t hb_51 hF
      conv => whnf
      refine ⟨fun hb_52 => ?_, fun hb_52 => ?_⟩
      · replace hF := cond_t hb_52 hF
        conv => whnf
        obtain ⟨r_15, h_r_15, hF⟩ := bind_some hF
        refine ⟨_, _, _, _, _, _, _, _, callX false [] [] Try.func10 (by decide) rfl (law06_awake_ac r_15 h_r_15) rfl trivial rfl trivial rfl rfl rfl lend0 trivial, ?_⟩
        conv => whnf
        obtain rfl := Option.some.inj hF
        exact ret_gz [] [] [] rfl (argE (by (conv => lhs; whnf); all_goals rfl) rfl) trivial
      · replace hF := cond_f hb_52 hF
        conv => whnf
        obtain rfl := Option.some.inj hF
        exact ret_gz [] [] [] rfl (argFl (by (conv => lhs; whnf); all_goals rfl)) trivial
    · replace hF := cond_f hb_51 hF
      conv => whnf
      refine ⟨fun hb_53 => ?_, fun hb_53 => ?_⟩
      · replace hF := cond_f hb_53 hF
        conv => whnf
        refine len_q (enc := encBag) (l := r_6.1.L) rfl ?_
        conv => whnf
        refine len_q (enc := encBag) (l := r_2.1.L) rfl ?_
        conv => whnf
        refine len_q (enc := encPlate) (l := r_7) rfl ?_
        conv => whnf
        refine ⟨_, rfl, ?_⟩
        conv => whnf
        refine ⟨fun hb_54 => ?_, fun hb_54 => ?_⟩
        · replace hF := cond_t hb_54 hF
          conv => whnf
          obtain rfl := Option.some.inj hF
          exact ret_gz [] [] [] rfl (argFl (by (conv => lhs; whnf); all_goals rfl)) trivial
        · replace hF := cond_f hb_54 hF
          conv => whnf
          obtain ⟨c_2, hc_2, hF⟩ := fin_some hF
          refine sw_bv 11 (v := .lst 3 (r_7.map encPlate)) (by (conv => lhs; whnf); all_goals rfl) (fun hb => ?_)
          have hbd_k_17 : r_7.length ≤ 9223372036854775807 := bnd_len (enc := encPlate) (hb)
          refine sw_loop tab_ok follows_ok (fun y : Nat => y ≤ r_7.length ∧ law06_RegistryUndone_L2 r_4 r_6 (r_7.drop y) y = some c_2) (fun y => ⟨eL [(6, .ptr 0 0), (7, .ptr 1 0), (8, .ptr 2 0), (11, .lst 3 (r_7.map encPlate)), (15, .int .i64 (y : Int))], hL [(0, .box [.lst 25 (r_2.1.L.map encBag)]), (1, .box [.int .i64 r_4.1.Kind, .int .i64 (0 : Int), .str r_4.1.Port, .int .i64 r_4.1.Number, .str r_4.1.In.Flight.Carrier, .int .i64 r_4.1.In.Flight.Number, .str r_4.1.In.Flight.Suffix, .int .i64 r_4.1.In.Flight.Day, .str r_4.1.In.Port, .str r_4.1.In.Class, .str r_4.1.Out.Flight.Carrier, .int .i64 r_4.1.Out.Flight.Number, .str r_4.1.Out.Flight.Suffix, .int .i64 r_4.1.Out.Flight.Day, .str r_4.1.Out.Port, .str r_4.1.Out.Class, .lst 6 (r_4.1.Onward.map encLeg), .int .i64 r_4.1.First.Lead, .int .i64 r_4.1.First.Airline, .int .i64 r_4.1.First.Serial, .int .i64 (w64 ((1 : Int) + r_5)), .bool r_4.1.Load, .int .i64 r_4.1.Status, .int .i64 r_4.1.Sequence, .int .i64 r_4.1.Weight, .str r_4.1.Surname, .str r_4.1.Given, .int .i64 r_4.1.Exception, .str r_4.1.Node, .lst 1 (r_4.1.List.map iA)]), (2, .box [.lst 25 (r_6.1.L.map encBag)])], 3⟩) (fun y => r_7.length - y) 0 ⟨Nat.zero_le _, hc_2⟩ (wk_mk [0, 1, 2] [] [] rfl ⟨argP (id := 0) (by (conv => lhs; whnf); all_goals rfl) rfl, argP (id := 1) (by (conv => lhs; whnf); all_goals rfl) rfl, argP (id := 2) (by (conv => lhs; whnf); all_goals rfl) rfl, argE (by (conv => lhs; whnf); all_goals rfl) rfl, argE (by (conv => lhs; whnf); all_goals rfl) rfl, trivial⟩ ⟨boxL rfl rfl rfl ⟨(.ni _ rfl), trivial⟩, boxL rfl rfl rfl ⟨(.ni _ rfl), (.ni _ rfl), (.ni _ rfl), (.ni _ rfl), (.ni _ rfl), (.ni _ rfl), (.ni _ rfl), (.ni _ rfl), (.ni _ rfl), (.ni _ rfl), (.ni _ rfl), (.ni _ rfl), (.ni _ rfl), (.ni _ rfl), (.ni _ rfl), (.ni _ rfl), (.ni _ rfl), (.ni _ rfl), (.ni _ rfl), (.ni _ rfl), (.ni _ rfl), (.ni _ rfl), (.ni _ rfl), (.ni _ rfl), (.ni _ rfl), (.ni _ rfl), (.ni _ rfl), (.ni _ rfl), (.ni _ rfl), (.ni _ rfl), trivial⟩, boxL rfl rfl rfl ⟨(.ni _ rfl), trivial⟩, trivial⟩) ?_
          rintro k_17 ⟨hk_k_17, hL1⟩
          try dsimp only at hk_k_17 hL1
          show awp _ _ _ _ _ _ ⟨eL [(6, .ptr 0 0), (7, .ptr 1 0), (8, .ptr 2 0), (11, .lst 3 (r_7.map encPlate)), (15, .int .i64 (k_17 : Int))], hL [(0, .box [.lst 25 (r_2.1.L.map encBag)]), (1, .box [.int .i64 r_4.1.Kind, .int .i64 (0 : Int), .str r_4.1.Port, .int .i64 r_4.1.Number, .str r_4.1.In.Flight.Carrier, .int .i64 r_4.1.In.Flight.Number, .str r_4.1.In.Flight.Suffix, .int .i64 r_4.1.In.Flight.Day, .str r_4.1.In.Port, .str r_4.1.In.Class, .str r_4.1.Out.Flight.Carrier, .int .i64 r_4.1.Out.Flight.Number, .str r_4.1.Out.Flight.Suffix, .int .i64 r_4.1.Out.Flight.Day, .str r_4.1.Out.Port, .str r_4.1.Out.Class, .lst 6 (r_4.1.Onward.map encLeg), .int .i64 r_4.1.First.Lead, .int .i64 r_4.1.First.Airline, .int .i64 r_4.1.First.Serial, .int .i64 (w64 ((1 : Int) + r_5)), .bool r_4.1.Load, .int .i64 r_4.1.Status, .int .i64 r_4.1.Sequence, .int .i64 r_4.1.Weight, .str r_4.1.Surname, .str r_4.1.Given, .int .i64 r_4.1.Exception, .str r_4.1.Node, .lst 1 (r_4.1.List.map iA)]), (2, .box [.lst 25 (r_6.1.L.map encBag)])], 3⟩
          conv => whnf
          refine len_q (enc := encPlate) (l := r_7) rfl ?_
          conv => whnf
          refine ⟨fun h => ?_, fun h => ?_⟩
          · have hlt_k_17 : k_17 < r_7.length := by have h := of_decide_eq_true h; omega
            obtain ⟨e_18, h_e_18⟩ : ∃ y, r_7[k_17]? = some y := ⟨_, List.getElem?_eq_getElem hlt_k_17⟩
            rw [drop_cons h_e_18, law06_RegistryUndone_L2.eq_2] at hL1
            conv => whnf
            refine ⟨k_17, _, rfl, ix_map h_e_18, ?_⟩
            conv => whnf
            obtain ⟨r_19, h_r_19, hL1⟩ := bind_some hL1
            refine ⟨_, _, _, _, _, _, _, _, callX false [] [] Try.func21 (by decide) rfl (registry_Find_ac r_6.1 e_18 r_19 h_r_19) rfl ⟨(argE (by (conv => lhs; whnf); all_goals rfl) rfl), (argE (by (conv => lhs; whnf); all_goals rfl) rfl), trivial⟩ rfl trivial rfl rfl rfl lend0 trivial, ?_⟩
            conv => whnf
            refine ⟨by kernel_rfl, ?_⟩
            conv => whnf
            refine ⟨fun hb_55 => ?_, fun hb_55 => ?_⟩
            · replace hL1 := cond_f hb_55 hL1
              conv => whnf
              refine ⟨fun hb_56 => ?_, fun hb_56 => ?_⟩
              · replace hL1 := cond_f hb_56 hL1
                conv => whnf
                refine ⟨fun hb_57 => ?_, fun hb_57 => ?_⟩
                · replace hL1 := cond_f hb_57 hL1
                  conv => whnf
                  refine ⟨fun hb_58 => ?_, fun hb_58 => ?_⟩
                  · replace hL1 := cond_f hb_58 hL1
                    conv => whnf
                    refine ⟨fun hb_59 => ?_, fun hb_59 => ?_⟩
                    · replace hL1 := cond_f hb_59 hL1
                      conv => whnf
                      refine ⟨fun hb_60 => ?_, fun hb_60 => ?_⟩
                      · replace hL1 := cond_f hb_60 hL1
                        conv => whnf
                        refine ⟨fun hb_61 => ?_, fun hb_61 => ?_⟩
                        · replace hL1 := cond_f hb_61 hL1
                          conv => whnf
                          refine ⟨fun hb_62 => ?_, fun hb_62 => ?_⟩
                          · replace hL1 := cond_f hb_62 hL1
                            conv => whnf
                            refine ⟨fun hb_63 => ?_, fun hb_63 => ?_⟩
                            · replace hL1 := cond_t hb_63 hL1
                              conv => whnf
                              obtain rfl := Option.some.inj hL1
                              replace hF := fin_ret hF
                              obtain rfl := Option.some.inj hF
                              exact ret_gz [] [] [] rfl (argFl (by (conv => lhs; whnf); all_goals rfl)) trivial
                            · replace hL1 := cond_f hb_63 hL1
                              conv => whnf
                              refine ⟨((k_17 + 1 : Nat) : Int), wrapE (by omega) (by omega) (by omega), ?_⟩
                              conv => whnf
                              exact ⟨k_17 + 1, [0, 1, 2], [], [], ⟨hlt_k_17, hL1⟩, by show r_7.length - (k_17 + 1) < r_7.length - k_17; omega, wk_mk [0, 1, 2] [] [] rfl ⟨argP (id := 0) (by (conv => lhs; whnf); all_goals rfl) rfl, argP (id := 1) (by (conv => lhs; whnf); all_goals rfl) rfl, argP (id := 2) (by (conv => lhs; whnf); all_goals rfl) rfl, argE (by (conv => lhs; whnf); all_goals rfl) rfl, argE (by (conv => lhs; whnf); all_goals rfl) rfl, trivial⟩ ⟨boxL rfl rfl rfl ⟨(.ni _ rfl), trivial⟩, boxL rfl rfl rfl ⟨(.ni _ rfl), (.ni _ rfl), (.ni _ rfl), (.ni _ rfl), (.ni _ rfl), (.ni _ rfl), (.ni _ rfl), (.ni _ rfl), (.ni _ rfl), (.ni _ rfl), (.ni _ rfl), (.ni _ rfl), (.ni _ rfl), (.ni _ rfl), (.ni _ rfl), (.ni _ rfl), (.ni _ rfl), (.ni _ rfl), (.ni _ rfl), (.ni _ rfl), (.ni _ rfl), (.ni _ rfl), (.ni _ rfl), (.ni _ rfl), (.ni _ rfl), (.ni _ rfl), (.ni _ rfl), (.ni _ rfl), (.ni _ rfl), (.ni _ rfl), trivial⟩, boxL rfl rfl rfl ⟨(.ni _ rfl), trivial⟩, trivial⟩⟩
                          · replace hL1 := cond_t hb_62 hL1
                            conv => whnf
                            obtain rfl := Option.some.inj hL1
                            replace hF := fin_ret hF
                            obtain rfl := Option.some.inj hF
                            exact ret_gz [] [] [] rfl (argFl (by (conv => lhs; whnf); all_goals rfl)) trivial
                        · replace hL1 := cond_t hb_61 hL1
                          conv => whnf
                          obtain rfl := Option.some.inj hL1
                          replace hF := fin_ret hF
                          obtain rfl := Option.some.inj hF
                          exact ret_gz [] [] [] rfl (argFl (by (conv => lhs; whnf); all_goals rfl)) trivial
                      · replace hL1 := cond_t hb_60 hL1
                        conv => whnf
                        obtain rfl := Option.some.inj hL1
                        replace hF := fin_ret hF
                        obtain rfl := Option.some.inj hF
                        exact ret_gz [] [] [] rfl (argFl (by (conv => lhs; whnf); all_goals rfl)) trivial
                    · replace hL1 := cond_t hb_59 hL1
                      conv => whnf
                      obtain rfl := Option.some.inj hL1
                      replace hF := fin_ret hF
                      obtain rfl := Option.some.inj hF
                      exact ret_gz [] [] [] rfl (argFl (by (conv => lhs; whnf); all_goals rfl)) trivial
                  · replace hL1 := cond_t hb_58 hL1
                    conv => whnf
                    obtain rfl := Option.some.inj hL1
                    replace hF := fin_ret hF
                    obtain rfl := Option.some.inj hF
                    exact ret_gz [] [] [] rfl (argFl (by (conv => lhs; whnf); all_goals rfl)) trivial
                · replace hL1 := cond_t hb_57 hL1
                  conv => whnf
                  obtain rfl := Option.some.inj hL1
                  replace hF := fin_ret hF
                  obtain rfl := Option.some.inj hF
                  exact ret_gz [] [] [] rfl (argFl (by (conv => lhs; whnf); all_goals rfl)) trivial
              · replace hL1 := cond_t hb_56 hL1
                conv => whnf
                obtain rfl := Option.some.inj hL1
                replace hF := fin_ret hF
                obtain rfl := Option.some.inj hF
                exact ret_gz [] [] [] rfl (argFl (by (conv => lhs; whnf); all_goals rfl)) trivial
            · replace hL1 := cond_t hb_55 hL1
              conv => whnf
              obtain rfl := Option.some.inj hL1
              replace hF := fin_ret hF
              obtain rfl := Option.some.inj hF
              exact ret_gz [] [] [] rfl (argFl (by (conv => lhs; whnf); all_goals rfl)) trivial
          · rw [drop_nil (show r_7.length ≤ k_17 by have h := of_decide_eq_false h; omega), law06_RegistryUndone_L2.eq_1] at hL1
            conv => whnf
            obtain rfl := Option.some.inj hL1
            replace hF := fin_brk hF
            try dsimp only at hF
            obtain ⟨r_22, h_r_22, hF⟩ := bind_some hF
            refine ⟨_, _, _, _, _, _, _, _, callX false [] [] Try.func14 (by decide) rfl (registry_Apply_ac r_6.1 (⟨r_4.1.Kind, (2 : Int), r_4.1.Port, r_4.1.Number, r_4.1.In, r_4.1.Out, r_4.1.Onward, r_4.1.First, (w64 ((1 : Int) + r_5)), r_4.1.Load, r_4.1.Status, r_4.1.Sequence, r_4.1.Weight, r_4.1.Surname, r_4.1.Given, r_4.1.Exception, r_4.1.Node, r_4.1.List⟩ : Message) r_22 h_r_22) rfl ⟨(argE (by (conv => lhs; whnf); all_goals rfl) rfl), (argE (by (conv => lhs; whnf); all_goals rfl) rfl), trivial⟩ rfl trivial rfl rfl rfl lend0 trivial, ?_⟩
            conv => whnf
            refine ⟨fun hb_64 => ?_, fun hb_64 => ?_⟩
            · replace hF := cond_t hb_64 hF
              conv => whnf
              obtain ⟨r_23, h_r_23, hF⟩ := bind_some hF
              refine ⟨_, _, _, _, _, _, _, _, callX false [] [] Try.func16 (by decide) rfl (ref06_Same_ac r_22.1 r_2.1 r_23 h_r_23) rfl ⟨(argE (by (conv => lhs; whnf); all_goals rfl) rfl), (argE (by (conv => lhs; whnf); all_goals rfl) rfl), trivial⟩ rfl trivial rfl rfl rfl lend0 trivial, ?_⟩
              conv => whnf
              refine ⟨fun hb_65 => ?_, fun hb_65 => ?_⟩
              · replace hF := cond_t hb_65 hF
                conv => whnf
                obtain ⟨r_24, h_r_24, hF⟩ := bind_some hF
                refine ⟨_, _, _, _, _, _, _, _, callX false [] [] Try.func10 (by decide) rfl (law06_awake_ac r_24 h_r_24) rfl trivial rfl trivial rfl rfl rfl lend0 trivial, ?_⟩
                conv => whnf
                obtain rfl := Option.some.inj hF
                exact ret_gz [] [] [] rfl (argE (by (conv => lhs; whnf); all_goals rfl) rfl) trivial
              · replace hF := cond_f hb_65 hF
                conv => whnf
                obtain rfl := Option.some.inj hF
                exact ret_gz [] [] [] rfl (argFl (by (conv => lhs; whnf); all_goals rfl)) trivial
            · replace hF := cond_f hb_64 hF
              conv => whnf
              obtain rfl := Option.some.inj hF
              exact ret_gz [] [] [] rfl (argFl (by (conv => lhs; whnf); all_goals rfl)) trivial
      · replace hF := cond_t hb_53 hF
        conv => whnf
        obtain rfl := Option.some.inj hF
        exact ret_gz [] [] [] rfl (argFl (by (conv => lhs; whnf); all_goals rfl)) trivial
end Go.Proofs.Ytkliakcegihikaa.Ex
