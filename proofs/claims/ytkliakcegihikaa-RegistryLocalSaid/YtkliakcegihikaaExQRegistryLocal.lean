/- The functions of the program compute what was printed; walks printed by a program. -/
import Derived.Test.YtkliakcegihikaaExF
import Derived.Test.YtkliakcegihikaaExP2
import Derived.Test.YtkliakcegihikaaExP4
namespace Go.Proofs.Ytkliakcegihikaa.Ex
open Go.RowKit Go.Proofs.Ytkliakcegihikaa.Ax
set_option linter.unusedVariables false
set_option linter.unusedSimpArgs false
set_option maxRecDepth 100000 in
set_option maxHeartbeats 40000000 in
theorem law06_RegistryLocal_ac (x_0 : (List Int)) (r : Bool) (hF : law06_RegistryLocal x_0 = some r) : AC Try.prog 4 [.lst 1 (x_0.map iA)] [] (.bool r) [] := by
  refine ac_of tab_ok follows_ok Try.func4 rfl Try.ntmps4 rfl ?_
  unfold law06_RegistryLocal at hF
  conv => whnf
  obtain ⟨r_1, h_r_1, hF⟩ := bind_some hF
  refine ⟨_, _, _, _, _, _, _, _, callX false [] [] Try.func11 (by decide) rfl (keep_New_ac x_0 r_1 h_r_1) rfl ⟨(argE (by (conv => lhs; whnf); all_goals rfl) rfl), trivial⟩ rfl trivial rfl rfl rfl lend0 ⟨rfl, trivial⟩, ?_⟩
  conv => whnf
  obtain ⟨r_2, h_r_2, hF⟩ := bind_some hF
  refine ⟨_, _, _, _, _, _, _, _, callX false [0] [] Try.func19 (by decide) rfl (law06_built_ac r_1 (20 : Int) r_2 h_r_2) rfl ⟨(argP (id := 0) (by (conv => lhs; whnf); all_goals rfl) rfl), (argE (by (conv => lhs; whnf); all_goals rfl) rfl), trivial⟩ rfl ⟨rfl, trivial⟩ rfl rfl rfl lend0 ⟨rfl, trivial⟩, ?_⟩
  conv => whnf
  obtain ⟨r_3, h_r_3, hF⟩ := bind_some hF
  refine ⟨_, _, _, _, _, _, _, _, callX false [0] [] Try.func13 (by decide) rfl (keep_Src_Message_ac r_2.2 (0 : Int) r_3 h_r_3) rfl ⟨(argP (id := 0) (by (conv => lhs; whnf); all_goals rfl) rfl), (argE (by (conv => lhs; whnf); all_goals rfl) rfl), trivial⟩ rfl ⟨rfl, trivial⟩ rfl rfl rfl lend0 ⟨rfl, trivial⟩, ?_⟩
  conv => whnf
  obtain ⟨r_4, h_r_4, hF⟩ := bind_some hF
  refine ⟨_, _, _, _, _, _, _, _, callX false [] [] Try.func14 (by decide) rfl (registry_Apply_ac r_2.1 r_3.1 r_4 h_r_4) rfl ⟨(argE (by (conv => lhs; whnf); all_goals rfl) rfl), (argE (by (conv => lhs; whnf); all_goals rfl) rfl), trivial⟩ rfl trivial rfl rfl rfl lend0 trivial, ?_⟩
  conv => whnf
  refine ⟨fun hb_71 => ?_, fun hb_71 => ?_⟩
  · replace hF := cond_t hb_71 hF
    conv => whnf
    refine len_q (enc := encBag) (l := r_4.1.L) rfl ?_
    conv => whnf
    refine ⟨fun hb_72 => ?_, fun hb_72 => ?_⟩
    · replace hF := cond_t hb_72 hF
      conv => whnf
      obtain ⟨r_5, h_r_5, hF⟩ := bind_some hF
      refine ⟨_, _, _, _, _, _, _, _, callX false [] [] Try.func10 (by decide) rfl (law06_awake_ac r_5 h_r_5) rfl trivial rfl trivial rfl rfl rfl lend0 trivial, ?_⟩
      conv => whnf
      obtain rfl := Option.some.inj hF
      exact ret_gz [] [] [] rfl (argE (by (conv => lhs; whnf); all_goals rfl) rfl) trivial
    · replace hF := cond_f hb_72 hF
      conv => whnf
      obtain rfl := Option.some.inj hF
      exact ret_gz [] [] [] rfl (argFl (by (conv => lhs; whnf); all_goals rfl)) trivial
  · replace hF := cond_f hb_71 hF
    conv => whnf
    obtain ⟨r_6, h_r_6, hF⟩ := bind_some hF
    refine ⟨_, _, _, _, _, _, _, _, callX false [] [] Try.func20 (by decide) rfl (ref04_Plates_ac r_3.1 r_6 h_r_6) rfl ⟨(argE (by (conv => lhs; whnf); all_goals rfl) rfl), trivial⟩ rfl trivial rfl rfl rfl lend0 trivial, ?_⟩
    conv => whnf
    obtain ⟨c_1, hc_1, hF⟩ := fin_some hF
    refine sw_bv 21 (v := .agg [.lst 25 (r_2.1.L.map encBag)]) (by (conv => lhs; whnf); all_goals rfl) (fun hb => ?_)
    have hbd_k_9 : r_2.1.L.length ≤ 9223372036854775807 := bnd_len (enc := encBag) ((bnd_at hb.cell 0 rfl))
    refine sw_loop tab_ok follows_ok (fun y : Nat × Int => y.1 ≤ r_2.1.L.length ∧ law06_RegistryLocal_L1 r_3 r_4 r_6 (r_2.1.L.drop y.1) y.1 y.2 = some c_1) (fun y => ⟨eL [(4, .ptr 0 0), (5, .ptr 1 0), (6, .ptr 2 0), (8, .lst 3 (r_6.map encPlate)), (9, .int .i64 y.2), (10, .int .i64 (y.1 : Int))], hL [(0, .box [.lst 25 (r_2.1.L.map encBag)]), (1, .box [.int .i64 r_3.1.Kind, .int .i64 r_3.1.Do, .str r_3.1.Port, .int .i64 r_3.1.Number, .str r_3.1.In.Flight.Carrier, .int .i64 r_3.1.In.Flight.Number, .str r_3.1.In.Flight.Suffix, .int .i64 r_3.1.In.Flight.Day, .str r_3.1.In.Port, .str r_3.1.In.Class, .str r_3.1.Out.Flight.Carrier, .int .i64 r_3.1.Out.Flight.Number, .str r_3.1.Out.Flight.Suffix, .int .i64 r_3.1.Out.Flight.Day, .str r_3.1.Out.Port, .str r_3.1.Out.Class, .lst 6 (r_3.1.Onward.map encLeg), .int .i64 r_3.1.First.Lead, .int .i64 r_3.1.First.Airline, .int .i64 r_3.1.First.Serial, .int .i64 r_3.1.Count, .bool r_3.1.Load, .int .i64 r_3.1.Status, .int .i64 r_3.1.Sequence, .int .i64 r_3.1.Weight, .str r_3.1.Surname, .str r_3.1.Given, .int .i64 r_3.1.Exception, .str r_3.1.Node, .lst 1 (r_3.1.List.map iA)]), (2, .box [.lst 25 (r_4.1.L.map encBag)])], 3⟩) (fun y => r_2.1.L.length - y.1) (0, (0 : Int)) ⟨Nat.zero_le _, hc_1⟩ (wk_mk [3, 5, 7] [] [] rfl ⟨argP (id := 3) (by (conv => lhs; whnf); all_goals rfl) rfl, argP (id := 5) (by (conv => lhs; whnf); all_goals rfl) rfl, argP (id := 7) (by (conv => lhs; whnf); all_goals rfl) rfl, argE (by (conv => lhs; whnf); all_goals rfl) rfl, argE (by (conv => lhs; whnf); all_goals rfl) rfl, argE (by (conv => lhs; whnf); all_goals rfl) rfl, trivial⟩ ⟨boxL rfl rfl rfl ⟨(.ni _ rfl), trivial⟩, boxL rfl rfl rfl ⟨(.ni _ rfl), (.ni _ rfl), (.ni _ rfl), (.ni _ rfl), (.ni _ rfl), (.ni _ rfl), (.ni _ rfl), (.ni _ rfl), (.ni _ rfl), (.ni _ rfl), (.ni _ rfl), (.ni _ rfl), (.ni _ rfl), (.ni _ rfl), (.ni _ rfl), (.ni _ rfl), (.ni _ rfl), (.ni _ rfl), (.ni _ rfl), (.ni _ rfl), (.ni _ rfl), (.ni _ rfl), (.ni _ rfl), (.ni _ rfl), (.ni _ rfl), (.ni _ rfl), (.ni _ rfl), (.ni _ rfl), (.ni _ rfl), (.ni _ rfl), trivial⟩, boxL rfl rfl rfl ⟨(.ni _ rfl), trivial⟩, trivial⟩) ?_
    rintro ⟨k_9, i_7⟩ ⟨hk_k_9, hL1⟩
    try dsimp only at hk_k_9 hL1
    show awp _ _ _ _ _ _ ⟨eL [(4, .ptr 0 0), (5, .ptr 1 0), (6, .ptr 2 0), (8, .lst 3 (r_6.map encPlate)), (9, .int .i64 i_7), (10, .int .i64 (k_9 : Int))], hL [(0, .box [.lst 25 (r_2.1.L.map encBag)]), (1, .box [.int .i64 r_3.1.Kind, .int .i64 r_3.1.Do, .str r_3.1.Port, .int .i64 r_3.1.Number, .str r_3.1.In.Flight.Carrier, .int .i64 r_3.1.In.Flight.Number, .str r_3.1.In.Flight.Suffix, .int .i64 r_3.1.In.Flight.Day, .str r_3.1.In.Port, .str r_3.1.In.Class, .str r_3.1.Out.Flight.Carrier, .int .i64 r_3.1.Out.Flight.Number, .str r_3.1.Out.Flight.Suffix, .int .i64 r_3.1.Out.Flight.Day, .str r_3.1.Out.Port, .str r_3.1.Out.Class, .lst 6 (r_3.1.Onward.map encLeg), .int .i64 r_3.1.First.Lead, .int .i64 r_3.1.First.Airline, .int .i64 r_3.1.First.Serial, .int .i64 r_3.1.Count, .bool r_3.1.Load, .int .i64 r_3.1.Status, .int .i64 r_3.1.Sequence, .int .i64 r_3.1.Weight, .str r_3.1.Surname, .str r_3.1.Given, .int .i64 r_3.1.Exception, .str r_3.1.Node, .lst 1 (r_3.1.List.map iA)]), (2, .box [.lst 25 (r_4.1.L.map encBag)])], 3⟩
    conv => whnf
    refine len_q (enc := encBag) (l := r_2.1.L) rfl ?_
    conv => whnf
    refine ⟨fun h => ?_, fun h => ?_⟩
    · have hlt_k_9 : k_9 < r_2.1.L.length := by have h := of_decide_eq_true h; omega
      obtain ⟨e_10, h_e_10⟩ : ∃ y, r_2.1.L[k_9]? = some y := ⟨_, List.getElem?_eq_getElem hlt_k_9⟩
      rw [drop_cons h_e_10, law06_RegistryLocal_L1.eq_2] at hL1
      conv => whnf
      obtain ⟨c_2, hc_2, hL1⟩ := sub_some hL1
      refine sw_bv 8 (v := .lst 3 (r_6.map encPlate)) (by (conv => lhs; whnf); all_goals rfl) (fun hb => ?_)
      have hbd_k_13 : r_6.length ≤ 9223372036854775807 := bnd_len (enc := encPlate) (hb)
      refine sw_loop tab_ok follows_ok (fun y : Nat × Bool => y.1 ≤ r_6.length ∧ law06_RegistryLocal_L2 e_10 (r_6.drop y.1) y.1 y.2 = some c_2) (fun y => ⟨eL [(4, .ptr 0 0), (5, .ptr 1 0), (6, .ptr 2 0), (8, .lst 3 (r_6.map encPlate)), (9, .int .i64 i_7), (10, .int .i64 (k_9 : Int)), (11, .bool y.2), (12, .int .i64 (y.1 : Int))], hL [(0, .box [.lst 25 (r_2.1.L.map encBag)]), (1, .box [.int .i64 r_3.1.Kind, .int .i64 r_3.1.Do, .str r_3.1.Port, .int .i64 r_3.1.Number, .str r_3.1.In.Flight.Carrier, .int .i64 r_3.1.In.Flight.Number, .str r_3.1.In.Flight.Suffix, .int .i64 r_3.1.In.Flight.Day, .str r_3.1.In.Port, .str r_3.1.In.Class, .str r_3.1.Out.Flight.Carrier, .int .i64 r_3.1.Out.Flight.Number, .str r_3.1.Out.Flight.Suffix, .int .i64 r_3.1.Out.Flight.Day, .str r_3.1.Out.Port, .str r_3.1.Out.Class, .lst 6 (r_3.1.Onward.map encLeg), .int .i64 r_3.1.First.Lead, .int .i64 r_3.1.First.Airline, .int .i64 r_3.1.First.Serial, .int .i64 r_3.1.Count, .bool r_3.1.Load, .int .i64 r_3.1.Status, .int .i64 r_3.1.Sequence, .int .i64 r_3.1.Weight, .str r_3.1.Surname, .str r_3.1.Given, .int .i64 r_3.1.Exception, .str r_3.1.Node, .lst 1 (r_3.1.List.map iA)]), (2, .box [.lst 25 (r_4.1.L.map encBag)])], 3⟩) (fun y => r_6.length - y.1) (0, false) ⟨Nat.zero_le _, hc_2⟩ (wk_mk [0, 1, 2] [] [] rfl ⟨argP (id := 0) (by (conv => lhs; whnf); all_goals rfl) rfl, argP (id := 1) (by (conv => lhs; whnf); all_goals rfl) rfl, argP (id := 2) (by (conv => lhs; whnf); all_goals rfl) rfl, argE (by (conv => lhs; whnf); all_goals rfl) rfl, argE (by (conv => lhs; whnf); all_goals rfl) rfl, argE (by (conv => lhs; whnf); all_goals rfl) rfl, argFl (by (conv => lhs; whnf); all_goals rfl), argE (by (conv => lhs; whnf); all_goals rfl) rfl, trivial⟩ ⟨boxL rfl rfl rfl ⟨(.ni _ rfl), trivial⟩, boxL rfl rfl rfl ⟨(.ni _ rfl), (.ni _ rfl), (.ni _ rfl), (.ni _ rfl), (.ni _ rfl), (.ni _ rfl), (.ni _ rfl), (.ni _ rfl), (.ni _ rfl), (.ni _ rfl), (.ni _ rfl), (.ni _ rfl), (.ni _ rfl), (.ni _ rfl), (.ni _ rfl), (.ni _ rfl), (.ni _ rfl), (.ni _ rfl), (.ni _ rfl), (.ni _ rfl), (.ni _ rfl), (.ni _ rfl), (.ni _ rfl), (.ni _ rfl), (.ni _ rfl), (.ni _ rfl), (.ni _ rfl), (.ni _ rfl), (.ni _ rfl), (.ni _ rfl), trivial⟩, boxL rfl rfl rfl ⟨(.ni _ rfl), trivial⟩, trivial⟩) ?_
      rintro ⟨k_13, b_11⟩ ⟨hk_k_13, hL2⟩
      try dsimp only at hk_k_13 hL2
      show awp _ _ _ _ _ _ ⟨eL [(4, .ptr 0 0), (5, .ptr 1 0), (6, .ptr 2 0), (8, .lst 3 (r_6.map encPlate)), (9, .int .i64 i_7), (10, .int .i64 (k_9 : Int)), (11, .bool b_11), (12, .int .i64 (k_13 : Int))], hL [(0, .box [.lst 25 (r_2.1.L.map encBag)]), (1, .box [.int .i64 r_3.1.Kind, .int .i64 r_3.1.Do, .str r_3.1.Port, .int .i64 r_3.1.Number, .str r_3.1.In.Flight.Carrier, .int .i64 r_3.1.In.Flight.Number, .str r_3.1.In.Flight.Suffix, .int .i64 r_3.1.In.Flight.Day, .str r_3.1.In.Port, .str r_3.1.In.Class, .str r_3.1.Out.Flight.Carrier, .int .i64 r_3.1.Out.Flight.Number, .str r_3.1.Out.Flight.Suffix, .int .i64 r_3.1.Out.Flight.Day, .str r_3.1.Out.Port, .str r_3.1.Out.Class, .lst 6 (r_3.1.Onward.map encLeg), .int .i64 r_3.1.First.Lead, .int .i64 r_3.1.First.Airline, .int .i64 r_3.1.First.Serial, .int .i64 r_3.1.Count, .bool r_3.1.Load, .int .i64 r_3.1.Status, .int .i64 r_3.1.Sequence, .int .i64 r_3.1.Weight, .str r_3.1.Surname, .str r_3.1.Given, .int .i64 r_3.1.Exception, .str r_3.1.Node, .lst 1 (r_3.1.List.map iA)]), (2, .box [.lst 25 (r_4.1.L.map encBag)])], 3⟩
      conv => whnf
      refine len_q (enc := encPlate) (l := r_6) rfl ?_
      conv => whnf
      refine ⟨fun h => ?_, fun h => ?_⟩
      · have hlt_k_13 : k_13 < r_6.length := by have h := of_decide_eq_true h; omega
        obtain ⟨e_14, h_e_14⟩ : ∃ y, r_6[k_13]? = some y := ⟨_, List.getElem?_eq_getElem hlt_k_13⟩
        rw [drop_cons h_e_14, law06_RegistryLocal_L2.eq_2] at hL2
        conv => whnf
        refine ⟨fun hb_73 => ?_, fun hb_73 => ?_⟩
        · replace hL2 := cond_f hb_73 hL2
          conv => whnf
          refine ⟨k_13, _, rfl, ix_map h_e_14, ?_⟩
          conv => whnf
          refine ⟨k_9, _, rfl, ix_map h_e_10, ?_⟩
          conv => whnf
          refine ⟨by kernel_rfl, ?_⟩
          conv => whnf
          refine ⟨((k_13 + 1 : Nat) : Int), wrapE (by omega) (by omega) (by omega), ?_⟩
          conv => whnf
          exact ⟨(k_13 + 1, ((e_14.Lead == e_10.Plate.Lead) && ((e_14.Airline == e_10.Plate.Airline) && ((e_14.Serial == e_10.Plate.Serial) && true)))), [0, 1, 2], [], [], ⟨hlt_k_13, hL2⟩, by show r_6.length - (k_13 + 1) < r_6.length - k_13; omega, wk_mk [0, 1, 2] [] [] rfl ⟨argP (id := 0) (by (conv => lhs; whnf); all_goals rfl) rfl, argP (id := 1) (by (conv => lhs; whnf); all_goals rfl) rfl, argP (id := 2) (by (conv => lhs; whnf); all_goals rfl) rfl, argE (by (conv => lhs; whnf); all_goals rfl) rfl, argE (by (conv => lhs; whnf); all_goals rfl) rfl, argE (by (conv => lhs; whnf); all_goals rfl) rfl, argE (by (conv => lhs; whnf); all_goals rfl) rfl, argE (by (conv => lhs; whnf); all_goals rfl) rfl, trivial⟩ ⟨boxL rfl rfl rfl ⟨(.ni _ rfl), trivial⟩, boxL rfl rfl rfl ⟨(.ni _ rfl), (.ni _ rfl), (.ni _ rfl), (.ni _ rfl), (.ni _ rfl), (.ni _ rfl), (.ni _ rfl), (.ni _ rfl), (.ni _ rfl), (.ni _ rfl), (.ni _ rfl), (.ni _ rfl), (.ni _ rfl), (.ni _ rfl), (.ni _ rfl), (.ni _ rfl), (.ni _ rfl), (.ni _ rfl), (.ni _ rfl), (.ni _ rfl), (.ni _ rfl), (.ni _ rfl), (.ni _ rfl), (.ni _ rfl), (.ni _ rfl), (.ni _ rfl), (.ni _ rfl), (.ni _ rfl), (.ni _ rfl), (.ni _ rfl), trivial⟩, boxL rfl rfl rfl ⟨(.ni _ rfl), trivial⟩, trivial⟩⟩
        · replace hL2 := cond_t hb_73 hL2
          conv => whnf
          refine ⟨by kernel_rfl, ?_⟩
          conv => whnf
          refine ⟨((k_13 + 1 : Nat) : Int), wrapE (by omega) (by omega) (by omega), ?_⟩
          conv => whnf
          exact ⟨(k_13 + 1, true), [0, 1, 2], [], [], ⟨hlt_k_13, hL2⟩, by show r_6.length - (k_13 + 1) < r_6.length - k_13; omega, wk_mk [0, 1, 2] [] [] rfl ⟨argP (id := 0) (by (conv => lhs; whnf); all_goals rfl) rfl, argP (id := 1) (by (conv => lhs; whnf); all_goals rfl) rfl, argP (id := 2) (by (conv => lhs; whnf); all_goals rfl) rfl, argE (by (conv => lhs; whnf); all_goals rfl) rfl, argE (by (conv => lhs; whnf); all_goals rfl) rfl, argE (by (conv => lhs; whnf); all_goals rfl) rfl, argT (by (conv => lhs; whnf); all_goals rfl), argE (by (conv => lhs; whnf); all_goals rfl) rfl, trivial⟩ ⟨boxL rfl rfl rfl ⟨(.ni _ rfl), trivial⟩, boxL rfl rfl rfl ⟨(.ni _ rfl), (.ni _ rfl), (.ni _ rfl), (.ni _ rfl), (.ni _ rfl), (.ni _ rfl), (.ni _ rfl), (.ni _ rfl), (.ni _ rfl), (.ni _ rfl), (.ni _ rfl), (.ni _ rfl), (.ni _ rfl), (.ni _ rfl), (.ni _ rfl), (.ni _ rfl), (.ni _ rfl), (.ni _ rfl), (.ni _ rfl), (.ni _ rfl), (.ni _ rfl), (.ni _ rfl), (.ni _ rfl), (.ni _ rfl), (.ni _ rfl), (.ni _ rfl), (.ni _ rfl), (.ni _ rfl), (.ni _ rfl), (.ni _ rfl), trivial⟩, boxL rfl rfl rfl ⟨(.ni _ rfl), trivial⟩, trivial⟩⟩
      · rw [drop_nil (show r_6.length ≤ k_13 by have h := of_decide_eq_false h; omega), law06_RegistryLocal_L2.eq_1] at hL2
        conv => whnf
        obtain rfl := Option.some.inj hL2
        replace hL1 := sub_brk hL1
        try dsimp only at hL1
        refine ⟨fun hb_74 => ?_, fun hb_74 => ?_⟩
        · replace hL1 := cond_t hb_74 hL1
          conv => whnf
          refine ⟨fun hb_75 => ?_, fun hb_75 => ?_⟩
          · replace hL1 := cond_t hb_75 hL1
            conv => whnf
            refine ⟨((k_9 + 1 : Nat) : Int), wrapE (by omega) (by omega) (by omega), ?_⟩
            conv => whnf
            exact ⟨(k_9 + 1, i_7), [0, 1, 2], [], [], ⟨hlt_k_9, hL1⟩, by show r_2.1.L.length - (k_9 + 1) < r_2.1.L.length - k_9; omega, wk_mk [0, 1, 2] [] [] rfl ⟨argP (id := 0) (by (conv => lhs; whnf); all_goals rfl) rfl, argP (id := 1) (by (conv => lhs; whnf); all_goals rfl) rfl, argP (id := 2) (by (conv => lhs; whnf); all_goals rfl) rfl, argE (by (conv => lhs; whnf); all_goals rfl) rfl, argE (by (conv => lhs; whnf); all_goals rfl) rfl, argE (by (conv => lhs; whnf); all_goals rfl) rfl, trivial⟩ ⟨boxL rfl rfl rfl ⟨(.ni _ rfl), trivial⟩, boxL rfl rfl rfl ⟨(.ni _ rfl), (.ni _ rfl), (.ni _ rfl), (.ni _ rfl), (.ni _ rfl), (.ni _ rfl), (.ni _ rfl), (.ni _ rfl), (.ni _ rfl), (.ni _ rfl), (.ni _ rfl), (.ni _ rfl), (.ni _ rfl), (.ni _ rfl), (.ni _ rfl), (.ni _ rfl), (.ni _ rfl), (.ni _ rfl), (.ni _ rfl), (.ni _ rfl), (.ni _ rfl), (.ni _ rfl), (.ni _ rfl), (.ni _ rfl), (.ni _ rfl), (.ni _ rfl), (.ni _ rfl), (.ni _ rfl), (.ni _ rfl), (.ni _ rfl), trivial⟩, boxL rfl rfl rfl ⟨(.ni _ rfl), trivial⟩, trivial⟩⟩
          · replace hL1 := cond_f hb_75 hL1
            conv => whnf
            refine ⟨_, rfl, ?_⟩
            conv => whnf
            refine ⟨k_9, _, rfl, ix_map h_e_10, ?_⟩
            conv => whnf
            obtain ⟨r_17, h_r_17, hL1⟩ := bind_some hL1
            refine ⟨_, _, _, _, _, _, _, _, callX false [] [] Try.func21 (by decide) rfl (registry_Find_ac r_4.1 e_10.Plate r_17 h_r_17) rfl ⟨(argE (by (conv => lhs; whnf); all_goals rfl) rfl), (argE (by (conv => lhs; whnf); all_goals rfl) rfl), trivial⟩ rfl trivial rfl rfl rfl lend0 trivial, ?_⟩
            conv => whnf
            refine ⟨by kernel_rfl, ?_⟩
            conv => whnf
            refine ⟨fun hb_76 => ?_, fun hb_76 => ?_⟩
            · replace hL1 := cond_f hb_76 hL1
              conv => whnf
              refine ⟨k_9, _, rfl, ix_map h_e_10, ?_⟩
              conv => whnf
              obtain ⟨r_18, h_r_18, hL1⟩ := bind_some hL1
              refine ⟨_, _, _, _, _, _, _, _, callX false [] [] Try.func22 (by decide) rfl (ref06_SameBag_ac r_17.1 e_10 r_18 h_r_18) rfl ⟨(argE (by (conv => lhs; whnf); all_goals rfl) rfl), (argE (by (conv => lhs; whnf); all_goals rfl) rfl), trivial⟩ rfl trivial rfl rfl rfl lend0 trivial, ?_⟩
              conv => whnf
              refine ⟨by kernel_rfl, ?_⟩
              conv => whnf
              refine ⟨fun hb_77 => ?_, fun hb_77 => ?_⟩
              · replace hL1 := cond_t hb_77 hL1
                conv => whnf
                obtain rfl := Option.some.inj hL1
                replace hF := fin_ret hF
                obtain rfl := Option.some.inj hF
                exact ret_gz [] [] [] rfl (argFl (by (conv => lhs; whnf); all_goals rfl)) trivial
              · replace hL1 := cond_f hb_77 hL1
                conv => whnf
                refine ⟨((k_9 + 1 : Nat) : Int), wrapE (by omega) (by omega) (by omega), ?_⟩
                conv => whnf
                exact ⟨(k_9 + 1, (w64 (i_7 + (1 : Int)))), [0, 1, 2], [], [], ⟨hlt_k_9, hL1⟩, by show r_2.1.L.length - (k_9 + 1) < r_2.1.L.length - k_9; omega, wk_mk [0, 1, 2] [] [] rfl ⟨argP (id := 0) (by (conv => lhs; whnf); all_goals rfl) rfl, argP (id := 1) (by (conv => lhs; whnf); all_goals rfl) rfl, argP (id := 2) (by (conv => lhs; whnf); all_goals rfl) rfl, argE (by (conv => lhs; whnf); all_goals rfl) rfl, argE (by (conv => lhs; whnf); all_goals rfl) rfl, argE (by (conv => lhs; whnf); all_goals rfl) rfl, trivial⟩ ⟨boxL rfl rfl rfl ⟨(.ni _ rfl), trivial⟩, boxL rfl rfl rfl ⟨(.ni _ rfl), (.ni _ rfl), (.ni _ rfl), (.ni _ rfl), (.ni _ rfl), (.ni _ rfl), (.ni _ rfl), (.ni _ rfl), (.ni _ rfl), (.ni _ rfl), (.ni _ rfl), (.ni _ rfl), (.ni _ rfl), (.ni _ rfl), (.ni _ rfl), (.ni _ rfl), (.ni _ rfl), (.ni _ rfl), (.ni _ rfl), (.ni _ rfl), (.ni _ rfl), (.ni _ rfl), (.ni _ rfl), (.ni _ rfl), (.ni _ rfl), (.ni _ rfl), (.ni _ rfl), (.ni _ rfl), (.ni _ rfl), (.ni _ rfl), trivial⟩, boxL rfl rfl rfl ⟨(.ni _ rfl), trivial⟩, trivial⟩⟩
            · replace hL1 := cond_t hb_76 hL1
              conv => whnf
              refine ⟨by kernel_rfl, ?_⟩
              conv => whnf
              obtain rfl := Option.some.inj hL1
              replace hF := fin_ret hF
              obtain rfl := Option.some.inj hF
              exact ret_gz [] [] [] rfl (argFl (by (conv => lhs; whnf); all_goals rfl)) trivial
        · replace hL1 := cond_f hb_74 hL1
          conv => whnf
          refine ⟨_, rfl, ?_⟩
          conv => whnf
          refine ⟨k_9, _, rfl, ix_map h_e_10, ?_⟩
          conv => whnf
          obtain ⟨r_19, h_r_19, hL1⟩ := bind_some hL1
          refine ⟨_, _, _, _, _, _, _, _, callX false [] [] Try.func21 (by decide) rfl (registry_Find_ac r_4.1 e_10.Plate r_19 h_r_19) rfl ⟨(argE (by (conv => lhs; whnf); all_goals rfl) rfl), (argE (by (conv => lhs; whnf); all_goals rfl) rfl), trivial⟩ rfl trivial rfl rfl rfl lend0 trivial, ?_⟩
          conv => whnf
          refine ⟨by kernel_rfl, ?_⟩
          conv => whnf
          refine ⟨fun hb_78 => ?_, fun hb_78 => ?_⟩
          · replace hL1 := cond_f hb_78 hL1
            conv => whnf
            refine ⟨k_9, _, rfl, ix_map h_e_10, ?_⟩
            conv => whnf
            obtain ⟨r_20, h_r_20, hL1⟩ := bind_some hL1
            refine ⟨_, _, _, _, _, _, _, _, callX false [] [] Try.func22 (by decide) rfl (ref06_SameBag_ac r_19.1 e_10 r_20 h_r_20) rfl ⟨(argE (by (conv => lhs; whnf); all_goals rfl) rfl), (argE (by (conv => lhs; whnf); all_goals rfl) rfl), trivial⟩ rfl trivial rfl rfl rfl lend0 trivial, ?_⟩
            conv => whnf
            refine ⟨by kernel_rfl, ?_⟩
            conv => whnf
            refine ⟨fun hb_79 => ?_, fun hb_79 => ?_⟩
            · replace hL1 := cond_t hb_79 hL1
              conv => whnf
              obtain rfl := Option.some.inj hL1
              replace hF := fin_ret hF
              obtain rfl := Option.some.inj hF
              exact ret_gz [] [] [] rfl (argFl (by (conv => lhs; whnf); all_goals rfl)) trivial
            · replace hL1 := cond_f hb_79 hL1
              conv => whnf
              refine ⟨((k_9 + 1 : Nat) : Int), wrapE (by omega) (by omega) (by omega), ?_⟩
              conv => whnf
              exact ⟨(k_9 + 1, (w64 (i_7 + (1 : Int)))), [0, 1, 2], [], [], ⟨hlt_k_9, hL1⟩, by show r_2.1.L.length - (k_9 + 1) < r_2.1.L.length - k_9; omega, wk_mk [0, 1, 2] [] [] rfl ⟨argP (id := 0) (by (conv => lhs; whnf); all_goals rfl) rfl, argP (id := 1) (by (conv => lhs; whnf); all_goals rfl) rfl, argP (id := 2) (by (conv => lhs; whnf); all_goals rfl) rfl, argE (by (conv => lhs; whnf); all_goals rfl) rfl, argE (by (conv => lhs; whnf); all_goals rfl) rfl, argE (by (conv => lhs; whnf); all_goals rfl) rfl, trivial⟩ ⟨boxL rfl rfl rfl ⟨(.ni _ rfl), trivial⟩, boxL rfl rfl rfl ⟨(.ni _ rfl), (.ni _ rfl), (.ni _ rfl), (.ni _ rfl), (.ni _ rfl), (.ni _ rfl), (.ni _ rfl), (.ni _ rfl), (.ni _ rfl), (.ni _ rfl), (.ni _ rfl), (.ni _ rfl), (.ni _ rfl), (.ni _ rfl), (.ni _ rfl), (.ni _ rfl), (.ni _ rfl), (.ni _ rfl), (.ni _ rfl), (.ni _ rfl), (.ni _ rfl), (.ni _ rfl), (.ni _ rfl), (.ni _ rfl), (.ni _ rfl), (.ni _ rfl), (.ni _ rfl), (.ni _ rfl), (.ni _ rfl), (.ni _ rfl), trivial⟩, boxL rfl rfl rfl ⟨(.ni _ rfl), trivial⟩, trivial⟩⟩
          · replace hL1 := cond_t hb_78 hL1
            conv => whnf
            refine ⟨by kernel_rfl, ?_⟩
            conv => whnf
            obtain rfl := Option.some.inj hL1
            replace hF := fin_ret hF
            obtain rfl := Option.some.inj hF
            exact ret_gz [] [] [] rfl (argFl (by (conv => lhs; whnf); all_goals rfl)) trivial
    · rw [drop_nil (show r_2.1.L.length ≤ k_9 by have h := of_decide_eq_false h; omega), law06_RegistryLocal_L1.eq_1] at hL1
      conv => whnf
      obtain rfl := Option.some.inj hL1
      replace hF := fin_brk hF
      try dsimp only at hF
      obtain ⟨c_3, hc_3, hF⟩ := fin_some hF
      refine sw_bc 2 (cs := [.lst 25 (r_4.1.L.map encBag)]) (by (conv => lhs; whnf); all_goals rfl) (fun hb => ?_)
      have hbd_k_25 : r_4.1.L.length ≤ 9223372036854775807 := bnd_len (enc := encBag) ((bnd_at hb 0 rfl))
      refine sw_loop tab_ok follows_ok (fun y : Nat × Int => y.1 ≤ r_4.1.L.length ∧ law06_RegistryLocal_L3 r_6 (r_4.1.L.drop y.1) y.1 y.2 = some c_3) (fun y => ⟨eL [(5, .ptr 0 0), (6, .ptr 1 0), (8, .lst 3 (r_6.map encPlate)), (9, .int .i64 y.2), (15, .int .i64 (y.1 : Int))], hL [(0, .box [.int .i64 r_3.1.Kind, .int .i64 r_3.1.Do, .str r_3.1.Port, .int .i64 r_3.1.Number, .str r_3.1.In.Flight.Carrier, .int .i64 r_3.1.In.Flight.Number, .str r_3.1.In.Flight.Suffix, .int .i64 r_3.1.In.Flight.Day, .str r_3.1.In.Port, .str r_3.1.In.Class, .str r_3.1.Out.Flight.Carrier, .int .i64 r_3.1.Out.Flight.Number, .str r_3.1.Out.Flight.Suffix, .int .i64 r_3.1.Out.Flight.Day, .str r_3.1.Out.Port, .str r_3.1.Out.Class, .lst 6 (r_3.1.Onward.map encLeg), .int .i64 r_3.1.First.Lead, .int .i64 r_3.1.First.Airline, .int .i64 r_3.1.First.Serial, .int .i64 r_3.1.Count, .bool r_3.1.Load, .int .i64 r_3.1.Status, .int .i64 r_3.1.Sequence, .int .i64 r_3.1.Weight, .str r_3.1.Surname, .str r_3.1.Given, .int .i64 r_3.1.Exception, .str r_3.1.Node, .lst 1 (r_3.1.List.map iA)]), (1, .box [.lst 25 (r_4.1.L.map encBag)])], 2⟩) (fun y => r_4.1.L.length - y.1) (0, i_7) ⟨Nat.zero_le _, hc_3⟩ (wk_mk [1, 2] [] [] rfl ⟨argP (id := 1) (by (conv => lhs; whnf); all_goals rfl) rfl, argP (id := 2) (by (conv => lhs; whnf); all_goals rfl) rfl, argE (by (conv => lhs; whnf); all_goals rfl) rfl, argE (by (conv => lhs; whnf); all_goals rfl) rfl, argE (by (conv => lhs; whnf); all_goals rfl) rfl, trivial⟩ ⟨boxL rfl rfl rfl ⟨(.ni _ rfl), (.ni _ rfl), (.ni _ rfl), (.ni _ rfl), (.ni _ rfl), (.ni _ rfl), (.ni _ rfl), (.ni _ rfl), (.ni _ rfl), (.ni _ rfl), (.ni _ rfl), (.ni _ rfl), (.ni _ rfl), (.ni _ rfl), (.ni _ rfl), (.ni _ rfl), (.ni _ rfl), (.ni _ rfl), (.ni _ rfl), (.ni _ rfl), (.ni _ rfl), (.ni _ rfl), (.ni _ rfl), (.ni _ rfl), (.ni _ rfl), (.ni _ rfl), (.ni _ rfl), (.ni _ rfl), (.ni _ rfl), (.ni _ rfl), trivial⟩, boxL rfl rfl rfl ⟨(.ni _ rfl), trivial⟩, trivial⟩) ?_
      rintro ⟨k_25, i_23⟩ ⟨hk_k_25, hL1⟩
      try dsimp only at hk_k_25 hL1
      show awp _ _ _ _ _ _ ⟨eL [(5, .ptr 0 0), (6, .ptr 1 0), (8, .lst 3 (r_6.map encPlate)), (9, .int .i64 i_23), (15, .int .i64 (k_25 : Int))], hL [(0, .box [.int .i64 r_3.1.Kind, .int .i64 r_3.1.Do, .str r_3.1.Port, .int .i64 r_3.1.Number, .str r_3.1.In.Flight.Carrier, .int .i64 r_3.1.In.Flight.Number, .str r_3.1.In.Flight.Suffix, .int .i64 r_3.1.In.Flight.Day, .str r_3.1.In.Port, .str r_3.1.In.Class, .str r_3.1.Out.Flight.Carrier, .int .i64 r_3.1.Out.Flight.Number, .str r_3.1.Out.Flight.Suffix, .int .i64 r_3.1.Out.Flight.Day, .str r_3.1.Out.Port, .str r_3.1.Out.Class, .lst 6 (r_3.1.Onward.map encLeg), .int .i64 r_3.1.First.Lead, .int .i64 r_3.1.First.Airline, .int .i64 r_3.1.First.Serial, .int .i64 r_3.1.Count, .bool r_3.1.Load, .int .i64 r_3.1.Status, .int .i64 r_3.1.Sequence, .int .i64 r_3.1.Weight, .str r_3.1.Surname, .str r_3.1.Given, .int .i64 r_3.1.Exception, .str r_3.1.Node, .lst 1 (r_3.1.List.map iA)]), (1, .box [.lst 25 (r_4.1.L.map encBag)])], 2⟩
      conv => whnf
      refine len_q (enc := encBag) (l := r_4.1.L) rfl ?_
      conv => whnf
      refine ⟨fun h => ?_, fun h => ?_⟩
      · have hlt_k_25 : k_25 < r_4.1.L.length := by have h := of_decide_eq_true h; omega
        obtain ⟨e_26, h_e_26⟩ : ∃ y, r_4.1.L[k_25]? = some y := ⟨_, List.getElem?_eq_getElem hlt_k_25⟩
        rw [drop_cons h_e_26, law06_RegistryLocal_L3.eq_2] at hL1
        conv => whnf
        obtain ⟨c_2, hc_2, hL1⟩ := sub_some hL1
        refine sw_bv 8 (v := .lst 3 (r_6.map encPlate)) (by (conv => lhs; whnf); all_goals rfl) (fun hb => ?_)
        have hbd_k_29 : r_6.length ≤ 9223372036854775807 := bnd_len (enc := encPlate) (hb)
        refine sw_loop tab_ok follows_ok (fun y : Nat × Bool => y.1 ≤ r_6.length ∧ law06_RegistryLocal_L2 e_26 (r_6.drop y.1) y.1 y.2 = some c_2) (fun y => ⟨eL [(5, .ptr 0 0), (6, .ptr 1 0), (8, .lst 3 (r_6.map encPlate)), (9, .int .i64 i_23), (15, .int .i64 (k_25 : Int)), (16, .bool y.2), (17, .int .i64 (y.1 : Int))], hL [(0, .box [.int .i64 r_3.1.Kind, .int .i64 r_3.1.Do, .str r_3.1.Port, .int .i64 r_3.1.Number, .str r_3.1.In.Flight.Carrier, .int .i64 r_3.1.In.Flight.Number, .str r_3.1.In.Flight.Suffix, .int .i64 r_3.1.In.Flight.Day, .str r_3.1.In.Port, .str r_3.1.In.Class, .str r_3.1.Out.Flight.Carrier, .int .i64 r_3.1.Out.Flight.Number, .str r_3.1.Out.Flight.Suffix, .int .i64 r_3.1.Out.Flight.Day, .str r_3.1.Out.Port, .str r_3.1.Out.Class, .lst 6 (r_3.1.Onward.map encLeg), .int .i64 r_3.1.First.Lead, .int .i64 r_3.1.First.Airline, .int .i64 r_3.1.First.Serial, .int .i64 r_3.1.Count, .bool r_3.1.Load, .int .i64 r_3.1.Status, .int .i64 r_3.1.Sequence, .int .i64 r_3.1.Weight, .str r_3.1.Surname, .str r_3.1.Given, .int .i64 r_3.1.Exception, .str r_3.1.Node, .lst 1 (r_3.1.List.map iA)]), (1, .box [.lst 25 (r_4.1.L.map encBag)])], 2⟩) (fun y => r_6.length - y.1) (0, false) ⟨Nat.zero_le _, hc_2⟩ (wk_mk [0, 1] [] [] rfl ⟨argP (id := 0) (by (conv => lhs; whnf); all_goals rfl) rfl, argP (id := 1) (by (conv => lhs; whnf); all_goals rfl) rfl, argE (by (conv => lhs; whnf); all_goals rfl) rfl, argE (by (conv => lhs; whnf); all_goals rfl) rfl, argE (by (conv => lhs; whnf); all_goals rfl) rfl, argFl (by (conv => lhs; whnf); all_goals rfl), argE (by (conv => lhs; whnf); all_goals rfl) rfl, trivial⟩ ⟨boxL rfl rfl rfl ⟨(.ni _ rfl), (.ni _ rfl), (.ni _ rfl), (.ni _ rfl), (.ni _ rfl), (.ni _ rfl), (.ni _ rfl), (.ni _ rfl), (.ni _ rfl), (.ni _ rfl), (.ni _ rfl), (.ni _ rfl), (.ni _ rfl), (.ni _ rfl), (.ni _ rfl), (.ni _ rfl), (.ni _ rfl), (.ni _ rfl), (.ni _ rfl), (.ni _ rfl), (.ni _ rfl), (.ni _ rfl), (.ni _ rfl), (.ni _ rfl), (.ni _ rfl), (.ni _ rfl), (.ni _ rfl), (.ni _ rfl), (.ni _ rfl), (.ni _ rfl), trivial⟩, boxL rfl rfl rfl ⟨(.ni _ rfl), trivial⟩, trivial⟩) ?_
        rintro ⟨k_29, b_27⟩ ⟨hk_k_29, hL2⟩
        try dsimp only at hk_k_29 hL2
        show awp _ _ _ _ _ _ ⟨eL [(5, .ptr 0 0), (6, .ptr 1 0), (8, .lst 3 (r_6.map encPlate)), (9, .int .i64 i_23), (15, .int .i64 (k_25 : Int)), (16, .bool b_27), (17, .int .i64 (k_29 : Int))], hL [(0, .box [.int .i64 r_3.1.Kind, .int .i64 r_3.1.Do, .str r_3.1.Port, .int .i64 r_3.1.Number, .str r_3.1.In.Flight.Carrier, .int .i64 r_3.1.In.Flight.Number, .str r_3.1.In.Flight.Suffix, .int .i64 r_3.1.In.Flight.Day, .str r_3.1.In.Port, .str r_3.1.In.Class, .str r_3.1.Out.Flight.Carrier, .int .i64 r_3.1.Out.Flight.Number, .str r_3.1.Out.Flight.Suffix, .int .i64 r_3.1.Out.Flight.Day, .str r_3.1.Out.Port, .str r_3.1.Out.Class, .lst 6 (r_3.1.Onward.map encLeg), .int .i64 r_3.1.First.Lead, .int .i64 r_3.1.First.Airline, .int .i64 r_3.1.First.Serial, .int .i64 r_3.1.Count, .bool r_3.1.Load, .int .i64 r_3.1.Status, .int .i64 r_3.1.Sequence, .int .i64 r_3.1.Weight, .str r_3.1.Surname, .str r_3.1.Given, .int .i64 r_3.1.Exception, .str r_3.1.Node, .lst 1 (r_3.1.List.map iA)]), (1, .box [.lst 25 (r_4.1.L.map encBag)])], 2⟩
        conv => whnf
        refine len_q (enc := encPlate) (l := r_6) rfl ?_
        conv => whnf
        refine ⟨fun h => ?_, fun h => ?_⟩
        · have hlt_k_29 : k_29 < r_6.length := by have h := of_decide_eq_true h; omega
          obtain ⟨e_30, h_e_30⟩ : ∃ y, r_6[k_29]? = some y := ⟨_, List.getElem?_eq_getElem hlt_k_29⟩
          rw [drop_cons h_e_30, law06_RegistryLocal_L2.eq_2] at hL2
          conv => whnf
          refine ⟨fun hb_80 => ?_, fun hb_80 => ?_⟩
          · replace hL2 := cond_f hb_80 hL2
            conv => whnf
            refine ⟨k_29, _, rfl, ix_map h_e_30, ?_⟩
            conv => whnf
            refine ⟨k_25, _, rfl, ix_map h_e_26, ?_⟩
            conv => whnf
            refine ⟨by kernel_rfl, ?_⟩
            conv => whnf
            refine ⟨((k_29 + 1 : Nat) : Int), wrapE (by omega) (by omega) (by omega), ?_⟩
            conv => whnf
            exact ⟨(k_29 + 1, ((e_30.Lead == e_26.Plate.Lead) && ((e_30.Airline == e_26.Plate.Airline) && ((e_30.Serial == e_26.Plate.Serial) && true)))), [0, 1], [], [], ⟨hlt_k_29, hL2⟩, by show r_6.length - (k_29 + 1) < r_6.length - k_29; omega, wk_mk [0, 1] [] [] rfl ⟨argP (id := 0) (by (conv => lhs; whnf); all_goals rfl) rfl, argP (id := 1) (by (conv => lhs; whnf); all_goals rfl) rfl, argE (by (conv => lhs; whnf); all_goals rfl) rfl, argE (by (conv => lhs; whnf); all_goals rfl) rfl, argE (by (conv => lhs; whnf); all_goals rfl) rfl, argE (by (conv => lhs; whnf); all_goals rfl) rfl, argE (by (conv => lhs; whnf); all_goals rfl) rfl, trivial⟩ ⟨boxL rfl rfl rfl ⟨(.ni _ rfl), (.ni _ rfl), (.ni _ rfl), (.ni _ rfl), (.ni _ rfl), (.ni _ rfl), (.ni _ rfl), (.ni _ rfl), (.ni _ rfl), (.ni _ rfl), (.ni _ rfl), (.ni _ rfl), (.ni _ rfl), (.ni _ rfl), (.ni _ rfl), (.ni _ rfl), (.ni _ rfl), (.ni _ rfl), (.ni _ rfl), (.ni _ rfl), (.ni _ rfl), (.ni _ rfl), (.ni _ rfl), (.ni _ rfl), (.ni _ rfl), (.ni _ rfl), (.ni _ rfl), (.ni _ rfl), (.ni _ rfl), (.ni _ rfl), trivial⟩, boxL rfl rfl rfl ⟨(.ni _ rfl), trivial⟩, trivial⟩⟩
          · replace hL2 := cond_t hb_80 hL2
            conv => whnf
            refine ⟨by kernel_rfl, ?_⟩
            conv => whnf
            refine ⟨((k_29 + 1 : Nat) : Int), wrapE (by omega) (by omega) (by omega), ?_⟩
            conv => whnf
            exact ⟨(k_29 + 1, true), [0, 1], [], [], ⟨hlt_k_29, hL2⟩, by show r_6.length - (k_29 + 1) < r_6.length - k_29; omega, wk_mk [0, 1] [] [] rfl ⟨argP (id := 0) (by (conv => lhs; whnf); all_goals rfl) rfl, argP (id := 1) (by (conv => lhs; whnf); all_goals rfl) rfl, argE (by (conv => lhs; whnf); all_goals rfl) rfl, argE (by (conv => lhs; whnf); all_goals rfl) rfl, argE (by (conv => lhs; whnf); all_goals rfl) rfl, argT (by (conv => lhs; whnf); all_goals rfl), argE (by (conv => lhs; whnf); all_goals rfl) rfl, trivial⟩ ⟨boxL rfl rfl rfl ⟨(.ni _ rfl), (.ni _ rfl), (.ni _ rfl), (.ni _ rfl), (.ni _ rfl), (.ni _ rfl), (.ni _ rfl), (.ni _ rfl), (.ni _ rfl), (.ni _ rfl), (.ni _ rfl), (.ni _ rfl), (.ni _ rfl), (.ni _ rfl), (.ni _ rfl), (.ni _ rfl), (.ni _ rfl), (.ni _ rfl), (.ni _ rfl), (.ni _ rfl), (.ni _ rfl), (.ni _ rfl), (.ni _ rfl), (.ni _ rfl), (.ni _ rfl), (.ni _ rfl), (.ni _ rfl), (.ni _ rfl), (.ni _ rfl), (.ni _ rfl), trivial⟩, boxL rfl rfl rfl ⟨(.ni _ rfl), trivial⟩, trivial⟩⟩
        · rw [drop_nil (show r_6.length ≤ k_29 by have h := of_decide_eq_false h; omega), law06_RegistryLocal_L2.eq_1] at hL2
          conv => whnf
          obtain rfl := Option.some.inj hL2
          replace hL1 := sub_brk hL1
          try dsimp only at hL1
          refine ⟨fun hb_81 => ?_, fun hb_81 => ?_⟩
          · replace hL1 := cond_t hb_81 hL1
            conv => whnf
            refine ⟨_, rfl, ?_⟩
            conv => whnf
            refine ⟨((k_25 + 1 : Nat) : Int), wrapE (by omega) (by omega) (by omega), ?_⟩
            conv => whnf
            exact ⟨(k_25 + 1, (w64 (i_23 - (1 : Int)))), [0, 1], [], [], ⟨hlt_k_25, hL1⟩, by show r_4.1.L.length - (k_25 + 1) < r_4.1.L.length - k_25; omega, wk_mk [0, 1] [] [] rfl ⟨argP (id := 0) (by (conv => lhs; whnf); all_goals rfl) rfl, argP (id := 1) (by (conv => lhs; whnf); all_goals rfl) rfl, argE (by (conv => lhs; whnf); all_goals rfl) rfl, argE (by (conv => lhs; whnf); all_goals rfl) rfl, argE (by (conv => lhs; whnf); all_goals rfl) rfl, trivial⟩ ⟨boxL rfl rfl rfl ⟨(.ni _ rfl), (.ni _ rfl), (.ni _ rfl), (.ni _ rfl), (.ni _ rfl), (.ni _ rfl), (.ni _ rfl), (.ni _ rfl), (.ni _ rfl), (.ni _ rfl), (.ni _ rfl), (.ni _ rfl), (.ni _ rfl), (.ni _ rfl), (.ni _ rfl), (.ni _ rfl), (.ni _ rfl), (.ni _ rfl), (.ni _ rfl), (.ni _ rfl), (.ni _ rfl), (.ni _ rfl), (.ni _ rfl), (.ni _ rfl), (.ni _ rfl), (.ni _ rfl), (.ni _ rfl), (.ni _ rfl), (.ni _ rfl), (.ni _ rfl), trivial⟩, boxL rfl rfl rfl ⟨(.ni _ rfl), trivial⟩, trivial⟩⟩
          · replace hL1 := cond_f hb_81 hL1
            conv => whnf
            refine ⟨((k_25 + 1 : Nat) : Int), wrapE (by omega) (by omega) (by omega), ?_⟩
            conv => whnf
            exact ⟨(k_25 + 1, i_23), [0, 1], [], [], ⟨hlt_k_25, hL1⟩, by show r_4.1.L.length - (k_25 + 1) < r_4.1.L.length - k_25; omega, wk_mk [0, 1] [] [] rfl ⟨argP (id := 0) (by (conv => lhs; whnf); all_goals rfl) rfl, argP (id := 1) (by (conv => lhs; whnf); all_goals rfl) rfl, argE (by (conv => lhs; whnf); all_goals rfl) rfl, argE (by (conv => lhs; whnf); all_goals rfl) rfl, argE (by (conv => lhs; whnf); all_goals rfl) rfl, trivial⟩ ⟨boxL rfl rfl rfl ⟨(.ni _ rfl), (.ni _ rfl), (.ni _ rfl), (.ni _ rfl), (.ni _ rfl), (.ni _ rfl), (.ni _ rfl), (.ni _ rfl), (.ni _ rfl), (.ni _ rfl), (.ni _ rfl), (.ni _ rfl), (.ni _ rfl), (.ni _ rfl), (.ni _ rfl), (.ni _ rfl), (.ni _ rfl), (.ni _ rfl), (.ni _ rfl), (.ni _ rfl), (.ni _ rfl), (.ni _ rfl), (.ni _ rfl), (.ni _ rfl), (.ni _ rfl), (.ni _ rfl), (.ni _ rfl), (.ni _ rfl), (.ni _ rfl), (.ni _ rfl), trivial⟩, boxL rfl rfl rfl ⟨(.ni _ rfl), trivial⟩, trivial⟩⟩
      · rw [drop_nil (show r_4.1.L.length ≤ k_25 by have h := of_decide_eq_false h; omega), law06_RegistryLocal_L3.eq_1] at hL1
        conv => whnf
        obtain rfl := Option.some.inj hL1
        replace hF := fin_brk hF
        try dsimp only at hF
        refine ⟨fun hb_82 => ?_, fun hb_82 => ?_⟩
        · replace hF := cond_f hb_82 hF
          conv => whnf
          refine ⟨fun hb_83 => ?_, fun hb_83 => ?_⟩
          · replace hF := cond_t hb_83 hF
            conv => whnf
            obtain ⟨r_36, h_r_36, hF⟩ := bind_some hF
            refine ⟨_, _, _, _, _, _, _, _, callX false [] [] Try.func10 (by decide) rfl (law06_awake_ac r_36 h_r_36) rfl trivial rfl trivial rfl rfl rfl lend0 trivial, ?_⟩
            conv => whnf
            obtain rfl := Option.some.inj hF
            exact ret_gz [] [] [] rfl (argE (by (conv => lhs; whnf); all_goals rfl) rfl) trivial
          · replace hF := cond_f hb_83 hF
            conv => whnf
            obtain rfl := Option.some.inj hF
            exact ret_gz [] [] [] rfl (argFl (by (conv => lhs; whnf); all_goals rfl)) trivial
        · replace hF := cond_t hb_82 hF
          conv => whnf
          obtain ⟨r_35, h_r_35, hF⟩ := bind_some hF
          refine ⟨_, _, _, _, _, _, _, _, callX false [] [] Try.func10 (by decide) rfl (law06_awake_ac r_35 h_r_35) rfl trivial rfl trivial rfl rfl rfl lend0 trivial, ?_⟩
          conv => whnf
          obtain rfl := Option.some.inj hF
          exact ret_gz [] [] [] rfl (argE (by (conv => lhs; whnf); all_goals rfl) rfl) trivial
end Go.Proofs.Ytkliakcegihikaa.Ex
