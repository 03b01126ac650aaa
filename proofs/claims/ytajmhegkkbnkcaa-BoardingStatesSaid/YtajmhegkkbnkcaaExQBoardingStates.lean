/- The functions of the program compute what was printed; walks printed by a program. -/
import Derived.Test.YtajmhegkkbnkcaaExF
import Derived.Test.YtajmhegkkbnkcaaExP1
import Derived.Test.YtajmhegkkbnkcaaExP2
namespace Go.Proofs.Ytajmhegkkbnkcaa.Ex
open Go.RowKit Go.Proofs.Ytajmhegkkbnkcaa.Ax
set_option linter.unusedVariables false
set_option linter.unusedSimpArgs false
set_option maxRecDepth 100000 in
set_option maxHeartbeats 40000000 in
theorem law25_BoardingStates_ac (x_0 : (List Int)) (x_1 : Int) (x_2 : Int) (r : Bool) (hF : law25_BoardingStates x_0 x_1 x_2 = some r) : AC Try.prog 6 [.lst 1 (x_0.map iA), .int .i64 x_1, .int .i64 x_2] [] (.bool r) [] := by
  refine ac_of tab_ok follows_ok Try.func6 rfl Try.ntmps6 rfl ?_
  unfold law25_BoardingStates at hF
  conv => whnf
  obtain ⟨r_1, h_r_1, hF⟩ := bind_some hF
  refine ⟨_, _, _, _, _, _, _, _, callX false [] [] Try.func11 (by decide) rfl (keep_New_ac x_0 r_1 h_r_1) rfl ⟨(argE (by (conv => lhs; whnf); all_goals rfl) rfl), trivial⟩ rfl trivial rfl rfl rfl lend0 ⟨rfl, trivial⟩, ?_⟩
  conv => whnf
  obtain ⟨r_2, h_r_2, hF⟩ := bind_some hF
  refine ⟨_, _, _, _, _, _, _, _, callX false [0] [] Try.func16 (by decide) rfl (keep_Src_N_ac r_1 (12 : Int) r_2 h_r_2) rfl ⟨(argP (id := 0) (by (conv => lhs; whnf); all_goals rfl) rfl), (argE (by (conv => lhs; whnf); all_goals rfl) rfl), trivial⟩ rfl ⟨rfl, trivial⟩ rfl rfl rfl lend0 ⟨rfl, trivial⟩, ?_⟩
  conv => whnf
  obtain ⟨c_1, hc_1, hF⟩ := fin_some hF
  refine sw_loop tab_ok follows_ok (fun y : Nat × (List Int) × Int × (List Message) × (List Manifest) × Int => law25_BoardingStates_L1 y.1 y.2.1 y.2.2.1 y.2.2.2.1 y.2.2.2.2.1 y.2.2.2.2.2 = some c_1) (fun y => ⟨eL [(1, .int .i64 x_1), (2, .int .i64 x_2), (7, .ptr 0 0), (8, .osl 1), (9, .lst 7 (y.2.2.2.2.1.map encManifest)), (10, .int .i64 y.2.2.2.2.2)], hL [(0, .box [.lst 1 (y.2.1.map iA), .int .i64 y.2.2.1]), (1, .row 30 (y.2.2.2.1.map encMessage))], 2⟩) (fun y => y.1) (9223372036854775807, r_2.2.L, r_2.2.At, ([] : List Message), ([] : List Manifest), r_2.1) hc_1 (wk_mk [0] [1] [] rfl ⟨argE (by (conv => lhs; whnf); all_goals rfl) rfl, argE (by (conv => lhs; whnf); all_goals rfl) rfl, argP (id := 0) (by (conv => lhs; whnf); all_goals rfl) rfl, argZ (by (conv => lhs; whnf); all_goals rfl) rfl, argN (by (conv => lhs; whnf); all_goals rfl), argE (by (conv => lhs; whnf); all_goals rfl) rfl, trivial⟩ ⟨boxL rfl rfl rfl ⟨(.ni _ rfl), (.ni _ rfl), trivial⟩, blkZ rfl, trivial⟩) ?_
  rintro ⟨q_11, a_3, i_4, a_5, a_6, i_7⟩ hL1
  try dsimp only at hL1
  rcases q_11 with _ | q_11
  · rw [law25_BoardingStates_L1.eq_1] at hL1
    cases hL1
  rw [law25_BoardingStates_L1.eq_2] at hL1
  show awp _ _ _ _ _ _ ⟨eL [(1, .int .i64 x_1), (2, .int .i64 x_2), (7, .ptr 0 0), (8, .osl 1), (9, .lst 7 (a_6.map encManifest)), (10, .int .i64 i_7)], hL [(0, .box [.lst 1 (a_3.map iA), .int .i64 i_4]), (1, .row 30 (a_5.map encMessage))], 2⟩
  conv => whnf
  refine ⟨fun hb_276 => ?_, fun hb_276 => ?_⟩
  · replace hL1 := cond_t hb_276 hL1
    conv => whnf
    obtain ⟨r_8, h_r_8, hL1⟩ := bind_some hL1
    refine ⟨_, _, _, _, _, _, _, _, callX false [0] [] Try.func21 (by decide) rfl (keep_Src_List_ac (⟨a_3, i_4⟩ : Src) r_8 h_r_8) rfl ⟨(argP (id := 0) (by (conv => lhs; whnf); all_goals rfl) rfl), trivial⟩ rfl ⟨rfl, trivial⟩ rfl rfl rfl lend0 ⟨rfl, trivial⟩, ?_⟩
    conv => whnf
    obtain ⟨l_9, h_l_9, hL1⟩ := bind_some hL1
    refine ap_q (enc := encMessage) (l := a_5) (y := ([r_8.1] : List Message)) h_l_9 rfl rfl (by decide) ?_
    conv => whnf
    obtain ⟨r_10, h_r_10, hL1⟩ := bind_some hL1
    refine ⟨_, _, _, _, _, _, _, _, callX false [] [] Try.func25 (by decide) rfl (boarding_Apply_ac a_6 r_8.1 r_10 h_r_10) rfl ⟨(argE (by (conv => lhs; whnf); all_goals rfl) rfl), (argE (by (conv => lhs; whnf); all_goals rfl) rfl), trivial⟩ rfl trivial rfl rfl rfl lend0 trivial, ?_⟩
    conv => whnf
    refine ⟨fun hb_277 => ?_, fun hb_277 => ?_⟩
    · replace hL1 := cond_t hb_277 hL1
      conv => whnf
      obtain rfl := Option.some.inj hL1
      replace hF := fin_ret hF
      obtain rfl := Option.some.inj hF
      exact ret_gz [] [] [] rfl (argFl (by (conv => lhs; whnf); all_goals rfl)) trivial
    · replace hL1 := cond_f hb_277 hL1
      conv => whnf
      refine ⟨_, rfl, ?_⟩
      conv => whnf
      exact ⟨(q_11, r_8.2.L, r_8.2.At, l_9, r_10.1, (w64 (i_7 - (1 : Int)))), [0, 5], [], [], hL1, Nat.lt_succ_self _, wk_mk [0, 5] [] [] rfl ⟨argE (by (conv => lhs; whnf); all_goals rfl) rfl, argE (by (conv => lhs; whnf); all_goals rfl) rfl, argP (id := 0) (by (conv => lhs; whnf); all_goals rfl) rfl, argO (id := 5) (by (conv => lhs; whnf); all_goals rfl) rfl, argE (by (conv => lhs; whnf); all_goals rfl) rfl, argE (by (conv => lhs; whnf); all_goals rfl) rfl, trivial⟩ ⟨boxL rfl rfl rfl ⟨(.ni _ rfl), (.ni _ rfl), trivial⟩, blkR (fun _ => ⟨rfl, rfl⟩) rfl rfl, trivial⟩⟩
  · replace hL1 := cond_f hb_276 hL1
    conv => whnf
    obtain rfl := Option.some.inj hL1
    replace hF := fin_brk hF
    try dsimp only at hF
    obtain ⟨r_13, h_r_13, hF⟩ := bind_some hF
    refine ⟨_, _, _, _, _, _, _, _, callX false [0] [] Try.func16 (by decide) rfl (keep_Src_N_ac (⟨a_3, i_4⟩ : Src) (12 : Int) r_13 h_r_13) rfl ⟨(argP (id := 0) (by (conv => lhs; whnf); all_goals rfl) rfl), (argE (by (conv => lhs; whnf); all_goals rfl) rfl), trivial⟩ rfl ⟨rfl, trivial⟩ rfl rfl rfl lend0 ⟨rfl, trivial⟩, ?_⟩
    conv => whnf
    refine ⟨_, rfl, ?_⟩
    conv => whnf
    obtain ⟨r_14, h_r_14, hF⟩ := bind_some hF
    refine ⟨_, _, _, _, _, _, _, _, callX false [0] [] Try.func16 (by decide) rfl (keep_Src_N_ac r_13.2 (12 : Int) r_14 h_r_14) rfl ⟨(argP (id := 0) (by (conv => lhs; whnf); all_goals rfl) rfl), (argE (by (conv => lhs; whnf); all_goals rfl) rfl), trivial⟩ rfl ⟨rfl, trivial⟩ rfl rfl rfl lend0 ⟨rfl, trivial⟩, ?_⟩
    conv => whnf
    refine ⟨_, rfl, ?_⟩
    conv => whnf
    refine len_q (enc := iA) (l := ([x_1, (w64 ((1 : Int) + r_13.1)), (w64 ((1 : Int) + r_14.1))] : List Int)) rfl ?_
    conv => whnf
    obtain ⟨c_2, hc_2, hF⟩ := fin_some hF
    refine sw_br 4 (sz := 1) (xs := ([x_1, (w64 ((1 : Int) + r_13.1)), (w64 ((1 : Int) + r_14.1))] : List Int).map iA) (by (conv => lhs; whnf); all_goals rfl) (fun hb => ?_)
    have hbd_k_16 : ([x_1, (w64 ((1 : Int) + r_13.1)), (w64 ((1 : Int) + r_14.1))] : List Int).length ≤ 9223372036854775807 := bnd_len (enc := iA) (hb)
    refine sw_loop tab_ok follows_ok (fun y : Nat => y ≤ ([x_1, (w64 ((1 : Int) + r_13.1)), (w64 ((1 : Int) + r_14.1))] : List Int).length ∧ law25_BoardingStates_L2 x_2 (a_3, i_4, a_5, a_6) (([x_1, (w64 ((1 : Int) + r_13.1)), (w64 ((1 : Int) + r_14.1))] : List Int).drop y) y = some c_2) (fun y => ⟨eL [(2, .int .i64 x_2), (8, .osl 0), (9, .lst 7 (a_6.map encManifest)), (54, .osl 1), (55, .int .i64 (([x_1, (w64 ((1 : Int) + r_13.1)), (w64 ((1 : Int) + r_14.1))] : List Int).length : Int)), (56, .int .i64 (y : Int))], hL [(0, .row 30 (a_5.map encMessage)), (1, .row 1 (([x_1, (w64 ((1 : Int) + r_13.1)), (w64 ((1 : Int) + r_14.1))] : List Int).map iA))], 2⟩) (fun y => ([x_1, (w64 ((1 : Int) + r_13.1)), (w64 ((1 : Int) + r_14.1))] : List Int).length - y) 0 ⟨Nat.zero_le _, hc_2⟩ (wk_mk [1, 4] [] [] rfl ⟨argE (by (conv => lhs; whnf); all_goals rfl) rfl, argO (id := 1) (by (conv => lhs; whnf); all_goals rfl) rfl, argE (by (conv => lhs; whnf); all_goals rfl) rfl, argO (id := 4) (by (conv => lhs; whnf); all_goals rfl) rfl, argE (by (conv => lhs; whnf); all_goals rfl) rfl, argE (by (conv => lhs; whnf); all_goals rfl) rfl, trivial⟩ ⟨blkR (fun _ => ⟨rfl, rfl⟩) rfl rfl, blkR (fun _ => ⟨rfl, rfl⟩) rfl rfl, trivial⟩) ?_
    rintro k_16 ⟨hk_k_16, hL1⟩
    try dsimp only at hk_k_16 hL1
    show awp _ _ _ _ _ _ ⟨eL [(2, .int .i64 x_2), (8, .osl 0), (9, .lst 7 (a_6.map encManifest)), (54, .osl 1), (55, .int .i64 (([x_1, (w64 ((1 : Int) + r_13.1)), (w64 ((1 : Int) + r_14.1))] : List Int).length : Int)), (56, .int .i64 (k_16 : Int))], hL [(0, .row 30 (a_5.map encMessage)), (1, .row 1 (([x_1, (w64 ((1 : Int) + r_13.1)), (w64 ((1 : Int) + r_14.1))] : List Int).map iA))], 2⟩
    conv => whnf
    refine ⟨fun h => ?_, fun h => ?_⟩
    · have hlt_k_16 : k_16 < ([x_1, (w64 ((1 : Int) + r_13.1)), (w64 ((1 : Int) + r_14.1))] : List Int).length := by have h := of_decide_eq_true h; omega
      obtain ⟨e_17, h_e_17⟩ : ∃ y, ([x_1, (w64 ((1 : Int) + r_13.1)), (w64 ((1 : Int) + r_14.1))] : List Int)[k_16]? = some y := ⟨_, List.getElem?_eq_getElem hlt_k_16⟩
      rw [drop_cons h_e_17, law25_BoardingStates_L2.eq_2] at hL1
      conv => whnf
      refine ⟨k_16, rfl, by rw [List.length_map]; exact hlt_k_16, ?_⟩
      conv => whnf
      refine ⟨_, ix_map (enc := iA) h_e_17, ?_⟩
      conv => whnf
      obtain ⟨c_3, hc_3, hL1⟩ := sub_some hL1
      refine sw_loop tab_ok follows_ok (fun y : Nat × Int => law25_BoardingStates_L3 x_2 (a_3, i_4, a_5, a_6) e_17 y.1 y.2 = some c_3) (fun y => ⟨eL [(2, .int .i64 x_2), (8, .osl 0), (9, .lst 7 (a_6.map encManifest)), (15, .int .i64 e_17), (16, .int .i64 y.2), (54, .osl 1), (55, .int .i64 (([x_1, (w64 ((1 : Int) + r_13.1)), (w64 ((1 : Int) + r_14.1))] : List Int).length : Int)), (56, .int .i64 (k_16 : Int))], hL [(0, .row 30 (a_5.map encMessage)), (1, .row 1 (([x_1, (w64 ((1 : Int) + r_13.1)), (w64 ((1 : Int) + r_14.1))] : List Int).map iA))], 2⟩) (fun y => y.1) (9223372036854775807, (0 : Int)) hc_3 (wk_mk [0, 1] [] [] rfl ⟨argE (by (conv => lhs; whnf); all_goals rfl) rfl, argO (id := 0) (by (conv => lhs; whnf); all_goals rfl) rfl, argE (by (conv => lhs; whnf); all_goals rfl) rfl, argE (by (conv => lhs; whnf); all_goals rfl) rfl, argE (by (conv => lhs; whnf); all_goals rfl) rfl, argO (id := 1) (by (conv => lhs; whnf); all_goals rfl) rfl, argE (by (conv => lhs; whnf); all_goals rfl) rfl, argE (by (conv => lhs; whnf); all_goals rfl) rfl, trivial⟩ ⟨blkR (fun _ => ⟨rfl, rfl⟩) rfl rfl, blkR (fun _ => ⟨rfl, rfl⟩) rfl rfl, trivial⟩) ?_
      rintro ⟨q_35, i_18⟩ hL2
      try dsimp only at hL2
      rcases q_35 with _ | q_35
      · rw [law25_BoardingStates_L3.eq_1] at hL2
        cases hL2
      rw [law25_BoardingStates_L3.eq_2] at hL2
      show awp _ _ _ _ _ _ ⟨eL [(2, .int .i64 x_2), (8, .osl 0), (9, .lst 7 (a_6.map encManifest)), (15, .int .i64 e_17), (16, .int .i64 i_18), (54, .osl 1), (55, .int .i64 (([x_1, (w64 ((1 : Int) + r_13.1)), (w64 ((1 : Int) + r_14.1))] : List Int).length : Int)), (56, .int .i64 (k_16 : Int))], hL [(0, .row 30 (a_5.map encMessage)), (1, .row 1 (([x_1, (w64 ((1 : Int) + r_13.1)), (w64 ((1 : Int) + r_14.1))] : List Int).map iA))], 2⟩
      conv => whnf
      refine ⟨fun hb_278 => ?_, fun hb_278 => ?_⟩
      · replace hL2 := cond_t hb_278 hL2
        conv => whnf
        refine len_q (enc := encMessage) (l := a_5) rfl ?_
        conv => whnf
        obtain ⟨c_4, hc_4, hL2⟩ := sub_some hL2
        refine sw_br 0 (sz := 30) (xs := a_5.map encMessage) (by (conv => lhs; whnf); all_goals rfl) (fun hb => ?_)
        have hbd_k_23 : a_5.length ≤ 9223372036854775807 := bnd_len (enc := encMessage) (hb)
        refine sw_loop tab_ok follows_ok (fun y : Nat × Int × Bool × Bool => y.1 ≤ a_5.length ∧ law25_BoardingStates_L4 e_17 i_18 (a_5.drop y.1) y.1 y.2.1 y.2.2.1 y.2.2.2 = some c_4) (fun y => ⟨eL [(2, .int .i64 x_2), (8, .osl 0), (9, .lst 7 (a_6.map encManifest)), (15, .int .i64 e_17), (16, .int .i64 i_18), (17, .int .i64 y.2.1), (18, .bool y.2.2.1), (19, .bool y.2.2.2), (54, .osl 1), (55, .int .i64 (([x_1, (w64 ((1 : Int) + r_13.1)), (w64 ((1 : Int) + r_14.1))] : List Int).length : Int)), (56, .int .i64 (k_16 : Int)), (64, .osl 0), (65, .int .i64 (a_5.length : Int)), (66, .int .i64 (y.1 : Int))], hL [(0, .row 30 (a_5.map encMessage)), (1, .row 1 (([x_1, (w64 ((1 : Int) + r_13.1)), (w64 ((1 : Int) + r_14.1))] : List Int).map iA))], 2⟩) (fun y => a_5.length - y.1) (0, (0 : Int), false, false) ⟨Nat.zero_le _, hc_4⟩ (wk_mk [0, 1] [] [] rfl ⟨argE (by (conv => lhs; whnf); all_goals rfl) rfl, argO (id := 0) (by (conv => lhs; whnf); all_goals rfl) rfl, argE (by (conv => lhs; whnf); all_goals rfl) rfl, argE (by (conv => lhs; whnf); all_goals rfl) rfl, argE (by (conv => lhs; whnf); all_goals rfl) rfl, argE (by (conv => lhs; whnf); all_goals rfl) rfl, argFl (by (conv => lhs; whnf); all_goals rfl), argFl (by (conv => lhs; whnf); all_goals rfl), argO (id := 1) (by (conv => lhs; whnf); all_goals rfl) rfl, argE (by (conv => lhs; whnf); all_goals rfl) rfl, argE (by (conv => lhs; whnf); all_goals rfl) rfl, argO (id := 0) (by (conv => lhs; whnf); all_goals rfl) rfl, argE (by (conv => lhs; whnf); all_goals rfl) rfl, argE (by (conv => lhs; whnf); all_goals rfl) rfl, trivial⟩ ⟨blkR (fun _ => ⟨rfl, rfl⟩) rfl rfl, blkR (fun _ => ⟨rfl, rfl⟩) rfl rfl, trivial⟩) ?_
        rintro ⟨k_23, i_19, b_20, b_21⟩ ⟨hk_k_23, hL3⟩
        try dsimp only at hk_k_23 hL3
        show awp _ _ _ _ _ _ ⟨eL [(2, .int .i64 x_2), (8, .osl 0), (9, .lst 7 (a_6.map encManifest)), (15, .int .i64 e_17), (16, .int .i64 i_18), (17, .int .i64 i_19), (18, .bool b_20), (19, .bool b_21), (54, .osl 1), (55, .int .i64 (([x_1, (w64 ((1 : Int) + r_13.1)), (w64 ((1 : Int) + r_14.1))] : List Int).length : Int)), (56, .int .i64 (k_16 : Int)), (64, .osl 0), (65, .int .i64 (a_5.length : Int)), (66, .int .i64 (k_23 : Int))], hL [(0, .row 30 (a_5.map encMessage)), (1, .row 1 (([x_1, (w64 ((1 : Int) + r_13.1)), (w64 ((1 : Int) + r_14.1))] : List Int).map iA))], 2⟩
        conv => whnf
        refine ⟨fun h => ?_, fun h => ?_⟩
        · have hlt_k_23 : k_23 < a_5.length := by have h := of_decide_eq_true h; omega
          obtain ⟨e_24, h_e_24⟩ : ∃ y, a_5[k_23]? = some y := ⟨_, List.getElem?_eq_getElem hlt_k_23⟩
          rw [drop_cons h_e_24, law25_BoardingStates_L4.eq_2] at hL3
          conv => whnf
          refine ⟨k_23, rfl, by rw [List.length_map]; exact hlt_k_23, ?_⟩
          conv => whnf
          refine ⟨_, ix_map (enc := encMessage) h_e_24, ?_⟩
          conv => whnf
          obtain ⟨r_25, h_r_25, hL3⟩ := bind_some hL3
          refine ⟨_, _, _, _, _, _, _, _, callX false [] [] Try.func17 (by decide) rfl (keep_Flights_ac i_18 r_25 h_r_25) rfl ⟨(argE (by (conv => lhs; whnf); all_goals rfl) rfl), trivial⟩ rfl trivial rfl rfl rfl lend0 trivial, ?_⟩
          conv => whnf
          refine ⟨by kernel_rfl, ?_⟩
          conv => whnf
          refine ⟨fun hb_279 => ?_, fun hb_279 => ?_⟩
          · replace hL3 := cond_t hb_279 hL3
            conv => whnf
            refine ⟨((k_23 + 1 : Nat) : Int), wrapE (by omega) (by omega) (by omega), ?_⟩
            conv => whnf
            exact ⟨(k_23 + 1, i_19, b_20, b_21), [0, 1], [], [], ⟨hlt_k_23, hL3⟩, by show a_5.length - (k_23 + 1) < a_5.length - k_23; omega, wk_mk [0, 1] [] [] rfl ⟨argE (by (conv => lhs; whnf); all_goals rfl) rfl, argO (id := 0) (by (conv => lhs; whnf); all_goals rfl) rfl, argE (by (conv => lhs; whnf); all_goals rfl) rfl, argE (by (conv => lhs; whnf); all_goals rfl) rfl, argE (by (conv => lhs; whnf); all_goals rfl) rfl, argE (by (conv => lhs; whnf); all_goals rfl) rfl, argE (by (conv => lhs; whnf); all_goals rfl) rfl, argE (by (conv => lhs; whnf); all_goals rfl) rfl, argO (id := 1) (by (conv => lhs; whnf); all_goals rfl) rfl, argE (by (conv => lhs; whnf); all_goals rfl) rfl, argE (by (conv => lhs; whnf); all_goals rfl) rfl, argO (id := 0) (by (conv => lhs; whnf); all_goals rfl) rfl, argE (by (conv => lhs; whnf); all_goals rfl) rfl, argE (by (conv => lhs; whnf); all_goals rfl) rfl, trivial⟩ ⟨blkR (fun _ => ⟨rfl, rfl⟩) rfl rfl, blkR (fun _ => ⟨rfl, rfl⟩) rfl rfl, trivial⟩⟩
          · replace hL3 := cond_f hb_279 hL3
            conv => whnf
            obtain ⟨r_26, h_r_26, hL3⟩ := bind_some hL3
            refine ⟨_, _, _, _, _, _, _, _, callX false [] [] Try.func29 (by decide) rfl (keep_In_ac e_24.List e_17 r_26 h_r_26) rfl ⟨(argE (by (conv => lhs; whnf); all_goals rfl) rfl), (argE (by (conv => lhs; whnf); all_goals rfl) rfl), trivial⟩ rfl trivial rfl rfl rfl lend0 trivial, ?_⟩
            conv => whnf
            refine ⟨fun hb_280 => ?_, fun hb_280 => ?_⟩
            · replace hL3 := cond_f hb_280 hL3
              conv => whnf
              refine ⟨fun hb_282 => ?_, fun hb_282 => ?_⟩
              · replace hL3 := cond_t hb_282 hL3
                conv => whnf
                refine ⟨((k_23 + 1 : Nat) : Int), wrapE (by omega) (by omega) (by omega), ?_⟩
                conv => whnf
                exact ⟨(k_23 + 1, e_24.Number, r_26, r_26), [0, 1], [], [], ⟨hlt_k_23, hL3⟩, by show a_5.length - (k_23 + 1) < a_5.length - k_23; omega, wk_mk [0, 1] [] [] rfl ⟨argE (by (conv => lhs; whnf); all_goals rfl) rfl, argO (id := 0) (by (conv => lhs; whnf); all_goals rfl) rfl, argE (by (conv => lhs; whnf); all_goals rfl) rfl, argE (by (conv => lhs; whnf); all_goals rfl) rfl, argE (by (conv => lhs; whnf); all_goals rfl) rfl, argE (by (conv => lhs; whnf); all_goals rfl) rfl, argE (by (conv => lhs; whnf); all_goals rfl) rfl, argE (by (conv => lhs; whnf); all_goals rfl) rfl, argO (id := 1) (by (conv => lhs; whnf); all_goals rfl) rfl, argE (by (conv => lhs; whnf); all_goals rfl) rfl, argE (by (conv => lhs; whnf); all_goals rfl) rfl, argO (id := 0) (by (conv => lhs; whnf); all_goals rfl) rfl, argE (by (conv => lhs; whnf); all_goals rfl) rfl, argE (by (conv => lhs; whnf); all_goals rfl) rfl, trivial⟩ ⟨blkR (fun _ => ⟨rfl, rfl⟩) rfl rfl, blkR (fun _ => ⟨rfl, rfl⟩) rfl rfl, trivial⟩⟩
              · replace hL3 := cond_f hb_282 hL3
                conv => whnf
                refine ⟨((k_23 + 1 : Nat) : Int), wrapE (by omega) (by omega) (by omega), ?_⟩
                conv => whnf
                exact ⟨(k_23 + 1, i_19, b_20, r_26), [0, 1], [], [], ⟨hlt_k_23, hL3⟩, by show a_5.length - (k_23 + 1) < a_5.length - k_23; omega, wk_mk [0, 1] [] [] rfl ⟨argE (by (conv => lhs; whnf); all_goals rfl) rfl, argO (id := 0) (by (conv => lhs; whnf); all_goals rfl) rfl, argE (by (conv => lhs; whnf); all_goals rfl) rfl, argE (by (conv => lhs; whnf); all_goals rfl) rfl, argE (by (conv => lhs; whnf); all_goals rfl) rfl, argE (by (conv => lhs; whnf); all_goals rfl) rfl, argE (by (conv => lhs; whnf); all_goals rfl) rfl, argE (by (conv => lhs; whnf); all_goals rfl) rfl, argO (id := 1) (by (conv => lhs; whnf); all_goals rfl) rfl, argE (by (conv => lhs; whnf); all_goals rfl) rfl, argE (by (conv => lhs; whnf); all_goals rfl) rfl, argO (id := 0) (by (conv => lhs; whnf); all_goals rfl) rfl, argE (by (conv => lhs; whnf); all_goals rfl) rfl, argE (by (conv => lhs; whnf); all_goals rfl) rfl, trivial⟩ ⟨blkR (fun _ => ⟨rfl, rfl⟩) rfl rfl, blkR (fun _ => ⟨rfl, rfl⟩) rfl rfl, trivial⟩⟩
            · replace hL3 := cond_t hb_280 hL3
              conv => whnf
              refine ⟨fun hb_281 => ?_, fun hb_281 => ?_⟩
              · replace hL3 := cond_t hb_281 hL3
                conv => whnf
                refine ⟨((k_23 + 1 : Nat) : Int), wrapE (by omega) (by omega) (by omega), ?_⟩
                conv => whnf
                exact ⟨(k_23 + 1, e_24.Number, r_26, true), [0, 1], [], [], ⟨hlt_k_23, hL3⟩, by show a_5.length - (k_23 + 1) < a_5.length - k_23; omega, wk_mk [0, 1] [] [] rfl ⟨argE (by (conv => lhs; whnf); all_goals rfl) rfl, argO (id := 0) (by (conv => lhs; whnf); all_goals rfl) rfl, argE (by (conv => lhs; whnf); all_goals rfl) rfl, argE (by (conv => lhs; whnf); all_goals rfl) rfl, argE (by (conv => lhs; whnf); all_goals rfl) rfl, argE (by (conv => lhs; whnf); all_goals rfl) rfl, argE (by (conv => lhs; whnf); all_goals rfl) rfl, argT (by (conv => lhs; whnf); all_goals rfl), argO (id := 1) (by (conv => lhs; whnf); all_goals rfl) rfl, argE (by (conv => lhs; whnf); all_goals rfl) rfl, argE (by (conv => lhs; whnf); all_goals rfl) rfl, argO (id := 0) (by (conv => lhs; whnf); all_goals rfl) rfl, argE (by (conv => lhs; whnf); all_goals rfl) rfl, argE (by (conv => lhs; whnf); all_goals rfl) rfl, trivial⟩ ⟨blkR (fun _ => ⟨rfl, rfl⟩) rfl rfl, blkR (fun _ => ⟨rfl, rfl⟩) rfl rfl, trivial⟩⟩
              · replace hL3 := cond_f hb_281 hL3
                conv => whnf
                refine ⟨((k_23 + 1 : Nat) : Int), wrapE (by omega) (by omega) (by omega), ?_⟩
                conv => whnf
                exact ⟨(k_23 + 1, i_19, b_20, true), [0, 1], [], [], ⟨hlt_k_23, hL3⟩, by show a_5.length - (k_23 + 1) < a_5.length - k_23; omega, wk_mk [0, 1] [] [] rfl ⟨argE (by (conv => lhs; whnf); all_goals rfl) rfl, argO (id := 0) (by (conv => lhs; whnf); all_goals rfl) rfl, argE (by (conv => lhs; whnf); all_goals rfl) rfl, argE (by (conv => lhs; whnf); all_goals rfl) rfl, argE (by (conv => lhs; whnf); all_goals rfl) rfl, argE (by (conv => lhs; whnf); all_goals rfl) rfl, argE (by (conv => lhs; whnf); all_goals rfl) rfl, argT (by (conv => lhs; whnf); all_goals rfl), argO (id := 1) (by (conv => lhs; whnf); all_goals rfl) rfl, argE (by (conv => lhs; whnf); all_goals rfl) rfl, argE (by (conv => lhs; whnf); all_goals rfl) rfl, argO (id := 0) (by (conv => lhs; whnf); all_goals rfl) rfl, argE (by (conv => lhs; whnf); all_goals rfl) rfl, argE (by (conv => lhs; whnf); all_goals rfl) rfl, trivial⟩ ⟨blkR (fun _ => ⟨rfl, rfl⟩) rfl rfl, blkR (fun _ => ⟨rfl, rfl⟩) rfl rfl, trivial⟩⟩
        · rw [drop_nil (show a_5.length ≤ k_23 by have h := of_decide_eq_false h; omega), law25_BoardingStates_L4.eq_1] at hL3
          conv => whnf
          obtain rfl := Option.some.inj hL3
          replace hL2 := sub_brk hL2
          try dsimp only at hL2
          refine ⟨fun hb_283 => ?_, fun hb_283 => ?_⟩
          · replace hL2 := cond_t hb_283 hL2
            conv => whnf
            obtain ⟨r_29, h_r_29, hL2⟩ := bind_some hL2
            refine ⟨_, _, _, _, _, _, _, _, callX false [] [] Try.func17 (by decide) rfl (keep_Flights_ac i_18 r_29 h_r_29) rfl ⟨(argE (by (conv => lhs; whnf); all_goals rfl) rfl), trivial⟩ rfl trivial rfl rfl rfl lend0 trivial, ?_⟩
            conv => whnf
            obtain ⟨r_30, h_r_30, hL2⟩ := bind_some hL2
            refine ⟨_, _, _, _, _, _, _, _, callX false [] [] Try.func18 (by decide) rfl (boarding_Status_ac a_6 r_29 e_17 x_2 r_30 h_r_30) rfl ⟨(argE (by (conv => lhs; whnf); all_goals rfl) rfl), (argE (by (conv => lhs; whnf); all_goals rfl) rfl), (argE (by (conv => lhs; whnf); all_goals rfl) rfl), (argE (by (conv => lhs; whnf); all_goals rfl) rfl), trivial⟩ rfl trivial rfl rfl rfl lend0 trivial, ?_⟩
            conv => whnf
            refine ⟨fun hb_284 => ?_, fun hb_284 => ?_⟩
            · replace hL2 := cond_t hb_284 hL2
              conv => whnf
              obtain rfl := Option.some.inj hL2
              replace hL1 := sub_ret hL1
              obtain rfl := Option.some.inj hL1
              replace hF := fin_ret hF
              obtain rfl := Option.some.inj hF
              exact ret_gz [] [] [] rfl (argFl (by (conv => lhs; whnf); all_goals rfl)) trivial
            · replace hL2 := cond_f hb_284 hL2
              conv => whnf
              refine ⟨_, rfl, ?_⟩
              conv => whnf
              exact ⟨(q_35, (w64 (i_18 + (1 : Int)))), [0, 1], [], [], hL2, Nat.lt_succ_self _, wk_mk [0, 1] [] [] rfl ⟨argE (by (conv => lhs; whnf); all_goals rfl) rfl, argO (id := 0) (by (conv => lhs; whnf); all_goals rfl) rfl, argE (by (conv => lhs; whnf); all_goals rfl) rfl, argE (by (conv => lhs; whnf); all_goals rfl) rfl, argE (by (conv => lhs; whnf); all_goals rfl) rfl, argO (id := 1) (by (conv => lhs; whnf); all_goals rfl) rfl, argE (by (conv => lhs; whnf); all_goals rfl) rfl, argE (by (conv => lhs; whnf); all_goals rfl) rfl, trivial⟩ ⟨blkR (fun _ => ⟨rfl, rfl⟩) rfl rfl, blkR (fun _ => ⟨rfl, rfl⟩) rfl rfl, trivial⟩⟩
          · replace hL2 := cond_f hb_283 hL2
            conv => whnf
            refine ⟨fun hb_285 => ?_, fun hb_285 => ?_⟩
            · replace hL2 := cond_t hb_285 hL2
              conv => whnf
              obtain ⟨r_31, h_r_31, hL2⟩ := bind_some hL2
              refine ⟨_, _, _, _, _, _, _, _, callX false [] [] Try.func17 (by decide) rfl (keep_Flights_ac i_18 r_31 h_r_31) rfl ⟨(argE (by (conv => lhs; whnf); all_goals rfl) rfl), trivial⟩ rfl trivial rfl rfl rfl lend0 trivial, ?_⟩
              conv => whnf
              obtain ⟨r_32, h_r_32, hL2⟩ := bind_some hL2
              refine ⟨_, _, _, _, _, _, _, _, callX false [] [] Try.func18 (by decide) rfl (boarding_Status_ac a_6 r_31 e_17 x_2 r_32 h_r_32) rfl ⟨(argE (by (conv => lhs; whnf); all_goals rfl) rfl), (argE (by (conv => lhs; whnf); all_goals rfl) rfl), (argE (by (conv => lhs; whnf); all_goals rfl) rfl), (argE (by (conv => lhs; whnf); all_goals rfl) rfl), trivial⟩ rfl trivial rfl rfl rfl lend0 trivial, ?_⟩
              conv => whnf
              refine ⟨fun hb_286 => ?_, fun hb_286 => ?_⟩
              · replace hL2 := cond_t hb_286 hL2
                conv => whnf
                obtain rfl := Option.some.inj hL2
                replace hL1 := sub_ret hL1
                obtain rfl := Option.some.inj hL1
                replace hF := fin_ret hF
                obtain rfl := Option.some.inj hF
                exact ret_gz [] [] [] rfl (argFl (by (conv => lhs; whnf); all_goals rfl)) trivial
              · replace hL2 := cond_f hb_286 hL2
                conv => whnf
                refine ⟨_, rfl, ?_⟩
                conv => whnf
                exact ⟨(q_35, (w64 (i_18 + (1 : Int)))), [0, 1], [], [], hL2, Nat.lt_succ_self _, wk_mk [0, 1] [] [] rfl ⟨argE (by (conv => lhs; whnf); all_goals rfl) rfl, argO (id := 0) (by (conv => lhs; whnf); all_goals rfl) rfl, argE (by (conv => lhs; whnf); all_goals rfl) rfl, argE (by (conv => lhs; whnf); all_goals rfl) rfl, argE (by (conv => lhs; whnf); all_goals rfl) rfl, argO (id := 1) (by (conv => lhs; whnf); all_goals rfl) rfl, argE (by (conv => lhs; whnf); all_goals rfl) rfl, argE (by (conv => lhs; whnf); all_goals rfl) rfl, trivial⟩ ⟨blkR (fun _ => ⟨rfl, rfl⟩) rfl rfl, blkR (fun _ => ⟨rfl, rfl⟩) rfl rfl, trivial⟩⟩
            · replace hL2 := cond_f hb_285 hL2
              conv => whnf
              obtain ⟨r_33, h_r_33, hL2⟩ := bind_some hL2
              refine ⟨_, _, _, _, _, _, _, _, callX false [] [] Try.func17 (by decide) rfl (keep_Flights_ac i_18 r_33 h_r_33) rfl ⟨(argE (by (conv => lhs; whnf); all_goals rfl) rfl), trivial⟩ rfl trivial rfl rfl rfl lend0 trivial, ?_⟩
              conv => whnf
              obtain ⟨r_34, h_r_34, hL2⟩ := bind_some hL2
              refine ⟨_, _, _, _, _, _, _, _, callX false [] [] Try.func18 (by decide) rfl (boarding_Status_ac a_6 r_33 e_17 x_2 r_34 h_r_34) rfl ⟨(argE (by (conv => lhs; whnf); all_goals rfl) rfl), (argE (by (conv => lhs; whnf); all_goals rfl) rfl), (argE (by (conv => lhs; whnf); all_goals rfl) rfl), (argE (by (conv => lhs; whnf); all_goals rfl) rfl), trivial⟩ rfl trivial rfl rfl rfl lend0 trivial, ?_⟩
              conv => whnf
              refine ⟨fun hb_287 => ?_, fun hb_287 => ?_⟩
              · replace hL2 := cond_t hb_287 hL2
                conv => whnf
                obtain rfl := Option.some.inj hL2
                replace hL1 := sub_ret hL1
                obtain rfl := Option.some.inj hL1
                replace hF := fin_ret hF
                obtain rfl := Option.some.inj hF
                exact ret_gz [] [] [] rfl (argFl (by (conv => lhs; whnf); all_goals rfl)) trivial
              · replace hL2 := cond_f hb_287 hL2
                conv => whnf
                refine ⟨_, rfl, ?_⟩
                conv => whnf
                exact ⟨(q_35, (w64 (i_18 + (1 : Int)))), [0, 1], [], [], hL2, Nat.lt_succ_self _, wk_mk [0, 1] [] [] rfl ⟨argE (by (conv => lhs; whnf); all_goals rfl) rfl, argO (id := 0) (by (conv => lhs; whnf); all_goals rfl) rfl, argE (by (conv => lhs; whnf); all_goals rfl) rfl, argE (by (conv => lhs; whnf); all_goals rfl) rfl, argE (by (conv => lhs; whnf); all_goals rfl) rfl, argO (id := 1) (by (conv => lhs; whnf); all_goals rfl) rfl, argE (by (conv => lhs; whnf); all_goals rfl) rfl, argE (by (conv => lhs; whnf); all_goals rfl) rfl, trivial⟩ ⟨blkR (fun _ => ⟨rfl, rfl⟩) rfl rfl, blkR (fun _ => ⟨rfl, rfl⟩) rfl rfl, trivial⟩⟩
      · replace hL2 := cond_f hb_278 hL2
        conv => whnf
        obtain rfl := Option.some.inj hL2
        replace hL1 := sub_brk hL1
        try dsimp only at hL1
        refine ⟨((k_16 + 1 : Nat) : Int), wrapE (by omega) (by omega) (by omega), ?_⟩
        conv => whnf
        exact ⟨k_16 + 1, [0, 1], [], [], ⟨hlt_k_16, hL1⟩, by show ([x_1, (w64 ((1 : Int) + r_13.1)), (w64 ((1 : Int) + r_14.1))] : List Int).length - (k_16 + 1) < ([x_1, (w64 ((1 : Int) + r_13.1)), (w64 ((1 : Int) + r_14.1))] : List Int).length - k_16; omega, wk_mk [0, 1] [] [] rfl ⟨argE (by (conv => lhs; whnf); all_goals rfl) rfl, argO (id := 0) (by (conv => lhs; whnf); all_goals rfl) rfl, argE (by (conv => lhs; whnf); all_goals rfl) rfl, argO (id := 1) (by (conv => lhs; whnf); all_goals rfl) rfl, argE (by (conv => lhs; whnf); all_goals rfl) rfl, argE (by (conv => lhs; whnf); all_goals rfl) rfl, trivial⟩ ⟨blkR (fun _ => ⟨rfl, rfl⟩) rfl rfl, blkR (fun _ => ⟨rfl, rfl⟩) rfl rfl, trivial⟩⟩
    · rw [drop_nil (show ([x_1, (w64 ((1 : Int) + r_13.1)), (w64 ((1 : Int) + r_14.1))] : List Int).length ≤ k_16 by have h := of_decide_eq_false h; omega), law25_BoardingStates_L2.eq_1] at hL1
      conv => whnf
      obtain rfl := Option.some.inj hL1
      replace hF := fin_brk hF
      try dsimp only at hF
      obtain ⟨r_39, h_r_39, hF⟩ := bind_some hF
      refine ⟨_, _, _, _, _, _, _, _, callX false [] [] Try.func20 (by decide) rfl (law25_awake_ac r_39 h_r_39) rfl trivial rfl trivial rfl rfl rfl lend0 trivial, ?_⟩
      conv => whnf
      obtain rfl := Option.some.inj hF
      exact ret_gz [] [] [] rfl (argE (by (conv => lhs; whnf); all_goals rfl) rfl) trivial
end Go.Proofs.Ytajmhegkkbnkcaa.Ex
