/- The functions of the program compute what was printed; walks printed by a program. -/
import Derived.Test.YtkajegjghfbgaaaExF
import Derived.Test.YtkajegjghfbgaaaExP1
import Derived.Test.YtkajegjghfbgaaaExP2
namespace Go.Proofs.Ytkajegjghfbgaaa.Ex
open Go.RowKit Go.Proofs.Ytkajegjghfbgaaa.Ax
set_option linter.unusedVariables false
set_option linter.unusedSimpArgs false
set_option maxRecDepth 100000 in
set_option maxHeartbeats 40000000 in
theorem law24_ConnectDecides_ac (x_0 : (List Int)) (x_1 : (List HoldRule)) (x_2 : (List Connecting)) (x_3 : Int) (r : Bool) (hF : law24_ConnectDecides x_0 x_1 x_2 x_3 = some r) : AC Try.prog 6 [.lst 1 (x_0.map iA), .lst 3 (x_1.map encHoldRule), .lst 7 (x_2.map encConnecting), .int .i64 x_3] [] (.bool r) [] := by
  refine ac_of tab_ok follows_ok Try.func6 rfl Try.ntmps6 rfl ?_
  unfold law24_ConnectDecides at hF
  conv => whnf
  obtain ⟨r_1, h_r_1, hF⟩ := bind_some hF
  refine ⟨_, _, _, _, _, _, _, _, _, callX false [] [] 1 Try.func11 (by decide) rfl (keep_New_ac x_0 r_1 h_r_1) rfl ⟨(argE (by (conv => lhs; whnf); all_goals rfl) rfl), trivial⟩ rfl trivial rfl rfl rfl lend0 ⟨rfl, trivial⟩ rfl, ?_⟩
  conv => whnf
  obtain ⟨r_2, h_r_2, hF⟩ := bind_some hF
  refine ⟨_, _, _, _, _, _, _, _, _, callX false [0] [] 0 Try.func12 (by decide) rfl (keep_Src_Minimums_ac r_1 r_2 h_r_2) rfl ⟨(argP (id := 0) (by (conv => lhs; whnf); all_goals rfl) rfl), trivial⟩ rfl ⟨rfl, trivial⟩ rfl rfl rfl lend0 ⟨rfl, trivial⟩ rfl, ?_⟩
  conv => whnf
  obtain ⟨r_3, h_r_3, hF⟩ := bind_some hF
  refine ⟨_, _, _, _, _, _, _, _, _, callX false [0] [] 0 Try.func20 (by decide) rfl (keep_Src_Holds_ac r_2.2 (8 : Int) r_3 h_r_3) rfl ⟨(argP (id := 0) (by (conv => lhs; whnf); all_goals rfl) rfl), (argE (by (conv => lhs; whnf); all_goals rfl) rfl), trivial⟩ rfl ⟨rfl, trivial⟩ rfl rfl rfl lend0 ⟨rfl, trivial⟩ rfl, ?_⟩
  conv => whnf
  obtain ⟨r_4, h_r_4, hF⟩ := bind_some hF
  refine ⟨_, _, _, _, _, _, _, _, _, callX false [0] [] 0 Try.func21 (by decide) rfl (keep_Src_Connections_v2_ac r_3.2 (25 : Int) r_4 h_r_4) rfl ⟨(argP (id := 0) (by (conv => lhs; whnf); all_goals rfl) rfl), (argE (by (conv => lhs; whnf); all_goals rfl) rfl), trivial⟩ rfl ⟨rfl, trivial⟩ rfl rfl rfl lend0 ⟨rfl, trivial⟩ rfl, ?_⟩
  conv => whnf
  obtain ⟨l_5, h_l_5, hF⟩ := bind_some hF
  refine ap_q (enc := encHoldRule) (l := ([] : List HoldRule)) (y := r_3.1) h_l_5 rfl rfl (by decide) ?_
  conv => whnf
  refine len_q (enc := encHoldRule) (l := x_1) rfl ?_
  conv => whnf
  obtain ⟨l_6, h_l_6, hF⟩ := bind_some hF
  refine sl_q0 (enc := encHoldRule) (l := x_1) h_l_6 rfl ?_
  conv => whnf
  obtain ⟨l_7, h_l_7, hF⟩ := bind_some hF
  refine ap_q (enc := encHoldRule) (l := l_5) (y := l_6) h_l_7 rfl rfl (by decide) ?_
  conv => whnf
  refine ⟨by kernel_rfl, ?_⟩
  conv => whnf
  obtain ⟨l_8, h_l_8, hF⟩ := bind_some hF
  refine ap_q (enc := encConnecting) (l := ([] : List Connecting)) (y := r_4.1) h_l_8 rfl rfl (by decide) ?_
  conv => whnf
  refine len_q (enc := encConnecting) (l := x_2) rfl ?_
  conv => whnf
  obtain ⟨l_9, h_l_9, hF⟩ := bind_some hF
  refine sl_q0 (enc := encConnecting) (l := x_2) h_l_9 rfl ?_
  conv => whnf
  obtain ⟨l_10, h_l_10, hF⟩ := bind_some hF
  refine ap_q (enc := encConnecting) (l := l_8) (y := l_9) h_l_10 rfl rfl (by decide) ?_
  conv => whnf
  refine ⟨by kernel_rfl, ?_⟩
  conv => whnf
  obtain ⟨r_11, h_r_11, hF⟩ := bind_some hF
  refine ⟨_, _, _, _, _, _, _, _, _, callX false [0] [] 0 Try.func13 (by decide) rfl (law24_spoilt_ac r_4.2 r_2.1 r_11 h_r_11) rfl ⟨(argP (id := 0) (by (conv => lhs; whnf); all_goals rfl) rfl), (argE (by (conv => lhs; whnf); all_goals rfl) rfl), trivial⟩ rfl ⟨rfl, trivial⟩ rfl rfl rfl lend0 ⟨rfl, trivial⟩ rfl, ?_⟩
  conv => whnf
  refine len_q (enc := (lA 3 encMinimum)) (l := ([r_2.1, r_11.1] : List (List Minimum))) rfl ?_
  conv => whnf
  obtain ⟨c_1, hc_1, hF⟩ := fin_some hF
  refine sw_br 12 (sz := 1) (xs := ([r_2.1, r_11.1] : List (List Minimum)).map (lA 3 encMinimum)) (by (conv => lhs; whnf); all_goals rfl) (fun hb => ?_)
  have hbd_k_18 : ([r_2.1, r_11.1] : List (List Minimum)).length ≤ 9223372036854775807 := bnd_len (enc := (lA 3 encMinimum)) (hb)
  refine sw_loop tab_ok follows_ok (fun y : Nat × (List HoldRule) × (List Connecting) × (List (List Minimum)) × (List Int) × Int => y.1 ≤ ([r_2.1, r_11.1] : List (List Minimum)).length ∧ law24_ConnectDecides_L1 x_3 r_3 r_4 (([r_2.1, r_11.1] : List (List Minimum)).drop y.1) y.1 y.2.1 y.2.2.1 y.2.2.2.1 y.2.2.2.2.1 y.2.2.2.2.2 = some c_1) (fun y => ⟨eL [(3, .int .i64 x_3), (9, .ptr 0 0), (11, .lst 3 (r_3.1.map encHoldRule)), (12, .lst 7 (r_4.1.map encConnecting)), (13, .lst 3 (y.2.1.map encHoldRule)), (14, .lst 7 (y.2.2.1.map encConnecting)), (57, .lst 1 (y.2.2.2.1.map (lA 3 encMinimum))), (58, .int .i64 (([r_2.1, r_11.1] : List (List Minimum)).length : Int)), (59, .int .i64 (y.1 : Int))], hL [(0, .box [.lst 1 (y.2.2.2.2.1.map iA), .int .i64 y.2.2.2.2.2])], 1⟩) (fun y => ([r_2.1, r_11.1] : List (List Minimum)).length - y.1) (0, l_7, l_10, ([r_2.1, r_11.1] : List (List Minimum)), r_11.2.L, r_11.2.At) ⟨Nat.zero_le _, hc_1⟩ (wk_mk [0] [] [7, 10, 12] rfl ⟨argE (by (conv => lhs; whnf); all_goals rfl) rfl, argP (id := 0) (by (conv => lhs; whnf); all_goals rfl) rfl, argE (by (conv => lhs; whnf); all_goals rfl) rfl, argE (by (conv => lhs; whnf); all_goals rfl) rfl, argOL 7 (by (conv => lhs; whnf); all_goals rfl) rfl rfl (map_ni (fun _ => ⟨rfl, rfl⟩) _), argOL 10 (by (conv => lhs; whnf); all_goals rfl) rfl rfl (map_ni (fun _ => ⟨rfl, rfl⟩) _), argOL 12 (by (conv => lhs; whnf); all_goals rfl) rfl rfl (map_ni (fun _ => ⟨rfl, rfl⟩) _), argE (by (conv => lhs; whnf); all_goals rfl) rfl, argE (by (conv => lhs; whnf); all_goals rfl) rfl, trivial⟩ ⟨boxL rfl rfl rfl ⟨(.ni _ rfl), (.ni _ rfl), trivial⟩, trivial⟩) ?_
  rintro ⟨k_18, a_14, a_15, a_16, a_12, i_13⟩ ⟨hk_k_18, hL1⟩
  try dsimp only at hk_k_18 hL1
  show awp _ _ _ _ _ _ ⟨eL [(3, .int .i64 x_3), (9, .ptr 0 0), (11, .lst 3 (r_3.1.map encHoldRule)), (12, .lst 7 (r_4.1.map encConnecting)), (13, .lst 3 (a_14.map encHoldRule)), (14, .lst 7 (a_15.map encConnecting)), (57, .lst 1 (a_16.map (lA 3 encMinimum))), (58, .int .i64 (([r_2.1, r_11.1] : List (List Minimum)).length : Int)), (59, .int .i64 (k_18 : Int))], hL [(0, .box [.lst 1 (a_12.map iA), .int .i64 i_13])], 1⟩
  conv => whnf
  refine ⟨fun h => ?_, fun h => ?_⟩
  · have hlt_k_18 : k_18 < ([r_2.1, r_11.1] : List (List Minimum)).length := by have h := of_decide_eq_true h; omega
    obtain ⟨e_19, h_e_19⟩ : ∃ y, ([r_2.1, r_11.1] : List (List Minimum))[k_18]? = some y := ⟨_, List.getElem?_eq_getElem hlt_k_18⟩
    rw [drop_cons h_e_19, law24_ConnectDecides_L1.eq_2] at hL1
    conv => whnf
    obtain ⟨e_20, h_e_20, hL1⟩ := bind_some hL1
    refine ix_q (enc := (lA 3 encMinimum)) (l := a_16) h_e_20 rfl (fun m_e_20 hm_e_20 hx_e_20 => ?_)
    conv => whnf
    obtain ⟨r_21, h_r_21, hL1⟩ := bind_some hL1
    refine ⟨_, _, _, _, _, _, _, _, _, callX false [0] [] 0 Try.func20 (by decide) rfl (keep_Src_Holds_ac (⟨a_12, i_13⟩ : Src) (3 : Int) r_21 h_r_21) rfl ⟨(argP (id := 0) (by (conv => lhs; whnf); all_goals rfl) rfl), (argE (by (conv => lhs; whnf); all_goals rfl) rfl), trivial⟩ rfl ⟨rfl, trivial⟩ rfl rfl rfl lend0 ⟨rfl, trivial⟩ rfl, ?_⟩
    conv => whnf
    refine len_q (enc := (lA 3 encHoldRule)) (l := ([r_3.1, a_14, r_21.1] : List (List HoldRule))) rfl ?_
    conv => whnf
    obtain ⟨c_2, hc_2, hL1⟩ := sub_some hL1
    refine sw_br 2 (sz := 1) (xs := ([r_3.1, a_14, r_21.1] : List (List HoldRule)).map (lA 3 encHoldRule)) (by (conv => lhs; whnf); all_goals rfl) (fun hb => ?_)
    have hbd_k_26 : ([r_3.1, a_14, r_21.1] : List (List HoldRule)).length ≤ 9223372036854775807 := bnd_len (enc := (lA 3 encHoldRule)) (hb)
    refine sw_loop tab_ok follows_ok (fun y : Nat × (List (List HoldRule)) × (List Int) × Int => y.1 ≤ ([r_3.1, a_14, r_21.1] : List (List HoldRule)).length ∧ law24_ConnectDecides_L2 x_3 r_4 a_15 e_20 (([r_3.1, a_14, r_21.1] : List (List HoldRule)).drop y.1) y.1 y.2.1 y.2.2.1 y.2.2.2 = some c_2) (fun y => ⟨eL [(3, .int .i64 x_3), (9, .ptr 0 0), (11, .lst 3 (r_3.1.map encHoldRule)), (12, .lst 7 (r_4.1.map encConnecting)), (13, .lst 3 (a_14.map encHoldRule)), (14, .lst 7 (a_15.map encConnecting)), (16, .lst 3 (e_20.map encMinimum)), (57, .lst 1 (a_16.map (lA 3 encMinimum))), (58, .int .i64 (([r_2.1, r_11.1] : List (List Minimum)).length : Int)), (59, .int .i64 (k_18 : Int)), (67, .lst 1 (y.2.1.map (lA 3 encHoldRule))), (68, .int .i64 (([r_3.1, a_14, r_21.1] : List (List HoldRule)).length : Int)), (69, .int .i64 (y.1 : Int))], hL [(0, .box [.lst 1 (y.2.2.1.map iA), .int .i64 y.2.2.2])], 1⟩) (fun y => ([r_3.1, a_14, r_21.1] : List (List HoldRule)).length - y.1) (0, ([r_3.1, a_14, r_21.1] : List (List HoldRule)), r_21.2.L, r_21.2.At) ⟨Nat.zero_le _, hc_2⟩ (wk_mk [0] [] [2] rfl ⟨argE (by (conv => lhs; whnf); all_goals rfl) rfl, argP (id := 0) (by (conv => lhs; whnf); all_goals rfl) rfl, argE (by (conv => lhs; whnf); all_goals rfl) rfl, argE (by (conv => lhs; whnf); all_goals rfl) rfl, argE (by (conv => lhs; whnf); all_goals rfl) rfl, argE (by (conv => lhs; whnf); all_goals rfl) rfl, argE (by (conv => lhs; whnf); all_goals rfl) rfl, argE (by (conv => lhs; whnf); all_goals rfl) rfl, argE (by (conv => lhs; whnf); all_goals rfl) rfl, argE (by (conv => lhs; whnf); all_goals rfl) rfl, argOL 2 (by (conv => lhs; whnf); all_goals rfl) rfl rfl (map_ni (fun _ => ⟨rfl, rfl⟩) _), argE (by (conv => lhs; whnf); all_goals rfl) rfl, argE (by (conv => lhs; whnf); all_goals rfl) rfl, trivial⟩ ⟨boxL rfl rfl rfl ⟨(.ni _ rfl), (.ni _ rfl), trivial⟩, trivial⟩) ?_
    rintro ⟨k_26, a_24, a_22, i_23⟩ ⟨hk_k_26, hL2⟩
    try dsimp only at hk_k_26 hL2
    show awp _ _ _ _ _ _ ⟨eL [(3, .int .i64 x_3), (9, .ptr 0 0), (11, .lst 3 (r_3.1.map encHoldRule)), (12, .lst 7 (r_4.1.map encConnecting)), (13, .lst 3 (a_14.map encHoldRule)), (14, .lst 7 (a_15.map encConnecting)), (16, .lst 3 (e_20.map encMinimum)), (57, .lst 1 (a_16.map (lA 3 encMinimum))), (58, .int .i64 (([r_2.1, r_11.1] : List (List Minimum)).length : Int)), (59, .int .i64 (k_18 : Int)), (67, .lst 1 (a_24.map (lA 3 encHoldRule))), (68, .int .i64 (([r_3.1, a_14, r_21.1] : List (List HoldRule)).length : Int)), (69, .int .i64 (k_26 : Int))], hL [(0, .box [.lst 1 (a_22.map iA), .int .i64 i_23])], 1⟩
    conv => whnf
    refine ⟨fun h => ?_, fun h => ?_⟩
    · have hlt_k_26 : k_26 < ([r_3.1, a_14, r_21.1] : List (List HoldRule)).length := by have h := of_decide_eq_true h; omega
      obtain ⟨e_27, h_e_27⟩ : ∃ y, ([r_3.1, a_14, r_21.1] : List (List HoldRule))[k_26]? = some y := ⟨_, List.getElem?_eq_getElem hlt_k_26⟩
      rw [drop_cons h_e_27, law24_ConnectDecides_L2.eq_2] at hL2
      conv => whnf
      obtain ⟨e_28, h_e_28, hL2⟩ := bind_some hL2
      refine ix_q (enc := (lA 3 encHoldRule)) (l := a_24) h_e_28 rfl (fun m_e_28 hm_e_28 hx_e_28 => ?_)
      conv => whnf
      refine len_q (enc := encConnecting) (l := r_4.1) rfl ?_
      conv => whnf
      refine len_q (enc := encConnecting) (l := r_4.1) rfl ?_
      conv => whnf
      obtain ⟨l_29, h_l_29, hL2⟩ := bind_some hL2
      refine slc_q (enc := encConnecting) (l := r_4.1) h_l_29 rfl (fun m_l_29 => ?_)
      conv => whnf
      obtain ⟨r_30, h_r_30, hL2⟩ := bind_some hL2
      refine ⟨_, _, _, _, _, _, _, _, _, callX false [0] [] 0 Try.func21 (by decide) rfl (keep_Src_Connections_v2_ac (⟨a_22, i_23⟩ : Src) (2 : Int) r_30 h_r_30) rfl ⟨(argP (id := 0) (by (conv => lhs; whnf); all_goals rfl) rfl), (argE (by (conv => lhs; whnf); all_goals rfl) rfl), trivial⟩ rfl ⟨rfl, trivial⟩ rfl rfl rfl lend0 ⟨rfl, trivial⟩ rfl, ?_⟩
      conv => whnf
      refine ⟨fun h => ?_, fun h => ?_⟩
      · have he_1354 := em_nil h
        replace hL2 := cond_t he_1354 hL2
        conv => whnf
        refine len_q (enc := (lA 7 encConnecting)) (l := ([r_4.1, a_15, l_29] : List (List Connecting))) rfl ?_
        conv => whnf
        refine ⟨by kernel_rfl, ?_⟩
        conv => whnf
        obtain ⟨c_3, hc_3, hL2⟩ := sub_some hL2
        refine sw_br 2 (sz := 1) (xs := ([r_4.1, a_15, l_29] : List (List Connecting)).map (lA 7 encConnecting)) (by (conv => lhs; whnf); all_goals rfl) (fun hb => ?_)
        have hbd_k_35 : ([r_4.1, a_15, l_29] : List (List Connecting)).length ≤ 9223372036854775807 := bnd_len (enc := (lA 7 encConnecting)) (hb)
        refine sw_loop tab_ok follows_ok (fun y : Nat × (List (List Connecting)) × (List Int) × Int => y.1 ≤ ([r_4.1, a_15, l_29] : List (List Connecting)).length ∧ law24_ConnectDecides_L3 x_3 e_20 e_28 (([r_4.1, a_15, l_29] : List (List Connecting)).drop y.1) y.1 y.2.1 y.2.2.1 y.2.2.2 = some c_3) (fun y => ⟨eL [(3, .int .i64 x_3), (9, .ptr 0 0), (11, .lst 3 (r_3.1.map encHoldRule)), (12, .lst 7 (r_4.1.map encConnecting)), (13, .lst 3 (a_14.map encHoldRule)), (14, .lst 7 (a_15.map encConnecting)), (16, .lst 3 (e_20.map encMinimum)), (18, .lst 3 (e_28.map encHoldRule)), (57, .lst 1 (a_16.map (lA 3 encMinimum))), (58, .int .i64 (([r_2.1, r_11.1] : List (List Minimum)).length : Int)), (59, .int .i64 (k_18 : Int)), (67, .lst 1 (a_24.map (lA 3 encHoldRule))), (68, .int .i64 (([r_3.1, a_14, r_21.1] : List (List HoldRule)).length : Int)), (69, .int .i64 (k_26 : Int)), (84, .lst 1 (y.2.1.map (lA 7 encConnecting))), (85, .int .i64 (([r_4.1, a_15, l_29] : List (List Connecting)).length : Int)), (86, .int .i64 (y.1 : Int))], hL [(0, .box [.lst 1 (y.2.2.1.map iA), .int .i64 y.2.2.2])], 1⟩) (fun y => ([r_4.1, a_15, l_29] : List (List Connecting)).length - y.1) (0, ([r_4.1, a_15, l_29] : List (List Connecting)), r_30.2.L, r_30.2.At) ⟨Nat.zero_le _, hc_3⟩ (wk_mk [0] [] [2] rfl ⟨argE (by (conv => lhs; whnf); all_goals rfl) rfl, argP (id := 0) (by (conv => lhs; whnf); all_goals rfl) rfl, argE (by (conv => lhs; whnf); all_goals rfl) rfl, argE (by (conv => lhs; whnf); all_goals rfl) rfl, argE (by (conv => lhs; whnf); all_goals rfl) rfl, argE (by (conv => lhs; whnf); all_goals rfl) rfl, argE (by (conv => lhs; whnf); all_goals rfl) rfl, argE (by (conv => lhs; whnf); all_goals rfl) rfl, argE (by (conv => lhs; whnf); all_goals rfl) rfl, argE (by (conv => lhs; whnf); all_goals rfl) rfl, argE (by (conv => lhs; whnf); all_goals rfl) rfl, argE (by (conv => lhs; whnf); all_goals rfl) rfl, argE (by (conv => lhs; whnf); all_goals rfl) rfl, argE (by (conv => lhs; whnf); all_goals rfl) rfl, argOL 2 (by (conv => lhs; whnf); all_goals rfl) rfl rfl (map_ni (fun _ => ⟨rfl, rfl⟩) _), argE (by (conv => lhs; whnf); all_goals rfl) rfl, argE (by (conv => lhs; whnf); all_goals rfl) rfl, trivial⟩ ⟨boxL rfl rfl rfl ⟨(.ni _ rfl), (.ni _ rfl), trivial⟩, trivial⟩) ?_
        rintro ⟨k_35, a_33, a_31, i_32⟩ ⟨hk_k_35, hL3⟩
        try dsimp only at hk_k_35 hL3
        show awp _ _ _ _ _ _ ⟨eL [(3, .int .i64 x_3), (9, .ptr 0 0), (11, .lst 3 (r_3.1.map encHoldRule)), (12, .lst 7 (r_4.1.map encConnecting)), (13, .lst 3 (a_14.map encHoldRule)), (14, .lst 7 (a_15.map encConnecting)), (16, .lst 3 (e_20.map encMinimum)), (18, .lst 3 (e_28.map encHoldRule)), (57, .lst 1 (a_16.map (lA 3 encMinimum))), (58, .int .i64 (([r_2.1, r_11.1] : List (List Minimum)).length : Int)), (59, .int .i64 (k_18 : Int)), (67, .lst 1 (a_24.map (lA 3 encHoldRule))), (68, .int .i64 (([r_3.1, a_14, r_21.1] : List (List HoldRule)).length : Int)), (69, .int .i64 (k_26 : Int)), (84, .lst 1 (a_33.map (lA 7 encConnecting))), (85, .int .i64 (([r_4.1, a_15, l_29] : List (List Connecting)).length : Int)), (86, .int .i64 (k_35 : Int))], hL [(0, .box [.lst 1 (a_31.map iA), .int .i64 i_32])], 1⟩
        conv => whnf
        refine ⟨fun h => ?_, fun h => ?_⟩
        · have hlt_k_35 : k_35 < ([r_4.1, a_15, l_29] : List (List Connecting)).length := by have h := of_decide_eq_true h; omega
          obtain ⟨e_36, h_e_36⟩ : ∃ y, ([r_4.1, a_15, l_29] : List (List Connecting))[k_35]? = some y := ⟨_, List.getElem?_eq_getElem hlt_k_35⟩
          rw [drop_cons h_e_36, law24_ConnectDecides_L3.eq_2] at hL3
          conv => whnf
          obtain ⟨e_37, h_e_37, hL3⟩ := bind_some hL3
          refine ix_q (enc := (lA 7 encConnecting)) (l := a_33) h_e_37 rfl (fun m_e_37 hm_e_37 hx_e_37 => ?_)
          conv => whnf
          obtain ⟨r_38, h_r_38, hL3⟩ := bind_some hL3
          refine ⟨_, _, _, _, _, _, _, _, _, callX false [0] [] 0 Try.func22 (by decide) rfl (keep_Src_N_ac (⟨a_31, i_32⟩ : Src) (60 : Int) r_38 h_r_38) rfl ⟨(argP (id := 0) (by (conv => lhs; whnf); all_goals rfl) rfl), (argE (by (conv => lhs; whnf); all_goals rfl) rfl), trivial⟩ rfl ⟨rfl, trivial⟩ rfl rfl rfl lend0 ⟨rfl, trivial⟩ rfl, ?_⟩
          conv => whnf
          refine ⟨_, rfl, ?_⟩
          conv => whnf
          refine len_q (enc := iA) (l := ([x_3, (w64 ((40 : Int) + r_38.1))] : List Int)) rfl ?_
          conv => whnf
          obtain ⟨c_4, hc_4, hL3⟩ := sub_some hL3
          refine sw_br 2 (sz := 1) (xs := ([x_3, (w64 ((40 : Int) + r_38.1))] : List Int).map iA) (by (conv => lhs; whnf); all_goals rfl) (fun hb => ?_)
          have hbd_k_41 : ([x_3, (w64 ((40 : Int) + r_38.1))] : List Int).length ≤ 9223372036854775807 := bnd_len (enc := iA) (hb)
          refine sw_loop tab_ok follows_ok (fun y : Nat × (List Int) => y.1 ≤ ([x_3, (w64 ((40 : Int) + r_38.1))] : List Int).length ∧ law24_ConnectDecides_L4 e_20 e_28 e_37 (([x_3, (w64 ((40 : Int) + r_38.1))] : List Int).drop y.1) y.1 y.2 = some c_4) (fun y => ⟨eL [(3, .int .i64 x_3), (9, .ptr 0 0), (11, .lst 3 (r_3.1.map encHoldRule)), (12, .lst 7 (r_4.1.map encConnecting)), (13, .lst 3 (a_14.map encHoldRule)), (14, .lst 7 (a_15.map encConnecting)), (16, .lst 3 (e_20.map encMinimum)), (18, .lst 3 (e_28.map encHoldRule)), (20, .lst 7 (e_37.map encConnecting)), (57, .lst 1 (a_16.map (lA 3 encMinimum))), (58, .int .i64 (([r_2.1, r_11.1] : List (List Minimum)).length : Int)), (59, .int .i64 (k_18 : Int)), (67, .lst 1 (a_24.map (lA 3 encHoldRule))), (68, .int .i64 (([r_3.1, a_14, r_21.1] : List (List HoldRule)).length : Int)), (69, .int .i64 (k_26 : Int)), (84, .lst 1 (a_33.map (lA 7 encConnecting))), (85, .int .i64 (([r_4.1, a_15, l_29] : List (List Connecting)).length : Int)), (86, .int .i64 (k_35 : Int)), (94, .lst 1 (y.2.map iA)), (95, .int .i64 (([x_3, (w64 ((40 : Int) + r_38.1))] : List Int).length : Int)), (96, .int .i64 (y.1 : Int))], hL [(0, .box [.lst 1 (r_38.2.L.map iA), .int .i64 r_38.2.At])], 1⟩) (fun y => ([x_3, (w64 ((40 : Int) + r_38.1))] : List Int).length - y.1) (0, ([x_3, (w64 ((40 : Int) + r_38.1))] : List Int)) ⟨Nat.zero_le _, hc_4⟩ (wk_mk [0] [] [2] rfl ⟨argE (by (conv => lhs; whnf); all_goals rfl) rfl, argP (id := 0) (by (conv => lhs; whnf); all_goals rfl) rfl, argE (by (conv => lhs; whnf); all_goals rfl) rfl, argE (by (conv => lhs; whnf); all_goals rfl) rfl, argE (by (conv => lhs; whnf); all_goals rfl) rfl, argE (by (conv => lhs; whnf); all_goals rfl) rfl, argE (by (conv => lhs; whnf); all_goals rfl) rfl, argE (by (conv => lhs; whnf); all_goals rfl) rfl, argE (by (conv => lhs; whnf); all_goals rfl) rfl, argE (by (conv => lhs; whnf); all_goals rfl) rfl, argE (by (conv => lhs; whnf); all_goals rfl) rfl, argE (by (conv => lhs; whnf); all_goals rfl) rfl, argE (by (conv => lhs; whnf); all_goals rfl) rfl, argE (by (conv => lhs; whnf); all_goals rfl) rfl, argE (by (conv => lhs; whnf); all_goals rfl) rfl, argE (by (conv => lhs; whnf); all_goals rfl) rfl, argE (by (conv => lhs; whnf); all_goals rfl) rfl, argE (by (conv => lhs; whnf); all_goals rfl) rfl, argOL 2 (by (conv => lhs; whnf); all_goals rfl) rfl rfl (map_ni (fun _ => ⟨rfl, rfl⟩) _), argE (by (conv => lhs; whnf); all_goals rfl) rfl, argE (by (conv => lhs; whnf); all_goals rfl) rfl, trivial⟩ ⟨boxL rfl rfl rfl ⟨(.ni _ rfl), (.ni _ rfl), trivial⟩, trivial⟩) ?_
          rintro ⟨k_41, a_39⟩ ⟨hk_k_41, hL4⟩
          try dsimp only at hk_k_41 hL4
          show awp _ _ _ _ _ _ ⟨eL [(3, .int .i64 x_3), (9, .ptr 0 0), (11, .lst 3 (r_3.1.map encHoldRule)), (12, .lst 7 (r_4.1.map encConnecting)), (13, .lst 3 (a_14.map encHoldRule)), (14, .lst 7 (a_15.map encConnecting)), (16, .lst 3 (e_20.map encMinimum)), (18, .lst 3 (e_28.map encHoldRule)), (20, .lst 7 (e_37.map encConnecting)), (57, .lst 1 (a_16.map (lA 3 encMinimum))), (58, .int .i64 (([r_2.1, r_11.1] : List (List Minimum)).length : Int)), (59, .int .i64 (k_18 : Int)), (67, .lst 1 (a_24.map (lA 3 encHoldRule))), (68, .int .i64 (([r_3.1, a_14, r_21.1] : List (List HoldRule)).length : Int)), (69, .int .i64 (k_26 : Int)), (84, .lst 1 (a_33.map (lA 7 encConnecting))), (85, .int .i64 (([r_4.1, a_15, l_29] : List (List Connecting)).length : Int)), (86, .int .i64 (k_35 : Int)), (94, .lst 1 (a_39.map iA)), (95, .int .i64 (([x_3, (w64 ((40 : Int) + r_38.1))] : List Int).length : Int)), (96, .int .i64 (k_41 : Int))], hL [(0, .box [.lst 1 (r_38.2.L.map iA), .int .i64 r_38.2.At])], 1⟩
          conv => whnf
          refine ⟨fun h => ?_, fun h => ?_⟩
          · have hlt_k_41 : k_41 < ([x_3, (w64 ((40 : Int) + r_38.1))] : List Int).length := by have h := of_decide_eq_true h; omega
            obtain ⟨e_42, h_e_42⟩ : ∃ y, ([x_3, (w64 ((40 : Int) + r_38.1))] : List Int)[k_41]? = some y := ⟨_, List.getElem?_eq_getElem hlt_k_41⟩
            rw [drop_cons h_e_42, law24_ConnectDecides_L4.eq_2] at hL4
            conv => whnf
            obtain ⟨e_43, h_e_43, hL4⟩ := bind_some hL4
            refine ix_q (enc := iA) (l := a_39) h_e_43 rfl (fun m_e_43 hm_e_43 hx_e_43 => ?_)
            conv => whnf
            obtain ⟨r_44, h_r_44, hL4⟩ := bind_some hL4
            refine ⟨_, _, _, _, _, _, _, _, _, callX false [] [] 0 Try.func23 (by decide) rfl (connect_Decide_ac e_20 e_28 e_37 e_43 r_44 h_r_44) rfl ⟨(argE (by (conv => lhs; whnf); all_goals rfl) rfl), (argE (by (conv => lhs; whnf); all_goals rfl) rfl), (argE (by (conv => lhs; whnf); all_goals rfl) rfl), (argE (by (conv => lhs; whnf); all_goals rfl) rfl), trivial⟩ rfl trivial rfl rfl rfl lend0 trivial rfl, ?_⟩
            conv => whnf
            obtain ⟨r_45, h_r_45, hL4⟩ := bind_some hL4
            refine ⟨_, _, _, _, _, _, _, _, _, callX false [] [] 0 Try.func24 (by decide) rfl (ref24_Decide_ac e_20 e_28 e_37 e_43 r_45 h_r_45) rfl ⟨(argE (by (conv => lhs; whnf); all_goals rfl) rfl), (argE (by (conv => lhs; whnf); all_goals rfl) rfl), (argE (by (conv => lhs; whnf); all_goals rfl) rfl), (argE (by (conv => lhs; whnf); all_goals rfl) rfl), trivial⟩ rfl trivial rfl rfl rfl lend0 trivial rfl, ?_⟩
            conv => whnf
            refine ⟨fun hb_1355 => ?_, fun hb_1355 => ?_⟩
            · replace hL4 := cond_f hb_1355 hL4
              conv => whnf
              refine ⟨fun hb_1356 => ?_, fun hb_1356 => ?_⟩
              · replace hL4 := cond_f hb_1356 hL4
                conv => whnf
                refine ⟨fun hb_1357 => ?_, fun hb_1357 => ?_⟩
                · replace hL4 := cond_f hb_1357 hL4
                  conv => whnf
                  obtain ⟨r_46, h_r_46, hL4⟩ := bind_some hL4
                  refine ⟨_, _, _, _, _, _, _, _, _, callX false [] [] 0 Try.func25 (by decide) rfl (ref23_SamePlates_ac r_44.1.Left r_45.1.Left r_46 h_r_46) rfl ⟨(argE (by (conv => lhs; whnf); all_goals rfl) rfl), (argE (by (conv => lhs; whnf); all_goals rfl) rfl), trivial⟩ rfl trivial rfl rfl rfl lend0 trivial rfl, ?_⟩
                  conv => whnf
                  refine ⟨fun hb_1358 => ?_, fun hb_1358 => ?_⟩
                  · replace hL4 := cond_t hb_1358 hL4
                    conv => whnf
                    obtain rfl := Option.some.inj hL4
                    replace hL3 := sub_ret hL3
                    obtain rfl := Option.some.inj hL3
                    replace hL2 := sub_ret hL2
                    obtain rfl := Option.some.inj hL2
                    replace hL1 := sub_ret hL1
                    obtain rfl := Option.some.inj hL1
                    replace hF := fin_ret hF
                    obtain rfl := Option.some.inj hF
                    exact ret_gz [] [] [] rfl (argFl (by (conv => lhs; whnf); all_goals rfl)) trivial
                  · replace hL4 := cond_f hb_1358 hL4
                    conv => whnf
                    refine ⟨((k_41 + 1 : Nat) : Int), wrapE (by omega) (by omega) (by omega), ?_⟩
                    conv => whnf
                    exact ⟨(k_41 + 1, a_39), [0], [], [], ⟨hlt_k_41, hL4⟩, by show ([x_3, (w64 ((40 : Int) + r_38.1))] : List Int).length - (k_41 + 1) < ([x_3, (w64 ((40 : Int) + r_38.1))] : List Int).length - k_41; omega, wk_mk [0] [] [] rfl ⟨argE (by (conv => lhs; whnf); all_goals rfl) rfl, argP (id := 0) (by (conv => lhs; whnf); all_goals rfl) rfl, argE (by (conv => lhs; whnf); all_goals rfl) rfl, argE (by (conv => lhs; whnf); all_goals rfl) rfl, argE (by (conv => lhs; whnf); all_goals rfl) rfl, argE (by (conv => lhs; whnf); all_goals rfl) rfl, argE (by (conv => lhs; whnf); all_goals rfl) rfl, argE (by (conv => lhs; whnf); all_goals rfl) rfl, argE (by (conv => lhs; whnf); all_goals rfl) rfl, argE (by (conv => lhs; whnf); all_goals rfl) rfl, argE (by (conv => lhs; whnf); all_goals rfl) rfl, argE (by (conv => lhs; whnf); all_goals rfl) rfl, argE (by (conv => lhs; whnf); all_goals rfl) rfl, argE (by (conv => lhs; whnf); all_goals rfl) rfl, argE (by (conv => lhs; whnf); all_goals rfl) rfl, argE (by (conv => lhs; whnf); all_goals rfl) rfl, argE (by (conv => lhs; whnf); all_goals rfl) rfl, argE (by (conv => lhs; whnf); all_goals rfl) rfl, argE (by (conv => lhs; whnf); all_goals rfl) rfl, argE (by (conv => lhs; whnf); all_goals rfl) rfl, argE (by (conv => lhs; whnf); all_goals rfl) rfl, trivial⟩ ⟨boxL rfl rfl rfl ⟨(.ni _ rfl), (.ni _ rfl), trivial⟩, trivial⟩⟩
                · replace hL4 := cond_t hb_1357 hL4
                  conv => whnf
                  obtain rfl := Option.some.inj hL4
                  replace hL3 := sub_ret hL3
                  obtain rfl := Option.some.inj hL3
                  replace hL2 := sub_ret hL2
                  obtain rfl := Option.some.inj hL2
                  replace hL1 := sub_ret hL1
                  obtain rfl := Option.some.inj hL1
                  replace hF := fin_ret hF
                  obtain rfl := Option.some.inj hF
                  exact ret_gz [] [] [] rfl (argFl (by (conv => lhs; whnf); all_goals rfl)) trivial
              · replace hL4 := cond_t hb_1356 hL4
                conv => whnf
                obtain rfl := Option.some.inj hL4
                replace hL3 := sub_ret hL3
                obtain rfl := Option.some.inj hL3
                replace hL2 := sub_ret hL2
                obtain rfl := Option.some.inj hL2
                replace hL1 := sub_ret hL1
                obtain rfl := Option.some.inj hL1
                replace hF := fin_ret hF
                obtain rfl := Option.some.inj hF
                exact ret_gz [] [] [] rfl (argFl (by (conv => lhs; whnf); all_goals rfl)) trivial
            · replace hL4 := cond_t hb_1355 hL4
              conv => whnf
              obtain rfl := Option.some.inj hL4
              replace hL3 := sub_ret hL3
              obtain rfl := Option.some.inj hL3
              replace hL2 := sub_ret hL2
              obtain rfl := Option.some.inj hL2
              replace hL1 := sub_ret hL1
              obtain rfl := Option.some.inj hL1
              replace hF := fin_ret hF
              obtain rfl := Option.some.inj hF
              exact ret_gz [] [] [] rfl (argFl (by (conv => lhs; whnf); all_goals rfl)) trivial
          · rw [drop_nil (show ([x_3, (w64 ((40 : Int) + r_38.1))] : List Int).length ≤ k_41 by have h := of_decide_eq_false h; omega), law24_ConnectDecides_L4.eq_1] at hL4
            conv => whnf
            obtain rfl := Option.some.inj hL4
            replace hL3 := sub_brk hL3
            try dsimp only at hL3
            refine ⟨((k_35 + 1 : Nat) : Int), wrapE (by omega) (by omega) (by omega), ?_⟩
            conv => whnf
            exact ⟨(k_35 + 1, a_33, r_38.2.L, r_38.2.At), [0], [], [], ⟨hlt_k_35, hL3⟩, by show ([r_4.1, a_15, l_29] : List (List Connecting)).length - (k_35 + 1) < ([r_4.1, a_15, l_29] : List (List Connecting)).length - k_35; omega, wk_mk [0] [] [] rfl ⟨argE (by (conv => lhs; whnf); all_goals rfl) rfl, argP (id := 0) (by (conv => lhs; whnf); all_goals rfl) rfl, argE (by (conv => lhs; whnf); all_goals rfl) rfl, argE (by (conv => lhs; whnf); all_goals rfl) rfl, argE (by (conv => lhs; whnf); all_goals rfl) rfl, argE (by (conv => lhs; whnf); all_goals rfl) rfl, argE (by (conv => lhs; whnf); all_goals rfl) rfl, argE (by (conv => lhs; whnf); all_goals rfl) rfl, argE (by (conv => lhs; whnf); all_goals rfl) rfl, argE (by (conv => lhs; whnf); all_goals rfl) rfl, argE (by (conv => lhs; whnf); all_goals rfl) rfl, argE (by (conv => lhs; whnf); all_goals rfl) rfl, argE (by (conv => lhs; whnf); all_goals rfl) rfl, argE (by (conv => lhs; whnf); all_goals rfl) rfl, argE (by (conv => lhs; whnf); all_goals rfl) rfl, argE (by (conv => lhs; whnf); all_goals rfl) rfl, argE (by (conv => lhs; whnf); all_goals rfl) rfl, trivial⟩ ⟨boxL rfl rfl rfl ⟨(.ni _ rfl), (.ni _ rfl), trivial⟩, trivial⟩⟩
        · rw [drop_nil (show ([r_4.1, a_15, l_29] : List (List Connecting)).length ≤ k_35 by have h := of_decide_eq_false h; omega), law24_ConnectDecides_L3.eq_1] at hL3
          conv => whnf
          obtain rfl := Option.some.inj hL3
          replace hL2 := sub_brk hL2
          try dsimp only at hL2
          refine ⟨((k_26 + 1 : Nat) : Int), wrapE (by omega) (by omega) (by omega), ?_⟩
          conv => whnf
          exact ⟨(k_26 + 1, a_24, a_31, i_32), [0], [], [], ⟨hlt_k_26, hL2⟩, by show ([r_3.1, a_14, r_21.1] : List (List HoldRule)).length - (k_26 + 1) < ([r_3.1, a_14, r_21.1] : List (List HoldRule)).length - k_26; omega, wk_mk [0] [] [] rfl ⟨argE (by (conv => lhs; whnf); all_goals rfl) rfl, argP (id := 0) (by (conv => lhs; whnf); all_goals rfl) rfl, argE (by (conv => lhs; whnf); all_goals rfl) rfl, argE (by (conv => lhs; whnf); all_goals rfl) rfl, argE (by (conv => lhs; whnf); all_goals rfl) rfl, argE (by (conv => lhs; whnf); all_goals rfl) rfl, argE (by (conv => lhs; whnf); all_goals rfl) rfl, argE (by (conv => lhs; whnf); all_goals rfl) rfl, argE (by (conv => lhs; whnf); all_goals rfl) rfl, argE (by (conv => lhs; whnf); all_goals rfl) rfl, argE (by (conv => lhs; whnf); all_goals rfl) rfl, argE (by (conv => lhs; whnf); all_goals rfl) rfl, argE (by (conv => lhs; whnf); all_goals rfl) rfl, trivial⟩ ⟨boxL rfl rfl rfl ⟨(.ni _ rfl), (.ni _ rfl), trivial⟩, trivial⟩⟩
      · have he_1354 := em_ne h
        replace hL2 := cond_f he_1354 hL2
        obtain ⟨l_51, h_l_51, hL2⟩ := bind_some hL2
        refine ap_q (enc := encConnecting) (l := l_29) (y := r_30.1) h_l_51 rfl rfl (by decide) ?_
        conv => whnf
        refine ⟨(3 : Int), rfl, ?_⟩
        conv => whnf
        refine ⟨by kernel_rfl, ?_⟩
        conv => whnf
        obtain ⟨c_5, hc_5, hL2⟩ := sub_some hL2
        refine sw_loop tab_ok follows_ok (fun y : Nat × (List Int) × Int × (List (List Connecting)) × Int => law24_ConnectDecides_L5 x_3 e_20 e_28 y.1 y.2.1 y.2.2.1 y.2.2.2.1 y.2.2.2.2 = some c_5) (fun y => ⟨eL [(3, .int .i64 x_3), (9, .ptr 0 0), (11, .lst 3 (r_3.1.map encHoldRule)), (12, .lst 7 (r_4.1.map encConnecting)), (13, .lst 3 (a_14.map encHoldRule)), (14, .lst 7 (a_15.map encConnecting)), (16, .lst 3 (e_20.map encMinimum)), (18, .lst 3 (e_28.map encHoldRule)), (57, .lst 1 (a_16.map (lA 3 encMinimum))), (58, .int .i64 (([r_2.1, r_11.1] : List (List Minimum)).length : Int)), (59, .int .i64 (k_18 : Int)), (67, .lst 1 (a_24.map (lA 3 encHoldRule))), (68, .int .i64 (([r_3.1, a_14, r_21.1] : List (List HoldRule)).length : Int)), (69, .int .i64 (k_26 : Int)), (84, .lst 1 (y.2.2.2.1.map (lA 7 encConnecting))), (85, .int .i64 (3 : Int)), (86, .int .i64 y.2.2.2.2)], hL [(0, .box [.lst 1 (y.2.1.map iA), .int .i64 y.2.2.1])], 1⟩) (fun y => y.1) (9223372036854775807, r_30.2.L, r_30.2.At, ([r_4.1, a_15, l_51] : List (List Connecting)), (0 : Int)) hc_5 (wk_mk [0] [] [3, 2] rfl ⟨argE (by (conv => lhs; whnf); all_goals rfl) rfl, argP (id := 0) (by (conv => lhs; whnf); all_goals rfl) rfl, argE (by (conv => lhs; whnf); all_goals rfl) rfl, argE (by (conv => lhs; whnf); all_goals rfl) rfl, argE (by (conv => lhs; whnf); all_goals rfl) rfl, argE (by (conv => lhs; whnf); all_goals rfl) rfl, argE (by (conv => lhs; whnf); all_goals rfl) rfl, argE (by (conv => lhs; whnf); all_goals rfl) rfl, argE (by (conv => lhs; whnf); all_goals rfl) rfl, argE (by (conv => lhs; whnf); all_goals rfl) rfl, argE (by (conv => lhs; whnf); all_goals rfl) rfl, argE (by (conv => lhs; whnf); all_goals rfl) rfl, argE (by (conv => lhs; whnf); all_goals rfl) rfl, argE (by (conv => lhs; whnf); all_goals rfl) rfl, argOR 3 (by (conv => lhs; whnf); all_goals rfl) rfl rfl (RowsA.cons (cellsL (c' := [.lst 7 (r_4.1.map encConnecting)]) rfl rfl ⟨(.ni _ rfl), trivial⟩) (RowsA.cons (cellsL (c' := [.lst 7 (a_15.map encConnecting)]) rfl rfl ⟨(.ni _ rfl), trivial⟩) (RowsA.cons (cellsL (c' := [.lst 7 (l_51.map encConnecting)]) rfl rfl ⟨(.osl 2 7 _ (by simp) rfl (map_ni (fun _ => ⟨rfl, rfl⟩) _)), trivial⟩) RowsA.nil))) (by rfl) (map_ni (fun _ => ⟨rfl, rfl⟩) _), argE (by (conv => lhs; whnf); all_goals rfl) rfl, argE (by (conv => lhs; whnf); all_goals rfl) rfl, trivial⟩ ⟨boxL rfl rfl rfl ⟨(.ni _ rfl), (.ni _ rfl), trivial⟩, trivial⟩) ?_
        rintro ⟨q_68, a_52, i_53, a_54, i_55⟩ hL3
        try dsimp only at hL3
        rcases q_68 with _ | q_68
        · rw [law24_ConnectDecides_L5.eq_1] at hL3
          cases hL3
        rw [law24_ConnectDecides_L5.eq_2] at hL3
        show awp _ _ _ _ _ _ ⟨eL [(3, .int .i64 x_3), (9, .ptr 0 0), (11, .lst 3 (r_3.1.map encHoldRule)), (12, .lst 7 (r_4.1.map encConnecting)), (13, .lst 3 (a_14.map encHoldRule)), (14, .lst 7 (a_15.map encConnecting)), (16, .lst 3 (e_20.map encMinimum)), (18, .lst 3 (e_28.map encHoldRule)), (57, .lst 1 (a_16.map (lA 3 encMinimum))), (58, .int .i64 (([r_2.1, r_11.1] : List (List Minimum)).length : Int)), (59, .int .i64 (k_18 : Int)), (67, .lst 1 (a_24.map (lA 3 encHoldRule))), (68, .int .i64 (([r_3.1, a_14, r_21.1] : List (List HoldRule)).length : Int)), (69, .int .i64 (k_26 : Int)), (84, .lst 1 (a_54.map (lA 7 encConnecting))), (85, .int .i64 (3 : Int)), (86, .int .i64 i_55)], hL [(0, .box [.lst 1 (a_52.map iA), .int .i64 i_53])], 1⟩
        conv => whnf
        refine ⟨fun hb_1359 => ?_, fun hb_1359 => ?_⟩
        · replace hL3 := cond_t hb_1359 hL3
          conv => whnf
          obtain ⟨e_56, h_e_56, hL3⟩ := bind_some hL3
          refine ix_q (enc := (lA 7 encConnecting)) (l := a_54) h_e_56 rfl (fun m_e_56 hm_e_56 hx_e_56 => ?_)
          conv => whnf
          obtain ⟨r_57, h_r_57, hL3⟩ := bind_some hL3
          refine ⟨_, _, _, _, _, _, _, _, _, callX false [0] [] 0 Try.func22 (by decide) rfl (keep_Src_N_ac (⟨a_52, i_53⟩ : Src) (60 : Int) r_57 h_r_57) rfl ⟨(argP (id := 0) (by (conv => lhs; whnf); all_goals rfl) rfl), (argE (by (conv => lhs; whnf); all_goals rfl) rfl), trivial⟩ rfl ⟨rfl, trivial⟩ rfl rfl rfl lend0 ⟨rfl, trivial⟩ rfl, ?_⟩
          conv => whnf
          refine ⟨_, rfl, ?_⟩
          conv => whnf
          refine len_q (enc := iA) (l := ([x_3, (w64 ((40 : Int) + r_57.1))] : List Int)) rfl ?_
          conv => whnf
          obtain ⟨c_4, hc_4, hL3⟩ := sub_some hL3
          refine sw_br 2 (sz := 1) (xs := ([x_3, (w64 ((40 : Int) + r_57.1))] : List Int).map iA) (by (conv => lhs; whnf); all_goals rfl) (fun hb => ?_)
          have hbd_k_60 : ([x_3, (w64 ((40 : Int) + r_57.1))] : List Int).length ≤ 9223372036854775807 := bnd_len (enc := iA) (hb)
          refine sw_loop tab_ok follows_ok (fun y : Nat × (List Int) => y.1 ≤ ([x_3, (w64 ((40 : Int) + r_57.1))] : List Int).length ∧ law24_ConnectDecides_L4 e_20 e_28 e_56 (([x_3, (w64 ((40 : Int) + r_57.1))] : List Int).drop y.1) y.1 y.2 = some c_4) (fun y => ⟨eL [(3, .int .i64 x_3), (9, .ptr 0 0), (11, .lst 3 (r_3.1.map encHoldRule)), (12, .lst 7 (r_4.1.map encConnecting)), (13, .lst 3 (a_14.map encHoldRule)), (14, .lst 7 (a_15.map encConnecting)), (16, .lst 3 (e_20.map encMinimum)), (18, .lst 3 (e_28.map encHoldRule)), (20, .lst 7 (e_56.map encConnecting)), (57, .lst 1 (a_16.map (lA 3 encMinimum))), (58, .int .i64 (([r_2.1, r_11.1] : List (List Minimum)).length : Int)), (59, .int .i64 (k_18 : Int)), (67, .lst 1 (a_24.map (lA 3 encHoldRule))), (68, .int .i64 (([r_3.1, a_14, r_21.1] : List (List HoldRule)).length : Int)), (69, .int .i64 (k_26 : Int)), (84, .lst 1 (a_54.map (lA 7 encConnecting))), (85, .int .i64 (3 : Int)), (86, .int .i64 i_55), (94, .lst 1 (y.2.map iA)), (95, .int .i64 (([x_3, (w64 ((40 : Int) + r_57.1))] : List Int).length : Int)), (96, .int .i64 (y.1 : Int))], hL [(0, .box [.lst 1 (r_57.2.L.map iA), .int .i64 r_57.2.At])], 1⟩) (fun y => ([x_3, (w64 ((40 : Int) + r_57.1))] : List Int).length - y.1) (0, ([x_3, (w64 ((40 : Int) + r_57.1))] : List Int)) ⟨Nat.zero_le _, hc_4⟩ (wk_mk [0] [] [2] rfl ⟨argE (by (conv => lhs; whnf); all_goals rfl) rfl, argP (id := 0) (by (conv => lhs; whnf); all_goals rfl) rfl, argE (by (conv => lhs; whnf); all_goals rfl) rfl, argE (by (conv => lhs; whnf); all_goals rfl) rfl, argE (by (conv => lhs; whnf); all_goals rfl) rfl, argE (by (conv => lhs; whnf); all_goals rfl) rfl, argE (by (conv => lhs; whnf); all_goals rfl) rfl, argE (by (conv => lhs; whnf); all_goals rfl) rfl, argE (by (conv => lhs; whnf); all_goals rfl) rfl, argE (by (conv => lhs; whnf); all_goals rfl) rfl, argE (by (conv => lhs; whnf); all_goals rfl) rfl, argE (by (conv => lhs; whnf); all_goals rfl) rfl, argE (by (conv => lhs; whnf); all_goals rfl) rfl, argE (by (conv => lhs; whnf); all_goals rfl) rfl, argE (by (conv => lhs; whnf); all_goals rfl) rfl, argE (by (conv => lhs; whnf); all_goals rfl) rfl, argE (by (conv => lhs; whnf); all_goals rfl) rfl, argE (by (conv => lhs; whnf); all_goals rfl) rfl, argOL 2 (by (conv => lhs; whnf); all_goals rfl) rfl rfl (map_ni (fun _ => ⟨rfl, rfl⟩) _), argE (by (conv => lhs; whnf); all_goals rfl) rfl, argE (by (conv => lhs; whnf); all_goals rfl) rfl, trivial⟩ ⟨boxL rfl rfl rfl ⟨(.ni _ rfl), (.ni _ rfl), trivial⟩, trivial⟩) ?_
          rintro ⟨k_60, a_58⟩ ⟨hk_k_60, hL4⟩
          try dsimp only at hk_k_60 hL4
          show awp _ _ _ _ _ _ ⟨eL [(3, .int .i64 x_3), (9, .ptr 0 0), (11, .lst 3 (r_3.1.map encHoldRule)), (12, .lst 7 (r_4.1.map encConnecting)), (13, .lst 3 (a_14.map encHoldRule)), (14, .lst 7 (a_15.map encConnecting)), (16, .lst 3 (e_20.map encMinimum)), (18, .lst 3 (e_28.map encHoldRule)), (20, .lst 7 (e_56.map encConnecting)), (57, .lst 1 (a_16.map (lA 3 encMinimum))), (58, .int .i64 (([r_2.1, r_11.1] : List (List Minimum)).length : Int)), (59, .int .i64 (k_18 : Int)), (67, .lst 1 (a_24.map (lA 3 encHoldRule))), (68, .int .i64 (([r_3.1, a_14, r_21.1] : List (List HoldRule)).length : Int)), (69, .int .i64 (k_26 : Int)), (84, .lst 1 (a_54.map (lA 7 encConnecting))), (85, .int .i64 (3 : Int)), (86, .int .i64 i_55), (94, .lst 1 (a_58.map iA)), (95, .int .i64 (([x_3, (w64 ((40 : Int) + r_57.1))] : List Int).length : Int)), (96, .int .i64 (k_60 : Int))], hL [(0, .box [.lst 1 (r_57.2.L.map iA), .int .i64 r_57.2.At])], 1⟩
          conv => whnf
          refine ⟨fun h => ?_, fun h => ?_⟩
          · have hlt_k_60 : k_60 < ([x_3, (w64 ((40 : Int) + r_57.1))] : List Int).length := by have h := of_decide_eq_true h; omega
            obtain ⟨e_61, h_e_61⟩ : ∃ y, ([x_3, (w64 ((40 : Int) + r_57.1))] : List Int)[k_60]? = some y := ⟨_, List.getElem?_eq_getElem hlt_k_60⟩
            rw [drop_cons h_e_61, law24_ConnectDecides_L4.eq_2] at hL4
            conv => whnf
            obtain ⟨e_62, h_e_62, hL4⟩ := bind_some hL4
            refine ix_q (enc := iA) (l := a_58) h_e_62 rfl (fun m_e_62 hm_e_62 hx_e_62 => ?_)
            conv => whnf
            obtain ⟨r_63, h_r_63, hL4⟩ := bind_some hL4
            refine ⟨_, _, _, _, _, _, _, _, _, callX false [] [] 0 Try.func23 (by decide) rfl (connect_Decide_ac e_20 e_28 e_56 e_62 r_63 h_r_63) rfl ⟨(argE (by (conv => lhs; whnf); all_goals rfl) rfl), (argE (by (conv => lhs; whnf); all_goals rfl) rfl), (argE (by (conv => lhs; whnf); all_goals rfl) rfl), (argE (by (conv => lhs; whnf); all_goals rfl) rfl), trivial⟩ rfl trivial rfl rfl rfl lend0 trivial rfl, ?_⟩
            conv => whnf
            obtain ⟨r_64, h_r_64, hL4⟩ := bind_some hL4
            refine ⟨_, _, _, _, _, _, _, _, _, callX false [] [] 0 Try.func24 (by decide) rfl (ref24_Decide_ac e_20 e_28 e_56 e_62 r_64 h_r_64) rfl ⟨(argE (by (conv => lhs; whnf); all_goals rfl) rfl), (argE (by (conv => lhs; whnf); all_goals rfl) rfl), (argE (by (conv => lhs; whnf); all_goals rfl) rfl), (argE (by (conv => lhs; whnf); all_goals rfl) rfl), trivial⟩ rfl trivial rfl rfl rfl lend0 trivial rfl, ?_⟩
            conv => whnf
            refine ⟨fun hb_1360 => ?_, fun hb_1360 => ?_⟩
            · replace hL4 := cond_f hb_1360 hL4
              conv => whnf
              refine ⟨fun hb_1361 => ?_, fun hb_1361 => ?_⟩
              · replace hL4 := cond_f hb_1361 hL4
                conv => whnf
                refine ⟨fun hb_1362 => ?_, fun hb_1362 => ?_⟩
                · replace hL4 := cond_f hb_1362 hL4
                  conv => whnf
                  obtain ⟨r_65, h_r_65, hL4⟩ := bind_some hL4
                  refine ⟨_, _, _, _, _, _, _, _, _, callX false [] [] 0 Try.func25 (by decide) rfl (ref23_SamePlates_ac r_63.1.Left r_64.1.Left r_65 h_r_65) rfl ⟨(argE (by (conv => lhs; whnf); all_goals rfl) rfl), (argE (by (conv => lhs; whnf); all_goals rfl) rfl), trivial⟩ rfl trivial rfl rfl rfl lend0 trivial rfl, ?_⟩
                  conv => whnf
                  refine ⟨fun hb_1363 => ?_, fun hb_1363 => ?_⟩
                  · replace hL4 := cond_t hb_1363 hL4
                    conv => whnf
                    obtain rfl := Option.some.inj hL4
                    replace hL3 := sub_ret hL3
                    obtain rfl := Option.some.inj hL3
                    replace hL2 := sub_ret hL2
                    obtain rfl := Option.some.inj hL2
                    replace hL1 := sub_ret hL1
                    obtain rfl := Option.some.inj hL1
                    replace hF := fin_ret hF
                    obtain rfl := Option.some.inj hF
                    exact ret_gz [] [] [] rfl (argFl (by (conv => lhs; whnf); all_goals rfl)) trivial
                  · replace hL4 := cond_f hb_1363 hL4
                    conv => whnf
                    refine ⟨((k_60 + 1 : Nat) : Int), wrapE (by omega) (by omega) (by omega), ?_⟩
                    conv => whnf
                    exact ⟨(k_60 + 1, a_58), [0], [], [], ⟨hlt_k_60, hL4⟩, by show ([x_3, (w64 ((40 : Int) + r_57.1))] : List Int).length - (k_60 + 1) < ([x_3, (w64 ((40 : Int) + r_57.1))] : List Int).length - k_60; omega, wk_mk [0] [] [] rfl ⟨argE (by (conv => lhs; whnf); all_goals rfl) rfl, argP (id := 0) (by (conv => lhs; whnf); all_goals rfl) rfl, argE (by (conv => lhs; whnf); all_goals rfl) rfl, argE (by (conv => lhs; whnf); all_goals rfl) rfl, argE (by (conv => lhs; whnf); all_goals rfl) rfl, argE (by (conv => lhs; whnf); all_goals rfl) rfl, argE (by (conv => lhs; whnf); all_goals rfl) rfl, argE (by (conv => lhs; whnf); all_goals rfl) rfl, argE (by (conv => lhs; whnf); all_goals rfl) rfl, argE (by (conv => lhs; whnf); all_goals rfl) rfl, argE (by (conv => lhs; whnf); all_goals rfl) rfl, argE (by (conv => lhs; whnf); all_goals rfl) rfl, argE (by (conv => lhs; whnf); all_goals rfl) rfl, argE (by (conv => lhs; whnf); all_goals rfl) rfl, argE (by (conv => lhs; whnf); all_goals rfl) rfl, argE (by (conv => lhs; whnf); all_goals rfl) rfl, argE (by (conv => lhs; whnf); all_goals rfl) rfl, argE (by (conv => lhs; whnf); all_goals rfl) rfl, argE (by (conv => lhs; whnf); all_goals rfl) rfl, argE (by (conv => lhs; whnf); all_goals rfl) rfl, argE (by (conv => lhs; whnf); all_goals rfl) rfl, trivial⟩ ⟨boxL rfl rfl rfl ⟨(.ni _ rfl), (.ni _ rfl), trivial⟩, trivial⟩⟩
                · replace hL4 := cond_t hb_1362 hL4
                  conv => whnf
                  obtain rfl := Option.some.inj hL4
                  replace hL3 := sub_ret hL3
                  obtain rfl := Option.some.inj hL3
                  replace hL2 := sub_ret hL2
                  obtain rfl := Option.some.inj hL2
                  replace hL1 := sub_ret hL1
                  obtain rfl := Option.some.inj hL1
                  replace hF := fin_ret hF
                  obtain rfl := Option.some.inj hF
                  exact ret_gz [] [] [] rfl (argFl (by (conv => lhs; whnf); all_goals rfl)) trivial
              · replace hL4 := cond_t hb_1361 hL4
                conv => whnf
                obtain rfl := Option.some.inj hL4
                replace hL3 := sub_ret hL3
                obtain rfl := Option.some.inj hL3
                replace hL2 := sub_ret hL2
                obtain rfl := Option.some.inj hL2
                replace hL1 := sub_ret hL1
                obtain rfl := Option.some.inj hL1
                replace hF := fin_ret hF
                obtain rfl := Option.some.inj hF
                exact ret_gz [] [] [] rfl (argFl (by (conv => lhs; whnf); all_goals rfl)) trivial
            · replace hL4 := cond_t hb_1360 hL4
              conv => whnf
              obtain rfl := Option.some.inj hL4
              replace hL3 := sub_ret hL3
              obtain rfl := Option.some.inj hL3
              replace hL2 := sub_ret hL2
              obtain rfl := Option.some.inj hL2
              replace hL1 := sub_ret hL1
              obtain rfl := Option.some.inj hL1
              replace hF := fin_ret hF
              obtain rfl := Option.some.inj hF
              exact ret_gz [] [] [] rfl (argFl (by (conv => lhs; whnf); all_goals rfl)) trivial
          · rw [drop_nil (show ([x_3, (w64 ((40 : Int) + r_57.1))] : List Int).length ≤ k_60 by have h := of_decide_eq_false h; omega), law24_ConnectDecides_L4.eq_1] at hL4
            conv => whnf
            obtain rfl := Option.some.inj hL4
            replace hL3 := sub_brk hL3
            try dsimp only at hL3
            refine ⟨_, rfl, ?_⟩
            conv => whnf
            exact ⟨(q_68, r_57.2.L, r_57.2.At, a_54, (w64 (i_55 + (1 : Int)))), [0], [], [], hL3, Nat.lt_succ_self _, wk_mk [0] [] [] rfl ⟨argE (by (conv => lhs; whnf); all_goals rfl) rfl, argP (id := 0) (by (conv => lhs; whnf); all_goals rfl) rfl, argE (by (conv => lhs; whnf); all_goals rfl) rfl, argE (by (conv => lhs; whnf); all_goals rfl) rfl, argE (by (conv => lhs; whnf); all_goals rfl) rfl, argE (by (conv => lhs; whnf); all_goals rfl) rfl, argE (by (conv => lhs; whnf); all_goals rfl) rfl, argE (by (conv => lhs; whnf); all_goals rfl) rfl, argE (by (conv => lhs; whnf); all_goals rfl) rfl, argE (by (conv => lhs; whnf); all_goals rfl) rfl, argE (by (conv => lhs; whnf); all_goals rfl) rfl, argE (by (conv => lhs; whnf); all_goals rfl) rfl, argE (by (conv => lhs; whnf); all_goals rfl) rfl, argE (by (conv => lhs; whnf); all_goals rfl) rfl, argE (by (conv => lhs; whnf); all_goals rfl) rfl, argE (by (conv => lhs; whnf); all_goals rfl) rfl, argE (by (conv => lhs; whnf); all_goals rfl) rfl, trivial⟩ ⟨boxL rfl rfl rfl ⟨(.ni _ rfl), (.ni _ rfl), trivial⟩, trivial⟩⟩
        · replace hL3 := cond_f hb_1359 hL3
          conv => whnf
          obtain rfl := Option.some.inj hL3
          replace hL2 := sub_brk hL2
          try dsimp only at hL2
          refine ⟨((k_26 + 1 : Nat) : Int), wrapE (by omega) (by omega) (by omega), ?_⟩
          conv => whnf
          exact ⟨(k_26 + 1, a_24, a_52, i_53), [0], [], [], ⟨hlt_k_26, hL2⟩, by show ([r_3.1, a_14, r_21.1] : List (List HoldRule)).length - (k_26 + 1) < ([r_3.1, a_14, r_21.1] : List (List HoldRule)).length - k_26; omega, wk_mk [0] [] [] rfl ⟨argE (by (conv => lhs; whnf); all_goals rfl) rfl, argP (id := 0) (by (conv => lhs; whnf); all_goals rfl) rfl, argE (by (conv => lhs; whnf); all_goals rfl) rfl, argE (by (conv => lhs; whnf); all_goals rfl) rfl, argE (by (conv => lhs; whnf); all_goals rfl) rfl, argE (by (conv => lhs; whnf); all_goals rfl) rfl, argE (by (conv => lhs; whnf); all_goals rfl) rfl, argE (by (conv => lhs; whnf); all_goals rfl) rfl, argE (by (conv => lhs; whnf); all_goals rfl) rfl, argE (by (conv => lhs; whnf); all_goals rfl) rfl, argE (by (conv => lhs; whnf); all_goals rfl) rfl, argE (by (conv => lhs; whnf); all_goals rfl) rfl, argE (by (conv => lhs; whnf); all_goals rfl) rfl, trivial⟩ ⟨boxL rfl rfl rfl ⟨(.ni _ rfl), (.ni _ rfl), trivial⟩, trivial⟩⟩
    · rw [drop_nil (show ([r_3.1, a_14, r_21.1] : List (List HoldRule)).length ≤ k_26 by have h := of_decide_eq_false h; omega), law24_ConnectDecides_L2.eq_1] at hL2
      conv => whnf
      obtain rfl := Option.some.inj hL2
      replace hL1 := sub_brk hL1
      try dsimp only at hL1
      refine ⟨((k_18 + 1 : Nat) : Int), wrapE (by omega) (by omega) (by omega), ?_⟩
      conv => whnf
      exact ⟨(k_18 + 1, a_14, a_15, a_16, a_22, i_23), [0], [], [], ⟨hlt_k_18, hL1⟩, by show ([r_2.1, r_11.1] : List (List Minimum)).length - (k_18 + 1) < ([r_2.1, r_11.1] : List (List Minimum)).length - k_18; omega, wk_mk [0] [] [] rfl ⟨argE (by (conv => lhs; whnf); all_goals rfl) rfl, argP (id := 0) (by (conv => lhs; whnf); all_goals rfl) rfl, argE (by (conv => lhs; whnf); all_goals rfl) rfl, argE (by (conv => lhs; whnf); all_goals rfl) rfl, argE (by (conv => lhs; whnf); all_goals rfl) rfl, argE (by (conv => lhs; whnf); all_goals rfl) rfl, argE (by (conv => lhs; whnf); all_goals rfl) rfl, argE (by (conv => lhs; whnf); all_goals rfl) rfl, argE (by (conv => lhs; whnf); all_goals rfl) rfl, trivial⟩ ⟨boxL rfl rfl rfl ⟨(.ni _ rfl), (.ni _ rfl), trivial⟩, trivial⟩⟩
  · rw [drop_nil (show ([r_2.1, r_11.1] : List (List Minimum)).length ≤ k_18 by have h := of_decide_eq_false h; omega), law24_ConnectDecides_L1.eq_1] at hL1
    conv => whnf
    obtain rfl := Option.some.inj hL1
    replace hF := fin_brk hF
    try dsimp only at hF
    obtain ⟨r_74, h_r_74, hF⟩ := bind_some hF
    refine ⟨_, _, _, _, _, _, _, _, _, callX false [] [] 0 Try.func18 (by decide) rfl (law24_awake_ac r_74 h_r_74) rfl trivial rfl trivial rfl rfl rfl lend0 trivial rfl, ?_⟩
    conv => whnf
    obtain rfl := Option.some.inj hF
    exact ret_gz [] [] [] rfl (argE (by (conv => lhs; whnf); all_goals rfl) rfl) trivial
end Go.Proofs.Ytkajegjghfbgaaa.Ex
