/- The functions of the program compute what was printed; walks printed by a program. -/
import Derived.Test.YtkajegjghfbgaaaExF
import Derived.Test.YtkajegjghfbgaaaExP1
import Derived.Test.YtkajegjghfbgaaaExP2
namespace Go.Proofs.Ytkajegjghfbgaaa.Ex
open Go.RowKit Go.Proofs.Ytkajegjghfbgaaa.Ax
set_option linter.unusedVariables false
set_option linter.unusedSimpArgs false
set_option maxRecDepth 100000 in
set_option maxHeartbeats 40000000 in
theorem law24_ConnectSlacks_ac (x_0 : (List Int)) (x_1 : Connecting) (x_2 : Int) (x_3 : Int) (x_4 : Int) (r : Bool) (hF : law24_ConnectSlacks x_0 x_1 x_2 x_3 x_4 = some r) : AC Try.prog 9 [.lst 1 (x_0.map iA), .agg (encConnecting x_1), .int .i64 x_2, .int .i64 x_3, .int .i64 x_4] [] (.bool r) [] := by
  refine ac_of tab_ok follows_ok Try.func9 rfl Try.ntmps9 rfl ?_
  unfold law24_ConnectSlacks at hF
  conv => whnf
  obtain ⟨r_1, h_r_1, hF⟩ := bind_some hF
  refine ⟨_, _, _, _, _, _, _, _, _, callX false [] [] 1 Try.func11 (by decide) rfl (keep_New_ac x_0 r_1 h_r_1) rfl ⟨(argE (by (conv => lhs; whnf); all_goals rfl) rfl), trivial⟩ rfl trivial rfl rfl rfl lend0 ⟨rfl, trivial⟩ rfl, ?_⟩
  conv => whnf
  obtain ⟨r_2, h_r_2, hF⟩ := bind_some hF
  refine ⟨_, _, _, _, _, _, _, _, _, callX false [1] [] 0 Try.func12 (by decide) rfl (keep_Src_Minimums_ac r_1 r_2 h_r_2) rfl ⟨(argP (id := 1) (by (conv => lhs; whnf); all_goals rfl) rfl), trivial⟩ rfl ⟨rfl, trivial⟩ rfl rfl rfl lend0 ⟨rfl, trivial⟩ rfl, ?_⟩
  conv => whnf
  obtain ⟨r_3, h_r_3, hF⟩ := bind_some hF
  refine ⟨_, _, _, _, _, _, _, _, _, callX false [1] [] 1 Try.func21 (by decide) rfl (keep_Src_Connections_ac r_2.2 (5 : Int) r_3 h_r_3) rfl ⟨(argP (id := 1) (by (conv => lhs; whnf); all_goals rfl) rfl), (argE (by (conv => lhs; whnf); all_goals rfl) rfl), trivial⟩ rfl ⟨rfl, trivial⟩ rfl rfl rfl lend0 ⟨rfl, renR (fun _ => ⟨rfl, rfl⟩), trivial⟩ rfl, ?_⟩
  conv => whnf
  obtain ⟨r_4, h_r_4, hF⟩ := bind_some hF
  refine ⟨_, _, _, _, _, _, _, _, _, callX false [1] [] 0 Try.func27 (by decide) rfl (keep_Src_Plate_ac r_3.2 (9 : Int) r_4 h_r_4) rfl ⟨(argP (id := 1) (by (conv => lhs; whnf); all_goals rfl) rfl), (argE (by (conv => lhs; whnf); all_goals rfl) rfl), trivial⟩ rfl ⟨rfl, trivial⟩ rfl rfl rfl lend0 ⟨rfl, trivial⟩ rfl, ?_⟩
  conv => whnf
  obtain ⟨r_5, h_r_5, hF⟩ := bind_some hF
  refine ⟨_, _, _, _, _, _, _, _, _, callX false [1] [] 0 Try.func22 (by decide) rfl (keep_Src_N_ac r_4.2 (6 : Int) r_5 h_r_5) rfl ⟨(argP (id := 1) (by (conv => lhs; whnf); all_goals rfl) rfl), (argE (by (conv => lhs; whnf); all_goals rfl) rfl), trivial⟩ rfl ⟨rfl, trivial⟩ rfl rfl rfl lend0 ⟨rfl, trivial⟩ rfl, ?_⟩
  conv => whnf
  obtain ⟨r_6, h_r_6, hF⟩ := bind_some hF
  refine ⟨_, _, _, _, _, _, _, _, _, callX false [1] [] 0 Try.func22 (by decide) rfl (keep_Src_N_ac r_5.2 (6 : Int) r_6 h_r_6) rfl ⟨(argP (id := 1) (by (conv => lhs; whnf); all_goals rfl) rfl), (argE (by (conv => lhs; whnf); all_goals rfl) rfl), trivial⟩ rfl ⟨rfl, trivial⟩ rfl rfl rfl lend0 ⟨rfl, trivial⟩ rfl, ?_⟩
  conv => whnf
  obtain ⟨l_7, h_l_7, hF⟩ := bind_some hF
  refine ap_q (enc := encConnecting) (l := r_3.1) (y := ([x_1, (⟨r_4.1, x_1.Ready, r_5.1, r_6.1, (0 : Int)⟩ : Connecting)] : List Connecting)) h_l_7 rfl rfl (by decide) ?_
  conv => whnf
  refine ⟨by kernel_rfl, ?_⟩
  conv => whnf
  obtain ⟨r_8, h_r_8, hF⟩ := bind_some hF
  refine ⟨_, _, _, _, _, _, _, _, _, callX false [1] [] 0 Try.func13 (by decide) rfl (law24_spoilt_ac r_6.2 r_2.1 r_8 h_r_8) rfl ⟨(argP (id := 1) (by (conv => lhs; whnf); all_goals rfl) rfl), (argE (by (conv => lhs; whnf); all_goals rfl) rfl), trivial⟩ rfl ⟨rfl, trivial⟩ rfl rfl rfl lend0 ⟨rfl, trivial⟩ rfl, ?_⟩
  conv => whnf
  refine len_q (enc := (lA 3 encMinimum)) (l := ([r_2.1, r_8.1] : List (List Minimum))) rfl ?_
  conv => whnf
  obtain ⟨c_1, hc_1, hF⟩ := fin_some hF
  refine sw_br 12 (sz := 1) (xs := ([r_2.1, r_8.1] : List (List Minimum)).map (lA 3 encMinimum)) (by (conv => lhs; whnf); all_goals rfl) (fun hb => ?_)
  have hbd_k_12 : ([r_2.1, r_8.1] : List (List Minimum)).length ≤ 9223372036854775807 := bnd_len (enc := (lA 3 encMinimum)) (hb)
  refine sw_loop tab_ok follows_ok (fun y : Nat × (List Int) × Int => y.1 ≤ ([r_2.1, r_8.1] : List (List Minimum)).length ∧ law24_ConnectSlacks_L1 x_2 l_7 (([r_2.1, r_8.1] : List (List Minimum)).drop y.1) y.1 y.2.1 y.2.2 = some c_1) (fun y => ⟨eL [(2, .int .i64 x_2), (3, .int .i64 x_3), (4, .int .i64 x_4), (11, .ptr 0 0), (13, .osl 1), (50, .osl 2), (51, .int .i64 (([r_2.1, r_8.1] : List (List Minimum)).length : Int)), (52, .int .i64 (y.1 : Int))], hL [(0, .box [.lst 1 (y.2.1.map iA), .int .i64 y.2.2]), (1, .row 7 (l_7.map encConnecting)), (2, .row 1 (([r_2.1, r_8.1] : List (List Minimum)).map (lA 3 encMinimum)))], 3⟩) (fun y => ([r_2.1, r_8.1] : List (List Minimum)).length - y.1) (0, r_8.2.L, r_8.2.At) ⟨Nat.zero_le _, hc_1⟩ (wk_mk [1, 10, 12] [] [] rfl ⟨argE (by (conv => lhs; whnf); all_goals rfl) rfl, argE (by (conv => lhs; whnf); all_goals rfl) rfl, argE (by (conv => lhs; whnf); all_goals rfl) rfl, argP (id := 1) (by (conv => lhs; whnf); all_goals rfl) rfl, argO (id := 10) (by (conv => lhs; whnf); all_goals rfl) rfl, argO (id := 12) (by (conv => lhs; whnf); all_goals rfl) rfl, argE (by (conv => lhs; whnf); all_goals rfl) rfl, argE (by (conv => lhs; whnf); all_goals rfl) rfl, trivial⟩ ⟨boxL rfl rfl rfl ⟨(.ni _ rfl), (.ni _ rfl), trivial⟩, blkR (fun _ => ⟨rfl, rfl⟩) rfl rfl, blkR (fun _ => ⟨rfl, rfl⟩) rfl rfl, trivial⟩) ?_
  rintro ⟨k_12, a_9, i_10⟩ ⟨hk_k_12, hL1⟩
  try dsimp only at hk_k_12 hL1
  show awp _ _ _ _ _ _ ⟨eL [(2, .int .i64 x_2), (3, .int .i64 x_3), (4, .int .i64 x_4), (11, .ptr 0 0), (13, .osl 1), (50, .osl 2), (51, .int .i64 (([r_2.1, r_8.1] : List (List Minimum)).length : Int)), (52, .int .i64 (k_12 : Int))], hL [(0, .box [.lst 1 (a_9.map iA), .int .i64 i_10]), (1, .row 7 (l_7.map encConnecting)), (2, .row 1 (([r_2.1, r_8.1] : List (List Minimum)).map (lA 3 encMinimum)))], 3⟩
  conv => whnf
  refine ⟨fun h => ?_, fun h => ?_⟩
  · have hlt_k_12 : k_12 < ([r_2.1, r_8.1] : List (List Minimum)).length := by have h := of_decide_eq_true h; omega
    obtain ⟨e_13, h_e_13⟩ : ∃ y, ([r_2.1, r_8.1] : List (List Minimum))[k_12]? = some y := ⟨_, List.getElem?_eq_getElem hlt_k_12⟩
    rw [drop_cons h_e_13, law24_ConnectSlacks_L1.eq_2] at hL1
    conv => whnf
    refine ⟨k_12, rfl, by rw [List.length_map]; exact hlt_k_12, ?_⟩
    conv => whnf
    refine ⟨_, ix_map (enc := (lA 3 encMinimum)) h_e_13, ?_⟩
    conv => whnf
    refine len_q (enc := encConnecting) (l := l_7) rfl ?_
    conv => whnf
    obtain ⟨c_2, hc_2, hL1⟩ := sub_some hL1
    refine sw_br 1 (sz := 7) (xs := l_7.map encConnecting) (by (conv => lhs; whnf); all_goals rfl) (fun hb => ?_)
    have hbd_k_17 : l_7.length ≤ 9223372036854775807 := bnd_len (enc := encConnecting) (hb)
    refine sw_loop tab_ok follows_ok (fun y : Nat × (List Int) × Int => y.1 ≤ l_7.length ∧ law24_ConnectSlacks_L2 x_2 e_13 (l_7.drop y.1) y.1 y.2.1 y.2.2 = some c_2) (fun y => ⟨eL [(2, .int .i64 x_2), (3, .int .i64 x_3), (4, .int .i64 x_4), (11, .ptr 0 0), (13, .osl 1), (15, .lst 3 (e_13.map encMinimum)), (50, .osl 2), (51, .int .i64 (([r_2.1, r_8.1] : List (List Minimum)).length : Int)), (52, .int .i64 (k_12 : Int)), (56, .osl 1), (57, .int .i64 (l_7.length : Int)), (58, .int .i64 (y.1 : Int))], hL [(0, .box [.lst 1 (y.2.1.map iA), .int .i64 y.2.2]), (1, .row 7 (l_7.map encConnecting)), (2, .row 1 (([r_2.1, r_8.1] : List (List Minimum)).map (lA 3 encMinimum)))], 3⟩) (fun y => l_7.length - y.1) (0, a_9, i_10) ⟨Nat.zero_le _, hc_2⟩ (wk_mk [0, 1, 2] [] [] rfl ⟨argE (by (conv => lhs; whnf); all_goals rfl) rfl, argE (by (conv => lhs; whnf); all_goals rfl) rfl, argE (by (conv => lhs; whnf); all_goals rfl) rfl, argP (id := 0) (by (conv => lhs; whnf); all_goals rfl) rfl, argO (id := 1) (by (conv => lhs; whnf); all_goals rfl) rfl, argE (by (conv => lhs; whnf); all_goals rfl) rfl, argO (id := 2) (by (conv => lhs; whnf); all_goals rfl) rfl, argE (by (conv => lhs; whnf); all_goals rfl) rfl, argE (by (conv => lhs; whnf); all_goals rfl) rfl, argO (id := 1) (by (conv => lhs; whnf); all_goals rfl) rfl, argE (by (conv => lhs; whnf); all_goals rfl) rfl, argE (by (conv => lhs; whnf); all_goals rfl) rfl, trivial⟩ ⟨boxL rfl rfl rfl ⟨(.ni _ rfl), (.ni _ rfl), trivial⟩, blkR (fun _ => ⟨rfl, rfl⟩) rfl rfl, blkR (fun _ => ⟨rfl, rfl⟩) rfl rfl, trivial⟩) ?_
    rintro ⟨k_17, a_14, i_15⟩ ⟨hk_k_17, hL2⟩
    try dsimp only at hk_k_17 hL2
    show awp _ _ _ _ _ _ ⟨eL [(2, .int .i64 x_2), (3, .int .i64 x_3), (4, .int .i64 x_4), (11, .ptr 0 0), (13, .osl 1), (15, .lst 3 (e_13.map encMinimum)), (50, .osl 2), (51, .int .i64 (([r_2.1, r_8.1] : List (List Minimum)).length : Int)), (52, .int .i64 (k_12 : Int)), (56, .osl 1), (57, .int .i64 (l_7.length : Int)), (58, .int .i64 (k_17 : Int))], hL [(0, .box [.lst 1 (a_14.map iA), .int .i64 i_15]), (1, .row 7 (l_7.map encConnecting)), (2, .row 1 (([r_2.1, r_8.1] : List (List Minimum)).map (lA 3 encMinimum)))], 3⟩
    conv => whnf
    refine ⟨fun h => ?_, fun h => ?_⟩
    · have hlt_k_17 : k_17 < l_7.length := by have h := of_decide_eq_true h; omega
      obtain ⟨e_18, h_e_18⟩ : ∃ y, l_7[k_17]? = some y := ⟨_, List.getElem?_eq_getElem hlt_k_17⟩
      rw [drop_cons h_e_18, law24_ConnectSlacks_L2.eq_2] at hL2
      conv => whnf
      refine ⟨k_17, rfl, by rw [List.length_map]; exact hlt_k_17, ?_⟩
      conv => whnf
      refine ⟨_, ix_map (enc := encConnecting) h_e_18, ?_⟩
      conv => whnf
      obtain ⟨r_19, h_r_19, hL2⟩ := bind_some hL2
      refine ⟨_, _, _, _, _, _, _, _, _, callX false [0] [] 0 Try.func22 (by decide) rfl (keep_Src_N_ac (⟨a_14, i_15⟩ : Src) (80 : Int) r_19 h_r_19) rfl ⟨(argP (id := 0) (by (conv => lhs; whnf); all_goals rfl) rfl), (argE (by (conv => lhs; whnf); all_goals rfl) rfl), trivial⟩ rfl ⟨rfl, trivial⟩ rfl rfl rfl lend0 ⟨rfl, trivial⟩ rfl, ?_⟩
      conv => whnf
      refine ⟨_, rfl, ?_⟩
      conv => whnf
      refine len_q (enc := iA) (l := ([x_2, (w64 ((30 : Int) + r_19.1)), e_18.Ready] : List Int)) rfl ?_
      conv => whnf
      refine ⟨by kernel_rfl, ?_⟩
      conv => whnf
      obtain ⟨c_3, hc_3, hL2⟩ := sub_some hL2
      refine sw_br 5 (sz := 1) (xs := ([x_2, (w64 ((30 : Int) + r_19.1)), e_18.Ready] : List Int).map iA) (by (conv => lhs; whnf); all_goals rfl) (fun hb => ?_)
      have hbd_k_21 : ([x_2, (w64 ((30 : Int) + r_19.1)), e_18.Ready] : List Int).length ≤ 9223372036854775807 := bnd_len (enc := iA) (hb)
      refine sw_loop tab_ok follows_ok (fun y : Nat => y ≤ ([x_2, (w64 ((30 : Int) + r_19.1)), e_18.Ready] : List Int).length ∧ law24_ConnectSlacks_L3 e_13 e_18 (([x_2, (w64 ((30 : Int) + r_19.1)), e_18.Ready] : List Int).drop y) y = some c_3) (fun y => ⟨eL [(2, .int .i64 x_2), (3, .int .i64 x_3), (4, .int .i64 x_4), (11, .ptr 0 0), (13, .osl 1), (15, .lst 3 (e_13.map encMinimum)), (17, .ptr 2 0), (50, .osl 3), (51, .int .i64 (([r_2.1, r_8.1] : List (List Minimum)).length : Int)), (52, .int .i64 (k_12 : Int)), (56, .osl 1), (57, .int .i64 (l_7.length : Int)), (58, .int .i64 (k_17 : Int)), (68, .osl 4), (69, .int .i64 (([x_2, (w64 ((30 : Int) + r_19.1)), e_18.Ready] : List Int).length : Int)), (70, .int .i64 (y : Int))], hL [(0, .box [.lst 1 (r_19.2.L.map iA), .int .i64 r_19.2.At]), (1, .row 7 (l_7.map encConnecting)), (2, .box [.int .i64 e_18.Plate.Lead, .int .i64 e_18.Plate.Airline, .int .i64 e_18.Plate.Serial, .int .i64 e_18.Ready, .int .i64 e_18.From, .int .i64 e_18.To, .int .i64 e_18.Category]), (3, .row 1 (([r_2.1, r_8.1] : List (List Minimum)).map (lA 3 encMinimum))), (4, .row 1 (([x_2, (w64 ((30 : Int) + r_19.1)), e_18.Ready] : List Int).map iA))], 5⟩) (fun y => ([x_2, (w64 ((30 : Int) + r_19.1)), e_18.Ready] : List Int).length - y) 0 ⟨Nat.zero_le _, hc_3⟩ (wk_mk [0, 1, 3, 2, 5] [] [] rfl ⟨argE (by (conv => lhs; whnf); all_goals rfl) rfl, argE (by (conv => lhs; whnf); all_goals rfl) rfl, argE (by (conv => lhs; whnf); all_goals rfl) rfl, argP (id := 0) (by (conv => lhs; whnf); all_goals rfl) rfl, argO (id := 1) (by (conv => lhs; whnf); all_goals rfl) rfl, argE (by (conv => lhs; whnf); all_goals rfl) rfl, argP (id := 3) (by (conv => lhs; whnf); all_goals rfl) rfl, argO (id := 2) (by (conv => lhs; whnf); all_goals rfl) rfl, argE (by (conv => lhs; whnf); all_goals rfl) rfl, argE (by (conv => lhs; whnf); all_goals rfl) rfl, argO (id := 1) (by (conv => lhs; whnf); all_goals rfl) rfl, argE (by (conv => lhs; whnf); all_goals rfl) rfl, argE (by (conv => lhs; whnf); all_goals rfl) rfl, argO (id := 5) (by (conv => lhs; whnf); all_goals rfl) rfl, argE (by (conv => lhs; whnf); all_goals rfl) rfl, argE (by (conv => lhs; whnf); all_goals rfl) rfl, trivial⟩ ⟨boxL rfl rfl rfl ⟨(.ni _ rfl), (.ni _ rfl), trivial⟩, blkR (fun _ => ⟨rfl, rfl⟩) rfl rfl, boxL rfl rfl rfl ⟨(.ni _ rfl), (.ni _ rfl), (.ni _ rfl), (.ni _ rfl), (.ni _ rfl), (.ni _ rfl), (.ni _ rfl), trivial⟩, blkR (fun _ => ⟨rfl, rfl⟩) rfl rfl, blkR (fun _ => ⟨rfl, rfl⟩) rfl rfl, trivial⟩) ?_
      rintro k_21 ⟨hk_k_21, hL3⟩
      try dsimp only at hk_k_21 hL3
      show awp _ _ _ _ _ _ ⟨eL [(2, .int .i64 x_2), (3, .int .i64 x_3), (4, .int .i64 x_4), (11, .ptr 0 0), (13, .osl 1), (15, .lst 3 (e_13.map encMinimum)), (17, .ptr 2 0), (50, .osl 3), (51, .int .i64 (([r_2.1, r_8.1] : List (List Minimum)).length : Int)), (52, .int .i64 (k_12 : Int)), (56, .osl 1), (57, .int .i64 (l_7.length : Int)), (58, .int .i64 (k_17 : Int)), (68, .osl 4), (69, .int .i64 (([x_2, (w64 ((30 : Int) + r_19.1)), e_18.Ready] : List Int).length : Int)), (70, .int .i64 (k_21 : Int))], hL [(0, .box [.lst 1 (r_19.2.L.map iA), .int .i64 r_19.2.At]), (1, .row 7 (l_7.map encConnecting)), (2, .box [.int .i64 e_18.Plate.Lead, .int .i64 e_18.Plate.Airline, .int .i64 e_18.Plate.Serial, .int .i64 e_18.Ready, .int .i64 e_18.From, .int .i64 e_18.To, .int .i64 e_18.Category]), (3, .row 1 (([r_2.1, r_8.1] : List (List Minimum)).map (lA 3 encMinimum))), (4, .row 1 (([x_2, (w64 ((30 : Int) + r_19.1)), e_18.Ready] : List Int).map iA))], 5⟩
      conv => whnf
      refine ⟨fun h => ?_, fun h => ?_⟩
      · have hlt_k_21 : k_21 < ([x_2, (w64 ((30 : Int) + r_19.1)), e_18.Ready] : List Int).length := by have h := of_decide_eq_true h; omega
        obtain ⟨e_22, h_e_22⟩ : ∃ y, ([x_2, (w64 ((30 : Int) + r_19.1)), e_18.Ready] : List Int)[k_21]? = some y := ⟨_, List.getElem?_eq_getElem hlt_k_21⟩
        rw [drop_cons h_e_22, law24_ConnectSlacks_L3.eq_2] at hL3
        conv => whnf
        refine ⟨k_21, rfl, by rw [List.length_map]; exact hlt_k_21, ?_⟩
        conv => whnf
        refine ⟨_, ix_map (enc := iA) h_e_22, ?_⟩
        conv => whnf
        obtain ⟨r_23, h_r_23, hL3⟩ := bind_some hL3
        refine ⟨_, _, _, _, _, _, _, _, _, callX false [] [] 0 Try.func26 (by decide) rfl (connect_Slack_ac e_13 e_18 e_22 r_23 h_r_23) rfl ⟨(argE (by (conv => lhs; whnf); all_goals rfl) rfl), (argE (by (conv => lhs; whnf); all_goals rfl) rfl), (argE (by (conv => lhs; whnf); all_goals rfl) rfl), trivial⟩ rfl trivial rfl rfl rfl lend0 trivial rfl, ?_⟩
        conv => whnf
        obtain ⟨r_24, h_r_24, hL3⟩ := bind_some hL3
        refine ⟨_, _, _, _, _, _, _, _, _, callX false [] [] 0 Try.func28 (by decide) rfl (ref24_Slack_ac e_13 e_18 e_22 r_24 h_r_24) rfl ⟨(argE (by (conv => lhs; whnf); all_goals rfl) rfl), (argE (by (conv => lhs; whnf); all_goals rfl) rfl), (argE (by (conv => lhs; whnf); all_goals rfl) rfl), trivial⟩ rfl trivial rfl rfl rfl lend0 trivial rfl, ?_⟩
        conv => whnf
        refine ⟨fun hb_155 => ?_, fun hb_155 => ?_⟩
        · replace hL3 := cond_f hb_155 hL3
          conv => whnf
          refine ⟨fun hb_156 => ?_, fun hb_156 => ?_⟩
          · replace hL3 := cond_t hb_156 hL3
            conv => whnf
            obtain rfl := Option.some.inj hL3
            replace hL2 := sub_ret hL2
            obtain rfl := Option.some.inj hL2
            replace hL1 := sub_ret hL1
            obtain rfl := Option.some.inj hL1
            replace hF := fin_ret hF
            obtain rfl := Option.some.inj hF
            exact ret_gz [] [] [] rfl (argFl (by (conv => lhs; whnf); all_goals rfl)) trivial
          · replace hL3 := cond_f hb_156 hL3
            conv => whnf
            refine ⟨((k_21 + 1 : Nat) : Int), wrapE (by omega) (by omega) (by omega), ?_⟩
            conv => whnf
            exact ⟨k_21 + 1, [0, 1, 2, 3, 4], [], [], ⟨hlt_k_21, hL3⟩, by show ([x_2, (w64 ((30 : Int) + r_19.1)), e_18.Ready] : List Int).length - (k_21 + 1) < ([x_2, (w64 ((30 : Int) + r_19.1)), e_18.Ready] : List Int).length - k_21; omega, wk_mk [0, 1, 2, 3, 4] [] [] rfl ⟨argE (by (conv => lhs; whnf); all_goals rfl) rfl, argE (by (conv => lhs; whnf); all_goals rfl) rfl, argE (by (conv => lhs; whnf); all_goals rfl) rfl, argP (id := 0) (by (conv => lhs; whnf); all_goals rfl) rfl, argO (id := 1) (by (conv => lhs; whnf); all_goals rfl) rfl, argE (by (conv => lhs; whnf); all_goals rfl) rfl, argP (id := 2) (by (conv => lhs; whnf); all_goals rfl) rfl, argO (id := 3) (by (conv => lhs; whnf); all_goals rfl) rfl, argE (by (conv => lhs; whnf); all_goals rfl) rfl, argE (by (conv => lhs; whnf); all_goals rfl) rfl, argO (id := 1) (by (conv => lhs; whnf); all_goals rfl) rfl, argE (by (conv => lhs; whnf); all_goals rfl) rfl, argE (by (conv => lhs; whnf); all_goals rfl) rfl, argO (id := 4) (by (conv => lhs; whnf); all_goals rfl) rfl, argE (by (conv => lhs; whnf); all_goals rfl) rfl, argE (by (conv => lhs; whnf); all_goals rfl) rfl, trivial⟩ ⟨boxL rfl rfl rfl ⟨(.ni _ rfl), (.ni _ rfl), trivial⟩, blkR (fun _ => ⟨rfl, rfl⟩) rfl rfl, boxL rfl rfl rfl ⟨(.ni _ rfl), (.ni _ rfl), (.ni _ rfl), (.ni _ rfl), (.ni _ rfl), (.ni _ rfl), (.ni _ rfl), trivial⟩, blkR (fun _ => ⟨rfl, rfl⟩) rfl rfl, blkR (fun _ => ⟨rfl, rfl⟩) rfl rfl, trivial⟩⟩
        · replace hL3 := cond_t hb_155 hL3
          conv => whnf
          obtain rfl := Option.some.inj hL3
          replace hL2 := sub_ret hL2
          obtain rfl := Option.some.inj hL2
          replace hL1 := sub_ret hL1
          obtain rfl := Option.some.inj hL1
          replace hF := fin_ret hF
          obtain rfl := Option.some.inj hF
          exact ret_gz [] [] [] rfl (argFl (by (conv => lhs; whnf); all_goals rfl)) trivial
      · rw [drop_nil (show ([x_2, (w64 ((30 : Int) + r_19.1)), e_18.Ready] : List Int).length ≤ k_21 by have h := of_decide_eq_false h; omega), law24_ConnectSlacks_L3.eq_1] at hL3
        conv => whnf
        obtain rfl := Option.some.inj hL3
        replace hL2 := sub_brk hL2
        try dsimp only at hL2
        refine ⟨((k_17 + 1 : Nat) : Int), wrapE (by omega) (by omega) (by omega), ?_⟩
        conv => whnf
        exact ⟨(k_17 + 1, r_19.2.L, r_19.2.At), [0, 1, 3], [], [], ⟨hlt_k_17, hL2⟩, by show l_7.length - (k_17 + 1) < l_7.length - k_17; omega, wk_mk [0, 1, 3] [] [] rfl ⟨argE (by (conv => lhs; whnf); all_goals rfl) rfl, argE (by (conv => lhs; whnf); all_goals rfl) rfl, argE (by (conv => lhs; whnf); all_goals rfl) rfl, argP (id := 0) (by (conv => lhs; whnf); all_goals rfl) rfl, argO (id := 1) (by (conv => lhs; whnf); all_goals rfl) rfl, argE (by (conv => lhs; whnf); all_goals rfl) rfl, argO (id := 3) (by (conv => lhs; whnf); all_goals rfl) rfl, argE (by (conv => lhs; whnf); all_goals rfl) rfl, argE (by (conv => lhs; whnf); all_goals rfl) rfl, argO (id := 1) (by (conv => lhs; whnf); all_goals rfl) rfl, argE (by (conv => lhs; whnf); all_goals rfl) rfl, argE (by (conv => lhs; whnf); all_goals rfl) rfl, trivial⟩ ⟨boxL rfl rfl rfl ⟨(.ni _ rfl), (.ni _ rfl), trivial⟩, blkR (fun _ => ⟨rfl, rfl⟩) rfl rfl, blkR (fun _ => ⟨rfl, rfl⟩) rfl rfl, trivial⟩⟩
    · rw [drop_nil (show l_7.length ≤ k_17 by have h := of_decide_eq_false h; omega), law24_ConnectSlacks_L2.eq_1] at hL2
      conv => whnf
      obtain rfl := Option.some.inj hL2
      replace hL1 := sub_brk hL1
      try dsimp only at hL1
      refine ⟨((k_12 + 1 : Nat) : Int), wrapE (by omega) (by omega) (by omega), ?_⟩
      conv => whnf
      exact ⟨(k_12 + 1, a_14, i_15), [0, 1, 2], [], [], ⟨hlt_k_12, hL1⟩, by show ([r_2.1, r_8.1] : List (List Minimum)).length - (k_12 + 1) < ([r_2.1, r_8.1] : List (List Minimum)).length - k_12; omega, wk_mk [0, 1, 2] [] [] rfl ⟨argE (by (conv => lhs; whnf); all_goals rfl) rfl, argE (by (conv => lhs; whnf); all_goals rfl) rfl, argE (by (conv => lhs; whnf); all_goals rfl) rfl, argP (id := 0) (by (conv => lhs; whnf); all_goals rfl) rfl, argO (id := 1) (by (conv => lhs; whnf); all_goals rfl) rfl, argO (id := 2) (by (conv => lhs; whnf); all_goals rfl) rfl, argE (by (conv => lhs; whnf); all_goals rfl) rfl, argE (by (conv => lhs; whnf); all_goals rfl) rfl, trivial⟩ ⟨boxL rfl rfl rfl ⟨(.ni _ rfl), (.ni _ rfl), trivial⟩, blkR (fun _ => ⟨rfl, rfl⟩) rfl rfl, blkR (fun _ => ⟨rfl, rfl⟩) rfl rfl, trivial⟩⟩
  · rw [drop_nil (show ([r_2.1, r_8.1] : List (List Minimum)).length ≤ k_12 by have h := of_decide_eq_false h; omega), law24_ConnectSlacks_L1.eq_1] at hL1
    conv => whnf
    obtain rfl := Option.some.inj hL1
    replace hF := fin_brk hF
    try dsimp only at hF
    obtain ⟨r_31, h_r_31, hF⟩ := bind_some hF
    refine ⟨_, _, _, _, _, _, _, _, _, callX false [0] [] 0 Try.func22 (by decide) rfl (keep_Src_N_ac (⟨a_9, i_10⟩ : Src) (20 : Int) r_31 h_r_31) rfl ⟨(argP (id := 0) (by (conv => lhs; whnf); all_goals rfl) rfl), (argE (by (conv => lhs; whnf); all_goals rfl) rfl), trivial⟩ rfl ⟨rfl, trivial⟩ rfl rfl rfl lend0 ⟨rfl, trivial⟩ rfl, ?_⟩
    conv => whnf
    refine ⟨_, rfl, ?_⟩
    conv => whnf
    refine len_q (enc := iA) (l := ([x_3, (w64 (r_31.1 - (10 : Int)))] : List Int)) rfl ?_
    conv => whnf
    obtain ⟨c_4, hc_4, hF⟩ := fin_some hF
    refine sw_br 4 (sz := 1) (xs := ([x_3, (w64 (r_31.1 - (10 : Int)))] : List Int).map iA) (by (conv => lhs; whnf); all_goals rfl) (fun hb => ?_)
    have hbd_k_35 : ([x_3, (w64 (r_31.1 - (10 : Int)))] : List Int).length ≤ 9223372036854775807 := bnd_len (enc := iA) (hb)
    refine sw_loop tab_ok follows_ok (fun y : Nat × (List Int) × Int => y.1 ≤ ([x_3, (w64 (r_31.1 - (10 : Int)))] : List Int).length ∧ law24_ConnectSlacks_L4 x_4 (([x_3, (w64 (r_31.1 - (10 : Int)))] : List Int).drop y.1) y.1 y.2.1 y.2.2 = some c_4) (fun y => ⟨eL [(4, .int .i64 x_4), (11, .ptr 0 0), (103, .osl 1), (104, .int .i64 (([x_3, (w64 (r_31.1 - (10 : Int)))] : List Int).length : Int)), (105, .int .i64 (y.1 : Int))], hL [(0, .box [.lst 1 (y.2.1.map iA), .int .i64 y.2.2]), (1, .row 1 (([x_3, (w64 (r_31.1 - (10 : Int)))] : List Int).map iA))], 2⟩) (fun y => ([x_3, (w64 (r_31.1 - (10 : Int)))] : List Int).length - y.1) (0, r_31.2.L, r_31.2.At) ⟨Nat.zero_le _, hc_4⟩ (wk_mk [0, 4] [] [] rfl ⟨argE (by (conv => lhs; whnf); all_goals rfl) rfl, argP (id := 0) (by (conv => lhs; whnf); all_goals rfl) rfl, argO (id := 4) (by (conv => lhs; whnf); all_goals rfl) rfl, argE (by (conv => lhs; whnf); all_goals rfl) rfl, argE (by (conv => lhs; whnf); all_goals rfl) rfl, trivial⟩ ⟨boxL rfl rfl rfl ⟨(.ni _ rfl), (.ni _ rfl), trivial⟩, blkR (fun _ => ⟨rfl, rfl⟩) rfl rfl, trivial⟩) ?_
    rintro ⟨k_35, a_32, i_33⟩ ⟨hk_k_35, hL1⟩
    try dsimp only at hk_k_35 hL1
    show awp _ _ _ _ _ _ ⟨eL [(4, .int .i64 x_4), (11, .ptr 0 0), (103, .osl 1), (104, .int .i64 (([x_3, (w64 (r_31.1 - (10 : Int)))] : List Int).length : Int)), (105, .int .i64 (k_35 : Int))], hL [(0, .box [.lst 1 (a_32.map iA), .int .i64 i_33]), (1, .row 1 (([x_3, (w64 (r_31.1 - (10 : Int)))] : List Int).map iA))], 2⟩
    conv => whnf
    refine ⟨fun h => ?_, fun h => ?_⟩
    · have hlt_k_35 : k_35 < ([x_3, (w64 (r_31.1 - (10 : Int)))] : List Int).length := by have h := of_decide_eq_true h; omega
      obtain ⟨e_36, h_e_36⟩ : ∃ y, ([x_3, (w64 (r_31.1 - (10 : Int)))] : List Int)[k_35]? = some y := ⟨_, List.getElem?_eq_getElem hlt_k_35⟩
      rw [drop_cons h_e_36, law24_ConnectSlacks_L4.eq_2] at hL1
      conv => whnf
      refine ⟨k_35, rfl, by rw [List.length_map]; exact hlt_k_35, ?_⟩
      conv => whnf
      refine ⟨_, ix_map (enc := iA) h_e_36, ?_⟩
      conv => whnf
      obtain ⟨r_37, h_r_37, hL1⟩ := bind_some hL1
      refine ⟨_, _, _, _, _, _, _, _, _, callX false [0] [] 0 Try.func22 (by decide) rfl (keep_Src_N_ac (⟨a_32, i_33⟩ : Src) (10 : Int) r_37 h_r_37) rfl ⟨(argP (id := 0) (by (conv => lhs; whnf); all_goals rfl) rfl), (argE (by (conv => lhs; whnf); all_goals rfl) rfl), trivial⟩ rfl ⟨rfl, trivial⟩ rfl rfl rfl lend0 ⟨rfl, trivial⟩ rfl, ?_⟩
      conv => whnf
      refine len_q (enc := iA) (l := ([x_4, r_37.1] : List Int)) rfl ?_
      conv => whnf
      obtain ⟨c_5, hc_5, hL1⟩ := sub_some hL1
      refine sw_br 3 (sz := 1) (xs := ([x_4, r_37.1] : List Int).map iA) (by (conv => lhs; whnf); all_goals rfl) (fun hb => ?_)
      have hbd_k_39 : ([x_4, r_37.1] : List Int).length ≤ 9223372036854775807 := bnd_len (enc := iA) (hb)
      refine sw_loop tab_ok follows_ok (fun y : Nat => y ≤ ([x_4, r_37.1] : List Int).length ∧ law24_ConnectSlacks_L5 e_36 (([x_4, r_37.1] : List Int).drop y) y = some c_5) (fun y => ⟨eL [(4, .int .i64 x_4), (11, .ptr 0 0), (25, .int .i64 e_36), (103, .osl 1), (104, .int .i64 (([x_3, (w64 (r_31.1 - (10 : Int)))] : List Int).length : Int)), (105, .int .i64 (k_35 : Int)), (112, .osl 2), (113, .int .i64 (([x_4, r_37.1] : List Int).length : Int)), (114, .int .i64 (y : Int))], hL [(0, .box [.lst 1 (r_37.2.L.map iA), .int .i64 r_37.2.At]), (1, .row 1 (([x_3, (w64 (r_31.1 - (10 : Int)))] : List Int).map iA)), (2, .row 1 (([x_4, r_37.1] : List Int).map iA))], 3⟩) (fun y => ([x_4, r_37.1] : List Int).length - y) 0 ⟨Nat.zero_le _, hc_5⟩ (wk_mk [0, 1, 3] [] [] rfl ⟨argE (by (conv => lhs; whnf); all_goals rfl) rfl, argP (id := 0) (by (conv => lhs; whnf); all_goals rfl) rfl, argE (by (conv => lhs; whnf); all_goals rfl) rfl, argO (id := 1) (by (conv => lhs; whnf); all_goals rfl) rfl, argE (by (conv => lhs; whnf); all_goals rfl) rfl, argE (by (conv => lhs; whnf); all_goals rfl) rfl, argO (id := 3) (by (conv => lhs; whnf); all_goals rfl) rfl, argE (by (conv => lhs; whnf); all_goals rfl) rfl, argE (by (conv => lhs; whnf); all_goals rfl) rfl, trivial⟩ ⟨boxL rfl rfl rfl ⟨(.ni _ rfl), (.ni _ rfl), trivial⟩, blkR (fun _ => ⟨rfl, rfl⟩) rfl rfl, blkR (fun _ => ⟨rfl, rfl⟩) rfl rfl, trivial⟩) ?_
      rintro k_39 ⟨hk_k_39, hL2⟩
      try dsimp only at hk_k_39 hL2
      show awp _ _ _ _ _ _ ⟨eL [(4, .int .i64 x_4), (11, .ptr 0 0), (25, .int .i64 e_36), (103, .osl 1), (104, .int .i64 (([x_3, (w64 (r_31.1 - (10 : Int)))] : List Int).length : Int)), (105, .int .i64 (k_35 : Int)), (112, .osl 2), (113, .int .i64 (([x_4, r_37.1] : List Int).length : Int)), (114, .int .i64 (k_39 : Int))], hL [(0, .box [.lst 1 (r_37.2.L.map iA), .int .i64 r_37.2.At]), (1, .row 1 (([x_3, (w64 (r_31.1 - (10 : Int)))] : List Int).map iA)), (2, .row 1 (([x_4, r_37.1] : List Int).map iA))], 3⟩
      conv => whnf
      refine ⟨fun h => ?_, fun h => ?_⟩
      · have hlt_k_39 : k_39 < ([x_4, r_37.1] : List Int).length := by have h := of_decide_eq_true h; omega
        obtain ⟨e_40, h_e_40⟩ : ∃ y, ([x_4, r_37.1] : List Int)[k_39]? = some y := ⟨_, List.getElem?_eq_getElem hlt_k_39⟩
        rw [drop_cons h_e_40, law24_ConnectSlacks_L5.eq_2] at hL2
        conv => whnf
        refine ⟨k_39, rfl, by rw [List.length_map]; exact hlt_k_39, ?_⟩
        conv => whnf
        refine ⟨_, ix_map (enc := iA) h_e_40, ?_⟩
        conv => whnf
        obtain ⟨r_41, h_r_41, hL2⟩ := bind_some hL2
        refine ⟨_, _, _, _, _, _, _, _, _, callX false [] [] 0 Try.func29 (by decide) rfl (connect_Classify_ac e_36 e_40 r_41 h_r_41) rfl ⟨(argE (by (conv => lhs; whnf); all_goals rfl) rfl), (argE (by (conv => lhs; whnf); all_goals rfl) rfl), trivial⟩ rfl trivial rfl rfl rfl lend0 trivial rfl, ?_⟩
        conv => whnf
        obtain ⟨r_42, h_r_42, hL2⟩ := bind_some hL2
        refine ⟨_, _, _, _, _, _, _, _, _, callX false [] [] 0 Try.func30 (by decide) rfl (ref24_Classify_ac e_36 e_40 r_42 h_r_42) rfl ⟨(argE (by (conv => lhs; whnf); all_goals rfl) rfl), (argE (by (conv => lhs; whnf); all_goals rfl) rfl), trivial⟩ rfl trivial rfl rfl rfl lend0 trivial rfl, ?_⟩
        conv => whnf
        refine ⟨fun hb_157 => ?_, fun hb_157 => ?_⟩
        · replace hL2 := cond_f hb_157 hL2
          conv => whnf
          obtain ⟨r_43, h_r_43, hL2⟩ := bind_some hL2
          refine ⟨_, _, _, _, _, _, _, _, _, callX false [] [] 0 Try.func29 (by decide) rfl (connect_Classify_ac e_36 e_36 r_43 h_r_43) rfl ⟨(argE (by (conv => lhs; whnf); all_goals rfl) rfl), (argE (by (conv => lhs; whnf); all_goals rfl) rfl), trivial⟩ rfl trivial rfl rfl rfl lend0 trivial rfl, ?_⟩
          conv => whnf
          obtain ⟨r_44, h_r_44, hL2⟩ := bind_some hL2
          refine ⟨_, _, _, _, _, _, _, _, _, callX false [] [] 0 Try.func30 (by decide) rfl (ref24_Classify_ac e_36 e_36 r_44 h_r_44) rfl ⟨(argE (by (conv => lhs; whnf); all_goals rfl) rfl), (argE (by (conv => lhs; whnf); all_goals rfl) rfl), trivial⟩ rfl trivial rfl rfl rfl lend0 trivial rfl, ?_⟩
          conv => whnf
          refine ⟨fun hb_158 => ?_, fun hb_158 => ?_⟩
          · replace hL2 := cond_t hb_158 hL2
            conv => whnf
            obtain rfl := Option.some.inj hL2
            replace hL1 := sub_ret hL1
            obtain rfl := Option.some.inj hL1
            replace hF := fin_ret hF
            obtain rfl := Option.some.inj hF
            exact ret_gz [] [] [] rfl (argFl (by (conv => lhs; whnf); all_goals rfl)) trivial
          · replace hL2 := cond_f hb_158 hL2
            conv => whnf
            refine ⟨((k_39 + 1 : Nat) : Int), wrapE (by omega) (by omega) (by omega), ?_⟩
            conv => whnf
            exact ⟨k_39 + 1, [0, 1, 2], [], [], ⟨hlt_k_39, hL2⟩, by show ([x_4, r_37.1] : List Int).length - (k_39 + 1) < ([x_4, r_37.1] : List Int).length - k_39; omega, wk_mk [0, 1, 2] [] [] rfl ⟨argE (by (conv => lhs; whnf); all_goals rfl) rfl, argP (id := 0) (by (conv => lhs; whnf); all_goals rfl) rfl, argE (by (conv => lhs; whnf); all_goals rfl) rfl, argO (id := 1) (by (conv => lhs; whnf); all_goals rfl) rfl, argE (by (conv => lhs; whnf); all_goals rfl) rfl, argE (by (conv => lhs; whnf); all_goals rfl) rfl, argO (id := 2) (by (conv => lhs; whnf); all_goals rfl) rfl, argE (by (conv => lhs; whnf); all_goals rfl) rfl, argE (by (conv => lhs; whnf); all_goals rfl) rfl, trivial⟩ ⟨boxL rfl rfl rfl ⟨(.ni _ rfl), (.ni _ rfl), trivial⟩, blkR (fun _ => ⟨rfl, rfl⟩) rfl rfl, blkR (fun _ => ⟨rfl, rfl⟩) rfl rfl, trivial⟩⟩
        · replace hL2 := cond_t hb_157 hL2
          conv => whnf
          obtain rfl := Option.some.inj hL2
          replace hL1 := sub_ret hL1
          obtain rfl := Option.some.inj hL1
          replace hF := fin_ret hF
          obtain rfl := Option.some.inj hF
          exact ret_gz [] [] [] rfl (argFl (by (conv => lhs; whnf); all_goals rfl)) trivial
      · rw [drop_nil (show ([x_4, r_37.1] : List Int).length ≤ k_39 by have h := of_decide_eq_false h; omega), law24_ConnectSlacks_L5.eq_1] at hL2
        conv => whnf
        obtain rfl := Option.some.inj hL2
        replace hL1 := sub_brk hL1
        try dsimp only at hL1
        refine ⟨((k_35 + 1 : Nat) : Int), wrapE (by omega) (by omega) (by omega), ?_⟩
        conv => whnf
        exact ⟨(k_35 + 1, r_37.2.L, r_37.2.At), [0, 1], [], [], ⟨hlt_k_35, hL1⟩, by show ([x_3, (w64 (r_31.1 - (10 : Int)))] : List Int).length - (k_35 + 1) < ([x_3, (w64 (r_31.1 - (10 : Int)))] : List Int).length - k_35; omega, wk_mk [0, 1] [] [] rfl ⟨argE (by (conv => lhs; whnf); all_goals rfl) rfl, argP (id := 0) (by (conv => lhs; whnf); all_goals rfl) rfl, argO (id := 1) (by (conv => lhs; whnf); all_goals rfl) rfl, argE (by (conv => lhs; whnf); all_goals rfl) rfl, argE (by (conv => lhs; whnf); all_goals rfl) rfl, trivial⟩ ⟨boxL rfl rfl rfl ⟨(.ni _ rfl), (.ni _ rfl), trivial⟩, blkR (fun _ => ⟨rfl, rfl⟩) rfl rfl, trivial⟩⟩
    · rw [drop_nil (show ([x_3, (w64 (r_31.1 - (10 : Int)))] : List Int).length ≤ k_35 by have h := of_decide_eq_false h; omega), law24_ConnectSlacks_L4.eq_1] at hL1
      conv => whnf
      obtain rfl := Option.some.inj hL1
      replace hF := fin_brk hF
      try dsimp only at hF
      obtain ⟨r_49, h_r_49, hF⟩ := bind_some hF
      refine ⟨_, _, _, _, _, _, _, _, _, callX false [] [] 0 Try.func18 (by decide) rfl (law24_awake_ac r_49 h_r_49) rfl trivial rfl trivial rfl rfl rfl lend0 trivial rfl, ?_⟩
      conv => whnf
      obtain rfl := Option.some.inj hF
      exact ret_gz [] [] [] rfl (argE (by (conv => lhs; whnf); all_goals rfl) rfl) trivial
end Go.Proofs.Ytkajegjghfbgaaa.Ex
