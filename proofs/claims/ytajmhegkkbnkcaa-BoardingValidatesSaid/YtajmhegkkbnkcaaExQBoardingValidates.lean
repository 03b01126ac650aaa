/- The functions of the program compute what was printed; walks printed by a program. -/
import Derived.Test.YtajmhegkkbnkcaaExF
import Derived.Test.YtajmhegkkbnkcaaExP1
import Derived.Test.YtajmhegkkbnkcaaExP2
import Derived.Test.YtajmhegkkbnkcaaExP3
namespace Go.Proofs.Ytajmhegkkbnkcaa.Ex
open Go.RowKit Go.Proofs.Ytajmhegkkbnkcaa.Ax
set_option linter.unusedVariables false
set_option linter.unusedSimpArgs false
set_option maxRecDepth 100000 in
set_option maxHeartbeats 40000000 in
theorem law25_BoardingValidates_ac (x_0 : (List Manifest)) (x_1 : (List Int)) (x_2 : Flight) (x_3 : Int) (x_4 : Int) (r : Bool) (hF : law25_BoardingValidates x_0 x_1 x_2 x_3 x_4 = some r) : AC Try.prog 3 [.lst 7 (x_0.map encManifest), .lst 1 (x_1.map iA), .agg (encFlight x_2), .int .i64 x_3, .int .i64 x_4] [] (.bool r) [] := by
  refine ac_of tab_ok follows_ok Try.func3 rfl Try.ntmps3 rfl ?_
  unfold law25_BoardingValidates at hF
  conv => whnf
  obtain ⟨r_1, h_r_1, hF⟩ := bind_some hF
  refine ⟨_, _, _, _, _, _, _, _, _, callX false [] [] 0 Try.func10 (by decide) rfl (law25_few_ac x_0 r_1 h_r_1) rfl ⟨(argE (by (conv => lhs; whnf); all_goals rfl) rfl), trivial⟩ rfl trivial rfl rfl rfl lend0 trivial rfl, ?_⟩
  conv => whnf
  refine ⟨fun hb_78 => ?_, fun hb_78 => ?_⟩
  · replace hF := cond_t hb_78 hF
    conv => whnf
    obtain rfl := Option.some.inj hF
    exact ret_gz [] [] [] rfl (argT (by (conv => lhs; whnf); all_goals rfl)) trivial
  · replace hF := cond_f hb_78 hF
    conv => whnf
    obtain ⟨r_2, h_r_2, hF⟩ := bind_some hF
    refine ⟨_, _, _, _, _, _, _, _, _, callX false [] [] 1 Try.func11 (by decide) rfl (keep_New_ac x_1 r_2 h_r_2) rfl ⟨(argE (by (conv => lhs; whnf); all_goals rfl) rfl), trivial⟩ rfl trivial rfl rfl rfl lend0 ⟨rfl, trivial⟩ rfl, ?_⟩
    conv => whnf
    obtain ⟨r_3, h_r_3, hF⟩ := bind_some hF
    refine ⟨_, _, _, _, _, _, _, _, _, callX false [2] [] 0 Try.func12 (by decide) rfl (keep_Src_Manifests_ac r_2 r_3 h_r_3) rfl ⟨(argP (id := 2) (by (conv => lhs; whnf); all_goals rfl) rfl), trivial⟩ rfl ⟨rfl, trivial⟩ rfl rfl rfl lend0 ⟨rfl, trivial⟩ rfl, ?_⟩
    conv => whnf
    obtain ⟨r_4, h_r_4, hF⟩ := bind_some hF
    refine ⟨_, _, _, _, _, _, _, _, _, callX false [2] [] 0 Try.func13 (by decide) rfl (law25_spoilt_ac r_3.2 r_3.1 r_4 h_r_4) rfl ⟨(argP (id := 2) (by (conv => lhs; whnf); all_goals rfl) rfl), (argE (by (conv => lhs; whnf); all_goals rfl) rfl), trivial⟩ rfl ⟨rfl, trivial⟩ rfl rfl rfl lend0 ⟨rfl, trivial⟩ rfl, ?_⟩
    conv => whnf
    refine len_q (enc := (lA 7 encManifest)) (l := ([x_0, r_3.1, r_4.1] : List (List Manifest))) rfl ?_
    conv => whnf
    obtain ⟨c_1, hc_1, hF⟩ := fin_some hF
    refine sw_br 6 (sz := 1) (xs := ([x_0, r_3.1, r_4.1] : List (List Manifest)).map (lA 7 encManifest)) (by (conv => lhs; whnf); all_goals rfl) (fun hb => ?_)
    have hbd_k_8 : ([x_0, r_3.1, r_4.1] : List (List Manifest)).length ≤ 9223372036854775807 := bnd_len (enc := (lA 7 encManifest)) (hb)
    refine sw_loop tab_ok follows_ok (fun y : Nat × (List Int) × Int => y.1 ≤ ([x_0, r_3.1, r_4.1] : List (List Manifest)).length ∧ law25_BoardingValidates_L1 x_2 x_3 x_4 (([x_0, r_3.1, r_4.1] : List (List Manifest)).drop y.1) y.1 y.2.1 y.2.2 = some c_1) (fun y => ⟨eL [(3, .int .i64 x_3), (4, .int .i64 x_4), (7, .ptr 0 0), (11, .ptr 1 0), (31, .osl 2), (32, .int .i64 (([x_0, r_3.1, r_4.1] : List (List Manifest)).length : Int)), (33, .int .i64 (y.1 : Int))], hL [(0, .box [.str x_2.Carrier, .int .i64 x_2.Number, .str x_2.Suffix, .int .i64 x_2.Day]), (1, .box [.lst 1 (y.2.1.map iA), .int .i64 y.2.2]), (2, .row 1 (([x_0, r_3.1, r_4.1] : List (List Manifest)).map (lA 7 encManifest)))], 3⟩) (fun y => ([x_0, r_3.1, r_4.1] : List (List Manifest)).length - y.1) (0, r_4.2.L, r_4.2.At) ⟨Nat.zero_le _, hc_1⟩ (wk_mk [0, 2, 6] [] [] rfl ⟨argE (by (conv => lhs; whnf); all_goals rfl) rfl, argE (by (conv => lhs; whnf); all_goals rfl) rfl, argP (id := 0) (by (conv => lhs; whnf); all_goals rfl) rfl, argP (id := 2) (by (conv => lhs; whnf); all_goals rfl) rfl, argO (id := 6) (by (conv => lhs; whnf); all_goals rfl) rfl, argE (by (conv => lhs; whnf); all_goals rfl) rfl, argE (by (conv => lhs; whnf); all_goals rfl) rfl, trivial⟩ ⟨boxL rfl rfl rfl ⟨(.ni _ rfl), (.ni _ rfl), (.ni _ rfl), (.ni _ rfl), trivial⟩, boxL rfl rfl rfl ⟨(.ni _ rfl), (.ni _ rfl), trivial⟩, blkR (fun _ => ⟨rfl, rfl⟩) rfl rfl, trivial⟩) ?_
    rintro ⟨k_8, a_5, i_6⟩ ⟨hk_k_8, hL1⟩
    try dsimp only at hk_k_8 hL1
    show awp _ _ _ _ _ _ ⟨eL [(3, .int .i64 x_3), (4, .int .i64 x_4), (7, .ptr 0 0), (11, .ptr 1 0), (31, .osl 2), (32, .int .i64 (([x_0, r_3.1, r_4.1] : List (List Manifest)).length : Int)), (33, .int .i64 (k_8 : Int))], hL [(0, .box [.str x_2.Carrier, .int .i64 x_2.Number, .str x_2.Suffix, .int .i64 x_2.Day]), (1, .box [.lst 1 (a_5.map iA), .int .i64 i_6]), (2, .row 1 (([x_0, r_3.1, r_4.1] : List (List Manifest)).map (lA 7 encManifest)))], 3⟩
    conv => whnf
    refine ⟨fun h => ?_, fun h => ?_⟩
    · have hlt_k_8 : k_8 < ([x_0, r_3.1, r_4.1] : List (List Manifest)).length := by have h := of_decide_eq_true h; omega
      obtain ⟨e_9, h_e_9⟩ : ∃ y, ([x_0, r_3.1, r_4.1] : List (List Manifest))[k_8]? = some y := ⟨_, List.getElem?_eq_getElem hlt_k_8⟩
      rw [drop_cons h_e_9, law25_BoardingValidates_L1.eq_2] at hL1
      conv => whnf
      refine ⟨k_8, rfl, by rw [List.length_map]; exact hlt_k_8, ?_⟩
      conv => whnf
      refine ⟨_, ix_map (enc := (lA 7 encManifest)) h_e_9, ?_⟩
      conv => whnf
      obtain ⟨r_10, h_r_10, hL1⟩ := bind_some hL1
      refine ⟨_, _, _, _, _, _, _, _, _, callX false [] [] 0 Try.func14 (by decide) rfl (boarding_Validate_ac e_9 r_10 h_r_10) rfl ⟨(argE (by (conv => lhs; whnf); all_goals rfl) rfl), trivial⟩ rfl trivial rfl rfl rfl lend0 trivial rfl, ?_⟩
      conv => whnf
      obtain ⟨r_11, h_r_11, hL1⟩ := bind_some hL1
      refine ⟨_, _, _, _, _, _, _, _, _, callX false [] [] 0 Try.func15 (by decide) rfl (ref25_Validate_ac e_9 r_11 h_r_11) rfl ⟨(argE (by (conv => lhs; whnf); all_goals rfl) rfl), trivial⟩ rfl trivial rfl rfl rfl lend0 trivial rfl, ?_⟩
      conv => whnf
      refine ⟨fun hb_79 => ?_, fun hb_79 => ?_⟩
      · replace hL1 := cond_t hb_79 hL1
        conv => whnf
        obtain rfl := Option.some.inj hL1
        replace hF := fin_ret hF
        obtain rfl := Option.some.inj hF
        exact ret_gz [] [] [] rfl (argFl (by (conv => lhs; whnf); all_goals rfl)) trivial
      · replace hL1 := cond_f hb_79 hL1
        conv => whnf
        obtain ⟨r_12, h_r_12, hL1⟩ := bind_some hL1
        refine ⟨_, _, _, _, _, _, _, _, _, callX false [1] [] 0 Try.func16 (by decide) rfl (keep_Src_N_ac (⟨a_5, i_6⟩ : Src) (13 : Int) r_12 h_r_12) rfl ⟨(argP (id := 1) (by (conv => lhs; whnf); all_goals rfl) rfl), (argE (by (conv => lhs; whnf); all_goals rfl) rfl), trivial⟩ rfl ⟨rfl, trivial⟩ rfl rfl rfl lend0 ⟨rfl, trivial⟩ rfl, ?_⟩
        conv => whnf
        refine ⟨_, rfl, ?_⟩
        conv => whnf
        refine len_q (enc := iA) (l := ([x_3, (w64 ((1 : Int) + r_12.1))] : List Int)) rfl ?_
        conv => whnf
        obtain ⟨c_2, hc_2, hL1⟩ := sub_some hL1
        refine sw_br 6 (sz := 1) (xs := ([x_3, (w64 ((1 : Int) + r_12.1))] : List Int).map iA) (by (conv => lhs; whnf); all_goals rfl) (fun hb => ?_)
        have hbd_k_16 : ([x_3, (w64 ((1 : Int) + r_12.1))] : List Int).length ≤ 9223372036854775807 := bnd_len (enc := iA) (hb)
        refine sw_loop tab_ok follows_ok (fun y : Nat × (List Int) × Int => y.1 ≤ ([x_3, (w64 ((1 : Int) + r_12.1))] : List Int).length ∧ law25_BoardingValidates_L2 x_2 x_4 e_9 (([x_3, (w64 ((1 : Int) + r_12.1))] : List Int).drop y.1) y.1 y.2.1 y.2.2 = some c_2) (fun y => ⟨eL [(3, .int .i64 x_3), (4, .int .i64 x_4), (7, .ptr 0 0), (11, .ptr 1 0), (14, .lst 7 (e_9.map encManifest)), (31, .osl 2), (32, .int .i64 (([x_0, r_3.1, r_4.1] : List (List Manifest)).length : Int)), (33, .int .i64 (k_8 : Int)), (46, .osl 3), (47, .int .i64 (([x_3, (w64 ((1 : Int) + r_12.1))] : List Int).length : Int)), (48, .int .i64 (y.1 : Int))], hL [(0, .box [.str x_2.Carrier, .int .i64 x_2.Number, .str x_2.Suffix, .int .i64 x_2.Day]), (1, .box [.lst 1 (y.2.1.map iA), .int .i64 y.2.2]), (2, .row 1 (([x_0, r_3.1, r_4.1] : List (List Manifest)).map (lA 7 encManifest))), (3, .row 1 (([x_3, (w64 ((1 : Int) + r_12.1))] : List Int).map iA))], 4⟩) (fun y => ([x_3, (w64 ((1 : Int) + r_12.1))] : List Int).length - y.1) (0, r_12.2.L, r_12.2.At) ⟨Nat.zero_le _, hc_2⟩ (wk_mk [0, 1, 2, 6] [] [] rfl ⟨argE (by (conv => lhs; whnf); all_goals rfl) rfl, argE (by (conv => lhs; whnf); all_goals rfl) rfl, argP (id := 0) (by (conv => lhs; whnf); all_goals rfl) rfl, argP (id := 1) (by (conv => lhs; whnf); all_goals rfl) rfl, argE (by (conv => lhs; whnf); all_goals rfl) rfl, argO (id := 2) (by (conv => lhs; whnf); all_goals rfl) rfl, argE (by (conv => lhs; whnf); all_goals rfl) rfl, argE (by (conv => lhs; whnf); all_goals rfl) rfl, argO (id := 6) (by (conv => lhs; whnf); all_goals rfl) rfl, argE (by (conv => lhs; whnf); all_goals rfl) rfl, argE (by (conv => lhs; whnf); all_goals rfl) rfl, trivial⟩ ⟨boxL rfl rfl rfl ⟨(.ni _ rfl), (.ni _ rfl), (.ni _ rfl), (.ni _ rfl), trivial⟩, boxL rfl rfl rfl ⟨(.ni _ rfl), (.ni _ rfl), trivial⟩, blkR (fun _ => ⟨rfl, rfl⟩) rfl rfl, blkR (fun _ => ⟨rfl, rfl⟩) rfl rfl, trivial⟩) ?_
        rintro ⟨k_16, a_13, i_14⟩ ⟨hk_k_16, hL2⟩
        try dsimp only at hk_k_16 hL2
        show awp _ _ _ _ _ _ ⟨eL [(3, .int .i64 x_3), (4, .int .i64 x_4), (7, .ptr 0 0), (11, .ptr 1 0), (14, .lst 7 (e_9.map encManifest)), (31, .osl 2), (32, .int .i64 (([x_0, r_3.1, r_4.1] : List (List Manifest)).length : Int)), (33, .int .i64 (k_8 : Int)), (46, .osl 3), (47, .int .i64 (([x_3, (w64 ((1 : Int) + r_12.1))] : List Int).length : Int)), (48, .int .i64 (k_16 : Int))], hL [(0, .box [.str x_2.Carrier, .int .i64 x_2.Number, .str x_2.Suffix, .int .i64 x_2.Day]), (1, .box [.lst 1 (a_13.map iA), .int .i64 i_14]), (2, .row 1 (([x_0, r_3.1, r_4.1] : List (List Manifest)).map (lA 7 encManifest))), (3, .row 1 (([x_3, (w64 ((1 : Int) + r_12.1))] : List Int).map iA))], 4⟩
        conv => whnf
        refine ⟨fun h => ?_, fun h => ?_⟩
        · have hlt_k_16 : k_16 < ([x_3, (w64 ((1 : Int) + r_12.1))] : List Int).length := by have h := of_decide_eq_true h; omega
          obtain ⟨e_17, h_e_17⟩ : ∃ y, ([x_3, (w64 ((1 : Int) + r_12.1))] : List Int)[k_16]? = some y := ⟨_, List.getElem?_eq_getElem hlt_k_16⟩
          rw [drop_cons h_e_17, law25_BoardingValidates_L2.eq_2] at hL2
          conv => whnf
          refine ⟨k_16, rfl, by rw [List.length_map]; exact hlt_k_16, ?_⟩
          conv => whnf
          refine ⟨_, ix_map (enc := iA) h_e_17, ?_⟩
          conv => whnf
          obtain ⟨r_18, h_r_18, hL2⟩ := bind_some hL2
          refine ⟨_, _, _, _, _, _, _, _, _, callX false [1] [] 0 Try.func16 (by decide) rfl (keep_Src_N_ac (⟨a_13, i_14⟩ : Src) (5 : Int) r_18 h_r_18) rfl ⟨(argP (id := 1) (by (conv => lhs; whnf); all_goals rfl) rfl), (argE (by (conv => lhs; whnf); all_goals rfl) rfl), trivial⟩ rfl ⟨rfl, trivial⟩ rfl rfl rfl lend0 ⟨rfl, trivial⟩ rfl, ?_⟩
          conv => whnf
          obtain ⟨r_19, h_r_19, hL2⟩ := bind_some hL2
          refine ⟨_, _, _, _, _, _, _, _, _, callX false [] [] 0 Try.func17 (by decide) rfl (keep_Flights_ac r_18.1 r_19 h_r_19) rfl ⟨(argE (by (conv => lhs; whnf); all_goals rfl) rfl), trivial⟩ rfl trivial rfl rfl rfl lend0 trivial rfl, ?_⟩
          conv => whnf
          refine len_q (enc := encFlight) (l := ([x_2, r_19] : List Flight)) rfl ?_
          conv => whnf
          refine ⟨by kernel_rfl, ?_⟩
          conv => whnf
          obtain ⟨c_3, hc_3, hL2⟩ := sub_some hL2
          refine sw_br 6 (sz := 4) (xs := ([x_2, r_19] : List Flight).map encFlight) (by (conv => lhs; whnf); all_goals rfl) (fun hb => ?_)
          have hbd_k_21 : ([x_2, r_19] : List Flight).length ≤ 9223372036854775807 := bnd_len (enc := encFlight) (hb)
          refine sw_loop tab_ok follows_ok (fun y : Nat => y ≤ ([x_2, r_19] : List Flight).length ∧ law25_BoardingValidates_L3 x_4 e_9 e_17 (([x_2, r_19] : List Flight).drop y) y = some c_3) (fun y => ⟨eL [(3, .int .i64 x_3), (4, .int .i64 x_4), (7, .ptr 0 0), (11, .ptr 1 0), (14, .lst 7 (e_9.map encManifest)), (16, .int .i64 e_17), (31, .osl 2), (32, .int .i64 (([x_0, r_3.1, r_4.1] : List (List Manifest)).length : Int)), (33, .int .i64 (k_8 : Int)), (46, .osl 3), (47, .int .i64 (([x_3, (w64 ((1 : Int) + r_12.1))] : List Int).length : Int)), (48, .int .i64 (k_16 : Int)), (56, .osl 4), (57, .int .i64 (([x_2, r_19] : List Flight).length : Int)), (58, .int .i64 (y : Int))], hL [(0, .box [.str x_2.Carrier, .int .i64 x_2.Number, .str x_2.Suffix, .int .i64 x_2.Day]), (1, .box [.lst 1 (r_18.2.L.map iA), .int .i64 r_18.2.At]), (2, .row 1 (([x_0, r_3.1, r_4.1] : List (List Manifest)).map (lA 7 encManifest))), (3, .row 1 (([x_3, (w64 ((1 : Int) + r_12.1))] : List Int).map iA)), (4, .row 4 (([x_2, r_19] : List Flight).map encFlight))], 5⟩) (fun y => ([x_2, r_19] : List Flight).length - y) 0 ⟨Nat.zero_le _, hc_3⟩ (wk_mk [0, 1, 2, 3, 6] [] [] rfl ⟨argE (by (conv => lhs; whnf); all_goals rfl) rfl, argE (by (conv => lhs; whnf); all_goals rfl) rfl, argP (id := 0) (by (conv => lhs; whnf); all_goals rfl) rfl, argP (id := 1) (by (conv => lhs; whnf); all_goals rfl) rfl, argE (by (conv => lhs; whnf); all_goals rfl) rfl, argE (by (conv => lhs; whnf); all_goals rfl) rfl, argO (id := 2) (by (conv => lhs; whnf); all_goals rfl) rfl, argE (by (conv => lhs; whnf); all_goals rfl) rfl, argE (by (conv => lhs; whnf); all_goals rfl) rfl, argO (id := 3) (by (conv => lhs; whnf); all_goals rfl) rfl, argE (by (conv => lhs; whnf); all_goals rfl) rfl, argE (by (conv => lhs; whnf); all_goals rfl) rfl, argO (id := 6) (by (conv => lhs; whnf); all_goals rfl) rfl, argE (by (conv => lhs; whnf); all_goals rfl) rfl, argE (by (conv => lhs; whnf); all_goals rfl) rfl, trivial⟩ ⟨boxL rfl rfl rfl ⟨(.ni _ rfl), (.ni _ rfl), (.ni _ rfl), (.ni _ rfl), trivial⟩, boxL rfl rfl rfl ⟨(.ni _ rfl), (.ni _ rfl), trivial⟩, blkR (fun _ => ⟨rfl, rfl⟩) rfl rfl, blkR (fun _ => ⟨rfl, rfl⟩) rfl rfl, blkR (fun _ => ⟨rfl, rfl⟩) rfl rfl, trivial⟩) ?_
          rintro k_21 ⟨hk_k_21, hL3⟩
          try dsimp only at hk_k_21 hL3
          show awp _ _ _ _ _ _ ⟨eL [(3, .int .i64 x_3), (4, .int .i64 x_4), (7, .ptr 0 0), (11, .ptr 1 0), (14, .lst 7 (e_9.map encManifest)), (16, .int .i64 e_17), (31, .osl 2), (32, .int .i64 (([x_0, r_3.1, r_4.1] : List (List Manifest)).length : Int)), (33, .int .i64 (k_8 : Int)), (46, .osl 3), (47, .int .i64 (([x_3, (w64 ((1 : Int) + r_12.1))] : List Int).length : Int)), (48, .int .i64 (k_16 : Int)), (56, .osl 4), (57, .int .i64 (([x_2, r_19] : List Flight).length : Int)), (58, .int .i64 (k_21 : Int))], hL [(0, .box [.str x_2.Carrier, .int .i64 x_2.Number, .str x_2.Suffix, .int .i64 x_2.Day]), (1, .box [.lst 1 (r_18.2.L.map iA), .int .i64 r_18.2.At]), (2, .row 1 (([x_0, r_3.1, r_4.1] : List (List Manifest)).map (lA 7 encManifest))), (3, .row 1 (([x_3, (w64 ((1 : Int) + r_12.1))] : List Int).map iA)), (4, .row 4 (([x_2, r_19] : List Flight).map encFlight))], 5⟩
          conv => whnf
          refine ⟨fun h => ?_, fun h => ?_⟩
          · have hlt_k_21 : k_21 < ([x_2, r_19] : List Flight).length := by have h := of_decide_eq_true h; omega
            obtain ⟨e_22, h_e_22⟩ : ∃ y, ([x_2, r_19] : List Flight)[k_21]? = some y := ⟨_, List.getElem?_eq_getElem hlt_k_21⟩
            rw [drop_cons h_e_22, law25_BoardingValidates_L3.eq_2] at hL3
            conv => whnf
            refine ⟨k_21, rfl, by rw [List.length_map]; exact hlt_k_21, ?_⟩
            conv => whnf
            refine ⟨_, ix_map (enc := encFlight) h_e_22, ?_⟩
            conv => whnf
            obtain ⟨r_23, h_r_23, hL3⟩ := bind_some hL3
            refine ⟨_, _, _, _, _, _, _, _, _, callX false [] [] 0 Try.func18 (by decide) rfl (boarding_Status_ac e_9 e_22 e_17 x_4 r_23 h_r_23) rfl ⟨(argE (by (conv => lhs; whnf); all_goals rfl) rfl), (argE (by (conv => lhs; whnf); all_goals rfl) rfl), (argE (by (conv => lhs; whnf); all_goals rfl) rfl), (argE (by (conv => lhs; whnf); all_goals rfl) rfl), trivial⟩ rfl trivial rfl rfl rfl lend0 trivial rfl, ?_⟩
            conv => whnf
            obtain ⟨r_24, h_r_24, hL3⟩ := bind_some hL3
            refine ⟨_, _, _, _, _, _, _, _, _, callX false [] [] 0 Try.func19 (by decide) rfl (ref25_Status_ac e_9 e_22 e_17 x_4 r_24 h_r_24) rfl ⟨(argE (by (conv => lhs; whnf); all_goals rfl) rfl), (argE (by (conv => lhs; whnf); all_goals rfl) rfl), (argE (by (conv => lhs; whnf); all_goals rfl) rfl), (argE (by (conv => lhs; whnf); all_goals rfl) rfl), trivial⟩ rfl trivial rfl rfl rfl lend0 trivial rfl, ?_⟩
            conv => whnf
            refine ⟨by kernel_rfl, ?_⟩
            conv => whnf
            refine ⟨fun hb_80 => ?_, fun hb_80 => ?_⟩
            · replace hL3 := cond_t hb_80 hL3
              conv => whnf
              obtain rfl := Option.some.inj hL3
              replace hL2 := sub_ret hL2
              obtain rfl := Option.some.inj hL2
              replace hL1 := sub_ret hL1
              obtain rfl := Option.some.inj hL1
              replace hF := fin_ret hF
              obtain rfl := Option.some.inj hF
              exact ret_gz [] [] [] rfl (argFl (by (conv => lhs; whnf); all_goals rfl)) trivial
            · replace hL3 := cond_f hb_80 hL3
              conv => whnf
              refine ⟨((k_21 + 1 : Nat) : Int), wrapE (by omega) (by omega) (by omega), ?_⟩
              conv => whnf
              exact ⟨k_21 + 1, [0, 1, 2, 3, 4], [], [], ⟨hlt_k_21, hL3⟩, by show ([x_2, r_19] : List Flight).length - (k_21 + 1) < ([x_2, r_19] : List Flight).length - k_21; omega, wk_mk [0, 1, 2, 3, 4] [] [] rfl ⟨argE (by (conv => lhs; whnf); all_goals rfl) rfl, argE (by (conv => lhs; whnf); all_goals rfl) rfl, argP (id := 0) (by (conv => lhs; whnf); all_goals rfl) rfl, argP (id := 1) (by (conv => lhs; whnf); all_goals rfl) rfl, argE (by (conv => lhs; whnf); all_goals rfl) rfl, argE (by (conv => lhs; whnf); all_goals rfl) rfl, argO (id := 2) (by (conv => lhs; whnf); all_goals rfl) rfl, argE (by (conv => lhs; whnf); all_goals rfl) rfl, argE (by (conv => lhs; whnf); all_goals rfl) rfl, argO (id := 3) (by (conv => lhs; whnf); all_goals rfl) rfl, argE (by (conv => lhs; whnf); all_goals rfl) rfl, argE (by (conv => lhs; whnf); all_goals rfl) rfl, argO (id := 4) (by (conv => lhs; whnf); all_goals rfl) rfl, argE (by (conv => lhs; whnf); all_goals rfl) rfl, argE (by (conv => lhs; whnf); all_goals rfl) rfl, trivial⟩ ⟨boxL rfl rfl rfl ⟨(.ni _ rfl), (.ni _ rfl), (.ni _ rfl), (.ni _ rfl), trivial⟩, boxL rfl rfl rfl ⟨(.ni _ rfl), (.ni _ rfl), trivial⟩, blkR (fun _ => ⟨rfl, rfl⟩) rfl rfl, blkR (fun _ => ⟨rfl, rfl⟩) rfl rfl, blkR (fun _ => ⟨rfl, rfl⟩) rfl rfl, trivial⟩⟩
          · rw [drop_nil (show ([x_2, r_19] : List Flight).length ≤ k_21 by have h := of_decide_eq_false h; omega), law25_BoardingValidates_L3.eq_1] at hL3
            conv => whnf
            obtain rfl := Option.some.inj hL3
            replace hL2 := sub_brk hL2
            try dsimp only at hL2
            refine ⟨((k_16 + 1 : Nat) : Int), wrapE (by omega) (by omega) (by omega), ?_⟩
            conv => whnf
            exact ⟨(k_16 + 1, r_18.2.L, r_18.2.At), [0, 1, 2, 3], [], [], ⟨hlt_k_16, hL2⟩, by show ([x_3, (w64 ((1 : Int) + r_12.1))] : List Int).length - (k_16 + 1) < ([x_3, (w64 ((1 : Int) + r_12.1))] : List Int).length - k_16; omega, wk_mk [0, 1, 2, 3] [] [] rfl ⟨argE (by (conv => lhs; whnf); all_goals rfl) rfl, argE (by (conv => lhs; whnf); all_goals rfl) rfl, argP (id := 0) (by (conv => lhs; whnf); all_goals rfl) rfl, argP (id := 1) (by (conv => lhs; whnf); all_goals rfl) rfl, argE (by (conv => lhs; whnf); all_goals rfl) rfl, argO (id := 2) (by (conv => lhs; whnf); all_goals rfl) rfl, argE (by (conv => lhs; whnf); all_goals rfl) rfl, argE (by (conv => lhs; whnf); all_goals rfl) rfl, argO (id := 3) (by (conv => lhs; whnf); all_goals rfl) rfl, argE (by (conv => lhs; whnf); all_goals rfl) rfl, argE (by (conv => lhs; whnf); all_goals rfl) rfl, trivial⟩ ⟨boxL rfl rfl rfl ⟨(.ni _ rfl), (.ni _ rfl), (.ni _ rfl), (.ni _ rfl), trivial⟩, boxL rfl rfl rfl ⟨(.ni _ rfl), (.ni _ rfl), trivial⟩, blkR (fun _ => ⟨rfl, rfl⟩) rfl rfl, blkR (fun _ => ⟨rfl, rfl⟩) rfl rfl, trivial⟩⟩
        · rw [drop_nil (show ([x_3, (w64 ((1 : Int) + r_12.1))] : List Int).length ≤ k_16 by have h := of_decide_eq_false h; omega), law25_BoardingValidates_L2.eq_1] at hL2
          conv => whnf
          obtain rfl := Option.some.inj hL2
          replace hL1 := sub_brk hL1
          try dsimp only at hL1
          refine ⟨((k_8 + 1 : Nat) : Int), wrapE (by omega) (by omega) (by omega), ?_⟩
          conv => whnf
          exact ⟨(k_8 + 1, a_13, i_14), [0, 1, 2], [], [], ⟨hlt_k_8, hL1⟩, by show ([x_0, r_3.1, r_4.1] : List (List Manifest)).length - (k_8 + 1) < ([x_0, r_3.1, r_4.1] : List (List Manifest)).length - k_8; omega, wk_mk [0, 1, 2] [] [] rfl ⟨argE (by (conv => lhs; whnf); all_goals rfl) rfl, argE (by (conv => lhs; whnf); all_goals rfl) rfl, argP (id := 0) (by (conv => lhs; whnf); all_goals rfl) rfl, argP (id := 1) (by (conv => lhs; whnf); all_goals rfl) rfl, argO (id := 2) (by (conv => lhs; whnf); all_goals rfl) rfl, argE (by (conv => lhs; whnf); all_goals rfl) rfl, argE (by (conv => lhs; whnf); all_goals rfl) rfl, trivial⟩ ⟨boxL rfl rfl rfl ⟨(.ni _ rfl), (.ni _ rfl), (.ni _ rfl), (.ni _ rfl), trivial⟩, boxL rfl rfl rfl ⟨(.ni _ rfl), (.ni _ rfl), trivial⟩, blkR (fun _ => ⟨rfl, rfl⟩) rfl rfl, trivial⟩⟩
    · rw [drop_nil (show ([x_0, r_3.1, r_4.1] : List (List Manifest)).length ≤ k_8 by have h := of_decide_eq_false h; omega), law25_BoardingValidates_L1.eq_1] at hL1
      conv => whnf
      obtain rfl := Option.some.inj hL1
      replace hF := fin_brk hF
      try dsimp only at hF
      obtain ⟨r_31, h_r_31, hF⟩ := bind_some hF
      refine ⟨_, _, _, _, _, _, _, _, _, callX false [] [] 0 Try.func20 (by decide) rfl (law25_awake_ac r_31 h_r_31) rfl trivial rfl trivial rfl rfl rfl lend0 trivial rfl, ?_⟩
      conv => whnf
      obtain rfl := Option.some.inj hF
      exact ret_gz [] [] [] rfl (argE (by (conv => lhs; whnf); all_goals rfl) rfl) trivial
end Go.Proofs.Ytajmhegkkbnkcaa.Ex
