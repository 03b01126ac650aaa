/- The functions of the program compute what was printed; walks printed by a program. -/
import Derived.Test.YtkliakcegihikaaExF
import Derived.Test.YtkliakcegihikaaExP1
import Derived.Test.YtkliakcegihikaaExP2
import Derived.Test.YtkliakcegihikaaExP4
import Derived.Test.YtkliakcegihikaaExP5
namespace Go.Proofs.Ytkliakcegihikaa.Ex
open Go.RowKit Go.Proofs.Ytkliakcegihikaa.Ax
set_option linter.unusedVariables false
set_option linter.unusedSimpArgs false
set_option maxRecDepth 100000 in
set_option maxHeartbeats 40000000 in
theorem law06_RegistryFinds_ac (x_0 : (List Int)) (x_1 : Registry) (x_2 : Plate) (x_3 : Flight) (x_4 : Int) (r : Bool) (hF : law06_RegistryFinds x_0 x_1 x_2 x_3 x_4 = some r) : AC Try.prog 7 [.lst 1 (x_0.map iA), .agg (encRegistry x_1), .agg (encPlate x_2), .agg (encFlight x_3), .int .i64 x_4] [] (.bool r) [] := by
  refine ac_of tab_ok follows_ok Try.func7 rfl Try.ntmps7 rfl ?_
  unfold law06_RegistryFinds at hF
  conv => whnf
  obtain ⟨r_1, h_r_1, hF⟩ := bind_some hF
  refine ⟨_, _, _, _, _, _, _, _, callX false [] [] Try.func9 (by decide) rfl (law06_light_ac x_1 r_1 h_r_1) rfl ⟨(argE (by (conv => lhs; whnf); all_goals rfl) rfl), trivial⟩ rfl trivial rfl rfl rfl lend0 trivial, ?_⟩
  conv => whnf
  refine ⟨fun hb_86 => ?_, fun hb_86 => ?_⟩
  · replace hF := cond_t hb_86 hF
    conv => whnf
    obtain ⟨r_2, h_r_2, hF⟩ := bind_some hF
    refine ⟨_, _, _, _, _, _, _, _, callX false [] [] Try.func10 (by decide) rfl (law06_awake_ac r_2 h_r_2) rfl trivial rfl trivial rfl rfl rfl lend0 trivial, ?_⟩
    conv => whnf
    obtain rfl := Option.some.inj hF
    exact ret_gz [] [] [] rfl (argE (by (conv => lhs; whnf); all_goals rfl) rfl) trivial
  · replace hF := cond_f hb_86 hF
    conv => whnf
    obtain ⟨r_3, h_r_3, hF⟩ := bind_some hF
    refine ⟨_, _, _, _, _, _, _, _, callX false [] [] Try.func11 (by decide) rfl (keep_New_ac x_0 r_3 h_r_3) rfl ⟨(argE (by (conv => lhs; whnf); all_goals rfl) rfl), trivial⟩ rfl trivial rfl rfl rfl lend0 ⟨rfl, trivial⟩, ?_⟩
    conv => whnf
    obtain ⟨r_4, h_r_4, hF⟩ := bind_some hF
    refine ⟨_, _, _, _, _, _, _, _, callX false [4] [] Try.func19 (by decide) rfl (law06_built_ac r_3 (20 : Int) r_4 h_r_4) rfl ⟨(argP (id := 4) (by (conv => lhs; whnf); all_goals rfl) rfl), (argE (by (conv => lhs; whnf); all_goals rfl) rfl), trivial⟩ rfl ⟨rfl, trivial⟩ rfl rfl rfl lend0 ⟨rfl, trivial⟩, ?_⟩
    conv => whnf
    refine len_q (enc := encRegistry) (l := ([r_4.1, x_1] : List Registry)) rfl ?_
    conv => whnf
    obtain ⟨c_1, hc_1, hF⟩ := fin_some hF
    refine sw_br 8 (sz := 1) (xs := ([r_4.1, x_1] : List Registry).map encRegistry) (by (conv => lhs; whnf); all_goals rfl) (fun hb => ?_)
    have hbd_k_8 : ([r_4.1, x_1] : List Registry).length ≤ 9223372036854775807 := bnd_len (enc := encRegistry) (hb)
    refine sw_loop tab_ok follows_ok (fun y : Nat × (List Int) × Int => y.1 ≤ ([r_4.1, x_1] : List Registry).length ∧ law06_RegistryFinds_L1 x_2 x_3 x_4 (([r_4.1, x_1] : List Registry).drop y.1) y.1 y.2.1 y.2.2 = some c_1) (fun y => ⟨eL [(4, .int .i64 x_4), (7, .ptr 0 0), (8, .ptr 1 0), (11, .ptr 2 0), (34, .osl 3), (35, .int .i64 (([r_4.1, x_1] : List Registry).length : Int)), (36, .int .i64 (y.1 : Int))], hL [(0, .box [.int .i64 x_2.Lead, .int .i64 x_2.Airline, .int .i64 x_2.Serial]), (1, .box [.str x_3.Carrier, .int .i64 x_3.Number, .str x_3.Suffix, .int .i64 x_3.Day]), (2, .box [.lst 1 (y.2.1.map iA), .int .i64 y.2.2]), (3, .row 1 (([r_4.1, x_1] : List Registry).map encRegistry))], 4⟩) (fun y => ([r_4.1, x_1] : List Registry).length - y.1) (0, r_4.2.L, r_4.2.At) ⟨Nat.zero_le _, hc_1⟩ (wk_mk [1, 2, 4, 8] [] [] rfl ⟨argE (by (conv => lhs; whnf); all_goals rfl) rfl, argP (id := 1) (by (conv => lhs; whnf); all_goals rfl) rfl, argP (id := 2) (by (conv => lhs; whnf); all_goals rfl) rfl, argP (id := 4) (by (conv => lhs; whnf); all_goals rfl) rfl, argO (id := 8) (by (conv => lhs; whnf); all_goals rfl) rfl, argE (by (conv => lhs; whnf); all_goals rfl) rfl, argE (by (conv => lhs; whnf); all_goals rfl) rfl, trivial⟩ ⟨boxL rfl rfl rfl ⟨(.ni _ rfl), (.ni _ rfl), (.ni _ rfl), trivial⟩, boxL rfl rfl rfl ⟨(.ni _ rfl), (.ni _ rfl), (.ni _ rfl), (.ni _ rfl), trivial⟩, boxL rfl rfl rfl ⟨(.ni _ rfl), (.ni _ rfl), trivial⟩, blkR (fun _ => ⟨rfl, rfl⟩) rfl rfl, trivial⟩) ?_
    rintro ⟨k_8, a_5, i_6⟩ ⟨hk_k_8, hL1⟩
    try dsimp only at hk_k_8 hL1
    show awp _ _ _ _ _ _ ⟨eL [(4, .int .i64 x_4), (7, .ptr 0 0), (8, .ptr 1 0), (11, .ptr 2 0), (34, .osl 3), (35, .int .i64 (([r_4.1, x_1] : List Registry).length : Int)), (36, .int .i64 (k_8 : Int))], hL [(0, .box [.int .i64 x_2.Lead, .int .i64 x_2.Airline, .int .i64 x_2.Serial]), (1, .box [.str x_3.Carrier, .int .i64 x_3.Number, .str x_3.Suffix, .int .i64 x_3.Day]), (2, .box [.lst 1 (a_5.map iA), .int .i64 i_6]), (3, .row 1 (([r_4.1, x_1] : List Registry).map encRegistry))], 4⟩
    conv => whnf
    refine ⟨fun h => ?_, fun h => ?_⟩
    · have hlt_k_8 : k_8 < ([r_4.1, x_1] : List Registry).length := by have h := of_decide_eq_true h; omega
      obtain ⟨e_9, h_e_9⟩ : ∃ y, ([r_4.1, x_1] : List Registry)[k_8]? = some y := ⟨_, List.getElem?_eq_getElem hlt_k_8⟩
      rw [drop_cons h_e_9, law06_RegistryFinds_L1.eq_2] at hL1
      conv => whnf
      refine ⟨k_8, rfl, by rw [List.length_map]; exact hlt_k_8, ?_⟩
      conv => whnf
      refine ⟨_, ix_map h_e_9, ?_⟩
      conv => whnf
      obtain ⟨r_10, h_r_10, hL1⟩ := bind_some hL1
      refine ⟨_, _, _, _, _, _, _, _, callX false [2] [] Try.func27 (by decide) rfl (keep_Src_AnyPlate_ac (⟨a_5, i_6⟩ : Src) r_10 h_r_10) rfl ⟨(argP (id := 2) (by (conv => lhs; whnf); all_goals rfl) rfl), trivial⟩ rfl ⟨rfl, trivial⟩ rfl rfl rfl lend0 ⟨rfl, trivial⟩, ?_⟩
      conv => whnf
      obtain ⟨r_11, h_r_11, hL1⟩ := bind_some hL1
      refine ⟨_, _, _, _, _, _, _, _, callX false [2] [] Try.func27 (by decide) rfl (keep_Src_AnyPlate_ac r_10.2 r_11 h_r_11) rfl ⟨(argP (id := 2) (by (conv => lhs; whnf); all_goals rfl) rfl), trivial⟩ rfl ⟨rfl, trivial⟩ rfl rfl rfl lend0 ⟨rfl, trivial⟩, ?_⟩
      conv => whnf
      refine len_q (enc := encPlate) (l := ([x_2, r_10.1, r_11.1] : List Plate)) rfl ?_
      conv => whnf
      refine ⟨by kernel_rfl, ?_⟩
      conv => whnf
      obtain ⟨c_2, hc_2, hL1⟩ := sub_some hL1
      refine sw_br 7 (sz := 3) (xs := ([x_2, r_10.1, r_11.1] : List Plate).map encPlate) (by (conv => lhs; whnf); all_goals rfl) (fun hb => ?_)
      have hbd_k_13 : ([x_2, r_10.1, r_11.1] : List Plate).length ≤ 9223372036854775807 := bnd_len (enc := encPlate) (hb)
      refine sw_loop tab_ok follows_ok (fun y : Nat => y ≤ ([x_2, r_10.1, r_11.1] : List Plate).length ∧ law06_RegistryFinds_L2 e_9 (([x_2, r_10.1, r_11.1] : List Plate).drop y) y = some c_2) (fun y => ⟨eL [(4, .int .i64 x_4), (7, .ptr 0 0), (8, .ptr 1 0), (11, .ptr 2 0), (14, .ptr 3 0), (34, .osl 4), (35, .int .i64 (([r_4.1, x_1] : List Registry).length : Int)), (36, .int .i64 (k_8 : Int)), (45, .osl 5), (46, .int .i64 (([x_2, r_10.1, r_11.1] : List Plate).length : Int)), (47, .int .i64 (y : Int))], hL [(0, .box [.int .i64 x_2.Lead, .int .i64 x_2.Airline, .int .i64 x_2.Serial]), (1, .box [.str x_3.Carrier, .int .i64 x_3.Number, .str x_3.Suffix, .int .i64 x_3.Day]), (2, .box [.lst 1 (r_11.2.L.map iA), .int .i64 r_11.2.At]), (3, .box [.lst 25 (e_9.L.map encBag)]), (4, .row 1 (([r_4.1, x_1] : List Registry).map encRegistry)), (5, .row 3 (([x_2, r_10.1, r_11.1] : List Plate).map encPlate))], 6⟩) (fun y => ([x_2, r_10.1, r_11.1] : List Plate).length - y) 0 ⟨Nat.zero_le _, hc_2⟩ (wk_mk [0, 1, 2, 4, 3, 7] [] [] rfl ⟨argE (by (conv => lhs; whnf); all_goals rfl) rfl, argP (id := 0) (by (conv => lhs; whnf); all_goals rfl) rfl, argP (id := 1) (by (conv => lhs; whnf); all_goals rfl) rfl, argP (id := 2) (by (conv => lhs; whnf); all_goals rfl) rfl, argP (id := 4) (by (conv => lhs; whnf); all_goals rfl) rfl, argO (id := 3) (by (conv => lhs; whnf); all_goals rfl) rfl, argE (by (conv => lhs; whnf); all_goals rfl) rfl, argE (by (conv => lhs; whnf); all_goals rfl) rfl, argO (id := 7) (by (conv => lhs; whnf); all_goals rfl) rfl, argE (by (conv => lhs; whnf); all_goals rfl) rfl, argE (by (conv => lhs; whnf); all_goals rfl) rfl, trivial⟩ ⟨boxL rfl rfl rfl ⟨(.ni _ rfl), (.ni _ rfl), (.ni _ rfl), trivial⟩, boxL rfl rfl rfl ⟨(.ni _ rfl), (.ni _ rfl), (.ni _ rfl), (.ni _ rfl), trivial⟩, boxL rfl rfl rfl ⟨(.ni _ rfl), (.ni _ rfl), trivial⟩, boxL rfl rfl rfl ⟨(.ni _ rfl), trivial⟩, blkR (fun _ => ⟨rfl, rfl⟩) rfl rfl, blkR (fun _ => ⟨rfl, rfl⟩) rfl rfl, trivial⟩) ?_
      rintro k_13 ⟨hk_k_13, hL2⟩
      try dsimp only at hk_k_13 hL2
      show awp _ _ _ _ _ _ ⟨eL [(4, .int .i64 x_4), (7, .ptr 0 0), (8, .ptr 1 0), (11, .ptr 2 0), (14, .ptr 3 0), (34, .osl 4), (35, .int .i64 (([r_4.1, x_1] : List Registry).length : Int)), (36, .int .i64 (k_8 : Int)), (45, .osl 5), (46, .int .i64 (([x_2, r_10.1, r_11.1] : List Plate).length : Int)), (47, .int .i64 (k_13 : Int))], hL [(0, .box [.int .i64 x_2.Lead, .int .i64 x_2.Airline, .int .i64 x_2.Serial]), (1, .box [.str x_3.Carrier, .int .i64 x_3.Number, .str x_3.Suffix, .int .i64 x_3.Day]), (2, .box [.lst 1 (r_11.2.L.map iA), .int .i64 r_11.2.At]), (3, .box [.lst 25 (e_9.L.map encBag)]), (4, .row 1 (([r_4.1, x_1] : List Registry).map encRegistry)), (5, .row 3 (([x_2, r_10.1, r_11.1] : List Plate).map encPlate))], 6⟩
      conv => whnf
      refine ⟨fun h => ?_, fun h => ?_⟩
      · have hlt_k_13 : k_13 < ([x_2, r_10.1, r_11.1] : List Plate).length := by have h := of_decide_eq_true h; omega
        obtain ⟨e_14, h_e_14⟩ : ∃ y, ([x_2, r_10.1, r_11.1] : List Plate)[k_13]? = some y := ⟨_, List.getElem?_eq_getElem hlt_k_13⟩
        rw [drop_cons h_e_14, law06_RegistryFinds_L2.eq_2] at hL2
        conv => whnf
        refine ⟨k_13, rfl, by rw [List.length_map]; exact hlt_k_13, ?_⟩
        conv => whnf
        refine ⟨_, ix_map h_e_14, ?_⟩
        conv => whnf
        obtain ⟨r_15, h_r_15, hL2⟩ := bind_some hL2
        refine ⟨_, _, _, _, _, _, _, _, callX false [] [] Try.func21 (by decide) rfl (registry_Find_ac e_9 e_14 r_15 h_r_15) rfl ⟨(argE (by (conv => lhs; whnf); all_goals rfl) rfl), (argE (by (conv => lhs; whnf); all_goals rfl) rfl), trivial⟩ rfl trivial rfl rfl rfl lend0 trivial, ?_⟩
        conv => whnf
        obtain ⟨r_16, h_r_16, hL2⟩ := bind_some hL2
        refine ⟨_, _, _, _, _, _, _, _, callX false [] [] Try.func25 (by decide) rfl (ref06_Find_ac e_9 e_14 r_16 h_r_16) rfl ⟨(argE (by (conv => lhs; whnf); all_goals rfl) rfl), (argE (by (conv => lhs; whnf); all_goals rfl) rfl), trivial⟩ rfl trivial rfl rfl rfl lend0 trivial, ?_⟩
        conv => whnf
        refine ⟨fun hb_87 => ?_, fun hb_87 => ?_⟩
        · replace hL2 := cond_f hb_87 hL2
          conv => whnf
          obtain ⟨r_17, h_r_17, hL2⟩ := bind_some hL2
          refine ⟨_, _, _, _, _, _, _, _, callX false [] [] Try.func22 (by decide) rfl (ref06_SameBag_ac r_15.1 r_16.1 r_17 h_r_17) rfl ⟨(argE (by (conv => lhs; whnf); all_goals rfl) rfl), (argE (by (conv => lhs; whnf); all_goals rfl) rfl), trivial⟩ rfl trivial rfl rfl rfl lend0 trivial, ?_⟩
          conv => whnf
          refine ⟨fun hb_88 => ?_, fun hb_88 => ?_⟩
          · replace hL2 := cond_t hb_88 hL2
            conv => whnf
            obtain rfl := Option.some.inj hL2
            replace hL1 := sub_ret hL1
            obtain rfl := Option.some.inj hL1
            replace hF := fin_ret hF
            obtain rfl := Option.some.inj hF
            exact ret_gz [] [] [] rfl (argFl (by (conv => lhs; whnf); all_goals rfl)) trivial
          · replace hL2 := cond_f hb_88 hL2
            conv => whnf
            refine ⟨((k_13 + 1 : Nat) : Int), wrapE (by omega) (by omega) (by omega), ?_⟩
            conv => whnf
            exact ⟨k_13 + 1, [0, 1, 2, 3, 4, 5], [], [], ⟨hlt_k_13, hL2⟩, by show ([x_2, r_10.1, r_11.1] : List Plate).length - (k_13 + 1) < ([x_2, r_10.1, r_11.1] : List Plate).length - k_13; omega, wk_mk [0, 1, 2, 3, 4, 5] [] [] rfl ⟨argE (by (conv => lhs; whnf); all_goals rfl) rfl, argP (id := 0) (by (conv => lhs; whnf); all_goals rfl) rfl, argP (id := 1) (by (conv => lhs; whnf); all_goals rfl) rfl, argP (id := 2) (by (conv => lhs; whnf); all_goals rfl) rfl, argP (id := 3) (by (conv => lhs; whnf); all_goals rfl) rfl, argO (id := 4) (by (conv => lhs; whnf); all_goals rfl) rfl, argE (by (conv => lhs; whnf); all_goals rfl) rfl, argE (by (conv => lhs; whnf); all_goals rfl) rfl, argO (id := 5) (by (conv => lhs; whnf); all_goals rfl) rfl, argE (by (conv => lhs; whnf); all_goals rfl) rfl, argE (by (conv => lhs; whnf); all_goals rfl) rfl, trivial⟩ ⟨boxL rfl rfl rfl ⟨(.ni _ rfl), (.ni _ rfl), (.ni _ rfl), trivial⟩, boxL rfl rfl rfl ⟨(.ni _ rfl), (.ni _ rfl), (.ni _ rfl), (.ni _ rfl), trivial⟩, boxL rfl rfl rfl ⟨(.ni _ rfl), (.ni _ rfl), trivial⟩, boxL rfl rfl rfl ⟨(.ni _ rfl), trivial⟩, blkR (fun _ => ⟨rfl, rfl⟩) rfl rfl, blkR (fun _ => ⟨rfl, rfl⟩) rfl rfl, trivial⟩⟩
        · replace hL2 := cond_t hb_87 hL2
          conv => whnf
          obtain rfl := Option.some.inj hL2
          replace hL1 := sub_ret hL1
          obtain rfl := Option.some.inj hL1
          replace hF := fin_ret hF
          obtain rfl := Option.some.inj hF
          exact ret_gz [] [] [] rfl (argFl (by (conv => lhs; whnf); all_goals rfl)) trivial
      · rw [drop_nil (show ([x_2, r_10.1, r_11.1] : List Plate).length ≤ k_13 by have h := of_decide_eq_false h; omega), law06_RegistryFinds_L2.eq_1] at hL2
        conv => whnf
        obtain rfl := Option.some.inj hL2
        replace hL1 := sub_brk hL1
        try dsimp only at hL1
        obtain ⟨r_20, h_r_20, hL1⟩ := bind_some hL1
        refine ⟨_, _, _, _, _, _, _, _, callX false [2] [] Try.func28 (by decide) rfl (keep_Src_AnyFlight_ac r_11.2 r_20 h_r_20) rfl ⟨(argP (id := 2) (by (conv => lhs; whnf); all_goals rfl) rfl), trivial⟩ rfl ⟨rfl, trivial⟩ rfl rfl rfl lend0 ⟨rfl, trivial⟩, ?_⟩
        conv => whnf
        obtain ⟨r_21, h_r_21, hL1⟩ := bind_some hL1
        refine ⟨_, _, _, _, _, _, _, _, callX false [2] [] Try.func28 (by decide) rfl (keep_Src_AnyFlight_ac r_20.2 r_21 h_r_21) rfl ⟨(argP (id := 2) (by (conv => lhs; whnf); all_goals rfl) rfl), trivial⟩ rfl ⟨rfl, trivial⟩ rfl rfl rfl lend0 ⟨rfl, trivial⟩, ?_⟩
        conv => whnf
        refine len_q (enc := encFlight) (l := ([x_3, r_20.1, r_21.1] : List Flight)) rfl ?_
        conv => whnf
        refine ⟨by kernel_rfl, ?_⟩
        conv => whnf
        obtain ⟨c_3, hc_3, hL1⟩ := sub_some hL1
        refine sw_br 8 (sz := 4) (xs := ([x_3, r_20.1, r_21.1] : List Flight).map encFlight) (by (conv => lhs; whnf); all_goals rfl) (fun hb => ?_)
        have hbd_k_25 : ([x_3, r_20.1, r_21.1] : List Flight).length ≤ 9223372036854775807 := bnd_len (enc := encFlight) (hb)
        refine sw_loop tab_ok follows_ok (fun y : Nat × (List Int) × Int => y.1 ≤ ([x_3, r_20.1, r_21.1] : List Flight).length ∧ law06_RegistryFinds_L3 x_4 e_9 (([x_3, r_20.1, r_21.1] : List Flight).drop y.1) y.1 y.2.1 y.2.2 = some c_3) (fun y => ⟨eL [(4, .int .i64 x_4), (7, .ptr 0 0), (8, .ptr 1 0), (11, .ptr 2 0), (14, .ptr 3 0), (34, .osl 4), (35, .int .i64 (([r_4.1, x_1] : List Registry).length : Int)), (36, .int .i64 (k_8 : Int)), (78, .osl 5), (79, .int .i64 (([x_3, r_20.1, r_21.1] : List Flight).length : Int)), (80, .int .i64 (y.1 : Int))], hL [(0, .box [.int .i64 x_2.Lead, .int .i64 x_2.Airline, .int .i64 x_2.Serial]), (1, .box [.str x_3.Carrier, .int .i64 x_3.Number, .str x_3.Suffix, .int .i64 x_3.Day]), (2, .box [.lst 1 (y.2.1.map iA), .int .i64 y.2.2]), (3, .box [.lst 25 (e_9.L.map encBag)]), (4, .row 1 (([r_4.1, x_1] : List Registry).map encRegistry)), (5, .row 4 (([x_3, r_20.1, r_21.1] : List Flight).map encFlight))], 6⟩) (fun y => ([x_3, r_20.1, r_21.1] : List Flight).length - y.1) (0, r_21.2.L, r_21.2.At) ⟨Nat.zero_le _, hc_3⟩ (wk_mk [0, 1, 2, 3, 4, 8] [] [] rfl ⟨argE (by (conv => lhs; whnf); all_goals rfl) rfl, argP (id := 0) (by (conv => lhs; whnf); all_goals rfl) rfl, argP (id := 1) (by (conv => lhs; whnf); all_goals rfl) rfl, argP (id := 2) (by (conv => lhs; whnf); all_goals rfl) rfl, argP (id := 3) (by (conv => lhs; whnf); all_goals rfl) rfl, argO (id := 4) (by (conv => lhs; whnf); all_goals rfl) rfl, argE (by (conv => lhs; whnf); all_goals rfl) rfl, argE (by (conv => lhs; whnf); all_goals rfl) rfl, argO (id := 8) (by (conv => lhs; whnf); all_goals rfl) rfl, argE (by (conv => lhs; whnf); all_goals rfl) rfl, argE (by (conv => lhs; whnf); all_goals rfl) rfl, trivial⟩ ⟨boxL rfl rfl rfl ⟨(.ni _ rfl), (.ni _ rfl), (.ni _ rfl), trivial⟩, boxL rfl rfl rfl ⟨(.ni _ rfl), (.ni _ rfl), (.ni _ rfl), (.ni _ rfl), trivial⟩, boxL rfl rfl rfl ⟨(.ni _ rfl), (.ni _ rfl), trivial⟩, boxL rfl rfl rfl ⟨(.ni _ rfl), trivial⟩, blkR (fun _ => ⟨rfl, rfl⟩) rfl rfl, blkR (fun _ => ⟨rfl, rfl⟩) rfl rfl, trivial⟩) ?_
        rintro ⟨k_25, a_22, i_23⟩ ⟨hk_k_25, hL2⟩
        try dsimp only at hk_k_25 hL2
        show awp _ _ _ _ _ _ ⟨eL [(4, .int .i64 x_4), (7, .ptr 0 0), (8, .ptr 1 0), (11, .ptr 2 0), (14, .ptr 3 0), (34, .osl 4), (35, .int .i64 (([r_4.1, x_1] : List Registry).length : Int)), (36, .int .i64 (k_8 : Int)), (78, .osl 5), (79, .int .i64 (([x_3, r_20.1, r_21.1] : List Flight).length : Int)), (80, .int .i64 (k_25 : Int))], hL [(0, .box [.int .i64 x_2.Lead, .int .i64 x_2.Airline, .int .i64 x_2.Serial]), (1, .box [.str x_3.Carrier, .int .i64 x_3.Number, .str x_3.Suffix, .int .i64 x_3.Day]), (2, .box [.lst 1 (a_22.map iA), .int .i64 i_23]), (3, .box [.lst 25 (e_9.L.map encBag)]), (4, .row 1 (([r_4.1, x_1] : List Registry).map encRegistry)), (5, .row 4 (([x_3, r_20.1, r_21.1] : List Flight).map encFlight))], 6⟩
        conv => whnf
        refine ⟨fun h => ?_, fun h => ?_⟩
        · have hlt_k_25 : k_25 < ([x_3, r_20.1, r_21.1] : List Flight).length := by have h := of_decide_eq_true h; omega
          obtain ⟨e_26, h_e_26⟩ : ∃ y, ([x_3, r_20.1, r_21.1] : List Flight)[k_25]? = some y := ⟨_, List.getElem?_eq_getElem hlt_k_25⟩
          rw [drop_cons h_e_26, law06_RegistryFinds_L3.eq_2] at hL2
          conv => whnf
          refine ⟨k_25, rfl, by rw [List.length_map]; exact hlt_k_25, ?_⟩
          conv => whnf
          refine ⟨_, ix_map h_e_26, ?_⟩
          conv => whnf
          obtain ⟨r_27, h_r_27, hL2⟩ := bind_some hL2
          refine ⟨_, _, _, _, _, _, _, _, callX false [2] [] Try.func23 (by decide) rfl (keep_Src_Range_ac (⟨a_22, i_23⟩ : Src) (1 : Int) (4 : Int) r_27 h_r_27) rfl ⟨(argP (id := 2) (by (conv => lhs; whnf); all_goals rfl) rfl), (argE (by (conv => lhs; whnf); all_goals rfl) rfl), (argE (by (conv => lhs; whnf); all_goals rfl) rfl), trivial⟩ rfl ⟨rfl, trivial⟩ rfl rfl rfl lend0 ⟨rfl, trivial⟩, ?_⟩
          conv => whnf
          obtain ⟨r_28, h_r_28, hL2⟩ := bind_some hL2
          refine ⟨_, _, _, _, _, _, _, _, callX false [] [] Try.func30 (by decide) rfl (registry_OfFlight_ac e_9 e_26 r_28 h_r_28) rfl ⟨(argE (by (conv => lhs; whnf); all_goals rfl) rfl), (argE (by (conv => lhs; whnf); all_goals rfl) rfl), trivial⟩ rfl trivial rfl rfl rfl lend0 trivial, ?_⟩
          conv => whnf
          obtain ⟨r_29, h_r_29, hL2⟩ := bind_some hL2
          refine ⟨_, _, _, _, _, _, _, _, callX false [] [] Try.func31 (by decide) rfl (ref06_OfFlight_ac e_9 e_26 r_29 h_r_29) rfl ⟨(argE (by (conv => lhs; whnf); all_goals rfl) rfl), (argE (by (conv => lhs; whnf); all_goals rfl) rfl), trivial⟩ rfl trivial rfl rfl rfl lend0 trivial, ?_⟩
          conv => whnf
          obtain ⟨r_30, h_r_30, hL2⟩ := bind_some hL2
          refine ⟨_, _, _, _, _, _, _, _, callX false [] [] Try.func29 (by decide) rfl (ref06_SamePlates_ac r_28 r_29 r_30 h_r_30) rfl ⟨(argE (by (conv => lhs; whnf); all_goals rfl) rfl), (argE (by (conv => lhs; whnf); all_goals rfl) rfl), trivial⟩ rfl trivial rfl rfl rfl lend0 trivial, ?_⟩
          conv => whnf
          refine ⟨fun hb_89 => ?_, fun hb_89 => ?_⟩
          · replace hL2 := cond_f hb_89 hL2
            conv => whnf
            obtain ⟨r_31, h_r_31, hL2⟩ := bind_some hL2
            refine ⟨_, _, _, _, _, _, _, _, callX false [] [] Try.func32 (by decide) rfl (registry_OfPassenger_ac e_9 e_26 r_27.1 r_31 h_r_31) rfl ⟨(argE (by (conv => lhs; whnf); all_goals rfl) rfl), (argE (by (conv => lhs; whnf); all_goals rfl) rfl), (argE (by (conv => lhs; whnf); all_goals rfl) rfl), trivial⟩ rfl trivial rfl rfl rfl lend0 trivial, ?_⟩
            conv => whnf
            obtain ⟨r_32, h_r_32, hL2⟩ := bind_some hL2
            refine ⟨_, _, _, _, _, _, _, _, callX false [] [] Try.func33 (by decide) rfl (ref06_OfPassenger_ac e_9 e_26 r_27.1 r_32 h_r_32) rfl ⟨(argE (by (conv => lhs; whnf); all_goals rfl) rfl), (argE (by (conv => lhs; whnf); all_goals rfl) rfl), (argE (by (conv => lhs; whnf); all_goals rfl) rfl), trivial⟩ rfl trivial rfl rfl rfl lend0 trivial, ?_⟩
            conv => whnf
            obtain ⟨r_33, h_r_33, hL2⟩ := bind_some hL2
            refine ⟨_, _, _, _, _, _, _, _, callX false [] [] Try.func29 (by decide) rfl (ref06_SamePlates_ac r_31 r_32 r_33 h_r_33) rfl ⟨(argE (by (conv => lhs; whnf); all_goals rfl) rfl), (argE (by (conv => lhs; whnf); all_goals rfl) rfl), trivial⟩ rfl trivial rfl rfl rfl lend0 trivial, ?_⟩
            conv => whnf
            refine ⟨fun hb_90 => ?_, fun hb_90 => ?_⟩
            · replace hL2 := cond_f hb_90 hL2
              conv => whnf
              obtain ⟨r_34, h_r_34, hL2⟩ := bind_some hL2
              refine ⟨_, _, _, _, _, _, _, _, callX false [] [] Try.func32 (by decide) rfl (registry_OfPassenger_ac e_9 e_26 x_4 r_34 h_r_34) rfl ⟨(argE (by (conv => lhs; whnf); all_goals rfl) rfl), (argE (by (conv => lhs; whnf); all_goals rfl) rfl), (argE (by (conv => lhs; whnf); all_goals rfl) rfl), trivial⟩ rfl trivial rfl rfl rfl lend0 trivial, ?_⟩
              conv => whnf
              obtain ⟨r_35, h_r_35, hL2⟩ := bind_some hL2
              refine ⟨_, _, _, _, _, _, _, _, callX false [] [] Try.func33 (by decide) rfl (ref06_OfPassenger_ac e_9 e_26 x_4 r_35 h_r_35) rfl ⟨(argE (by (conv => lhs; whnf); all_goals rfl) rfl), (argE (by (conv => lhs; whnf); all_goals rfl) rfl), (argE (by (conv => lhs; whnf); all_goals rfl) rfl), trivial⟩ rfl trivial rfl rfl rfl lend0 trivial, ?_⟩
              conv => whnf
              obtain ⟨r_36, h_r_36, hL2⟩ := bind_some hL2
              refine ⟨_, _, _, _, _, _, _, _, callX false [] [] Try.func29 (by decide) rfl (ref06_SamePlates_ac r_34 r_35 r_36 h_r_36) rfl ⟨(argE (by (conv => lhs; whnf); all_goals rfl) rfl), (argE (by (conv => lhs; whnf); all_goals rfl) rfl), trivial⟩ rfl trivial rfl rfl rfl lend0 trivial, ?_⟩
              conv => whnf
              refine ⟨by kernel_rfl, ?_⟩
              conv => whnf
              refine ⟨fun hb_91 => ?_, fun hb_91 => ?_⟩
              · replace hL2 := cond_t hb_91 hL2
                conv => whnf
                obtain rfl := Option.some.inj hL2
                replace hL1 := sub_ret hL1
                obtain rfl := Option.some.inj hL1
                replace hF := fin_ret hF
                obtain rfl := Option.some.inj hF
                exact ret_gz [] [] [] rfl (argFl (by (conv => lhs; whnf); all_goals rfl)) trivial
              · replace hL2 := cond_f hb_91 hL2
                conv => whnf
                refine ⟨((k_25 + 1 : Nat) : Int), wrapE (by omega) (by omega) (by omega), ?_⟩
                conv => whnf
                exact ⟨(k_25 + 1, r_27.2.L, r_27.2.At), [0, 1, 2, 3, 4, 5], [], [], ⟨hlt_k_25, hL2⟩, by show ([x_3, r_20.1, r_21.1] : List Flight).length - (k_25 + 1) < ([x_3, r_20.1, r_21.1] : List Flight).length - k_25; omega, wk_mk [0, 1, 2, 3, 4, 5] [] [] rfl ⟨argE (by (conv => lhs; whnf); all_goals rfl) rfl, argP (id := 0) (by (conv => lhs; whnf); all_goals rfl) rfl, argP (id := 1) (by (conv => lhs; whnf); all_goals rfl) rfl, argP (id := 2) (by (conv => lhs; whnf); all_goals rfl) rfl, argP (id := 3) (by (conv => lhs; whnf); all_goals rfl) rfl, argO (id := 4) (by (conv => lhs; whnf); all_goals rfl) rfl, argE (by (conv => lhs; whnf); all_goals rfl) rfl, argE (by (conv => lhs; whnf); all_goals rfl) rfl, argO (id := 5) (by (conv => lhs; whnf); all_goals rfl) rfl, argE (by (conv => lhs; whnf); all_goals rfl) rfl, argE (by (conv => lhs; whnf); all_goals rfl) rfl, trivial⟩ ⟨boxL rfl rfl rfl ⟨(.ni _ rfl), (.ni _ rfl), (.ni _ rfl), trivial⟩, boxL rfl rfl rfl ⟨(.ni _ rfl), (.ni _ rfl), (.ni _ rfl), (.ni _ rfl), trivial⟩, boxL rfl rfl rfl ⟨(.ni _ rfl), (.ni _ rfl), trivial⟩, boxL rfl rfl rfl ⟨(.ni _ rfl), trivial⟩, blkR (fun _ => ⟨rfl, rfl⟩) rfl rfl, blkR (fun _ => ⟨rfl, rfl⟩) rfl rfl, trivial⟩⟩
            · replace hL2 := cond_t hb_90 hL2
              conv => whnf
              refine ⟨by kernel_rfl, ?_⟩
              conv => whnf
              obtain rfl := Option.some.inj hL2
              replace hL1 := sub_ret hL1
              obtain rfl := Option.some.inj hL1
              replace hF := fin_ret hF
              obtain rfl := Option.some.inj hF
              exact ret_gz [] [] [] rfl (argFl (by (conv => lhs; whnf); all_goals rfl)) trivial
          · replace hL2 := cond_t hb_89 hL2
            conv => whnf
            refine ⟨by kernel_rfl, ?_⟩
            conv => whnf
            obtain rfl := Option.some.inj hL2
            replace hL1 := sub_ret hL1
            obtain rfl := Option.some.inj hL1
            replace hF := fin_ret hF
            obtain rfl := Option.some.inj hF
            exact ret_gz [] [] [] rfl (argFl (by (conv => lhs; whnf); all_goals rfl)) trivial
        · rw [drop_nil (show ([x_3, r_20.1, r_21.1] : List Flight).length ≤ k_25 by have h := of_decide_eq_false h; omega), law06_RegistryFinds_L3.eq_1] at hL2
          conv => whnf
          obtain rfl := Option.some.inj hL2
          replace hL1 := sub_brk hL1
          try dsimp only at hL1
          refine ⟨((k_8 + 1 : Nat) : Int), wrapE (by omega) (by omega) (by omega), ?_⟩
          conv => whnf
          exact ⟨(k_8 + 1, a_22, i_23), [0, 1, 2, 4], [], [], ⟨hlt_k_8, hL1⟩, by show ([r_4.1, x_1] : List Registry).length - (k_8 + 1) < ([r_4.1, x_1] : List Registry).length - k_8; omega, wk_mk [0, 1, 2, 4] [] [] rfl ⟨argE (by (conv => lhs; whnf); all_goals rfl) rfl, argP (id := 0) (by (conv => lhs; whnf); all_goals rfl) rfl, argP (id := 1) (by (conv => lhs; whnf); all_goals rfl) rfl, argP (id := 2) (by (conv => lhs; whnf); all_goals rfl) rfl, argO (id := 4) (by (conv => lhs; whnf); all_goals rfl) rfl, argE (by (conv => lhs; whnf); all_goals rfl) rfl, argE (by (conv => lhs; whnf); all_goals rfl) rfl, trivial⟩ ⟨boxL rfl rfl rfl ⟨(.ni _ rfl), (.ni _ rfl), (.ni _ rfl), trivial⟩, boxL rfl rfl rfl ⟨(.ni _ rfl), (.ni _ rfl), (.ni _ rfl), (.ni _ rfl), trivial⟩, boxL rfl rfl rfl ⟨(.ni _ rfl), (.ni _ rfl), trivial⟩, blkR (fun _ => ⟨rfl, rfl⟩) rfl rfl, trivial⟩⟩
    · rw [drop_nil (show ([r_4.1, x_1] : List Registry).length ≤ k_8 by have h := of_decide_eq_false h; omega), law06_RegistryFinds_L1.eq_1] at hL1
      conv => whnf
      obtain rfl := Option.some.inj hL1
      replace hF := fin_brk hF
      try dsimp only at hF
      obtain ⟨r_41, h_r_41, hF⟩ := bind_some hF
      refine ⟨_, _, _, _, _, _, _, _, callX false [] [] Try.func10 (by decide) rfl (law06_awake_ac r_41 h_r_41) rfl trivial rfl trivial rfl rfl rfl lend0 trivial, ?_⟩
      conv => whnf
      obtain rfl := Option.some.inj hF
      exact ret_gz [] [] [] rfl (argE (by (conv => lhs; whnf); all_goals rfl) rfl) trivial
end Go.Proofs.Ytkliakcegihikaa.Ex
