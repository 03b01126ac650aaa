/- The functions of the program compute what was printed; walks printed by a program. -/
import Derived.Test.YtajmhegkkbnkcaaExF
import Derived.Test.YtajmhegkkbnkcaaExP1
import Derived.Test.YtajmhegkkbnkcaaExP2
import Derived.Test.YtajmhegkkbnkcaaExP3
import Derived.Test.YtajmhegkkbnkcaaExP4
namespace Go.Proofs.Ytajmhegkkbnkcaa.Ex
open Go.RowKit Go.Proofs.Ytajmhegkkbnkcaa.Ax
set_option linter.unusedVariables false
set_option linter.unusedSimpArgs false
set_option maxRecDepth 100000 in
set_option maxHeartbeats 40000000 in
theorem law25_BoardingJoins_ac (x_0 : (List Manifest)) (x_1 : (List Manifest)) (x_2 : (List Int)) (r : Bool) (hF : law25_BoardingJoins x_0 x_1 x_2 = some r) : AC Try.prog 7 [.lst 7 (x_0.map encManifest), .lst 7 (x_1.map encManifest), .lst 1 (x_2.map iA)] [] (.bool r) [] := by
  refine ac_of tab_ok follows_ok Try.func7 rfl Try.ntmps7 rfl ?_
  unfold law25_BoardingJoins at hF
  conv => whnf
  obtain ⟨r_1, h_r_1, hF⟩ := bind_some hF
  refine ⟨_, _, _, _, _, _, _, _, _, callX false [] [] 0 Try.func10 (by decide) rfl (law25_few_ac x_0 r_1 h_r_1) rfl ⟨(argE (by (conv => lhs; whnf); all_goals rfl) rfl), trivial⟩ rfl trivial rfl rfl rfl lend0 trivial rfl, ?_⟩
  conv => whnf
  refine ⟨fun hb_39 => ?_, fun hb_39 => ?_⟩
  · replace hF := cond_f hb_39 hF
    conv => whnf
    obtain ⟨r_2, h_r_2, hF⟩ := bind_some hF
    refine ⟨_, _, _, _, _, _, _, _, _, callX false [] [] 0 Try.func10 (by decide) rfl (law25_few_ac x_1 r_2 h_r_2) rfl ⟨(argE (by (conv => lhs; whnf); all_goals rfl) rfl), trivial⟩ rfl trivial rfl rfl rfl lend0 trivial rfl, ?_⟩
    conv => whnf
    refine ⟨fun hb_40 => ?_, fun hb_40 => ?_⟩
    · replace hF := cond_t hb_40 hF
      conv => whnf
      obtain rfl := Option.some.inj hF
      exact ret_gz [] [] [] rfl (argT (by (conv => lhs; whnf); all_goals rfl)) trivial
    · replace hF := cond_f hb_40 hF
      conv => whnf
      obtain ⟨r_3, h_r_3, hF⟩ := bind_some hF
      refine ⟨_, _, _, _, _, _, _, _, _, callX false [] [] 1 Try.func11 (by decide) rfl (keep_New_ac x_2 r_3 h_r_3) rfl ⟨(argE (by (conv => lhs; whnf); all_goals rfl) rfl), trivial⟩ rfl trivial rfl rfl rfl lend0 ⟨rfl, trivial⟩ rfl, ?_⟩
      conv => whnf
      obtain ⟨r_4, h_r_4, hF⟩ := bind_some hF
      refine ⟨_, _, _, _, _, _, _, _, _, callX false [2] [] 0 Try.func12 (by decide) rfl (keep_Src_Manifests_ac r_3 r_4 h_r_4) rfl ⟨(argP (id := 2) (by (conv => lhs; whnf); all_goals rfl) rfl), trivial⟩ rfl ⟨rfl, trivial⟩ rfl rfl rfl lend0 ⟨rfl, trivial⟩ rfl, ?_⟩
      conv => whnf
      obtain ⟨r_5, h_r_5, hF⟩ := bind_some hF
      refine ⟨_, _, _, _, _, _, _, _, _, callX false [2] [] 0 Try.func12 (by decide) rfl (keep_Src_Manifests_ac r_4.2 r_5 h_r_5) rfl ⟨(argP (id := 2) (by (conv => lhs; whnf); all_goals rfl) rfl), trivial⟩ rfl ⟨rfl, trivial⟩ rfl rfl rfl lend0 ⟨rfl, trivial⟩ rfl, ?_⟩
      conv => whnf
      obtain ⟨r_6, h_r_6, hF⟩ := bind_some hF
      refine ⟨_, _, _, _, _, _, _, _, _, callX false [2] [] 0 Try.func13 (by decide) rfl (law25_spoilt_ac r_5.2 r_4.1 r_6 h_r_6) rfl ⟨(argP (id := 2) (by (conv => lhs; whnf); all_goals rfl) rfl), (argE (by (conv => lhs; whnf); all_goals rfl) rfl), trivial⟩ rfl ⟨rfl, trivial⟩ rfl rfl rfl lend0 ⟨rfl, trivial⟩ rfl, ?_⟩
      conv => whnf
      refine len_q (enc := (lA 7 encManifest)) (l := ([x_0, r_4.1, r_6.1] : List (List Manifest))) rfl ?_
      conv => whnf
      obtain ⟨c_1, hc_1, hF⟩ := fin_some hF
      refine sw_br 7 (sz := 1) (xs := ([x_0, r_4.1, r_6.1] : List (List Manifest)).map (lA 7 encManifest)) (by (conv => lhs; whnf); all_goals rfl) (fun hb => ?_)
      have hbd_k_8 : ([x_0, r_4.1, r_6.1] : List (List Manifest)).length ≤ 9223372036854775807 := bnd_len (enc := (lA 7 encManifest)) (hb)
      refine sw_loop tab_ok follows_ok (fun y : Nat => y ≤ ([x_0, r_4.1, r_6.1] : List (List Manifest)).length ∧ law25_BoardingJoins_L1 x_1 r_5 (([x_0, r_4.1, r_6.1] : List (List Manifest)).drop y) y = some c_1) (fun y => ⟨eL [(1, .lst 7 (x_1.map encManifest)), (9, .lst 7 (r_5.1.map encManifest)), (37, .osl 0), (38, .int .i64 (([x_0, r_4.1, r_6.1] : List (List Manifest)).length : Int)), (39, .int .i64 (y : Int))], hL [(0, .row 1 (([x_0, r_4.1, r_6.1] : List (List Manifest)).map (lA 7 encManifest)))], 1⟩) (fun y => ([x_0, r_4.1, r_6.1] : List (List Manifest)).length - y) 0 ⟨Nat.zero_le _, hc_1⟩ (wk_mk [7] [] [] rfl ⟨argE (by (conv => lhs; whnf); all_goals rfl) rfl, argE (by (conv => lhs; whnf); all_goals rfl) rfl, argO (id := 7) (by (conv => lhs; whnf); all_goals rfl) rfl, argE (by (conv => lhs; whnf); all_goals rfl) rfl, argE (by (conv => lhs; whnf); all_goals rfl) rfl, trivial⟩ ⟨blkR (fun _ => ⟨rfl, rfl⟩) rfl rfl, trivial⟩) ?_
      rintro k_8 ⟨hk_k_8, hL1⟩
      try dsimp only at hk_k_8 hL1
      show awp _ _ _ _ _ _ ⟨eL [(1, .lst 7 (x_1.map encManifest)), (9, .lst 7 (r_5.1.map encManifest)), (37, .osl 0), (38, .int .i64 (([x_0, r_4.1, r_6.1] : List (List Manifest)).length : Int)), (39, .int .i64 (k_8 : Int))], hL [(0, .row 1 (([x_0, r_4.1, r_6.1] : List (List Manifest)).map (lA 7 encManifest)))], 1⟩
      conv => whnf
      refine ⟨fun h => ?_, fun h => ?_⟩
      · have hlt_k_8 : k_8 < ([x_0, r_4.1, r_6.1] : List (List Manifest)).length := by have h := of_decide_eq_true h; omega
        obtain ⟨e_9, h_e_9⟩ : ∃ y, ([x_0, r_4.1, r_6.1] : List (List Manifest))[k_8]? = some y := ⟨_, List.getElem?_eq_getElem hlt_k_8⟩
        rw [drop_cons h_e_9, law25_BoardingJoins_L1.eq_2] at hL1
        conv => whnf
        refine ⟨k_8, rfl, by rw [List.length_map]; exact hlt_k_8, ?_⟩
        conv => whnf
        refine ⟨_, ix_map (enc := (lA 7 encManifest)) h_e_9, ?_⟩
        conv => whnf
        refine len_q (enc := (lA 7 encManifest)) (l := ([x_1, r_5.1, e_9] : List (List Manifest))) rfl ?_
        conv => whnf
        obtain ⟨c_2, hc_2, hL1⟩ := sub_some hL1
        refine sw_br 1 (sz := 1) (xs := ([x_1, r_5.1, e_9] : List (List Manifest)).map (lA 7 encManifest)) (by (conv => lhs; whnf); all_goals rfl) (fun hb => ?_)
        have hbd_k_11 : ([x_1, r_5.1, e_9] : List (List Manifest)).length ≤ 9223372036854775807 := bnd_len (enc := (lA 7 encManifest)) (hb)
        refine sw_loop tab_ok follows_ok (fun y : Nat => y ≤ ([x_1, r_5.1, e_9] : List (List Manifest)).length ∧ law25_BoardingJoins_L2 e_9 (([x_1, r_5.1, e_9] : List (List Manifest)).drop y) y = some c_2) (fun y => ⟨eL [(1, .lst 7 (x_1.map encManifest)), (9, .lst 7 (r_5.1.map encManifest)), (11, .lst 7 (e_9.map encManifest)), (37, .osl 0), (38, .int .i64 (([x_0, r_4.1, r_6.1] : List (List Manifest)).length : Int)), (39, .int .i64 (k_8 : Int)), (46, .osl 1), (47, .int .i64 (([x_1, r_5.1, e_9] : List (List Manifest)).length : Int)), (48, .int .i64 (y : Int))], hL [(0, .row 1 (([x_0, r_4.1, r_6.1] : List (List Manifest)).map (lA 7 encManifest))), (1, .row 1 (([x_1, r_5.1, e_9] : List (List Manifest)).map (lA 7 encManifest)))], 2⟩) (fun y => ([x_1, r_5.1, e_9] : List (List Manifest)).length - y) 0 ⟨Nat.zero_le _, hc_2⟩ (wk_mk [0, 1] [] [] rfl ⟨argE (by (conv => lhs; whnf); all_goals rfl) rfl, argE (by (conv => lhs; whnf); all_goals rfl) rfl, argE (by (conv => lhs; whnf); all_goals rfl) rfl, argO (id := 0) (by (conv => lhs; whnf); all_goals rfl) rfl, argE (by (conv => lhs; whnf); all_goals rfl) rfl, argE (by (conv => lhs; whnf); all_goals rfl) rfl, argO (id := 1) (by (conv => lhs; whnf); all_goals rfl) rfl, argE (by (conv => lhs; whnf); all_goals rfl) rfl, argE (by (conv => lhs; whnf); all_goals rfl) rfl, trivial⟩ ⟨blkR (fun _ => ⟨rfl, rfl⟩) rfl rfl, blkR (fun _ => ⟨rfl, rfl⟩) rfl rfl, trivial⟩) ?_
        rintro k_11 ⟨hk_k_11, hL2⟩
        try dsimp only at hk_k_11 hL2
        show awp _ _ _ _ _ _ ⟨eL [(1, .lst 7 (x_1.map encManifest)), (9, .lst 7 (r_5.1.map encManifest)), (11, .lst 7 (e_9.map encManifest)), (37, .osl 0), (38, .int .i64 (([x_0, r_4.1, r_6.1] : List (List Manifest)).length : Int)), (39, .int .i64 (k_8 : Int)), (46, .osl 1), (47, .int .i64 (([x_1, r_5.1, e_9] : List (List Manifest)).length : Int)), (48, .int .i64 (k_11 : Int))], hL [(0, .row 1 (([x_0, r_4.1, r_6.1] : List (List Manifest)).map (lA 7 encManifest))), (1, .row 1 (([x_1, r_5.1, e_9] : List (List Manifest)).map (lA 7 encManifest)))], 2⟩
        conv => whnf
        refine ⟨fun h => ?_, fun h => ?_⟩
        · have hlt_k_11 : k_11 < ([x_1, r_5.1, e_9] : List (List Manifest)).length := by have h := of_decide_eq_true h; omega
          obtain ⟨e_12, h_e_12⟩ : ∃ y, ([x_1, r_5.1, e_9] : List (List Manifest))[k_11]? = some y := ⟨_, List.getElem?_eq_getElem hlt_k_11⟩
          rw [drop_cons h_e_12, law25_BoardingJoins_L2.eq_2] at hL2
          conv => whnf
          refine ⟨k_11, rfl, by rw [List.length_map]; exact hlt_k_11, ?_⟩
          conv => whnf
          refine ⟨_, ix_map (enc := (lA 7 encManifest)) h_e_12, ?_⟩
          conv => whnf
          obtain ⟨r_13, h_r_13, hL2⟩ := bind_some hL2
          refine ⟨_, _, _, _, _, _, _, _, _, callX false [] [] 0 Try.func30 (by decide) rfl (boarding_Join_ac e_9 e_12 r_13 h_r_13) rfl ⟨(argE (by (conv => lhs; whnf); all_goals rfl) rfl), (argE (by (conv => lhs; whnf); all_goals rfl) rfl), trivial⟩ rfl trivial rfl rfl rfl lend0 trivial rfl, ?_⟩
          conv => whnf
          obtain ⟨r_14, h_r_14, hL2⟩ := bind_some hL2
          refine ⟨_, _, _, _, _, _, _, _, _, callX false [] [] 0 Try.func31 (by decide) rfl (ref25_Join_ac e_9 e_12 r_14 h_r_14) rfl ⟨(argE (by (conv => lhs; whnf); all_goals rfl) rfl), (argE (by (conv => lhs; whnf); all_goals rfl) rfl), trivial⟩ rfl trivial rfl rfl rfl lend0 trivial rfl, ?_⟩
          conv => whnf
          refine ⟨fun hb_41 => ?_, fun hb_41 => ?_⟩
          · replace hL2 := cond_f hb_41 hL2
            conv => whnf
            obtain ⟨r_15, h_r_15, hL2⟩ := bind_some hL2
            refine ⟨_, _, _, _, _, _, _, _, _, callX false [] [] 0 Try.func27 (by decide) rfl (ref25_SameAll_ac r_13.1 r_14.1 r_15 h_r_15) rfl ⟨(argE (by (conv => lhs; whnf); all_goals rfl) rfl), (argE (by (conv => lhs; whnf); all_goals rfl) rfl), trivial⟩ rfl trivial rfl rfl rfl lend0 trivial rfl, ?_⟩
            conv => whnf
            refine ⟨fun hb_42 => ?_, fun hb_42 => ?_⟩
            · replace hL2 := cond_t hb_42 hL2
              conv => whnf
              obtain rfl := Option.some.inj hL2
              replace hL1 := sub_ret hL1
              obtain rfl := Option.some.inj hL1
              replace hF := fin_ret hF
              obtain rfl := Option.some.inj hF
              exact ret_gz [] [] [] rfl (argFl (by (conv => lhs; whnf); all_goals rfl)) trivial
            · replace hL2 := cond_f hb_42 hL2
              conv => whnf
              refine ⟨((k_11 + 1 : Nat) : Int), wrapE (by omega) (by omega) (by omega), ?_⟩
              conv => whnf
              exact ⟨k_11 + 1, [0, 1], [], [], ⟨hlt_k_11, hL2⟩, by show ([x_1, r_5.1, e_9] : List (List Manifest)).length - (k_11 + 1) < ([x_1, r_5.1, e_9] : List (List Manifest)).length - k_11; omega, wk_mk [0, 1] [] [] rfl ⟨argE (by (conv => lhs; whnf); all_goals rfl) rfl, argE (by (conv => lhs; whnf); all_goals rfl) rfl, argE (by (conv => lhs; whnf); all_goals rfl) rfl, argO (id := 0) (by (conv => lhs; whnf); all_goals rfl) rfl, argE (by (conv => lhs; whnf); all_goals rfl) rfl, argE (by (conv => lhs; whnf); all_goals rfl) rfl, argO (id := 1) (by (conv => lhs; whnf); all_goals rfl) rfl, argE (by (conv => lhs; whnf); all_goals rfl) rfl, argE (by (conv => lhs; whnf); all_goals rfl) rfl, trivial⟩ ⟨blkR (fun _ => ⟨rfl, rfl⟩) rfl rfl, blkR (fun _ => ⟨rfl, rfl⟩) rfl rfl, trivial⟩⟩
          · replace hL2 := cond_t hb_41 hL2
            conv => whnf
            obtain rfl := Option.some.inj hL2
            replace hL1 := sub_ret hL1
            obtain rfl := Option.some.inj hL1
            replace hF := fin_ret hF
            obtain rfl := Option.some.inj hF
            exact ret_gz [] [] [] rfl (argFl (by (conv => lhs; whnf); all_goals rfl)) trivial
        · rw [drop_nil (show ([x_1, r_5.1, e_9] : List (List Manifest)).length ≤ k_11 by have h := of_decide_eq_false h; omega), law25_BoardingJoins_L2.eq_1] at hL2
          conv => whnf
          obtain rfl := Option.some.inj hL2
          replace hL1 := sub_brk hL1
          try dsimp only at hL1
          refine ⟨((k_8 + 1 : Nat) : Int), wrapE (by omega) (by omega) (by omega), ?_⟩
          conv => whnf
          exact ⟨k_8 + 1, [0], [], [], ⟨hlt_k_8, hL1⟩, by show ([x_0, r_4.1, r_6.1] : List (List Manifest)).length - (k_8 + 1) < ([x_0, r_4.1, r_6.1] : List (List Manifest)).length - k_8; omega, wk_mk [0] [] [] rfl ⟨argE (by (conv => lhs; whnf); all_goals rfl) rfl, argE (by (conv => lhs; whnf); all_goals rfl) rfl, argO (id := 0) (by (conv => lhs; whnf); all_goals rfl) rfl, argE (by (conv => lhs; whnf); all_goals rfl) rfl, argE (by (conv => lhs; whnf); all_goals rfl) rfl, trivial⟩ ⟨blkR (fun _ => ⟨rfl, rfl⟩) rfl rfl, trivial⟩⟩
      · rw [drop_nil (show ([x_0, r_4.1, r_6.1] : List (List Manifest)).length ≤ k_8 by have h := of_decide_eq_false h; omega), law25_BoardingJoins_L1.eq_1] at hL1
        conv => whnf
        obtain rfl := Option.some.inj hL1
        replace hF := fin_brk hF
        try dsimp only at hF
        obtain ⟨r_20, h_r_20, hF⟩ := bind_some hF
        refine ⟨_, _, _, _, _, _, _, _, _, callX false [] [] 0 Try.func20 (by decide) rfl (law25_awake_ac r_20 h_r_20) rfl trivial rfl trivial rfl rfl rfl lend0 trivial rfl, ?_⟩
        conv => whnf
        obtain rfl := Option.some.inj hF
        exact ret_gz [] [] [] rfl (argE (by (conv => lhs; whnf); all_goals rfl) rfl) trivial
  · replace hF := cond_t hb_39 hF
    conv => whnf
    obtain rfl := Option.some.inj hF
    exact ret_gz [] [] [] rfl (argT (by (conv => lhs; whnf); all_goals rfl)) trivial
end Go.Proofs.Ytajmhegkkbnkcaa.Ex
