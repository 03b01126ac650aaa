/- The functions of the program compute what was printed; walks printed by a program. -/
import Derived.Test.YtkajegjghfbgaaaExF
import Derived.Test.YtkajegjghfbgaaaExP1
import Derived.Test.YtkajegjghfbgaaaExP2
namespace Go.Proofs.Ytkajegjghfbgaaa.Ex
open Go.RowKit Go.Proofs.Ytkajegjghfbgaaa.Ax
set_option linter.unusedVariables false
set_option linter.unusedSimpArgs false
set_option maxRecDepth 100000 in
set_option maxHeartbeats 40000000 in
theorem law24_ConnectValidates_ac (x_0 : (List Minimum)) (x_1 : (List Int)) (x_2 : Int) (x_3 : Int) (r : Bool) (hF : law24_ConnectValidates x_0 x_1 x_2 x_3 = some r) : AC Try.prog 3 [.lst 3 (x_0.map encMinimum), .lst 1 (x_1.map iA), .int .i64 x_2, .int .i64 x_3] [] (.bool r) [] := by
  refine ac_of tab_ok follows_ok Try.func3 rfl Try.ntmps3 rfl ?_
  unfold law24_ConnectValidates at hF
  conv => whnf
  obtain ⟨r_1, h_r_1, hF⟩ := bind_some hF
  refine ⟨_, _, _, _, _, _, _, _, _, callX false [] [] 1 Try.func11 (by decide) rfl (keep_New_ac x_1 r_1 h_r_1) rfl ⟨(argE (by (conv => lhs; whnf); all_goals rfl) rfl), trivial⟩ rfl trivial rfl rfl rfl lend0 ⟨rfl, trivial⟩ rfl, ?_⟩
  conv => whnf
  obtain ⟨r_2, h_r_2, hF⟩ := bind_some hF
  refine ⟨_, _, _, _, _, _, _, _, _, callX false [0] [] 0 Try.func12 (by decide) rfl (keep_Src_Minimums_ac r_1 r_2 h_r_2) rfl ⟨(argP (id := 0) (by (conv => lhs; whnf); all_goals rfl) rfl), trivial⟩ rfl ⟨rfl, trivial⟩ rfl rfl rfl lend0 ⟨rfl, trivial⟩ rfl, ?_⟩
  conv => whnf
  refine len_q (enc := encMinimum) (l := x_0) rfl ?_
  conv => whnf
  obtain ⟨l_3, h_l_3, hF⟩ := bind_some hF
  refine sl_q0 (enc := encMinimum) (l := x_0) h_l_3 rfl ?_
  conv => whnf
  obtain ⟨r_4, h_r_4, hF⟩ := bind_some hF
  refine ⟨_, _, _, _, _, _, _, _, _, callX false [0] [] 0 Try.func13 (by decide) rfl (law24_spoilt_ac r_2.2 r_2.1 r_4 h_r_4) rfl ⟨(argP (id := 0) (by (conv => lhs; whnf); all_goals rfl) rfl), (argE (by (conv => lhs; whnf); all_goals rfl) rfl), trivial⟩ rfl ⟨rfl, trivial⟩ rfl rfl rfl lend0 ⟨rfl, trivial⟩ rfl, ?_⟩
  conv => whnf
  refine len_q (enc := (lA 3 encMinimum)) (l := ([l_3, r_2.1, r_4.1] : List (List Minimum))) rfl ?_
  conv => whnf
  refine ⟨by kernel_rfl, ?_⟩
  conv => whnf
  obtain ⟨c_1, hc_1, hF⟩ := fin_some hF
  refine sw_br 4 (sz := 1) (xs := ([l_3, r_2.1, r_4.1] : List (List Minimum)).map (lA 3 encMinimum)) (by (conv => lhs; whnf); all_goals rfl) (fun hb => ?_)
  have hbd_k_6 : ([l_3, r_2.1, r_4.1] : List (List Minimum)).length ≤ 9223372036854775807 := bnd_len (enc := (lA 3 encMinimum)) (hb)
  refine sw_loop tab_ok follows_ok (fun y : Nat => y ≤ ([l_3, r_2.1, r_4.1] : List (List Minimum)).length ∧ law24_ConnectValidates_L1 x_2 x_3 (([l_3, r_2.1, r_4.1] : List (List Minimum)).drop y) y = some c_1) (fun y => ⟨eL [(2, .int .i64 x_2), (3, .int .i64 x_3), (36, .osl 0), (37, .int .i64 (([l_3, r_2.1, r_4.1] : List (List Minimum)).length : Int)), (38, .int .i64 (y : Int))], hL [(0, .row 1 (([l_3, r_2.1, r_4.1] : List (List Minimum)).map (lA 3 encMinimum)))], 1⟩) (fun y => ([l_3, r_2.1, r_4.1] : List (List Minimum)).length - y) 0 ⟨Nat.zero_le _, hc_1⟩ (wk_mk [4] [] [] rfl ⟨argE (by (conv => lhs; whnf); all_goals rfl) rfl, argE (by (conv => lhs; whnf); all_goals rfl) rfl, argO (id := 4) (by (conv => lhs; whnf); all_goals rfl) rfl, argE (by (conv => lhs; whnf); all_goals rfl) rfl, argE (by (conv => lhs; whnf); all_goals rfl) rfl, trivial⟩ ⟨blkR (fun _ => ⟨rfl, rfl⟩) rfl rfl, trivial⟩) ?_
  rintro k_6 ⟨hk_k_6, hL1⟩
  try dsimp only at hk_k_6 hL1
  show awp _ _ _ _ _ _ ⟨eL [(2, .int .i64 x_2), (3, .int .i64 x_3), (36, .osl 0), (37, .int .i64 (([l_3, r_2.1, r_4.1] : List (List Minimum)).length : Int)), (38, .int .i64 (k_6 : Int))], hL [(0, .row 1 (([l_3, r_2.1, r_4.1] : List (List Minimum)).map (lA 3 encMinimum)))], 1⟩
  conv => whnf
  refine ⟨fun h => ?_, fun h => ?_⟩
  · have hlt_k_6 : k_6 < ([l_3, r_2.1, r_4.1] : List (List Minimum)).length := by have h := of_decide_eq_true h; omega
    obtain ⟨e_7, h_e_7⟩ : ∃ y, ([l_3, r_2.1, r_4.1] : List (List Minimum))[k_6]? = some y := ⟨_, List.getElem?_eq_getElem hlt_k_6⟩
    rw [drop_cons h_e_7, law24_ConnectValidates_L1.eq_2] at hL1
    conv => whnf
    refine ⟨k_6, rfl, by rw [List.length_map]; exact hlt_k_6, ?_⟩
    conv => whnf
    refine ⟨_, ix_map (enc := (lA 3 encMinimum)) h_e_7, ?_⟩
    conv => whnf
    obtain ⟨r_8, h_r_8, hL1⟩ := bind_some hL1
    refine ⟨_, _, _, _, _, _, _, _, _, callX false [] [] 0 Try.func14 (by decide) rfl (connect_Validate_ac e_7 r_8 h_r_8) rfl ⟨(argE (by (conv => lhs; whnf); all_goals rfl) rfl), trivial⟩ rfl trivial rfl rfl rfl lend0 trivial rfl, ?_⟩
    conv => whnf
    obtain ⟨r_9, h_r_9, hL1⟩ := bind_some hL1
    refine ⟨_, _, _, _, _, _, _, _, _, callX false [] [] 0 Try.func15 (by decide) rfl (ref24_Validate_ac e_7 r_9 h_r_9) rfl ⟨(argE (by (conv => lhs; whnf); all_goals rfl) rfl), trivial⟩ rfl trivial rfl rfl rfl lend0 trivial rfl, ?_⟩
    conv => whnf
    refine ⟨fun hb_155 => ?_, fun hb_155 => ?_⟩
    · replace hL1 := cond_t hb_155 hL1
      conv => whnf
      obtain rfl := Option.some.inj hL1
      replace hF := fin_ret hF
      obtain rfl := Option.some.inj hF
      exact ret_gz [] [] [] rfl (argFl (by (conv => lhs; whnf); all_goals rfl)) trivial
    · replace hL1 := cond_f hb_155 hL1
      conv => whnf
      obtain ⟨c_2, hc_2, hL1⟩ := sub_some hL1
      refine sw_loop tab_ok follows_ok (fun y : Nat × Int => law24_ConnectValidates_L2 e_7 y.1 y.2 = some c_2) (fun y => ⟨eL [(2, .int .i64 x_2), (3, .int .i64 x_3), (12, .lst 3 (e_7.map encMinimum)), (13, .int .i64 y.2), (36, .osl 0), (37, .int .i64 (([l_3, r_2.1, r_4.1] : List (List Minimum)).length : Int)), (38, .int .i64 (k_6 : Int))], hL [(0, .row 1 (([l_3, r_2.1, r_4.1] : List (List Minimum)).map (lA 3 encMinimum)))], 1⟩) (fun y => y.1) (9223372036854775807, (-1 : Int)) hc_2 (wk_mk [0] [] [] rfl ⟨argE (by (conv => lhs; whnf); all_goals rfl) rfl, argE (by (conv => lhs; whnf); all_goals rfl) rfl, argE (by (conv => lhs; whnf); all_goals rfl) rfl, argE (by (conv => lhs; whnf); all_goals rfl) rfl, argO (id := 0) (by (conv => lhs; whnf); all_goals rfl) rfl, argE (by (conv => lhs; whnf); all_goals rfl) rfl, argE (by (conv => lhs; whnf); all_goals rfl) rfl, trivial⟩ ⟨blkR (fun _ => ⟨rfl, rfl⟩) rfl rfl, trivial⟩) ?_
      rintro ⟨q_16, i_10⟩ hL2
      try dsimp only at hL2
      rcases q_16 with _ | q_16
      · rw [law24_ConnectValidates_L2.eq_1] at hL2
        cases hL2
      rw [law24_ConnectValidates_L2.eq_2] at hL2
      show awp _ _ _ _ _ _ ⟨eL [(2, .int .i64 x_2), (3, .int .i64 x_3), (12, .lst 3 (e_7.map encMinimum)), (13, .int .i64 i_10), (36, .osl 0), (37, .int .i64 (([l_3, r_2.1, r_4.1] : List (List Minimum)).length : Int)), (38, .int .i64 (k_6 : Int))], hL [(0, .row 1 (([l_3, r_2.1, r_4.1] : List (List Minimum)).map (lA 3 encMinimum)))], 1⟩
      conv => whnf
      refine ⟨fun hb_156 => ?_, fun hb_156 => ?_⟩
      · replace hL2 := cond_t hb_156 hL2
        conv => whnf
        obtain ⟨c_3, hc_3, hL2⟩ := sub_some hL2
        refine sw_loop tab_ok follows_ok (fun y : Nat × Int => law24_ConnectValidates_L3 e_7 i_10 y.1 y.2 = some c_3) (fun y => ⟨eL [(2, .int .i64 x_2), (3, .int .i64 x_3), (12, .lst 3 (e_7.map encMinimum)), (13, .int .i64 i_10), (14, .int .i64 y.2), (36, .osl 0), (37, .int .i64 (([l_3, r_2.1, r_4.1] : List (List Minimum)).length : Int)), (38, .int .i64 (k_6 : Int))], hL [(0, .row 1 (([l_3, r_2.1, r_4.1] : List (List Minimum)).map (lA 3 encMinimum)))], 1⟩) (fun y => y.1) (9223372036854775807, (-1 : Int)) hc_3 (wk_mk [0] [] [] rfl ⟨argE (by (conv => lhs; whnf); all_goals rfl) rfl, argE (by (conv => lhs; whnf); all_goals rfl) rfl, argE (by (conv => lhs; whnf); all_goals rfl) rfl, argE (by (conv => lhs; whnf); all_goals rfl) rfl, argE (by (conv => lhs; whnf); all_goals rfl) rfl, argO (id := 0) (by (conv => lhs; whnf); all_goals rfl) rfl, argE (by (conv => lhs; whnf); all_goals rfl) rfl, argE (by (conv => lhs; whnf); all_goals rfl) rfl, trivial⟩ ⟨blkR (fun _ => ⟨rfl, rfl⟩) rfl rfl, trivial⟩) ?_
        rintro ⟨q_14, i_11⟩ hL3
        try dsimp only at hL3
        rcases q_14 with _ | q_14
        · rw [law24_ConnectValidates_L3.eq_1] at hL3
          cases hL3
        rw [law24_ConnectValidates_L3.eq_2] at hL3
        show awp _ _ _ _ _ _ ⟨eL [(2, .int .i64 x_2), (3, .int .i64 x_3), (12, .lst 3 (e_7.map encMinimum)), (13, .int .i64 i_10), (14, .int .i64 i_11), (36, .osl 0), (37, .int .i64 (([l_3, r_2.1, r_4.1] : List (List Minimum)).length : Int)), (38, .int .i64 (k_6 : Int))], hL [(0, .row 1 (([l_3, r_2.1, r_4.1] : List (List Minimum)).map (lA 3 encMinimum)))], 1⟩
        conv => whnf
        refine ⟨fun hb_157 => ?_, fun hb_157 => ?_⟩
        · replace hL3 := cond_t hb_157 hL3
          conv => whnf
          obtain ⟨r_12, h_r_12, hL3⟩ := bind_some hL3
          refine ⟨_, _, _, _, _, _, _, _, _, callX false [] [] 0 Try.func16 (by decide) rfl (connect_Least_ac e_7 i_10 i_11 r_12 h_r_12) rfl ⟨(argE (by (conv => lhs; whnf); all_goals rfl) rfl), (argE (by (conv => lhs; whnf); all_goals rfl) rfl), (argE (by (conv => lhs; whnf); all_goals rfl) rfl), trivial⟩ rfl trivial rfl rfl rfl lend0 trivial rfl, ?_⟩
          conv => whnf
          obtain ⟨r_13, h_r_13, hL3⟩ := bind_some hL3
          refine ⟨_, _, _, _, _, _, _, _, _, callX false [] [] 0 Try.func17 (by decide) rfl (ref24_Least_ac e_7 i_10 i_11 r_13 h_r_13) rfl ⟨(argE (by (conv => lhs; whnf); all_goals rfl) rfl), (argE (by (conv => lhs; whnf); all_goals rfl) rfl), (argE (by (conv => lhs; whnf); all_goals rfl) rfl), trivial⟩ rfl trivial rfl rfl rfl lend0 trivial rfl, ?_⟩
          conv => whnf
          refine ⟨fun hb_158 => ?_, fun hb_158 => ?_⟩
          · replace hL3 := cond_f hb_158 hL3
            conv => whnf
            refine ⟨fun hb_159 => ?_, fun hb_159 => ?_⟩
            · replace hL3 := cond_t hb_159 hL3
              conv => whnf
              obtain rfl := Option.some.inj hL3
              replace hL2 := sub_ret hL2
              obtain rfl := Option.some.inj hL2
              replace hL1 := sub_ret hL1
              obtain rfl := Option.some.inj hL1
              replace hF := fin_ret hF
              obtain rfl := Option.some.inj hF
              exact ret_gz [] [] [] rfl (argFl (by (conv => lhs; whnf); all_goals rfl)) trivial
            · replace hL3 := cond_f hb_159 hL3
              conv => whnf
              refine ⟨_, rfl, ?_⟩
              conv => whnf
              exact ⟨(q_14, (w64 (i_11 + (1 : Int)))), [0], [], [], hL3, Nat.lt_succ_self _, wk_mk [0] [] [] rfl ⟨argE (by (conv => lhs; whnf); all_goals rfl) rfl, argE (by (conv => lhs; whnf); all_goals rfl) rfl, argE (by (conv => lhs; whnf); all_goals rfl) rfl, argE (by (conv => lhs; whnf); all_goals rfl) rfl, argE (by (conv => lhs; whnf); all_goals rfl) rfl, argO (id := 0) (by (conv => lhs; whnf); all_goals rfl) rfl, argE (by (conv => lhs; whnf); all_goals rfl) rfl, argE (by (conv => lhs; whnf); all_goals rfl) rfl, trivial⟩ ⟨blkR (fun _ => ⟨rfl, rfl⟩) rfl rfl, trivial⟩⟩
          · replace hL3 := cond_t hb_158 hL3
            conv => whnf
            obtain rfl := Option.some.inj hL3
            replace hL2 := sub_ret hL2
            obtain rfl := Option.some.inj hL2
            replace hL1 := sub_ret hL1
            obtain rfl := Option.some.inj hL1
            replace hF := fin_ret hF
            obtain rfl := Option.some.inj hF
            exact ret_gz [] [] [] rfl (argFl (by (conv => lhs; whnf); all_goals rfl)) trivial
        · replace hL3 := cond_f hb_157 hL3
          conv => whnf
          obtain rfl := Option.some.inj hL3
          replace hL2 := sub_brk hL2
          try dsimp only at hL2
          refine ⟨_, rfl, ?_⟩
          conv => whnf
          exact ⟨(q_16, (w64 (i_10 + (1 : Int)))), [0], [], [], hL2, Nat.lt_succ_self _, wk_mk [0] [] [] rfl ⟨argE (by (conv => lhs; whnf); all_goals rfl) rfl, argE (by (conv => lhs; whnf); all_goals rfl) rfl, argE (by (conv => lhs; whnf); all_goals rfl) rfl, argE (by (conv => lhs; whnf); all_goals rfl) rfl, argO (id := 0) (by (conv => lhs; whnf); all_goals rfl) rfl, argE (by (conv => lhs; whnf); all_goals rfl) rfl, argE (by (conv => lhs; whnf); all_goals rfl) rfl, trivial⟩ ⟨blkR (fun _ => ⟨rfl, rfl⟩) rfl rfl, trivial⟩⟩
      · replace hL2 := cond_f hb_156 hL2
        conv => whnf
        obtain rfl := Option.some.inj hL2
        replace hL1 := sub_brk hL1
        try dsimp only at hL1
        obtain ⟨r_18, h_r_18, hL1⟩ := bind_some hL1
        refine ⟨_, _, _, _, _, _, _, _, _, callX false [] [] 0 Try.func16 (by decide) rfl (connect_Least_ac e_7 x_2 x_3 r_18 h_r_18) rfl ⟨(argE (by (conv => lhs; whnf); all_goals rfl) rfl), (argE (by (conv => lhs; whnf); all_goals rfl) rfl), (argE (by (conv => lhs; whnf); all_goals rfl) rfl), trivial⟩ rfl trivial rfl rfl rfl lend0 trivial rfl, ?_⟩
        conv => whnf
        obtain ⟨r_19, h_r_19, hL1⟩ := bind_some hL1
        refine ⟨_, _, _, _, _, _, _, _, _, callX false [] [] 0 Try.func17 (by decide) rfl (ref24_Least_ac e_7 x_2 x_3 r_19 h_r_19) rfl ⟨(argE (by (conv => lhs; whnf); all_goals rfl) rfl), (argE (by (conv => lhs; whnf); all_goals rfl) rfl), (argE (by (conv => lhs; whnf); all_goals rfl) rfl), trivial⟩ rfl trivial rfl rfl rfl lend0 trivial rfl, ?_⟩
        conv => whnf
        refine ⟨fun hb_160 => ?_, fun hb_160 => ?_⟩
        · replace hL1 := cond_f hb_160 hL1
          conv => whnf
          refine ⟨fun hb_161 => ?_, fun hb_161 => ?_⟩
          · replace hL1 := cond_t hb_161 hL1
            conv => whnf
            obtain rfl := Option.some.inj hL1
            replace hF := fin_ret hF
            obtain rfl := Option.some.inj hF
            exact ret_gz [] [] [] rfl (argFl (by (conv => lhs; whnf); all_goals rfl)) trivial
          · replace hL1 := cond_f hb_161 hL1
            conv => whnf
            refine ⟨((k_6 + 1 : Nat) : Int), wrapE (by omega) (by omega) (by omega), ?_⟩
            conv => whnf
            exact ⟨k_6 + 1, [0], [], [], ⟨hlt_k_6, hL1⟩, by show ([l_3, r_2.1, r_4.1] : List (List Minimum)).length - (k_6 + 1) < ([l_3, r_2.1, r_4.1] : List (List Minimum)).length - k_6; omega, wk_mk [0] [] [] rfl ⟨argE (by (conv => lhs; whnf); all_goals rfl) rfl, argE (by (conv => lhs; whnf); all_goals rfl) rfl, argO (id := 0) (by (conv => lhs; whnf); all_goals rfl) rfl, argE (by (conv => lhs; whnf); all_goals rfl) rfl, argE (by (conv => lhs; whnf); all_goals rfl) rfl, trivial⟩ ⟨blkR (fun _ => ⟨rfl, rfl⟩) rfl rfl, trivial⟩⟩
        · replace hL1 := cond_t hb_160 hL1
          conv => whnf
          obtain rfl := Option.some.inj hL1
          replace hF := fin_ret hF
          obtain rfl := Option.some.inj hF
          exact ret_gz [] [] [] rfl (argFl (by (conv => lhs; whnf); all_goals rfl)) trivial
  · rw [drop_nil (show ([l_3, r_2.1, r_4.1] : List (List Minimum)).length ≤ k_6 by have h := of_decide_eq_false h; omega), law24_ConnectValidates_L1.eq_1] at hL1
    conv => whnf
    obtain rfl := Option.some.inj hL1
    replace hF := fin_brk hF
    try dsimp only at hF
    obtain ⟨r_22, h_r_22, hF⟩ := bind_some hF
    refine ⟨_, _, _, _, _, _, _, _, _, callX false [] [] 0 Try.func18 (by decide) rfl (law24_awake_ac r_22 h_r_22) rfl trivial rfl trivial rfl rfl rfl lend0 trivial rfl, ?_⟩
    conv => whnf
    obtain rfl := Option.some.inj hF
    exact ret_gz [] [] [] rfl (argE (by (conv => lhs; whnf); all_goals rfl) rfl) trivial
end Go.Proofs.Ytkajegjghfbgaaa.Ex
