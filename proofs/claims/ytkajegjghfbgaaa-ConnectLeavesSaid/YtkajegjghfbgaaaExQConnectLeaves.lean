/- The functions of the program compute what was printed; walks printed by a program. -/
import Derived.Test.YtkajegjghfbgaaaExF
import Derived.Test.YtkajegjghfbgaaaExP1
import Derived.Test.YtkajegjghfbgaaaExP2
namespace Go.Proofs.Ytkajegjghfbgaaa.Ex
open Go.RowKit Go.Proofs.Ytkajegjghfbgaaa.Ax
set_option linter.unusedVariables false
set_option linter.unusedSimpArgs false
set_option maxRecDepth 100000 in
set_option maxHeartbeats 40000000 in
theorem law24_ConnectLeaves_ac (x_0 : (List Int)) (r : Bool) (hF : law24_ConnectLeaves x_0 = some r) : AC Try.prog 10 [.lst 1 (x_0.map iA)] [] (.bool r) [] := by
  refine ac_of tab_ok follows_ok Try.func10 rfl Try.ntmps10 rfl ?_
  unfold law24_ConnectLeaves at hF
  conv => whnf
  obtain ⟨r_1, h_r_1, hF⟩ := bind_some hF
  refine ⟨_, _, _, _, _, _, _, _, _, callX false [] [] 1 Try.func11 (by decide) rfl (keep_New_ac x_0 r_1 h_r_1) rfl ⟨(argE (by (conv => lhs; whnf); all_goals rfl) rfl), trivial⟩ rfl trivial rfl rfl rfl lend0 ⟨rfl, trivial⟩ rfl, ?_⟩
  conv => whnf
  obtain ⟨r_2, h_r_2, hF⟩ := bind_some hF
  refine ⟨_, _, _, _, _, _, _, _, _, callX false [0] [] 0 Try.func12 (by decide) rfl (keep_Src_Minimums_ac r_1 r_2 h_r_2) rfl ⟨(argP (id := 0) (by (conv => lhs; whnf); all_goals rfl) rfl), trivial⟩ rfl ⟨rfl, trivial⟩ rfl rfl rfl lend0 ⟨rfl, trivial⟩ rfl, ?_⟩
  conv => whnf
  obtain ⟨r_3, h_r_3, hF⟩ := bind_some hF
  refine ⟨_, _, _, _, _, _, _, _, _, callX false [0] [] 0 Try.func20 (by decide) rfl (keep_Src_Holds_ac r_2.2 (5 : Int) r_3 h_r_3) rfl ⟨(argP (id := 0) (by (conv => lhs; whnf); all_goals rfl) rfl), (argE (by (conv => lhs; whnf); all_goals rfl) rfl), trivial⟩ rfl ⟨rfl, trivial⟩ rfl rfl rfl lend0 ⟨rfl, trivial⟩ rfl, ?_⟩
  conv => whnf
  obtain ⟨r_4, h_r_4, hF⟩ := bind_some hF
  refine ⟨_, _, _, _, _, _, _, _, _, callX false [0] [] 0 Try.func21 (by decide) rfl (keep_Src_Connections_v2_ac r_3.2 (25 : Int) r_4 h_r_4) rfl ⟨(argP (id := 0) (by (conv => lhs; whnf); all_goals rfl) rfl), (argE (by (conv => lhs; whnf); all_goals rfl) rfl), trivial⟩ rfl ⟨rfl, trivial⟩ rfl rfl rfl lend0 ⟨rfl, trivial⟩ rfl, ?_⟩
  conv => whnf
  obtain ⟨r_5, h_r_5, hF⟩ := bind_some hF
  refine ⟨_, _, _, _, _, _, _, _, _, callX false [0] [] 0 Try.func22 (by decide) rfl (keep_Src_N_ac r_4.2 (60 : Int) r_5 h_r_5) rfl ⟨(argP (id := 0) (by (conv => lhs; whnf); all_goals rfl) rfl), (argE (by (conv => lhs; whnf); all_goals rfl) rfl), trivial⟩ rfl ⟨rfl, trivial⟩ rfl rfl rfl lend0 ⟨rfl, trivial⟩ rfl, ?_⟩
  conv => whnf
  refine ⟨_, rfl, ?_⟩
  conv => whnf
  obtain ⟨r_6, h_r_6, hF⟩ := bind_some hF
  refine ⟨_, _, _, _, _, _, _, _, _, callX false [] [] 0 Try.func23 (by decide) rfl (connect_Decide_ac r_2.1 r_3.1 r_4.1 (w64 ((40 : Int) + r_5.1)) r_6 h_r_6) rfl ⟨(argE (by (conv => lhs; whnf); all_goals rfl) rfl), (argE (by (conv => lhs; whnf); all_goals rfl) rfl), (argE (by (conv => lhs; whnf); all_goals rfl) rfl), (argE (by (conv => lhs; whnf); all_goals rfl) rfl), trivial⟩ rfl trivial rfl rfl rfl lend0 trivial rfl, ?_⟩
  conv => whnf
  refine ⟨fun hb_16 => ?_, fun hb_16 => ?_⟩
  · replace hF := cond_f hb_16 hF
    conv => whnf
    refine ⟨fun hb_17 => ?_, fun hb_17 => ?_⟩
    · replace hF := cond_f hb_17 hF
      conv => whnf
      refine ⟨fun hb_18 => ?_, fun hb_18 => ?_⟩
      · replace hF := cond_f hb_18 hF
        conv => whnf
        refine len_q (enc := encHoldRule) (l := r_3.1) rfl ?_
        conv => whnf
        refine ⟨fun hb_19 => ?_, fun hb_19 => ?_⟩
        · replace hF := cond_t hb_19 hF
          conv => whnf
          obtain rfl := Option.some.inj hF
          exact ret_gz [] [] [] rfl (argFl (by (conv => lhs; whnf); all_goals rfl)) trivial
        · replace hF := cond_f hb_19 hF
          conv => whnf
          refine len_q (enc := encConnecting) (l := r_4.1) rfl ?_
          conv => whnf
          obtain ⟨c_1, hc_1, hF⟩ := fin_some hF
          refine sw_bv 6 (v := .lst 7 (r_4.1.map encConnecting)) (by (conv => lhs; whnf); all_goals rfl) (fun hb => ?_)
          have hbd_k_9 : r_4.1.length ≤ 9223372036854775807 := bnd_len (enc := encConnecting) (hb)
          refine sw_loop tab_ok follows_ok (fun y : Nat × (List Plate) => y.1 ≤ r_4.1.length ∧ law24_ConnectLeaves_L1 r_2 r_5 r_6 (r_4.1.drop y.1) y.1 y.2 = some c_1) (fun y => ⟨eL [(4, .lst 3 (r_2.1.map encMinimum)), (7, .int .i64 (w64 ((40 : Int) + r_5.1))), (8, .ptr 0 0), (10, .osl 1), (53, .lst 7 (r_4.1.map encConnecting)), (54, .int .i64 (r_4.1.length : Int)), (55, .int .i64 (y.1 : Int))], hL [(0, .box [.int .i64 r_6.1.Wait, .int .i64 r_6.1.Rule, .lst 3 (r_6.1.Left.map encPlate)]), (1, .row 3 (y.2.map encPlate))], 2⟩) (fun y => r_4.1.length - y.1) (0, ([] : List Plate)) ⟨Nat.zero_le _, hc_1⟩ (wk_mk [7] [1] [] rfl ⟨argE (by (conv => lhs; whnf); all_goals rfl) rfl, argE (by (conv => lhs; whnf); all_goals rfl) rfl, argP (id := 7) (by (conv => lhs; whnf); all_goals rfl) rfl, argZ (by (conv => lhs; whnf); all_goals rfl) rfl, argE (by (conv => lhs; whnf); all_goals rfl) rfl, argE (by (conv => lhs; whnf); all_goals rfl) rfl, argE (by (conv => lhs; whnf); all_goals rfl) rfl, trivial⟩ ⟨boxL rfl rfl rfl ⟨(.ni _ rfl), (.ni _ rfl), (.ni _ rfl), trivial⟩, blkZ rfl, trivial⟩) ?_
          rintro ⟨k_9, a_7⟩ ⟨hk_k_9, hL1⟩
          try dsimp only at hk_k_9 hL1
          show awp _ _ _ _ _ _ ⟨eL [(4, .lst 3 (r_2.1.map encMinimum)), (7, .int .i64 (w64 ((40 : Int) + r_5.1))), (8, .ptr 0 0), (10, .osl 1), (53, .lst 7 (r_4.1.map encConnecting)), (54, .int .i64 (r_4.1.length : Int)), (55, .int .i64 (k_9 : Int))], hL [(0, .box [.int .i64 r_6.1.Wait, .int .i64 r_6.1.Rule, .lst 3 (r_6.1.Left.map encPlate)]), (1, .row 3 (a_7.map encPlate))], 2⟩
          conv => whnf
          refine ⟨fun h => ?_, fun h => ?_⟩
          · have hlt_k_9 : k_9 < r_4.1.length := by have h := of_decide_eq_true h; omega
            obtain ⟨e_10, h_e_10⟩ : ∃ y, r_4.1[k_9]? = some y := ⟨_, List.getElem?_eq_getElem hlt_k_9⟩
            rw [drop_cons h_e_10, law24_ConnectLeaves_L1.eq_2] at hL1
            conv => whnf
            refine ⟨k_9, _, rfl, ix_map h_e_10, ?_⟩
            conv => whnf
            obtain ⟨r_11, h_r_11, hL1⟩ := bind_some hL1
            refine ⟨_, _, _, _, _, _, _, _, _, callX false [] [] 0 Try.func26 (by decide) rfl (connect_Slack_ac r_2.1 e_10 (w64 ((40 : Int) + r_5.1)) r_11 h_r_11) rfl ⟨(argE (by (conv => lhs; whnf); all_goals rfl) rfl), (argE (by (conv => lhs; whnf); all_goals rfl) rfl), (argE (by (conv => lhs; whnf); all_goals rfl) rfl), trivial⟩ rfl trivial rfl rfl rfl lend0 trivial rfl, ?_⟩
            conv => whnf
            refine ⟨fun hb_20 => ?_, fun hb_20 => ?_⟩
            · replace hL1 := cond_f hb_20 hL1
              conv => whnf
              obtain ⟨r_13, h_r_13, hL1⟩ := bind_some hL1
              refine ⟨_, _, _, _, _, _, _, _, _, callX false [] [] 0 Try.func29 (by decide) rfl (connect_Classify_ac r_11.1 r_6.1.Wait r_13 h_r_13) rfl ⟨(argE (by (conv => lhs; whnf); all_goals rfl) rfl), (argE (by (conv => lhs; whnf); all_goals rfl) rfl), trivial⟩ rfl trivial rfl rfl rfl lend0 trivial rfl, ?_⟩
              conv => whnf
              refine ⟨fun hb_21 => ?_, fun hb_21 => ?_⟩
              · replace hL1 := cond_t hb_21 hL1
                conv => whnf
                obtain ⟨l_14, h_l_14, hL1⟩ := bind_some hL1
                refine ap_q (enc := encPlate) (l := a_7) (y := ([e_10.Plate] : List Plate)) h_l_14 rfl rfl (by decide) ?_
                conv => whnf
                refine ⟨((k_9 + 1 : Nat) : Int), wrapE (by omega) (by omega) (by omega), ?_⟩
                conv => whnf
                exact ⟨(k_9 + 1, l_14), [0, 6], [], [], ⟨hlt_k_9, hL1⟩, by show r_4.1.length - (k_9 + 1) < r_4.1.length - k_9; omega, wk_mk [0, 6] [] [] rfl ⟨argE (by (conv => lhs; whnf); all_goals rfl) rfl, argE (by (conv => lhs; whnf); all_goals rfl) rfl, argP (id := 0) (by (conv => lhs; whnf); all_goals rfl) rfl, argO (id := 6) (by (conv => lhs; whnf); all_goals rfl) rfl, argE (by (conv => lhs; whnf); all_goals rfl) rfl, argE (by (conv => lhs; whnf); all_goals rfl) rfl, argE (by (conv => lhs; whnf); all_goals rfl) rfl, trivial⟩ ⟨boxL rfl rfl rfl ⟨(.ni _ rfl), (.ni _ rfl), (.ni _ rfl), trivial⟩, blkR (fun _ => ⟨rfl, rfl⟩) rfl rfl, trivial⟩⟩
              · replace hL1 := cond_f hb_21 hL1
                conv => whnf
                refine ⟨((k_9 + 1 : Nat) : Int), wrapE (by omega) (by omega) (by omega), ?_⟩
                conv => whnf
                exact ⟨(k_9 + 1, a_7), [0, 1], [], [], ⟨hlt_k_9, hL1⟩, by show r_4.1.length - (k_9 + 1) < r_4.1.length - k_9; omega, wk_mk [0, 1] [] [] rfl ⟨argE (by (conv => lhs; whnf); all_goals rfl) rfl, argE (by (conv => lhs; whnf); all_goals rfl) rfl, argP (id := 0) (by (conv => lhs; whnf); all_goals rfl) rfl, argO (id := 1) (by (conv => lhs; whnf); all_goals rfl) rfl, argE (by (conv => lhs; whnf); all_goals rfl) rfl, argE (by (conv => lhs; whnf); all_goals rfl) rfl, argE (by (conv => lhs; whnf); all_goals rfl) rfl, trivial⟩ ⟨boxL rfl rfl rfl ⟨(.ni _ rfl), (.ni _ rfl), (.ni _ rfl), trivial⟩, blkR (fun _ => ⟨rfl, rfl⟩) rfl rfl, trivial⟩⟩
            · replace hL1 := cond_t hb_20 hL1
              conv => whnf
              obtain ⟨l_12, h_l_12, hL1⟩ := bind_some hL1
              refine ap_q (enc := encPlate) (l := a_7) (y := ([e_10.Plate] : List Plate)) h_l_12 rfl rfl (by decide) ?_
              conv => whnf
              refine ⟨((k_9 + 1 : Nat) : Int), wrapE (by omega) (by omega) (by omega), ?_⟩
              conv => whnf
              exact ⟨(k_9 + 1, l_12), [0, 5], [], [], ⟨hlt_k_9, hL1⟩, by show r_4.1.length - (k_9 + 1) < r_4.1.length - k_9; omega, wk_mk [0, 5] [] [] rfl ⟨argE (by (conv => lhs; whnf); all_goals rfl) rfl, argE (by (conv => lhs; whnf); all_goals rfl) rfl, argP (id := 0) (by (conv => lhs; whnf); all_goals rfl) rfl, argO (id := 5) (by (conv => lhs; whnf); all_goals rfl) rfl, argE (by (conv => lhs; whnf); all_goals rfl) rfl, argE (by (conv => lhs; whnf); all_goals rfl) rfl, argE (by (conv => lhs; whnf); all_goals rfl) rfl, trivial⟩ ⟨boxL rfl rfl rfl ⟨(.ni _ rfl), (.ni _ rfl), (.ni _ rfl), trivial⟩, blkR (fun _ => ⟨rfl, rfl⟩) rfl rfl, trivial⟩⟩
          · rw [drop_nil (show r_4.1.length ≤ k_9 by have h := of_decide_eq_false h; omega), law24_ConnectLeaves_L1.eq_1] at hL1
            conv => whnf
            obtain rfl := Option.some.inj hL1
            replace hF := fin_brk hF
            try dsimp only at hF
            obtain ⟨r_17, h_r_17, hF⟩ := bind_some hF
            refine ⟨_, _, _, _, _, _, _, _, _, callX false [] [1] 0 Try.func25 (by decide) rfl (ref23_SamePlates_ac a_7 r_6.1.Left r_17 h_r_17) rfl ⟨(argOL 1 (by (conv => lhs; whnf); all_goals rfl) rfl rfl (map_ni (fun _ => ⟨rfl, rfl⟩) _)), (argE (by (conv => lhs; whnf); all_goals rfl) rfl), trivial⟩ rfl trivial rfl rfl rfl (lendF rfl) trivial rfl, ?_⟩
            conv => whnf
            refine ⟨fun hb_22 => ?_, fun hb_22 => ?_⟩
            · replace hF := cond_t hb_22 hF
              conv => whnf
              obtain ⟨r_18, h_r_18, hF⟩ := bind_some hF
              refine ⟨_, _, _, _, _, _, _, _, _, callX false [] [] 0 Try.func18 (by decide) rfl (law24_awake_ac r_18 h_r_18) rfl trivial rfl trivial rfl rfl rfl lend0 trivial rfl, ?_⟩
              conv => whnf
              obtain rfl := Option.some.inj hF
              exact ret_gz [] [] [] rfl (argE (by (conv => lhs; whnf); all_goals rfl) rfl) trivial
            · replace hF := cond_f hb_22 hF
              conv => whnf
              obtain rfl := Option.some.inj hF
              exact ret_gz [] [] [] rfl (argFl (by (conv => lhs; whnf); all_goals rfl)) trivial
      · replace hF := cond_t hb_18 hF
        conv => whnf
        obtain rfl := Option.some.inj hF
        exact ret_gz [] [] [] rfl (argFl (by (conv => lhs; whnf); all_goals rfl)) trivial
    · replace hF := cond_t hb_17 hF
      conv => whnf
      obtain rfl := Option.some.inj hF
      exact ret_gz [] [] [] rfl (argFl (by (conv => lhs; whnf); all_goals rfl)) trivial
  · replace hF := cond_t hb_16 hF
    conv => whnf
    obtain rfl := Option.some.inj hF
    exact ret_gz [] [] [] rfl (argFl (by (conv => lhs; whnf); all_goals rfl)) trivial
end Go.Proofs.Ytkajegjghfbgaaa.Ex
