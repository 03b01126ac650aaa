/- The functions of the program compute what was printed; walks printed by a program. -/
import Derived.Test.YtidhgcgbdjjdlaaExF
import Derived.Test.YtidhgcgbdjjdlaaExP1
import Derived.Test.YtidhgcgbdjjdlaaExP2
namespace Go.Proofs.Ytidhgcgbdjjdlaa.Ex
open Go.RowKit Go.Proofs.Ytidhgcgbdjjdlaa.Ax
set_option linter.unusedVariables false
set_option linter.unusedSimpArgs false
set_option maxRecDepth 100000 in
set_option maxHeartbeats 40000000 in
theorem law15_ScreenImages_ac (x_0 : (List Int)) (r : Bool) (hF : law15_ScreenImages x_0 = some r) : AC Try.prog 3 [.lst 1 (x_0.map iA)] [] (.bool r) [] := by
  refine ac_of tab_ok follows_ok Try.func3 rfl Try.ntmps3 rfl ?_
  unfold law15_ScreenImages at hF
  conv => whnf
  obtain ⟨r_1, h_r_1, hF⟩ := bind_some hF
  refine ⟨_, _, _, _, _, _, _, _, _, callX false [] [] 1 Try.func7 (by decide) rfl (keep_New_ac x_0 r_1 h_r_1) rfl ⟨(argE (by (conv => lhs; whnf); all_goals rfl) rfl), trivial⟩ rfl trivial rfl rfl rfl lend0 ⟨rfl, trivial⟩ rfl, ?_⟩
  conv => whnf
  obtain ⟨r_2, h_r_2, hF⟩ := bind_some hF
  refine ⟨_, _, _, _, _, _, _, _, _, callX false [] [] 0 Try.func8 (by decide) rfl (screen_New_ac (⟨(1 : Int), (1 : Int), (1 : Int), (1 : Int)⟩ : A4_Int) r_2 h_r_2) rfl ⟨(argE (by (conv => lhs; whnf); all_goals rfl) rfl), trivial⟩ rfl trivial rfl rfl rfl lend0 trivial rfl, ?_⟩
  conv => whnf
  refine ⟨fun hb_826 => ?_, fun hb_826 => ?_⟩
  · replace hF := cond_t hb_826 hF
    conv => whnf
    obtain rfl := Option.some.inj hF
    exact ret_gz [] [] [] rfl (argFl (by (conv => lhs; whnf); all_goals rfl)) trivial
  · replace hF := cond_f hb_826 hF
    conv => whnf
    obtain ⟨l_3, h_l_3, hF⟩ := bind_some hF
    refine .inl (al_q (enc := encA2_Int) h_l_3 rfl rfl (by decide) (Nat.le_of_ble_eq_true rfl) (by kernel_rfl) ?_)
    conv => whnf
    obtain ⟨c_1, hc_1, hF⟩ := fin_some hF
    refine sw_loop tab_ok follows_ok (fun y : Nat × (List Int) × Int × Int × Int × Int × Int × Int × (List Check) × (List A2_Int) × Int × Int => law15_ScreenImages_L1 y.1 y.2.1 y.2.2.1 y.2.2.2.1 y.2.2.2.2.1 y.2.2.2.2.2.1 y.2.2.2.2.2.2.1 y.2.2.2.2.2.2.2.1 y.2.2.2.2.2.2.2.2.1 y.2.2.2.2.2.2.2.2.2.1 y.2.2.2.2.2.2.2.2.2.2.1 y.2.2.2.2.2.2.2.2.2.2.2 = some c_1) (fun y => ⟨eL [(3, .ptr 0 0), (4, .ptr 1 0), (6, .ptr 2 0), (7, .int .i64 y.2.2.2.2.2.2.2.2.2.2.1), (8, .int .i64 y.2.2.2.2.2.2.2.2.2.2.2)], hL [(0, .box [.lst 1 (y.2.1.map iA), .int .i64 y.2.2.1]), (1, .box [.int .i64 y.2.2.2.1, .int .i64 y.2.2.2.2.1, .int .i64 y.2.2.2.2.2.1, .int .i64 y.2.2.2.2.2.2.1, .int .i64 y.2.2.2.2.2.2.2.1, .lst 5 (y.2.2.2.2.2.2.2.2.1.map encCheck)]), (2, .row 2 (y.2.2.2.2.2.2.2.2.2.1.map encA2_Int))], 3⟩) (fun y => y.1) (9223372036854775807, r_1.L, r_1.At, r_2.1.Limits.e0, r_2.1.Limits.e1, r_2.1.Limits.e2, r_2.1.Limits.e3, r_2.1.Next, r_2.1.L, l_3, (0 : Int), (0 : Int)) hc_1 (wk_mk [0, 3, 4] [] [] rfl ⟨argP (id := 0) (by (conv => lhs; whnf); all_goals rfl) rfl, argP (id := 3) (by (conv => lhs; whnf); all_goals rfl) rfl, argP (id := 4) (by (conv => lhs; whnf); all_goals rfl) rfl, argE (by (conv => lhs; whnf); all_goals rfl) rfl, argE (by (conv => lhs; whnf); all_goals rfl) rfl, trivial⟩ ⟨boxL rfl rfl rfl ⟨(.ni _ rfl), (.ni _ rfl), trivial⟩, boxL rfl rfl rfl ⟨(.ni _ rfl), (.ni _ rfl), (.ni _ rfl), (.ni _ rfl), (.ni _ rfl), (.ni _ rfl), trivial⟩, blkR (fun _ => ⟨rfl, rfl⟩) rfl rfl, trivial⟩) ?_
    rintro ⟨q_200, a_4, i_5, i_6, i_7, i_8, i_9, i_10, a_11, a_12, i_13, i_14⟩ hL1
    try dsimp only at hL1
    rcases q_200 with _ | q_200
    · rw [law15_ScreenImages_L1.eq_1] at hL1
      cases hL1
    rw [law15_ScreenImages_L1.eq_2] at hL1
    show awp _ _ _ _ _ _ ⟨eL [(3, .ptr 0 0), (4, .ptr 1 0), (6, .ptr 2 0), (7, .int .i64 i_13), (8, .int .i64 i_14)], hL [(0, .box [.lst 1 (a_4.map iA), .int .i64 i_5]), (1, .box [.int .i64 i_6, .int .i64 i_7, .int .i64 i_8, .int .i64 i_9, .int .i64 i_10, .lst 5 (a_11.map encCheck)]), (2, .row 2 (a_12.map encA2_Int))], 3⟩
    conv => whnf
    refine ⟨fun hb_827 => ?_, fun hb_827 => ?_⟩
    · replace hL1 := cond_t hb_827 hL1
      conv => whnf
      refine ⟨fun hb_828 => ?_, fun hb_828 => ?_⟩
      · replace hL1 := cond_f hb_828 hL1
        conv => whnf
        obtain ⟨r_107, h_r_107, hL1⟩ := bind_some hL1
        refine ⟨_, _, _, _, _, _, _, _, _, callX false [] [0] 0 Try.func9 (by decide) rfl (keep_Src_More_ac (⟨a_4, i_5⟩ : Src) r_107 h_r_107) rfl ⟨(argIb 0 _ (by (conv => lhs; whnf); all_goals rfl) rfl rfl rfl rfl), trivial⟩ rfl trivial rfl rfl rfl (lendF rfl) trivial rfl, ?_⟩
        conv => whnf
        refine ⟨fun hb_864 => ?_, fun hb_864 => ?_⟩
        · replace hL1 := cond_t hb_864 hL1
          conv => whnf
          obtain ⟨r_108, h_r_108, hL1⟩ := bind_some hL1
          refine ⟨_, _, _, _, _, _, _, _, _, callX false [0] [] 0 Try.func10 (by decide) rfl (keep_Src_N_ac (⟨a_4, i_5⟩ : Src) (3 : Int) r_108 h_r_108) rfl ⟨(argP (id := 0) (by (conv => lhs; whnf); all_goals rfl) rfl), (argE (by (conv => lhs; whnf); all_goals rfl) rfl), trivial⟩ rfl ⟨rfl, trivial⟩ rfl rfl rfl lend0 ⟨rfl, trivial⟩ rfl, ?_⟩
          conv => whnf
          refine ⟨_, rfl, ?_⟩
          conv => whnf
          obtain ⟨r_109, h_r_109, hL1⟩ := bind_some hL1
          refine ⟨_, _, _, _, _, _, _, _, _, callX false [0] [] 0 Try.func10 (by decide) rfl (keep_Src_N_ac r_108.2 (3 : Int) r_109 h_r_109) rfl ⟨(argP (id := 0) (by (conv => lhs; whnf); all_goals rfl) rfl), (argE (by (conv => lhs; whnf); all_goals rfl) rfl), trivial⟩ rfl ⟨rfl, trivial⟩ rfl rfl rfl lend0 ⟨rfl, trivial⟩ rfl, ?_⟩
          conv => whnf
          refine ⟨fun hb_865 => ?_, fun hb_865 => ?_⟩
          · replace hL1 := cond_t hb_865 hL1
            conv => whnf
            obtain ⟨r_110, h_r_110, hL1⟩ := bind_some hL1
            refine ⟨_, _, _, _, _, _, _, _, _, callX false [0] [] 0 Try.func12 (by decide) rfl (keep_Src_Range_ac r_109.2 (1 : Int) (6 : Int) r_110 h_r_110) rfl ⟨(argP (id := 0) (by (conv => lhs; whnf); all_goals rfl) rfl), (argE (by (conv => lhs; whnf); all_goals rfl) rfl), (argE (by (conv => lhs; whnf); all_goals rfl) rfl), trivial⟩ rfl ⟨rfl, trivial⟩ rfl rfl rfl lend0 ⟨rfl, trivial⟩ rfl, ?_⟩
            conv => whnf
            obtain ⟨r_111, h_r_111, hL1⟩ := bind_some hL1
            refine ⟨_, _, _, _, _, _, _, _, _, callX false [] [] 0 Try.func11 (by decide) rfl (screen_Start_ac (⟨(⟨i_6, i_7, i_8, i_9⟩ : A4_Int), i_10, a_11⟩ : Screening) r_110.1 (w64 (i_13 + r_108.1)) r_111 h_r_111) rfl ⟨(argE (by (conv => lhs; whnf); all_goals rfl) rfl), (argE (by (conv => lhs; whnf); all_goals rfl) rfl), (argE (by (conv => lhs; whnf); all_goals rfl) rfl), trivial⟩ rfl trivial rfl rfl rfl lend0 trivial rfl, ?_⟩
            conv => whnf
            refine ⟨by kernel_rfl, ?_⟩
            conv => whnf
            refine ⟨fun hb_866 => ?_, fun hb_866 => ?_⟩
            · replace hL1 := cond_t hb_866 hL1
              conv => whnf
              obtain ⟨c_2, hc_2, hL1⟩ := sub_some hL1
              refine sw_bv 63 (v := .tup [.agg [.int .i64 r_111.1.Limits.e0, .int .i64 r_111.1.Limits.e1, .int .i64 r_111.1.Limits.e2, .int .i64 r_111.1.Limits.e3, .int .i64 r_111.1.Next, .lst 5 (r_111.1.L.map encCheck)], .int .i64 r_111.2]) (by (conv => lhs; whnf); all_goals rfl) (fun hb => ?_)
              have hbd_k_114 : r_111.1.L.length ≤ 9223372036854775807 := bnd_len (enc := encCheck) ((bnd_at (bnd_at hb.tcell 0 rfl).cell 5 rfl))
              refine sw_loop tab_ok follows_ok (fun y : Nat × (List A2_Int) => y.1 ≤ r_111.1.L.length ∧ law15_ScreenImages_L2 r_111 (r_111.1.L.drop y.1) y.1 y.2 = some c_2) (fun y => ⟨eL [(3, .ptr 0 0), (4, .ptr 1 0), (6, .ptr 2 0), (7, .int .i64 (w64 (i_13 + r_108.1))), (8, .int .i64 i_14), (16, .int .i64 (y.1 : Int))], hL [(0, .box [.lst 1 (r_110.2.L.map iA), .int .i64 r_110.2.At]), (1, .box [.int .i64 r_111.1.Limits.e0, .int .i64 r_111.1.Limits.e1, .int .i64 r_111.1.Limits.e2, .int .i64 r_111.1.Limits.e3, .int .i64 r_111.1.Next, .lst 5 (r_111.1.L.map encCheck)]), (2, .row 2 (y.2.map encA2_Int))], 3⟩) (fun y => r_111.1.L.length - y.1) (0, a_12) ⟨Nat.zero_le _, hc_2⟩ (wk_mk [0, 1, 2] [] [] rfl ⟨argP (id := 0) (by (conv => lhs; whnf); all_goals rfl) rfl, argP (id := 1) (by (conv => lhs; whnf); all_goals rfl) rfl, argP (id := 2) (by (conv => lhs; whnf); all_goals rfl) rfl, argE (by (conv => lhs; whnf); all_goals rfl) rfl, argE (by (conv => lhs; whnf); all_goals rfl) rfl, argE (by (conv => lhs; whnf); all_goals rfl) rfl, trivial⟩ ⟨boxL rfl rfl rfl ⟨(.ni _ rfl), (.ni _ rfl), trivial⟩, boxL rfl rfl rfl ⟨(.ni _ rfl), (.ni _ rfl), (.ni _ rfl), (.ni _ rfl), (.ni _ rfl), (.ni _ rfl), trivial⟩, blkR (fun _ => ⟨rfl, rfl⟩) rfl rfl, trivial⟩) ?_
              rintro ⟨k_114, a_112⟩ ⟨hk_k_114, hL2⟩
              try dsimp only at hk_k_114 hL2
              show awp _ _ _ _ _ _ ⟨eL [(3, .ptr 0 0), (4, .ptr 1 0), (6, .ptr 2 0), (7, .int .i64 (w64 (i_13 + r_108.1))), (8, .int .i64 i_14), (16, .int .i64 (k_114 : Int))], hL [(0, .box [.lst 1 (r_110.2.L.map iA), .int .i64 r_110.2.At]), (1, .box [.int .i64 r_111.1.Limits.e0, .int .i64 r_111.1.Limits.e1, .int .i64 r_111.1.Limits.e2, .int .i64 r_111.1.Limits.e3, .int .i64 r_111.1.Next, .lst 5 (r_111.1.L.map encCheck)]), (2, .row 2 (a_112.map encA2_Int))], 3⟩
              conv => whnf
              refine len_q (enc := encCheck) (l := r_111.1.L) rfl ?_
              conv => whnf
              refine ⟨fun h => ?_, fun h => ?_⟩
              · have hlt_k_114 : k_114 < r_111.1.L.length := by have h := of_decide_eq_true h; omega
                obtain ⟨e_115, h_e_115⟩ : ∃ y, r_111.1.L[k_114]? = some y := ⟨_, List.getElem?_eq_getElem hlt_k_114⟩
                rw [drop_cons h_e_115, law15_ScreenImages_L2.eq_2] at hL2
                conv => whnf
                refine ⟨k_114, _, rfl, ix_map h_e_115, ?_⟩
                conv => whnf
                refine ⟨fun hb_867 => ?_, fun hb_867 => ?_⟩
                · replace hL2 := cond_f hb_867 hL2
                  conv => whnf
                  refine ⟨fun hb_868 => ?_, fun hb_868 => ?_⟩
                  · replace hL2 := cond_f hb_868 hL2
                    conv => whnf
                    refine ⟨fun hb_869 => ?_, fun hb_869 => ?_⟩
                    · replace hL2 := cond_t hb_869 hL2
                      conv => whnf
                      obtain rfl := Option.some.inj hL2
                      replace hL1 := sub_ret hL1
                      obtain rfl := Option.some.inj hL1
                      replace hF := fin_ret hF
                      obtain rfl := Option.some.inj hF
                      exact ret_gz [] [] [] rfl (argFl (by (conv => lhs; whnf); all_goals rfl)) trivial
                    · replace hL2 := cond_f hb_869 hL2
                      conv => whnf
                      refine .inr ?_
                      conv => whnf
                      obtain ⟨u_116, h_u_116, hL2⟩ := bind_some hL2
                      refine ixa_q 1 h_u_116 rfl (fun m_u_116 hm_u_116 => ?_)
                      conv => whnf
                      obtain ⟨v_117, h_v_117, hL2⟩ := bind_some hL2
                      refine ⟨_, ix_map (enc := encA2_Int) (ixL_at h_v_117 (ixm1 hm_u_116)), ?_⟩
                      conv => whnf
                      refine ⟨fun hb_870 => ?_, fun hb_870 => ?_⟩
                      · replace hL2 := cond_t hb_870 hL2
                        conv => whnf
                        obtain ⟨u_118, h_u_118, hL2⟩ := bind_some hL2
                        refine ixa_q 1 h_u_118 rfl (fun m_u_118 hm_u_118 => ?_)
                        conv => whnf
                        obtain ⟨v_119, h_v_119, hL2⟩ := bind_some hL2
                        refine ⟨_, ix_map (enc := encA2_Int) (ixL_at h_v_119 (ixm1 hm_u_118)), ?_⟩
                        conv => whnf
                        refine ⟨by kernel_rfl, ?_⟩
                        conv => whnf
                        refine ⟨fun hb_871 => ?_, fun hb_871 => ?_⟩
                        · replace hL2 := cond_t hb_871 hL2
                          conv => whnf
                          obtain rfl := Option.some.inj hL2
                          replace hL1 := sub_ret hL1
                          obtain rfl := Option.some.inj hL1
                          replace hF := fin_ret hF
                          obtain rfl := Option.some.inj hF
                          exact ret_gz [] [] [] rfl (argFl (by (conv => lhs; whnf); all_goals rfl)) trivial
                        · replace hL2 := cond_f hb_871 hL2
                          conv => whnf
                          obtain ⟨u_120, h_u_120, hL2⟩ := bind_some hL2
                          refine ixa_q 1 h_u_120 rfl (fun m_u_120 hm_u_120 => ?_)
                          conv => whnf
                          obtain ⟨v_121, h_v_121, hL2⟩ := bind_some hL2
                          refine st_q (enc := encA2_Int) (l := a_112) (x' := (⟨e_115.Bag, e_115.Level⟩ : A2_Int)) (i := e_115.Image) (ixm1 hm_u_120) (ixL_at h_v_121 (ixm1 hm_u_120)) rfl (Nat.le_of_ble_eq_true rfl) rfl ?_
                          conv => whnf
                          refine ⟨((k_114 + 1 : Nat) : Int), wrapE (by omega) (by omega) (by omega), ?_⟩
                          conv => whnf
                          exact ⟨(k_114 + 1, (a_112.set e_115.Image.toNat (⟨e_115.Bag, e_115.Level⟩ : A2_Int))), [0, 1, 2], [], [], ⟨hlt_k_114, hL2⟩, by show r_111.1.L.length - (k_114 + 1) < r_111.1.L.length - k_114; omega, wk_mk [0, 1, 2] [] [] rfl ⟨argP (id := 0) (by (conv => lhs; whnf); all_goals rfl) rfl, argP (id := 1) (by (conv => lhs; whnf); all_goals rfl) rfl, argP (id := 2) (by (conv => lhs; whnf); all_goals rfl) rfl, argE (by (conv => lhs; whnf); all_goals rfl) rfl, argE (by (conv => lhs; whnf); all_goals rfl) rfl, argE (by (conv => lhs; whnf); all_goals rfl) rfl, trivial⟩ ⟨boxL rfl rfl rfl ⟨(.ni _ rfl), (.ni _ rfl), trivial⟩, boxL rfl rfl rfl ⟨(.ni _ rfl), (.ni _ rfl), (.ni _ rfl), (.ni _ rfl), (.ni _ rfl), (.ni _ rfl), trivial⟩, blkR (fun _ => ⟨rfl, rfl⟩) rfl rfl, trivial⟩⟩
                      · replace hL2 := cond_f hb_870 hL2
                        conv => whnf
                        refine ⟨by kernel_rfl, ?_⟩
                        conv => whnf
                        obtain ⟨u_122, h_u_122, hL2⟩ := bind_some hL2
                        refine ixa_q 1 h_u_122 rfl (fun m_u_122 hm_u_122 => ?_)
                        conv => whnf
                        obtain ⟨v_123, h_v_123, hL2⟩ := bind_some hL2
                        refine st_q (enc := encA2_Int) (l := a_112) (x' := (⟨e_115.Bag, e_115.Level⟩ : A2_Int)) (i := e_115.Image) (ixm1 hm_u_122) (ixL_at h_v_123 (ixm1 hm_u_122)) rfl (Nat.le_of_ble_eq_true rfl) rfl ?_
                        conv => whnf
                        refine ⟨((k_114 + 1 : Nat) : Int), wrapE (by omega) (by omega) (by omega), ?_⟩
                        conv => whnf
                        exact ⟨(k_114 + 1, (a_112.set e_115.Image.toNat (⟨e_115.Bag, e_115.Level⟩ : A2_Int))), [0, 1, 2], [], [], ⟨hlt_k_114, hL2⟩, by show r_111.1.L.length - (k_114 + 1) < r_111.1.L.length - k_114; omega, wk_mk [0, 1, 2] [] [] rfl ⟨argP (id := 0) (by (conv => lhs; whnf); all_goals rfl) rfl, argP (id := 1) (by (conv => lhs; whnf); all_goals rfl) rfl, argP (id := 2) (by (conv => lhs; whnf); all_goals rfl) rfl, argE (by (conv => lhs; whnf); all_goals rfl) rfl, argE (by (conv => lhs; whnf); all_goals rfl) rfl, argE (by (conv => lhs; whnf); all_goals rfl) rfl, trivial⟩ ⟨boxL rfl rfl rfl ⟨(.ni _ rfl), (.ni _ rfl), trivial⟩, boxL rfl rfl rfl ⟨(.ni _ rfl), (.ni _ rfl), (.ni _ rfl), (.ni _ rfl), (.ni _ rfl), (.ni _ rfl), trivial⟩, blkR (fun _ => ⟨rfl, rfl⟩) rfl rfl, trivial⟩⟩
                  · replace hL2 := cond_t hb_868 hL2
                    conv => whnf
                    obtain rfl := Option.some.inj hL2
                    replace hL1 := sub_ret hL1
                    obtain rfl := Option.some.inj hL1
                    replace hF := fin_ret hF
                    obtain rfl := Option.some.inj hF
                    exact ret_gz [] [] [] rfl (argFl (by (conv => lhs; whnf); all_goals rfl)) trivial
                · replace hL2 := cond_t hb_867 hL2
                  conv => whnf
                  obtain rfl := Option.some.inj hL2
                  replace hL1 := sub_ret hL1
                  obtain rfl := Option.some.inj hL1
                  replace hF := fin_ret hF
                  obtain rfl := Option.some.inj hF
                  exact ret_gz [] [] [] rfl (argFl (by (conv => lhs; whnf); all_goals rfl)) trivial
              · rw [drop_nil (show r_111.1.L.length ≤ k_114 by have h := of_decide_eq_false h; omega), law15_ScreenImages_L2.eq_1] at hL2
                conv => whnf
                obtain rfl := Option.some.inj hL2
                replace hL1 := sub_brk hL1
                try dsimp only at hL1
                refine ⟨_, rfl, ?_⟩
                conv => whnf
                exact ⟨(q_200, r_110.2.L, r_110.2.At, r_111.1.Limits.e0, r_111.1.Limits.e1, r_111.1.Limits.e2, r_111.1.Limits.e3, r_111.1.Next, r_111.1.L, a_112, (w64 (i_13 + r_108.1)), (w64 (i_14 + (1 : Int)))), [0, 1, 2], [], [], hL1, Nat.lt_succ_self _, wk_mk [0, 1, 2] [] [] rfl ⟨argP (id := 0) (by (conv => lhs; whnf); all_goals rfl) rfl, argP (id := 1) (by (conv => lhs; whnf); all_goals rfl) rfl, argP (id := 2) (by (conv => lhs; whnf); all_goals rfl) rfl, argE (by (conv => lhs; whnf); all_goals rfl) rfl, argE (by (conv => lhs; whnf); all_goals rfl) rfl, trivial⟩ ⟨boxL rfl rfl rfl ⟨(.ni _ rfl), (.ni _ rfl), trivial⟩, boxL rfl rfl rfl ⟨(.ni _ rfl), (.ni _ rfl), (.ni _ rfl), (.ni _ rfl), (.ni _ rfl), (.ni _ rfl), trivial⟩, blkR (fun _ => ⟨rfl, rfl⟩) rfl rfl, trivial⟩⟩
            · replace hL1 := cond_f hb_866 hL1
              conv => whnf
              obtain ⟨c_3, hc_3, hL1⟩ := sub_some hL1
              refine sw_bv 64 (v := .agg [.int .i64 i_6, .int .i64 i_7, .int .i64 i_8, .int .i64 i_9, .int .i64 i_10, .lst 5 (a_11.map encCheck)]) (by (conv => lhs; whnf); all_goals rfl) (fun hb => ?_)
              have hbd_k_128 : a_11.length ≤ 9223372036854775807 := bnd_len (enc := encCheck) ((bnd_at hb.cell 5 rfl))
              refine sw_loop tab_ok follows_ok (fun y : Nat × (List A2_Int) => y.1 ≤ a_11.length ∧ law15_ScreenImages_L3 i_10 (a_11.drop y.1) y.1 y.2 = some c_3) (fun y => ⟨eL [(3, .ptr 0 0), (4, .ptr 1 0), (6, .ptr 2 0), (7, .int .i64 (w64 (i_13 + r_108.1))), (8, .int .i64 i_14), (16, .int .i64 (y.1 : Int))], hL [(0, .box [.lst 1 (r_110.2.L.map iA), .int .i64 r_110.2.At]), (1, .box [.int .i64 i_6, .int .i64 i_7, .int .i64 i_8, .int .i64 i_9, .int .i64 i_10, .lst 5 (a_11.map encCheck)]), (2, .row 2 (y.2.map encA2_Int))], 3⟩) (fun y => a_11.length - y.1) (0, a_12) ⟨Nat.zero_le _, hc_3⟩ (wk_mk [0, 1, 2] [] [] rfl ⟨argP (id := 0) (by (conv => lhs; whnf); all_goals rfl) rfl, argP (id := 1) (by (conv => lhs; whnf); all_goals rfl) rfl, argP (id := 2) (by (conv => lhs; whnf); all_goals rfl) rfl, argE (by (conv => lhs; whnf); all_goals rfl) rfl, argE (by (conv => lhs; whnf); all_goals rfl) rfl, argE (by (conv => lhs; whnf); all_goals rfl) rfl, trivial⟩ ⟨boxL rfl rfl rfl ⟨(.ni _ rfl), (.ni _ rfl), trivial⟩, boxL rfl rfl rfl ⟨(.ni _ rfl), (.ni _ rfl), (.ni _ rfl), (.ni _ rfl), (.ni _ rfl), (.ni _ rfl), trivial⟩, blkR (fun _ => ⟨rfl, rfl⟩) rfl rfl, trivial⟩) ?_
              rintro ⟨k_128, a_126⟩ ⟨hk_k_128, hL2⟩
              try dsimp only at hk_k_128 hL2
              show awp _ _ _ _ _ _ ⟨eL [(3, .ptr 0 0), (4, .ptr 1 0), (6, .ptr 2 0), (7, .int .i64 (w64 (i_13 + r_108.1))), (8, .int .i64 i_14), (16, .int .i64 (k_128 : Int))], hL [(0, .box [.lst 1 (r_110.2.L.map iA), .int .i64 r_110.2.At]), (1, .box [.int .i64 i_6, .int .i64 i_7, .int .i64 i_8, .int .i64 i_9, .int .i64 i_10, .lst 5 (a_11.map encCheck)]), (2, .row 2 (a_126.map encA2_Int))], 3⟩
              conv => whnf
              refine len_q (enc := encCheck) (l := a_11) rfl ?_
              conv => whnf
              refine ⟨fun h => ?_, fun h => ?_⟩
              · have hlt_k_128 : k_128 < a_11.length := by have h := of_decide_eq_true h; omega
                obtain ⟨e_129, h_e_129⟩ : ∃ y, a_11[k_128]? = some y := ⟨_, List.getElem?_eq_getElem hlt_k_128⟩
                rw [drop_cons h_e_129, law15_ScreenImages_L3.eq_2] at hL2
                conv => whnf
                refine ⟨k_128, _, rfl, ix_map h_e_129, ?_⟩
                conv => whnf
                refine ⟨fun hb_872 => ?_, fun hb_872 => ?_⟩
                · replace hL2 := cond_f hb_872 hL2
                  conv => whnf
                  refine ⟨fun hb_873 => ?_, fun hb_873 => ?_⟩
                  · replace hL2 := cond_f hb_873 hL2
                    conv => whnf
                    refine ⟨fun hb_874 => ?_, fun hb_874 => ?_⟩
                    · replace hL2 := cond_t hb_874 hL2
                      conv => whnf
                      obtain rfl := Option.some.inj hL2
                      replace hL1 := sub_ret hL1
                      obtain rfl := Option.some.inj hL1
                      replace hF := fin_ret hF
                      obtain rfl := Option.some.inj hF
                      exact ret_gz [] [] [] rfl (argFl (by (conv => lhs; whnf); all_goals rfl)) trivial
                    · replace hL2 := cond_f hb_874 hL2
                      conv => whnf
                      refine .inr ?_
                      conv => whnf
                      obtain ⟨u_130, h_u_130, hL2⟩ := bind_some hL2
                      refine ixa_q 1 h_u_130 rfl (fun m_u_130 hm_u_130 => ?_)
                      conv => whnf
                      obtain ⟨v_131, h_v_131, hL2⟩ := bind_some hL2
                      refine ⟨_, ix_map (enc := encA2_Int) (ixL_at h_v_131 (ixm1 hm_u_130)), ?_⟩
                      conv => whnf
                      refine ⟨fun hb_875 => ?_, fun hb_875 => ?_⟩
                      · replace hL2 := cond_t hb_875 hL2
                        conv => whnf
                        obtain ⟨u_132, h_u_132, hL2⟩ := bind_some hL2
                        refine ixa_q 1 h_u_132 rfl (fun m_u_132 hm_u_132 => ?_)
                        conv => whnf
                        obtain ⟨v_133, h_v_133, hL2⟩ := bind_some hL2
                        refine ⟨_, ix_map (enc := encA2_Int) (ixL_at h_v_133 (ixm1 hm_u_132)), ?_⟩
                        conv => whnf
                        refine ⟨by kernel_rfl, ?_⟩
                        conv => whnf
                        refine ⟨fun hb_876 => ?_, fun hb_876 => ?_⟩
                        · replace hL2 := cond_t hb_876 hL2
                          conv => whnf
                          obtain rfl := Option.some.inj hL2
                          replace hL1 := sub_ret hL1
                          obtain rfl := Option.some.inj hL1
                          replace hF := fin_ret hF
                          obtain rfl := Option.some.inj hF
                          exact ret_gz [] [] [] rfl (argFl (by (conv => lhs; whnf); all_goals rfl)) trivial
                        · replace hL2 := cond_f hb_876 hL2
                          conv => whnf
                          obtain ⟨u_134, h_u_134, hL2⟩ := bind_some hL2
                          refine ixa_q 1 h_u_134 rfl (fun m_u_134 hm_u_134 => ?_)
                          conv => whnf
                          obtain ⟨v_135, h_v_135, hL2⟩ := bind_some hL2
                          refine st_q (enc := encA2_Int) (l := a_126) (x' := (⟨e_129.Bag, e_129.Level⟩ : A2_Int)) (i := e_129.Image) (ixm1 hm_u_134) (ixL_at h_v_135 (ixm1 hm_u_134)) rfl (Nat.le_of_ble_eq_true rfl) rfl ?_
                          conv => whnf
                          refine ⟨((k_128 + 1 : Nat) : Int), wrapE (by omega) (by omega) (by omega), ?_⟩
                          conv => whnf
                          exact ⟨(k_128 + 1, (a_126.set e_129.Image.toNat (⟨e_129.Bag, e_129.Level⟩ : A2_Int))), [0, 1, 2], [], [], ⟨hlt_k_128, hL2⟩, by show a_11.length - (k_128 + 1) < a_11.length - k_128; omega, wk_mk [0, 1, 2] [] [] rfl ⟨argP (id := 0) (by (conv => lhs; whnf); all_goals rfl) rfl, argP (id := 1) (by (conv => lhs; whnf); all_goals rfl) rfl, argP (id := 2) (by (conv => lhs; whnf); all_goals rfl) rfl, argE (by (conv => lhs; whnf); all_goals rfl) rfl, argE (by (conv => lhs; whnf); all_goals rfl) rfl, argE (by (conv => lhs; whnf); all_goals rfl) rfl, trivial⟩ ⟨boxL rfl rfl rfl ⟨(.ni _ rfl), (.ni _ rfl), trivial⟩, boxL rfl rfl rfl ⟨(.ni _ rfl), (.ni _ rfl), (.ni _ rfl), (.ni _ rfl), (.ni _ rfl), (.ni _ rfl), trivial⟩, blkR (fun _ => ⟨rfl, rfl⟩) rfl rfl, trivial⟩⟩
                      · replace hL2 := cond_f hb_875 hL2
                        conv => whnf
                        refine ⟨by kernel_rfl, ?_⟩
                        conv => whnf
                        obtain ⟨u_136, h_u_136, hL2⟩ := bind_some hL2
                        refine ixa_q 1 h_u_136 rfl (fun m_u_136 hm_u_136 => ?_)
                        conv => whnf
                        obtain ⟨v_137, h_v_137, hL2⟩ := bind_some hL2
                        refine st_q (enc := encA2_Int) (l := a_126) (x' := (⟨e_129.Bag, e_129.Level⟩ : A2_Int)) (i := e_129.Image) (ixm1 hm_u_136) (ixL_at h_v_137 (ixm1 hm_u_136)) rfl (Nat.le_of_ble_eq_true rfl) rfl ?_
                        conv => whnf
                        refine ⟨((k_128 + 1 : Nat) : Int), wrapE (by omega) (by omega) (by omega), ?_⟩
                        conv => whnf
                        exact ⟨(k_128 + 1, (a_126.set e_129.Image.toNat (⟨e_129.Bag, e_129.Level⟩ : A2_Int))), [0, 1, 2], [], [], ⟨hlt_k_128, hL2⟩, by show a_11.length - (k_128 + 1) < a_11.length - k_128; omega, wk_mk [0, 1, 2] [] [] rfl ⟨argP (id := 0) (by (conv => lhs; whnf); all_goals rfl) rfl, argP (id := 1) (by (conv => lhs; whnf); all_goals rfl) rfl, argP (id := 2) (by (conv => lhs; whnf); all_goals rfl) rfl, argE (by (conv => lhs; whnf); all_goals rfl) rfl, argE (by (conv => lhs; whnf); all_goals rfl) rfl, argE (by (conv => lhs; whnf); all_goals rfl) rfl, trivial⟩ ⟨boxL rfl rfl rfl ⟨(.ni _ rfl), (.ni _ rfl), trivial⟩, boxL rfl rfl rfl ⟨(.ni _ rfl), (.ni _ rfl), (.ni _ rfl), (.ni _ rfl), (.ni _ rfl), (.ni _ rfl), trivial⟩, blkR (fun _ => ⟨rfl, rfl⟩) rfl rfl, trivial⟩⟩
                  · replace hL2 := cond_t hb_873 hL2
                    conv => whnf
                    obtain rfl := Option.some.inj hL2
                    replace hL1 := sub_ret hL1
                    obtain rfl := Option.some.inj hL1
                    replace hF := fin_ret hF
                    obtain rfl := Option.some.inj hF
                    exact ret_gz [] [] [] rfl (argFl (by (conv => lhs; whnf); all_goals rfl)) trivial
                · replace hL2 := cond_t hb_872 hL2
                  conv => whnf
                  obtain rfl := Option.some.inj hL2
                  replace hL1 := sub_ret hL1
                  obtain rfl := Option.some.inj hL1
                  replace hF := fin_ret hF
                  obtain rfl := Option.some.inj hF
                  exact ret_gz [] [] [] rfl (argFl (by (conv => lhs; whnf); all_goals rfl)) trivial
              · rw [drop_nil (show a_11.length ≤ k_128 by have h := of_decide_eq_false h; omega), law15_ScreenImages_L3.eq_1] at hL2
                conv => whnf
                obtain rfl := Option.some.inj hL2
                replace hL1 := sub_brk hL1
                try dsimp only at hL1
                refine ⟨_, rfl, ?_⟩
                conv => whnf
                exact ⟨(q_200, r_110.2.L, r_110.2.At, i_6, i_7, i_8, i_9, i_10, a_11, a_126, (w64 (i_13 + r_108.1)), (w64 (i_14 + (1 : Int)))), [0, 1, 2], [], [], hL1, Nat.lt_succ_self _, wk_mk [0, 1, 2] [] [] rfl ⟨argP (id := 0) (by (conv => lhs; whnf); all_goals rfl) rfl, argP (id := 1) (by (conv => lhs; whnf); all_goals rfl) rfl, argP (id := 2) (by (conv => lhs; whnf); all_goals rfl) rfl, argE (by (conv => lhs; whnf); all_goals rfl) rfl, argE (by (conv => lhs; whnf); all_goals rfl) rfl, trivial⟩ ⟨boxL rfl rfl rfl ⟨(.ni _ rfl), (.ni _ rfl), trivial⟩, boxL rfl rfl rfl ⟨(.ni _ rfl), (.ni _ rfl), (.ni _ rfl), (.ni _ rfl), (.ni _ rfl), (.ni _ rfl), trivial⟩, blkR (fun _ => ⟨rfl, rfl⟩) rfl rfl, trivial⟩⟩
          · replace hL1 := cond_f hb_865 hL1
            conv => whnf
            refine ⟨fun hb_877 => ?_, fun hb_877 => ?_⟩
            · replace hL1 := cond_t hb_877 hL1
              conv => whnf
              obtain ⟨r_140, h_r_140, hL1⟩ := bind_some hL1
              refine ⟨_, _, _, _, _, _, _, _, _, callX false [] [] 0 Try.func13 (by decide) rfl (screen_Expire_ac (⟨(⟨i_6, i_7, i_8, i_9⟩ : A4_Int), i_10, a_11⟩ : Screening) (w64 (i_13 + r_108.1)) r_140 h_r_140) rfl ⟨(argE (by (conv => lhs; whnf); all_goals rfl) rfl), (argE (by (conv => lhs; whnf); all_goals rfl) rfl), trivial⟩ rfl trivial rfl rfl rfl lend0 trivial rfl, ?_⟩
              conv => whnf
              refine ⟨fun hb_878 => ?_, fun hb_878 => ?_⟩
              · replace hL1 := cond_t hb_878 hL1
                conv => whnf
                obtain ⟨c_2, hc_2, hL1⟩ := sub_some hL1
                refine sw_bv 76 (v := .tup [.agg [.int .i64 r_140.1.Limits.e0, .int .i64 r_140.1.Limits.e1, .int .i64 r_140.1.Limits.e2, .int .i64 r_140.1.Limits.e3, .int .i64 r_140.1.Next, .lst 5 (r_140.1.L.map encCheck)], .int .i64 r_140.2]) (by (conv => lhs; whnf); all_goals rfl) (fun hb => ?_)
                have hbd_k_143 : r_140.1.L.length ≤ 9223372036854775807 := bnd_len (enc := encCheck) ((bnd_at (bnd_at hb.tcell 0 rfl).cell 5 rfl))
                refine sw_loop tab_ok follows_ok (fun y : Nat × (List A2_Int) => y.1 ≤ r_140.1.L.length ∧ law15_ScreenImages_L2 r_140 (r_140.1.L.drop y.1) y.1 y.2 = some c_2) (fun y => ⟨eL [(3, .ptr 0 0), (4, .ptr 1 0), (6, .ptr 2 0), (7, .int .i64 (w64 (i_13 + r_108.1))), (8, .int .i64 i_14), (16, .int .i64 (y.1 : Int))], hL [(0, .box [.lst 1 (r_109.2.L.map iA), .int .i64 r_109.2.At]), (1, .box [.int .i64 r_140.1.Limits.e0, .int .i64 r_140.1.Limits.e1, .int .i64 r_140.1.Limits.e2, .int .i64 r_140.1.Limits.e3, .int .i64 r_140.1.Next, .lst 5 (r_140.1.L.map encCheck)]), (2, .row 2 (y.2.map encA2_Int))], 3⟩) (fun y => r_140.1.L.length - y.1) (0, a_12) ⟨Nat.zero_le _, hc_2⟩ (wk_mk [0, 1, 2] [] [] rfl ⟨argP (id := 0) (by (conv => lhs; whnf); all_goals rfl) rfl, argP (id := 1) (by (conv => lhs; whnf); all_goals rfl) rfl, argP (id := 2) (by (conv => lhs; whnf); all_goals rfl) rfl, argE (by (conv => lhs; whnf); all_goals rfl) rfl, argE (by (conv => lhs; whnf); all_goals rfl) rfl, argE (by (conv => lhs; whnf); all_goals rfl) rfl, trivial⟩ ⟨boxL rfl rfl rfl ⟨(.ni _ rfl), (.ni _ rfl), trivial⟩, boxL rfl rfl rfl ⟨(.ni _ rfl), (.ni _ rfl), (.ni _ rfl), (.ni _ rfl), (.ni _ rfl), (.ni _ rfl), trivial⟩, blkR (fun _ => ⟨rfl, rfl⟩) rfl rfl, trivial⟩) ?_
                rintro ⟨k_143, a_141⟩ ⟨hk_k_143, hL2⟩
                try dsimp only at hk_k_143 hL2
                show awp _ _ _ _ _ _ ⟨eL [(3, .ptr 0 0), (4, .ptr 1 0), (6, .ptr 2 0), (7, .int .i64 (w64 (i_13 + r_108.1))), (8, .int .i64 i_14), (16, .int .i64 (k_143 : Int))], hL [(0, .box [.lst 1 (r_109.2.L.map iA), .int .i64 r_109.2.At]), (1, .box [.int .i64 r_140.1.Limits.e0, .int .i64 r_140.1.Limits.e1, .int .i64 r_140.1.Limits.e2, .int .i64 r_140.1.Limits.e3, .int .i64 r_140.1.Next, .lst 5 (r_140.1.L.map encCheck)]), (2, .row 2 (a_141.map encA2_Int))], 3⟩
                conv => whnf
                refine len_q (enc := encCheck) (l := r_140.1.L) rfl ?_
                conv => whnf
                refine ⟨fun h => ?_, fun h => ?_⟩
                · have hlt_k_143 : k_143 < r_140.1.L.length := by have h := of_decide_eq_true h; omega
                  obtain ⟨e_144, h_e_144⟩ : ∃ y, r_140.1.L[k_143]? = some y := ⟨_, List.getElem?_eq_getElem hlt_k_143⟩
                  rw [drop_cons h_e_144, law15_ScreenImages_L2.eq_2] at hL2
                  conv => whnf
                  refine ⟨k_143, _, rfl, ix_map h_e_144, ?_⟩
                  conv => whnf
                  refine ⟨fun hb_879 => ?_, fun hb_879 => ?_⟩
                  · replace hL2 := cond_f hb_879 hL2
                    conv => whnf
                    refine ⟨fun hb_880 => ?_, fun hb_880 => ?_⟩
                    · replace hL2 := cond_f hb_880 hL2
                      conv => whnf
                      refine ⟨fun hb_881 => ?_, fun hb_881 => ?_⟩
                      · replace hL2 := cond_t hb_881 hL2
                        conv => whnf
                        obtain rfl := Option.some.inj hL2
                        replace hL1 := sub_ret hL1
                        obtain rfl := Option.some.inj hL1
                        replace hF := fin_ret hF
                        obtain rfl := Option.some.inj hF
                        exact ret_gz [] [] [] rfl (argFl (by (conv => lhs; whnf); all_goals rfl)) trivial
                      · replace hL2 := cond_f hb_881 hL2
                        conv => whnf
                        refine .inr ?_
                        conv => whnf
                        obtain ⟨u_145, h_u_145, hL2⟩ := bind_some hL2
                        refine ixa_q 1 h_u_145 rfl (fun m_u_145 hm_u_145 => ?_)
                        conv => whnf
                        obtain ⟨v_146, h_v_146, hL2⟩ := bind_some hL2
                        refine ⟨_, ix_map (enc := encA2_Int) (ixL_at h_v_146 (ixm1 hm_u_145)), ?_⟩
                        conv => whnf
                        refine ⟨fun hb_882 => ?_, fun hb_882 => ?_⟩
                        · replace hL2 := cond_t hb_882 hL2
                          conv => whnf
                          obtain ⟨u_147, h_u_147, hL2⟩ := bind_some hL2
                          refine ixa_q 1 h_u_147 rfl (fun m_u_147 hm_u_147 => ?_)
                          conv => whnf
                          obtain ⟨v_148, h_v_148, hL2⟩ := bind_some hL2
                          refine ⟨_, ix_map (enc := encA2_Int) (ixL_at h_v_148 (ixm1 hm_u_147)), ?_⟩
                          conv => whnf
                          refine ⟨by kernel_rfl, ?_⟩
                          conv => whnf
                          refine ⟨fun hb_883 => ?_, fun hb_883 => ?_⟩
                          · replace hL2 := cond_t hb_883 hL2
                            conv => whnf
                            obtain rfl := Option.some.inj hL2
                            replace hL1 := sub_ret hL1
                            obtain rfl := Option.some.inj hL1
                            replace hF := fin_ret hF
                            obtain rfl := Option.some.inj hF
                            exact ret_gz [] [] [] rfl (argFl (by (conv => lhs; whnf); all_goals rfl)) trivial
                          · replace hL2 := cond_f hb_883 hL2
                            conv => whnf
                            obtain ⟨u_149, h_u_149, hL2⟩ := bind_some hL2
                            refine ixa_q 1 h_u_149 rfl (fun m_u_149 hm_u_149 => ?_)
                            conv => whnf
                            obtain ⟨v_150, h_v_150, hL2⟩ := bind_some hL2
                            refine st_q (enc := encA2_Int) (l := a_141) (x' := (⟨e_144.Bag, e_144.Level⟩ : A2_Int)) (i := e_144.Image) (ixm1 hm_u_149) (ixL_at h_v_150 (ixm1 hm_u_149)) rfl (Nat.le_of_ble_eq_true rfl) rfl ?_
                            conv => whnf
                            refine ⟨((k_143 + 1 : Nat) : Int), wrapE (by omega) (by omega) (by omega), ?_⟩
                            conv => whnf
                            exact ⟨(k_143 + 1, (a_141.set e_144.Image.toNat (⟨e_144.Bag, e_144.Level⟩ : A2_Int))), [0, 1, 2], [], [], ⟨hlt_k_143, hL2⟩, by show r_140.1.L.length - (k_143 + 1) < r_140.1.L.length - k_143; omega, wk_mk [0, 1, 2] [] [] rfl ⟨argP (id := 0) (by (conv => lhs; whnf); all_goals rfl) rfl, argP (id := 1) (by (conv => lhs; whnf); all_goals rfl) rfl, argP (id := 2) (by (conv => lhs; whnf); all_goals rfl) rfl, argE (by (conv => lhs; whnf); all_goals rfl) rfl, argE (by (conv => lhs; whnf); all_goals rfl) rfl, argE (by (conv => lhs; whnf); all_goals rfl) rfl, trivial⟩ ⟨boxL rfl rfl rfl ⟨(.ni _ rfl), (.ni _ rfl), trivial⟩, boxL rfl rfl rfl ⟨(.ni _ rfl), (.ni _ rfl), (.ni _ rfl), (.ni _ rfl), (.ni _ rfl), (.ni _ rfl), trivial⟩, blkR (fun _ => ⟨rfl, rfl⟩) rfl rfl, trivial⟩⟩
                        · replace hL2 := cond_f hb_882 hL2
                          conv => whnf
                          refine ⟨by kernel_rfl, ?_⟩
                          conv => whnf
                          obtain ⟨u_151, h_u_151, hL2⟩ := bind_some hL2
                          refine ixa_q 1 h_u_151 rfl (fun m_u_151 hm_u_151 => ?_)
                          conv => whnf
                          obtain ⟨v_152, h_v_152, hL2⟩ := bind_some hL2
                          refine st_q (enc := encA2_Int) (l := a_141) (x' := (⟨e_144.Bag, e_144.Level⟩ : A2_Int)) (i := e_144.Image) (ixm1 hm_u_151) (ixL_at h_v_152 (ixm1 hm_u_151)) rfl (Nat.le_of_ble_eq_true rfl) rfl ?_
                          conv => whnf
                          refine ⟨((k_143 + 1 : Nat) : Int), wrapE (by omega) (by omega) (by omega), ?_⟩
                          conv => whnf
                          exact ⟨(k_143 + 1, (a_141.set e_144.Image.toNat (⟨e_144.Bag, e_144.Level⟩ : A2_Int))), [0, 1, 2], [], [], ⟨hlt_k_143, hL2⟩, by show r_140.1.L.length - (k_143 + 1) < r_140.1.L.length - k_143; omega, wk_mk [0, 1, 2] [] [] rfl ⟨argP (id := 0) (by (conv => lhs; whnf); all_goals rfl) rfl, argP (id := 1) (by (conv => lhs; whnf); all_goals rfl) rfl, argP (id := 2) (by (conv => lhs; whnf); all_goals rfl) rfl, argE (by (conv => lhs; whnf); all_goals rfl) rfl, argE (by (conv => lhs; whnf); all_goals rfl) rfl, argE (by (conv => lhs; whnf); all_goals rfl) rfl, trivial⟩ ⟨boxL rfl rfl rfl ⟨(.ni _ rfl), (.ni _ rfl), trivial⟩, boxL rfl rfl rfl ⟨(.ni _ rfl), (.ni _ rfl), (.ni _ rfl), (.ni _ rfl), (.ni _ rfl), (.ni _ rfl), trivial⟩, blkR (fun _ => ⟨rfl, rfl⟩) rfl rfl, trivial⟩⟩
                    · replace hL2 := cond_t hb_880 hL2
                      conv => whnf
                      obtain rfl := Option.some.inj hL2
                      replace hL1 := sub_ret hL1
                      obtain rfl := Option.some.inj hL1
                      replace hF := fin_ret hF
                      obtain rfl := Option.some.inj hF
                      exact ret_gz [] [] [] rfl (argFl (by (conv => lhs; whnf); all_goals rfl)) trivial
                  · replace hL2 := cond_t hb_879 hL2
                    conv => whnf
                    obtain rfl := Option.some.inj hL2
                    replace hL1 := sub_ret hL1
                    obtain rfl := Option.some.inj hL1
                    replace hF := fin_ret hF
                    obtain rfl := Option.some.inj hF
                    exact ret_gz [] [] [] rfl (argFl (by (conv => lhs; whnf); all_goals rfl)) trivial
                · rw [drop_nil (show r_140.1.L.length ≤ k_143 by have h := of_decide_eq_false h; omega), law15_ScreenImages_L2.eq_1] at hL2
                  conv => whnf
                  obtain rfl := Option.some.inj hL2
                  replace hL1 := sub_brk hL1
                  try dsimp only at hL1
                  refine ⟨_, rfl, ?_⟩
                  conv => whnf
                  exact ⟨(q_200, r_109.2.L, r_109.2.At, r_140.1.Limits.e0, r_140.1.Limits.e1, r_140.1.Limits.e2, r_140.1.Limits.e3, r_140.1.Next, r_140.1.L, a_141, (w64 (i_13 + r_108.1)), (w64 (i_14 + (1 : Int)))), [0, 1, 2], [], [], hL1, Nat.lt_succ_self _, wk_mk [0, 1, 2] [] [] rfl ⟨argP (id := 0) (by (conv => lhs; whnf); all_goals rfl) rfl, argP (id := 1) (by (conv => lhs; whnf); all_goals rfl) rfl, argP (id := 2) (by (conv => lhs; whnf); all_goals rfl) rfl, argE (by (conv => lhs; whnf); all_goals rfl) rfl, argE (by (conv => lhs; whnf); all_goals rfl) rfl, trivial⟩ ⟨boxL rfl rfl rfl ⟨(.ni _ rfl), (.ni _ rfl), trivial⟩, boxL rfl rfl rfl ⟨(.ni _ rfl), (.ni _ rfl), (.ni _ rfl), (.ni _ rfl), (.ni _ rfl), (.ni _ rfl), trivial⟩, blkR (fun _ => ⟨rfl, rfl⟩) rfl rfl, trivial⟩⟩
              · replace hL1 := cond_f hb_878 hL1
                conv => whnf
                obtain ⟨c_3, hc_3, hL1⟩ := sub_some hL1
                refine sw_bv 77 (v := .agg [.int .i64 i_6, .int .i64 i_7, .int .i64 i_8, .int .i64 i_9, .int .i64 i_10, .lst 5 (a_11.map encCheck)]) (by (conv => lhs; whnf); all_goals rfl) (fun hb => ?_)
                have hbd_k_157 : a_11.length ≤ 9223372036854775807 := bnd_len (enc := encCheck) ((bnd_at hb.cell 5 rfl))
                refine sw_loop tab_ok follows_ok (fun y : Nat × (List A2_Int) => y.1 ≤ a_11.length ∧ law15_ScreenImages_L3 i_10 (a_11.drop y.1) y.1 y.2 = some c_3) (fun y => ⟨eL [(3, .ptr 0 0), (4, .ptr 1 0), (6, .ptr 2 0), (7, .int .i64 (w64 (i_13 + r_108.1))), (8, .int .i64 i_14), (16, .int .i64 (y.1 : Int))], hL [(0, .box [.lst 1 (r_109.2.L.map iA), .int .i64 r_109.2.At]), (1, .box [.int .i64 i_6, .int .i64 i_7, .int .i64 i_8, .int .i64 i_9, .int .i64 i_10, .lst 5 (a_11.map encCheck)]), (2, .row 2 (y.2.map encA2_Int))], 3⟩) (fun y => a_11.length - y.1) (0, a_12) ⟨Nat.zero_le _, hc_3⟩ (wk_mk [0, 1, 2] [] [] rfl ⟨argP (id := 0) (by (conv => lhs; whnf); all_goals rfl) rfl, argP (id := 1) (by (conv => lhs; whnf); all_goals rfl) rfl, argP (id := 2) (by (conv => lhs; whnf); all_goals rfl) rfl, argE (by (conv => lhs; whnf); all_goals rfl) rfl, argE (by (conv => lhs; whnf); all_goals rfl) rfl, argE (by (conv => lhs; whnf); all_goals rfl) rfl, trivial⟩ ⟨boxL rfl rfl rfl ⟨(.ni _ rfl), (.ni _ rfl), trivial⟩, boxL rfl rfl rfl ⟨(.ni _ rfl), (.ni _ rfl), (.ni _ rfl), (.ni _ rfl), (.ni _ rfl), (.ni _ rfl), trivial⟩, blkR (fun _ => ⟨rfl, rfl⟩) rfl rfl, trivial⟩) ?_
                rintro ⟨k_157, a_155⟩ ⟨hk_k_157, hL2⟩
                try dsimp only at hk_k_157 hL2
                show awp _ _ _ _ _ _ ⟨eL [(3, .ptr 0 0), (4, .ptr 1 0), (6, .ptr 2 0), (7, .int .i64 (w64 (i_13 + r_108.1))), (8, .int .i64 i_14), (16, .int .i64 (k_157 : Int))], hL [(0, .box [.lst 1 (r_109.2.L.map iA), .int .i64 r_109.2.At]), (1, .box [.int .i64 i_6, .int .i64 i_7, .int .i64 i_8, .int .i64 i_9, .int .i64 i_10, .lst 5 (a_11.map encCheck)]), (2, .row 2 (a_155.map encA2_Int))], 3⟩
                conv => whnf
                refine len_q (enc := encCheck) (l := a_11) rfl ?_
                conv => whnf
                refine ⟨fun h => ?_, fun h => ?_⟩
                · have hlt_k_157 : k_157 < a_11.length := by have h := of_decide_eq_true h; omega
                  obtain ⟨e_158, h_e_158⟩ : ∃ y, a_11[k_157]? = some y := ⟨_, List.getElem?_eq_getElem hlt_k_157⟩
                  rw [drop_cons h_e_158, law15_ScreenImages_L3.eq_2] at hL2
                  conv => whnf
                  refine ⟨k_157, _, rfl, ix_map h_e_158, ?_⟩
                  conv => whnf
                  refine ⟨fun hb_884 => ?_, fun hb_884 => ?_⟩
                  · replace hL2 := cond_f hb_884 hL2
                    conv => whnf
                    refine ⟨fun hb_885 => ?_, fun hb_885 => ?_⟩
                    · replace hL2 := cond_f hb_885 hL2
                      conv => whnf
                      refine ⟨fun hb_886 => ?_, fun hb_886 => ?_⟩
                      · replace hL2 := cond_t hb_886 hL2
                        conv => whnf
                        obtain rfl := Option.some.inj hL2
                        replace hL1 := sub_ret hL1
                        obtain rfl := Option.some.inj hL1
                        replace hF := fin_ret hF
                        obtain rfl := Option.some.inj hF
                        exact ret_gz [] [] [] rfl (argFl (by (conv => lhs; whnf); all_goals rfl)) trivial
                      · replace hL2 := cond_f hb_886 hL2
                        conv => whnf
                        refine .inr ?_
                        conv => whnf
                        obtain ⟨u_159, h_u_159, hL2⟩ := bind_some hL2
                        refine ixa_q 1 h_u_159 rfl (fun m_u_159 hm_u_159 => ?_)
                        conv => whnf
                        obtain ⟨v_160, h_v_160, hL2⟩ := bind_some hL2
                        refine ⟨_, ix_map (enc := encA2_Int) (ixL_at h_v_160 (ixm1 hm_u_159)), ?_⟩
                        conv => whnf
                        refine ⟨fun hb_887 => ?_, fun hb_887 => ?_⟩
                        · replace hL2 := cond_t hb_887 hL2
                          conv => whnf
                          obtain ⟨u_161, h_u_161, hL2⟩ := bind_some hL2
                          refine ixa_q 1 h_u_161 rfl (fun m_u_161 hm_u_161 => ?_)
                          conv => whnf
                          obtain ⟨v_162, h_v_162, hL2⟩ := bind_some hL2
                          refine ⟨_, ix_map (enc := encA2_Int) (ixL_at h_v_162 (ixm1 hm_u_161)), ?_⟩
                          conv => whnf
                          refine ⟨by kernel_rfl, ?_⟩
                          conv => whnf
                          refine ⟨fun hb_888 => ?_, fun hb_888 => ?_⟩
                          · replace hL2 := cond_t hb_888 hL2
                            conv => whnf
                            obtain rfl := Option.some.inj hL2
                            replace hL1 := sub_ret hL1
                            obtain rfl := Option.some.inj hL1
                            replace hF := fin_ret hF
                            obtain rfl := Option.some.inj hF
                            exact ret_gz [] [] [] rfl (argFl (by (conv => lhs; whnf); all_goals rfl)) trivial
                          · replace hL2 := cond_f hb_888 hL2
                            conv => whnf
                            obtain ⟨u_163, h_u_163, hL2⟩ := bind_some hL2
                            refine ixa_q 1 h_u_163 rfl (fun m_u_163 hm_u_163 => ?_)
                            conv => whnf
                            obtain ⟨v_164, h_v_164, hL2⟩ := bind_some hL2
                            refine st_q (enc := encA2_Int) (l := a_155) (x' := (⟨e_158.Bag, e_158.Level⟩ : A2_Int)) (i := e_158.Image) (ixm1 hm_u_163) (ixL_at h_v_164 (ixm1 hm_u_163)) rfl (Nat.le_of_ble_eq_true rfl) rfl ?_
                            conv => whnf
                            refine ⟨((k_157 + 1 : Nat) : Int), wrapE (by omega) (by omega) (by omega), ?_⟩
                            conv => whnf
                            exact ⟨(k_157 + 1, (a_155.set e_158.Image.toNat (⟨e_158.Bag, e_158.Level⟩ : A2_Int))), [0, 1, 2], [], [], ⟨hlt_k_157, hL2⟩, by show a_11.length - (k_157 + 1) < a_11.length - k_157; omega, wk_mk [0, 1, 2] [] [] rfl ⟨argP (id := 0) (by (conv => lhs; whnf); all_goals rfl) rfl, argP (id := 1) (by (conv => lhs; whnf); all_goals rfl) rfl, argP (id := 2) (by (conv => lhs; whnf); all_goals rfl) rfl, argE (by (conv => lhs; whnf); all_goals rfl) rfl, argE (by (conv => lhs; whnf); all_goals rfl) rfl, argE (by (conv => lhs; whnf); all_goals rfl) rfl, trivial⟩ ⟨boxL rfl rfl rfl ⟨(.ni _ rfl), (.ni _ rfl), trivial⟩, boxL rfl rfl rfl ⟨(.ni _ rfl), (.ni _ rfl), (.ni _ rfl), (.ni _ rfl), (.ni _ rfl), (.ni _ rfl), trivial⟩, blkR (fun _ => ⟨rfl, rfl⟩) rfl rfl, trivial⟩⟩
                        · replace hL2 := cond_f hb_887 hL2
                          conv => whnf
                          refine ⟨by kernel_rfl, ?_⟩
                          conv => whnf
                          obtain ⟨u_165, h_u_165, hL2⟩ := bind_some hL2
                          refine ixa_q 1 h_u_165 rfl (fun m_u_165 hm_u_165 => ?_)
                          conv => whnf
                          obtain ⟨v_166, h_v_166, hL2⟩ := bind_some hL2
                          refine st_q (enc := encA2_Int) (l := a_155) (x' := (⟨e_158.Bag, e_158.Level⟩ : A2_Int)) (i := e_158.Image) (ixm1 hm_u_165) (ixL_at h_v_166 (ixm1 hm_u_165)) rfl (Nat.le_of_ble_eq_true rfl) rfl ?_
                          conv => whnf
                          refine ⟨((k_157 + 1 : Nat) : Int), wrapE (by omega) (by omega) (by omega), ?_⟩
                          conv => whnf
                          exact ⟨(k_157 + 1, (a_155.set e_158.Image.toNat (⟨e_158.Bag, e_158.Level⟩ : A2_Int))), [0, 1, 2], [], [], ⟨hlt_k_157, hL2⟩, by show a_11.length - (k_157 + 1) < a_11.length - k_157; omega, wk_mk [0, 1, 2] [] [] rfl ⟨argP (id := 0) (by (conv => lhs; whnf); all_goals rfl) rfl, argP (id := 1) (by (conv => lhs; whnf); all_goals rfl) rfl, argP (id := 2) (by (conv => lhs; whnf); all_goals rfl) rfl, argE (by (conv => lhs; whnf); all_goals rfl) rfl, argE (by (conv => lhs; whnf); all_goals rfl) rfl, argE (by (conv => lhs; whnf); all_goals rfl) rfl, trivial⟩ ⟨boxL rfl rfl rfl ⟨(.ni _ rfl), (.ni _ rfl), trivial⟩, boxL rfl rfl rfl ⟨(.ni _ rfl), (.ni _ rfl), (.ni _ rfl), (.ni _ rfl), (.ni _ rfl), (.ni _ rfl), trivial⟩, blkR (fun _ => ⟨rfl, rfl⟩) rfl rfl, trivial⟩⟩
                    · replace hL2 := cond_t hb_885 hL2
                      conv => whnf
                      obtain rfl := Option.some.inj hL2
                      replace hL1 := sub_ret hL1
                      obtain rfl := Option.some.inj hL1
                      replace hF := fin_ret hF
                      obtain rfl := Option.some.inj hF
                      exact ret_gz [] [] [] rfl (argFl (by (conv => lhs; whnf); all_goals rfl)) trivial
                  · replace hL2 := cond_t hb_884 hL2
                    conv => whnf
                    obtain rfl := Option.some.inj hL2
                    replace hL1 := sub_ret hL1
                    obtain rfl := Option.some.inj hL1
                    replace hF := fin_ret hF
                    obtain rfl := Option.some.inj hF
                    exact ret_gz [] [] [] rfl (argFl (by (conv => lhs; whnf); all_goals rfl)) trivial
                · rw [drop_nil (show a_11.length ≤ k_157 by have h := of_decide_eq_false h; omega), law15_ScreenImages_L3.eq_1] at hL2
                  conv => whnf
                  obtain rfl := Option.some.inj hL2
                  replace hL1 := sub_brk hL1
                  try dsimp only at hL1
                  refine ⟨_, rfl, ?_⟩
                  conv => whnf
                  exact ⟨(q_200, r_109.2.L, r_109.2.At, i_6, i_7, i_8, i_9, i_10, a_11, a_155, (w64 (i_13 + r_108.1)), (w64 (i_14 + (1 : Int)))), [0, 1, 2], [], [], hL1, Nat.lt_succ_self _, wk_mk [0, 1, 2] [] [] rfl ⟨argP (id := 0) (by (conv => lhs; whnf); all_goals rfl) rfl, argP (id := 1) (by (conv => lhs; whnf); all_goals rfl) rfl, argP (id := 2) (by (conv => lhs; whnf); all_goals rfl) rfl, argE (by (conv => lhs; whnf); all_goals rfl) rfl, argE (by (conv => lhs; whnf); all_goals rfl) rfl, trivial⟩ ⟨boxL rfl rfl rfl ⟨(.ni _ rfl), (.ni _ rfl), trivial⟩, boxL rfl rfl rfl ⟨(.ni _ rfl), (.ni _ rfl), (.ni _ rfl), (.ni _ rfl), (.ni _ rfl), (.ni _ rfl), trivial⟩, blkR (fun _ => ⟨rfl, rfl⟩) rfl rfl, trivial⟩⟩
            · replace hL1 := cond_f hb_877 hL1
              conv => whnf
              obtain ⟨r_169, h_r_169, hL1⟩ := bind_some hL1
              refine ⟨_, _, _, _, _, _, _, _, _, callX false [0] [] 0 Try.func12 (by decide) rfl (keep_Src_Range_ac r_109.2 (1 : Int) (20 : Int) r_169 h_r_169) rfl ⟨(argP (id := 0) (by (conv => lhs; whnf); all_goals rfl) rfl), (argE (by (conv => lhs; whnf); all_goals rfl) rfl), (argE (by (conv => lhs; whnf); all_goals rfl) rfl), trivial⟩ rfl ⟨rfl, trivial⟩ rfl rfl rfl lend0 ⟨rfl, trivial⟩ rfl, ?_⟩
              conv => whnf
              obtain ⟨r_170, h_r_170, hL1⟩ := bind_some hL1
              refine ⟨_, _, _, _, _, _, _, _, _, callX false [0] [] 0 Try.func10 (by decide) rfl (keep_Src_N_ac r_169.2 (3 : Int) r_170 h_r_170) rfl ⟨(argP (id := 0) (by (conv => lhs; whnf); all_goals rfl) rfl), (argE (by (conv => lhs; whnf); all_goals rfl) rfl), trivial⟩ rfl ⟨rfl, trivial⟩ rfl rfl rfl lend0 ⟨rfl, trivial⟩ rfl, ?_⟩
              conv => whnf
              obtain ⟨r_171, h_r_171, hL1⟩ := bind_some hL1
              refine ⟨_, _, _, _, _, _, _, _, _, callX false [] [] 0 Try.func14 (by decide) rfl (screen_Verdict_ac (⟨(⟨i_6, i_7, i_8, i_9⟩ : A4_Int), i_10, a_11⟩ : Screening) r_169.1 (r_170.1 == (0 : Int)) (w64 (i_13 + r_108.1)) r_171 h_r_171) rfl ⟨(argE (by (conv => lhs; whnf); all_goals rfl) rfl), (argE (by (conv => lhs; whnf); all_goals rfl) rfl), (argE (by (conv => lhs; whnf); all_goals rfl) rfl), (argE (by (conv => lhs; whnf); all_goals rfl) rfl), trivial⟩ rfl trivial rfl rfl rfl lend0 trivial rfl, ?_⟩
              conv => whnf
              refine ⟨by kernel_rfl, ?_⟩
              conv => whnf
              refine ⟨fun hb_889 => ?_, fun hb_889 => ?_⟩
              · replace hL1 := cond_t hb_889 hL1
                conv => whnf
                obtain ⟨c_6, hc_6, hL1⟩ := sub_some hL1
                refine sw_bv 46 (v := .tup [.agg [.int .i64 r_171.1.Limits.e0, .int .i64 r_171.1.Limits.e1, .int .i64 r_171.1.Limits.e2, .int .i64 r_171.1.Limits.e3, .int .i64 r_171.1.Next, .lst 5 (r_171.1.L.map encCheck)], .int .i64 r_171.2.1, .int .i64 r_171.2.2]) (by (conv => lhs; whnf); all_goals rfl) (fun hb => ?_)
                have hbd_k_174 : r_171.1.L.length ≤ 9223372036854775807 := bnd_len (enc := encCheck) ((bnd_at (bnd_at hb.tcell 0 rfl).cell 5 rfl))
                refine sw_loop tab_ok follows_ok (fun y : Nat × (List A2_Int) => y.1 ≤ r_171.1.L.length ∧ law15_ScreenImages_L6 r_171 (r_171.1.L.drop y.1) y.1 y.2 = some c_6) (fun y => ⟨eL [(3, .ptr 0 0), (4, .ptr 1 0), (6, .ptr 2 0), (7, .int .i64 (w64 (i_13 + r_108.1))), (8, .int .i64 i_14), (16, .int .i64 (y.1 : Int))], hL [(0, .box [.lst 1 (r_170.2.L.map iA), .int .i64 r_170.2.At]), (1, .box [.int .i64 r_171.1.Limits.e0, .int .i64 r_171.1.Limits.e1, .int .i64 r_171.1.Limits.e2, .int .i64 r_171.1.Limits.e3, .int .i64 r_171.1.Next, .lst 5 (r_171.1.L.map encCheck)]), (2, .row 2 (y.2.map encA2_Int))], 3⟩) (fun y => r_171.1.L.length - y.1) (0, a_12) ⟨Nat.zero_le _, hc_6⟩ (wk_mk [0, 1, 2] [] [] rfl ⟨argP (id := 0) (by (conv => lhs; whnf); all_goals rfl) rfl, argP (id := 1) (by (conv => lhs; whnf); all_goals rfl) rfl, argP (id := 2) (by (conv => lhs; whnf); all_goals rfl) rfl, argE (by (conv => lhs; whnf); all_goals rfl) rfl, argE (by (conv => lhs; whnf); all_goals rfl) rfl, argE (by (conv => lhs; whnf); all_goals rfl) rfl, trivial⟩ ⟨boxL rfl rfl rfl ⟨(.ni _ rfl), (.ni _ rfl), trivial⟩, boxL rfl rfl rfl ⟨(.ni _ rfl), (.ni _ rfl), (.ni _ rfl), (.ni _ rfl), (.ni _ rfl), (.ni _ rfl), trivial⟩, blkR (fun _ => ⟨rfl, rfl⟩) rfl rfl, trivial⟩) ?_
                rintro ⟨k_174, a_172⟩ ⟨hk_k_174, hL2⟩
                try dsimp only at hk_k_174 hL2
                show awp _ _ _ _ _ _ ⟨eL [(3, .ptr 0 0), (4, .ptr 1 0), (6, .ptr 2 0), (7, .int .i64 (w64 (i_13 + r_108.1))), (8, .int .i64 i_14), (16, .int .i64 (k_174 : Int))], hL [(0, .box [.lst 1 (r_170.2.L.map iA), .int .i64 r_170.2.At]), (1, .box [.int .i64 r_171.1.Limits.e0, .int .i64 r_171.1.Limits.e1, .int .i64 r_171.1.Limits.e2, .int .i64 r_171.1.Limits.e3, .int .i64 r_171.1.Next, .lst 5 (r_171.1.L.map encCheck)]), (2, .row 2 (a_172.map encA2_Int))], 3⟩
                conv => whnf
                refine len_q (enc := encCheck) (l := r_171.1.L) rfl ?_
                conv => whnf
                refine ⟨fun h => ?_, fun h => ?_⟩
                · have hlt_k_174 : k_174 < r_171.1.L.length := by have h := of_decide_eq_true h; omega
                  obtain ⟨e_175, h_e_175⟩ : ∃ y, r_171.1.L[k_174]? = some y := ⟨_, List.getElem?_eq_getElem hlt_k_174⟩
                  rw [drop_cons h_e_175, law15_ScreenImages_L6.eq_2] at hL2
                  conv => whnf
                  refine ⟨k_174, _, rfl, ix_map h_e_175, ?_⟩
                  conv => whnf
                  refine ⟨fun hb_890 => ?_, fun hb_890 => ?_⟩
                  · replace hL2 := cond_f hb_890 hL2
                    conv => whnf
                    refine ⟨fun hb_891 => ?_, fun hb_891 => ?_⟩
                    · replace hL2 := cond_f hb_891 hL2
                      conv => whnf
                      refine ⟨fun hb_892 => ?_, fun hb_892 => ?_⟩
                      · replace hL2 := cond_t hb_892 hL2
                        conv => whnf
                        obtain rfl := Option.some.inj hL2
                        replace hL1 := sub_ret hL1
                        obtain rfl := Option.some.inj hL1
                        replace hF := fin_ret hF
                        obtain rfl := Option.some.inj hF
                        exact ret_gz [] [] [] rfl (argFl (by (conv => lhs; whnf); all_goals rfl)) trivial
                      · replace hL2 := cond_f hb_892 hL2
                        conv => whnf
                        refine .inr ?_
                        conv => whnf
                        obtain ⟨u_176, h_u_176, hL2⟩ := bind_some hL2
                        refine ixa_q 1 h_u_176 rfl (fun m_u_176 hm_u_176 => ?_)
                        conv => whnf
                        obtain ⟨v_177, h_v_177, hL2⟩ := bind_some hL2
                        refine ⟨_, ix_map (enc := encA2_Int) (ixL_at h_v_177 (ixm1 hm_u_176)), ?_⟩
                        conv => whnf
                        refine ⟨fun hb_893 => ?_, fun hb_893 => ?_⟩
                        · replace hL2 := cond_t hb_893 hL2
                          conv => whnf
                          obtain ⟨u_178, h_u_178, hL2⟩ := bind_some hL2
                          refine ixa_q 1 h_u_178 rfl (fun m_u_178 hm_u_178 => ?_)
                          conv => whnf
                          obtain ⟨v_179, h_v_179, hL2⟩ := bind_some hL2
                          refine ⟨_, ix_map (enc := encA2_Int) (ixL_at h_v_179 (ixm1 hm_u_178)), ?_⟩
                          conv => whnf
                          refine ⟨by kernel_rfl, ?_⟩
                          conv => whnf
                          refine ⟨fun hb_894 => ?_, fun hb_894 => ?_⟩
                          · replace hL2 := cond_t hb_894 hL2
                            conv => whnf
                            obtain rfl := Option.some.inj hL2
                            replace hL1 := sub_ret hL1
                            obtain rfl := Option.some.inj hL1
                            replace hF := fin_ret hF
                            obtain rfl := Option.some.inj hF
                            exact ret_gz [] [] [] rfl (argFl (by (conv => lhs; whnf); all_goals rfl)) trivial
                          · replace hL2 := cond_f hb_894 hL2
                            conv => whnf
                            obtain ⟨u_180, h_u_180, hL2⟩ := bind_some hL2
                            refine ixa_q 1 h_u_180 rfl (fun m_u_180 hm_u_180 => ?_)
                            conv => whnf
                            obtain ⟨v_181, h_v_181, hL2⟩ := bind_some hL2
                            refine st_q (enc := encA2_Int) (l := a_172) (x' := (⟨e_175.Bag, e_175.Level⟩ : A2_Int)) (i := e_175.Image) (ixm1 hm_u_180) (ixL_at h_v_181 (ixm1 hm_u_180)) rfl (Nat.le_of_ble_eq_true rfl) rfl ?_
                            conv => whnf
                            refine ⟨((k_174 + 1 : Nat) : Int), wrapE (by omega) (by omega) (by omega), ?_⟩
                            conv => whnf
                            exact ⟨(k_174 + 1, (a_172.set e_175.Image.toNat (⟨e_175.Bag, e_175.Level⟩ : A2_Int))), [0, 1, 2], [], [], ⟨hlt_k_174, hL2⟩, by show r_171.1.L.length - (k_174 + 1) < r_171.1.L.length - k_174; omega, wk_mk [0, 1, 2] [] [] rfl ⟨argP (id := 0) (by (conv => lhs; whnf); all_goals rfl) rfl, argP (id := 1) (by (conv => lhs; whnf); all_goals rfl) rfl, argP (id := 2) (by (conv => lhs; whnf); all_goals rfl) rfl, argE (by (conv => lhs; whnf); all_goals rfl) rfl, argE (by (conv => lhs; whnf); all_goals rfl) rfl, argE (by (conv => lhs; whnf); all_goals rfl) rfl, trivial⟩ ⟨boxL rfl rfl rfl ⟨(.ni _ rfl), (.ni _ rfl), trivial⟩, boxL rfl rfl rfl ⟨(.ni _ rfl), (.ni _ rfl), (.ni _ rfl), (.ni _ rfl), (.ni _ rfl), (.ni _ rfl), trivial⟩, blkR (fun _ => ⟨rfl, rfl⟩) rfl rfl, trivial⟩⟩
                        · replace hL2 := cond_f hb_893 hL2
                          conv => whnf
                          refine ⟨by kernel_rfl, ?_⟩
                          conv => whnf
                          obtain ⟨u_182, h_u_182, hL2⟩ := bind_some hL2
                          refine ixa_q 1 h_u_182 rfl (fun m_u_182 hm_u_182 => ?_)
                          conv => whnf
                          obtain ⟨v_183, h_v_183, hL2⟩ := bind_some hL2
                          refine st_q (enc := encA2_Int) (l := a_172) (x' := (⟨e_175.Bag, e_175.Level⟩ : A2_Int)) (i := e_175.Image) (ixm1 hm_u_182) (ixL_at h_v_183 (ixm1 hm_u_182)) rfl (Nat.le_of_ble_eq_true rfl) rfl ?_
                          conv => whnf
                          refine ⟨((k_174 + 1 : Nat) : Int), wrapE (by omega) (by omega) (by omega), ?_⟩
                          conv => whnf
                          exact ⟨(k_174 + 1, (a_172.set e_175.Image.toNat (⟨e_175.Bag, e_175.Level⟩ : A2_Int))), [0, 1, 2], [], [], ⟨hlt_k_174, hL2⟩, by show r_171.1.L.length - (k_174 + 1) < r_171.1.L.length - k_174; omega, wk_mk [0, 1, 2] [] [] rfl ⟨argP (id := 0) (by (conv => lhs; whnf); all_goals rfl) rfl, argP (id := 1) (by (conv => lhs; whnf); all_goals rfl) rfl, argP (id := 2) (by (conv => lhs; whnf); all_goals rfl) rfl, argE (by (conv => lhs; whnf); all_goals rfl) rfl, argE (by (conv => lhs; whnf); all_goals rfl) rfl, argE (by (conv => lhs; whnf); all_goals rfl) rfl, trivial⟩ ⟨boxL rfl rfl rfl ⟨(.ni _ rfl), (.ni _ rfl), trivial⟩, boxL rfl rfl rfl ⟨(.ni _ rfl), (.ni _ rfl), (.ni _ rfl), (.ni _ rfl), (.ni _ rfl), (.ni _ rfl), trivial⟩, blkR (fun _ => ⟨rfl, rfl⟩) rfl rfl, trivial⟩⟩
                    · replace hL2 := cond_t hb_891 hL2
                      conv => whnf
                      obtain rfl := Option.some.inj hL2
                      replace hL1 := sub_ret hL1
                      obtain rfl := Option.some.inj hL1
                      replace hF := fin_ret hF
                      obtain rfl := Option.some.inj hF
                      exact ret_gz [] [] [] rfl (argFl (by (conv => lhs; whnf); all_goals rfl)) trivial
                  · replace hL2 := cond_t hb_890 hL2
                    conv => whnf
                    obtain rfl := Option.some.inj hL2
                    replace hL1 := sub_ret hL1
                    obtain rfl := Option.some.inj hL1
                    replace hF := fin_ret hF
                    obtain rfl := Option.some.inj hF
                    exact ret_gz [] [] [] rfl (argFl (by (conv => lhs; whnf); all_goals rfl)) trivial
                · rw [drop_nil (show r_171.1.L.length ≤ k_174 by have h := of_decide_eq_false h; omega), law15_ScreenImages_L6.eq_1] at hL2
                  conv => whnf
                  obtain rfl := Option.some.inj hL2
                  replace hL1 := sub_brk hL1
                  try dsimp only at hL1
                  refine ⟨_, rfl, ?_⟩
                  conv => whnf
                  exact ⟨(q_200, r_170.2.L, r_170.2.At, r_171.1.Limits.e0, r_171.1.Limits.e1, r_171.1.Limits.e2, r_171.1.Limits.e3, r_171.1.Next, r_171.1.L, a_172, (w64 (i_13 + r_108.1)), (w64 (i_14 + (1 : Int)))), [0, 1, 2], [], [], hL1, Nat.lt_succ_self _, wk_mk [0, 1, 2] [] [] rfl ⟨argP (id := 0) (by (conv => lhs; whnf); all_goals rfl) rfl, argP (id := 1) (by (conv => lhs; whnf); all_goals rfl) rfl, argP (id := 2) (by (conv => lhs; whnf); all_goals rfl) rfl, argE (by (conv => lhs; whnf); all_goals rfl) rfl, argE (by (conv => lhs; whnf); all_goals rfl) rfl, trivial⟩ ⟨boxL rfl rfl rfl ⟨(.ni _ rfl), (.ni _ rfl), trivial⟩, boxL rfl rfl rfl ⟨(.ni _ rfl), (.ni _ rfl), (.ni _ rfl), (.ni _ rfl), (.ni _ rfl), (.ni _ rfl), trivial⟩, blkR (fun _ => ⟨rfl, rfl⟩) rfl rfl, trivial⟩⟩
              · replace hL1 := cond_f hb_889 hL1
                conv => whnf
                obtain ⟨c_3, hc_3, hL1⟩ := sub_some hL1
                refine sw_bv 47 (v := .agg [.int .i64 i_6, .int .i64 i_7, .int .i64 i_8, .int .i64 i_9, .int .i64 i_10, .lst 5 (a_11.map encCheck)]) (by (conv => lhs; whnf); all_goals rfl) (fun hb => ?_)
                have hbd_k_188 : a_11.length ≤ 9223372036854775807 := bnd_len (enc := encCheck) ((bnd_at hb.cell 5 rfl))
                refine sw_loop tab_ok follows_ok (fun y : Nat × (List A2_Int) => y.1 ≤ a_11.length ∧ law15_ScreenImages_L3 i_10 (a_11.drop y.1) y.1 y.2 = some c_3) (fun y => ⟨eL [(3, .ptr 0 0), (4, .ptr 1 0), (6, .ptr 2 0), (7, .int .i64 (w64 (i_13 + r_108.1))), (8, .int .i64 i_14), (16, .int .i64 (y.1 : Int))], hL [(0, .box [.lst 1 (r_170.2.L.map iA), .int .i64 r_170.2.At]), (1, .box [.int .i64 i_6, .int .i64 i_7, .int .i64 i_8, .int .i64 i_9, .int .i64 i_10, .lst 5 (a_11.map encCheck)]), (2, .row 2 (y.2.map encA2_Int))], 3⟩) (fun y => a_11.length - y.1) (0, a_12) ⟨Nat.zero_le _, hc_3⟩ (wk_mk [0, 1, 2] [] [] rfl ⟨argP (id := 0) (by (conv => lhs; whnf); all_goals rfl) rfl, argP (id := 1) (by (conv => lhs; whnf); all_goals rfl) rfl, argP (id := 2) (by (conv => lhs; whnf); all_goals rfl) rfl, argE (by (conv => lhs; whnf); all_goals rfl) rfl, argE (by (conv => lhs; whnf); all_goals rfl) rfl, argE (by (conv => lhs; whnf); all_goals rfl) rfl, trivial⟩ ⟨boxL rfl rfl rfl ⟨(.ni _ rfl), (.ni _ rfl), trivial⟩, boxL rfl rfl rfl ⟨(.ni _ rfl), (.ni _ rfl), (.ni _ rfl), (.ni _ rfl), (.ni _ rfl), (.ni _ rfl), trivial⟩, blkR (fun _ => ⟨rfl, rfl⟩) rfl rfl, trivial⟩) ?_
                rintro ⟨k_188, a_186⟩ ⟨hk_k_188, hL2⟩
                try dsimp only at hk_k_188 hL2
                show awp _ _ _ _ _ _ ⟨eL [(3, .ptr 0 0), (4, .ptr 1 0), (6, .ptr 2 0), (7, .int .i64 (w64 (i_13 + r_108.1))), (8, .int .i64 i_14), (16, .int .i64 (k_188 : Int))], hL [(0, .box [.lst 1 (r_170.2.L.map iA), .int .i64 r_170.2.At]), (1, .box [.int .i64 i_6, .int .i64 i_7, .int .i64 i_8, .int .i64 i_9, .int .i64 i_10, .lst 5 (a_11.map encCheck)]), (2, .row 2 (a_186.map encA2_Int))], 3⟩
                conv => whnf
                refine len_q (enc := encCheck) (l := a_11) rfl ?_
                conv => whnf
                refine ⟨fun h => ?_, fun h => ?_⟩
                · have hlt_k_188 : k_188 < a_11.length := by have h := of_decide_eq_true h; omega
                  obtain ⟨e_189, h_e_189⟩ : ∃ y, a_11[k_188]? = some y := ⟨_, List.getElem?_eq_getElem hlt_k_188⟩
                  rw [drop_cons h_e_189, law15_ScreenImages_L3.eq_2] at hL2
                  conv => whnf
                  refine ⟨k_188, _, rfl, ix_map h_e_189, ?_⟩
                  conv => whnf
                  refine ⟨fun hb_895 => ?_, fun hb_895 => ?_⟩
                  · replace hL2 := cond_f hb_895 hL2
                    conv => whnf
                    refine ⟨fun hb_896 => ?_, fun hb_896 => ?_⟩
                    · replace hL2 := cond_f hb_896 hL2
                      conv => whnf
                      refine ⟨fun hb_897 => ?_, fun hb_897 => ?_⟩
                      · replace hL2 := cond_t hb_897 hL2
                        conv => whnf
                        obtain rfl := Option.some.inj hL2
                        replace hL1 := sub_ret hL1
                        obtain rfl := Option.some.inj hL1
                        replace hF := fin_ret hF
                        obtain rfl := Option.some.inj hF
                        exact ret_gz [] [] [] rfl (argFl (by (conv => lhs; whnf); all_goals rfl)) trivial
                      · replace hL2 := cond_f hb_897 hL2
                        conv => whnf
                        refine .inr ?_
                        conv => whnf
                        obtain ⟨u_190, h_u_190, hL2⟩ := bind_some hL2
                        refine ixa_q 1 h_u_190 rfl (fun m_u_190 hm_u_190 => ?_)
                        conv => whnf
                        obtain ⟨v_191, h_v_191, hL2⟩ := bind_some hL2
                        refine ⟨_, ix_map (enc := encA2_Int) (ixL_at h_v_191 (ixm1 hm_u_190)), ?_⟩
                        conv => whnf
                        refine ⟨fun hb_898 => ?_, fun hb_898 => ?_⟩
                        · replace hL2 := cond_t hb_898 hL2
                          conv => whnf
                          obtain ⟨u_192, h_u_192, hL2⟩ := bind_some hL2
                          refine ixa_q 1 h_u_192 rfl (fun m_u_192 hm_u_192 => ?_)
                          conv => whnf
                          obtain ⟨v_193, h_v_193, hL2⟩ := bind_some hL2
                          refine ⟨_, ix_map (enc := encA2_Int) (ixL_at h_v_193 (ixm1 hm_u_192)), ?_⟩
                          conv => whnf
                          refine ⟨by kernel_rfl, ?_⟩
                          conv => whnf
                          refine ⟨fun hb_899 => ?_, fun hb_899 => ?_⟩
                          · replace hL2 := cond_t hb_899 hL2
                            conv => whnf
                            obtain rfl := Option.some.inj hL2
                            replace hL1 := sub_ret hL1
                            obtain rfl := Option.some.inj hL1
                            replace hF := fin_ret hF
                            obtain rfl := Option.some.inj hF
                            exact ret_gz [] [] [] rfl (argFl (by (conv => lhs; whnf); all_goals rfl)) trivial
                          · replace hL2 := cond_f hb_899 hL2
                            conv => whnf
                            obtain ⟨u_194, h_u_194, hL2⟩ := bind_some hL2
                            refine ixa_q 1 h_u_194 rfl (fun m_u_194 hm_u_194 => ?_)
                            conv => whnf
                            obtain ⟨v_195, h_v_195, hL2⟩ := bind_some hL2
                            refine st_q (enc := encA2_Int) (l := a_186) (x' := (⟨e_189.Bag, e_189.Level⟩ : A2_Int)) (i := e_189.Image) (ixm1 hm_u_194) (ixL_at h_v_195 (ixm1 hm_u_194)) rfl (Nat.le_of_ble_eq_true rfl) rfl ?_
                            conv => whnf
                            refine ⟨((k_188 + 1 : Nat) : Int), wrapE (by omega) (by omega) (by omega), ?_⟩
                            conv => whnf
                            exact ⟨(k_188 + 1, (a_186.set e_189.Image.toNat (⟨e_189.Bag, e_189.Level⟩ : A2_Int))), [0, 1, 2], [], [], ⟨hlt_k_188, hL2⟩, by show a_11.length - (k_188 + 1) < a_11.length - k_188; omega, wk_mk [0, 1, 2] [] [] rfl ⟨argP (id := 0) (by (conv => lhs; whnf); all_goals rfl) rfl, argP (id := 1) (by (conv => lhs; whnf); all_goals rfl) rfl, argP (id := 2) (by (conv => lhs; whnf); all_goals rfl) rfl, argE (by (conv => lhs; whnf); all_goals rfl) rfl, argE (by (conv => lhs; whnf); all_goals rfl) rfl, argE (by (conv => lhs; whnf); all_goals rfl) rfl, trivial⟩ ⟨boxL rfl rfl rfl ⟨(.ni _ rfl), (.ni _ rfl), trivial⟩, boxL rfl rfl rfl ⟨(.ni _ rfl), (.ni _ rfl), (.ni _ rfl), (.ni _ rfl), (.ni _ rfl), (.ni _ rfl), trivial⟩, blkR (fun _ => ⟨rfl, rfl⟩) rfl rfl, trivial⟩⟩
                        · replace hL2 := cond_f hb_898 hL2
                          conv => whnf
                          refine ⟨by kernel_rfl, ?_⟩
                          conv => whnf
                          obtain ⟨u_196, h_u_196, hL2⟩ := bind_some hL2
                          refine ixa_q 1 h_u_196 rfl (fun m_u_196 hm_u_196 => ?_)
                          conv => whnf
                          obtain ⟨v_197, h_v_197, hL2⟩ := bind_some hL2
                          refine st_q (enc := encA2_Int) (l := a_186) (x' := (⟨e_189.Bag, e_189.Level⟩ : A2_Int)) (i := e_189.Image) (ixm1 hm_u_196) (ixL_at h_v_197 (ixm1 hm_u_196)) rfl (Nat.le_of_ble_eq_true rfl) rfl ?_
                          conv => whnf
                          refine ⟨((k_188 + 1 : Nat) : Int), wrapE (by omega) (by omega) (by omega), ?_⟩
                          conv => whnf
                          exact ⟨(k_188 + 1, (a_186.set e_189.Image.toNat (⟨e_189.Bag, e_189.Level⟩ : A2_Int))), [0, 1, 2], [], [], ⟨hlt_k_188, hL2⟩, by show a_11.length - (k_188 + 1) < a_11.length - k_188; omega, wk_mk [0, 1, 2] [] [] rfl ⟨argP (id := 0) (by (conv => lhs; whnf); all_goals rfl) rfl, argP (id := 1) (by (conv => lhs; whnf); all_goals rfl) rfl, argP (id := 2) (by (conv => lhs; whnf); all_goals rfl) rfl, argE (by (conv => lhs; whnf); all_goals rfl) rfl, argE (by (conv => lhs; whnf); all_goals rfl) rfl, argE (by (conv => lhs; whnf); all_goals rfl) rfl, trivial⟩ ⟨boxL rfl rfl rfl ⟨(.ni _ rfl), (.ni _ rfl), trivial⟩, boxL rfl rfl rfl ⟨(.ni _ rfl), (.ni _ rfl), (.ni _ rfl), (.ni _ rfl), (.ni _ rfl), (.ni _ rfl), trivial⟩, blkR (fun _ => ⟨rfl, rfl⟩) rfl rfl, trivial⟩⟩
                    · replace hL2 := cond_t hb_896 hL2
                      conv => whnf
                      obtain rfl := Option.some.inj hL2
                      replace hL1 := sub_ret hL1
                      obtain rfl := Option.some.inj hL1
                      replace hF := fin_ret hF
                      obtain rfl := Option.some.inj hF
                      exact ret_gz [] [] [] rfl (argFl (by (conv => lhs; whnf); all_goals rfl)) trivial
                  · replace hL2 := cond_t hb_895 hL2
                    conv => whnf
                    obtain rfl := Option.some.inj hL2
                    replace hL1 := sub_ret hL1
                    obtain rfl := Option.some.inj hL1
                    replace hF := fin_ret hF
                    obtain rfl := Option.some.inj hF
                    exact ret_gz [] [] [] rfl (argFl (by (conv => lhs; whnf); all_goals rfl)) trivial
                · rw [drop_nil (show a_11.length ≤ k_188 by have h := of_decide_eq_false h; omega), law15_ScreenImages_L3.eq_1] at hL2
                  conv => whnf
                  obtain rfl := Option.some.inj hL2
                  replace hL1 := sub_brk hL1
                  try dsimp only at hL1
                  refine ⟨_, rfl, ?_⟩
                  conv => whnf
                  exact ⟨(q_200, r_170.2.L, r_170.2.At, i_6, i_7, i_8, i_9, i_10, a_11, a_186, (w64 (i_13 + r_108.1)), (w64 (i_14 + (1 : Int)))), [0, 1, 2], [], [], hL1, Nat.lt_succ_self _, wk_mk [0, 1, 2] [] [] rfl ⟨argP (id := 0) (by (conv => lhs; whnf); all_goals rfl) rfl, argP (id := 1) (by (conv => lhs; whnf); all_goals rfl) rfl, argP (id := 2) (by (conv => lhs; whnf); all_goals rfl) rfl, argE (by (conv => lhs; whnf); all_goals rfl) rfl, argE (by (conv => lhs; whnf); all_goals rfl) rfl, trivial⟩ ⟨boxL rfl rfl rfl ⟨(.ni _ rfl), (.ni _ rfl), trivial⟩, boxL rfl rfl rfl ⟨(.ni _ rfl), (.ni _ rfl), (.ni _ rfl), (.ni _ rfl), (.ni _ rfl), (.ni _ rfl), trivial⟩, blkR (fun _ => ⟨rfl, rfl⟩) rfl rfl, trivial⟩⟩
        · replace hL1 := cond_f hb_864 hL1
          conv => whnf
          obtain rfl := Option.some.inj hL1
          replace hF := fin_brk hF
          try dsimp only at hF
          obtain ⟨r_202, h_r_202, hF⟩ := bind_some hF
          refine ⟨_, _, _, _, _, _, _, _, _, callX false [] [] 0 Try.func15 (by decide) rfl (law15_awake_ac r_202 h_r_202) rfl trivial rfl trivial rfl rfl rfl lend0 trivial rfl, ?_⟩
          conv => whnf
          obtain rfl := Option.some.inj hF
          exact ret_gz [] [] [] rfl (argE (by (conv => lhs; whnf); all_goals rfl) rfl) trivial
      · replace hL1 := cond_t hb_828 hL1
        conv => whnf
        obtain ⟨r_15, h_r_15, hL1⟩ := bind_some hL1
        refine ⟨_, _, _, _, _, _, _, _, _, callX false [0] [] 0 Try.func10 (by decide) rfl (keep_Src_N_ac (⟨a_4, i_5⟩ : Src) (3 : Int) r_15 h_r_15) rfl ⟨(argP (id := 0) (by (conv => lhs; whnf); all_goals rfl) rfl), (argE (by (conv => lhs; whnf); all_goals rfl) rfl), trivial⟩ rfl ⟨rfl, trivial⟩ rfl rfl rfl lend0 ⟨rfl, trivial⟩ rfl, ?_⟩
        conv => whnf
        refine ⟨_, rfl, ?_⟩
        conv => whnf
        obtain ⟨r_16, h_r_16, hL1⟩ := bind_some hL1
        refine ⟨_, _, _, _, _, _, _, _, _, callX false [0] [] 0 Try.func10 (by decide) rfl (keep_Src_N_ac r_15.2 (3 : Int) r_16 h_r_16) rfl ⟨(argP (id := 0) (by (conv => lhs; whnf); all_goals rfl) rfl), (argE (by (conv => lhs; whnf); all_goals rfl) rfl), trivial⟩ rfl ⟨rfl, trivial⟩ rfl rfl rfl lend0 ⟨rfl, trivial⟩ rfl, ?_⟩
        conv => whnf
        refine ⟨fun hb_829 => ?_, fun hb_829 => ?_⟩
        · replace hL1 := cond_t hb_829 hL1
          conv => whnf
          obtain ⟨r_17, h_r_17, hL1⟩ := bind_some hL1
          refine ⟨_, _, _, _, _, _, _, _, _, callX false [0] [] 0 Try.func12 (by decide) rfl (keep_Src_Range_ac r_16.2 (1 : Int) (6 : Int) r_17 h_r_17) rfl ⟨(argP (id := 0) (by (conv => lhs; whnf); all_goals rfl) rfl), (argE (by (conv => lhs; whnf); all_goals rfl) rfl), (argE (by (conv => lhs; whnf); all_goals rfl) rfl), trivial⟩ rfl ⟨rfl, trivial⟩ rfl rfl rfl lend0 ⟨rfl, trivial⟩ rfl, ?_⟩
          conv => whnf
          obtain ⟨r_18, h_r_18, hL1⟩ := bind_some hL1
          refine ⟨_, _, _, _, _, _, _, _, _, callX false [] [] 0 Try.func11 (by decide) rfl (screen_Start_ac (⟨(⟨i_6, i_7, i_8, i_9⟩ : A4_Int), i_10, a_11⟩ : Screening) r_17.1 (w64 (i_13 + r_15.1)) r_18 h_r_18) rfl ⟨(argE (by (conv => lhs; whnf); all_goals rfl) rfl), (argE (by (conv => lhs; whnf); all_goals rfl) rfl), (argE (by (conv => lhs; whnf); all_goals rfl) rfl), trivial⟩ rfl trivial rfl rfl rfl lend0 trivial rfl, ?_⟩
          conv => whnf
          refine ⟨by kernel_rfl, ?_⟩
          conv => whnf
          refine ⟨fun hb_830 => ?_, fun hb_830 => ?_⟩
          · replace hL1 := cond_t hb_830 hL1
            conv => whnf
            obtain ⟨c_2, hc_2, hL1⟩ := sub_some hL1
            refine sw_bv 63 (v := .tup [.agg [.int .i64 r_18.1.Limits.e0, .int .i64 r_18.1.Limits.e1, .int .i64 r_18.1.Limits.e2, .int .i64 r_18.1.Limits.e3, .int .i64 r_18.1.Next, .lst 5 (r_18.1.L.map encCheck)], .int .i64 r_18.2]) (by (conv => lhs; whnf); all_goals rfl) (fun hb => ?_)
            have hbd_k_21 : r_18.1.L.length ≤ 9223372036854775807 := bnd_len (enc := encCheck) ((bnd_at (bnd_at hb.tcell 0 rfl).cell 5 rfl))
            refine sw_loop tab_ok follows_ok (fun y : Nat × (List A2_Int) => y.1 ≤ r_18.1.L.length ∧ law15_ScreenImages_L2 r_18 (r_18.1.L.drop y.1) y.1 y.2 = some c_2) (fun y => ⟨eL [(3, .ptr 0 0), (4, .ptr 1 0), (6, .ptr 2 0), (7, .int .i64 (w64 (i_13 + r_15.1))), (8, .int .i64 i_14), (16, .int .i64 (y.1 : Int))], hL [(0, .box [.lst 1 (r_17.2.L.map iA), .int .i64 r_17.2.At]), (1, .box [.int .i64 r_18.1.Limits.e0, .int .i64 r_18.1.Limits.e1, .int .i64 r_18.1.Limits.e2, .int .i64 r_18.1.Limits.e3, .int .i64 r_18.1.Next, .lst 5 (r_18.1.L.map encCheck)]), (2, .row 2 (y.2.map encA2_Int))], 3⟩) (fun y => r_18.1.L.length - y.1) (0, a_12) ⟨Nat.zero_le _, hc_2⟩ (wk_mk [0, 1, 2] [] [] rfl ⟨argP (id := 0) (by (conv => lhs; whnf); all_goals rfl) rfl, argP (id := 1) (by (conv => lhs; whnf); all_goals rfl) rfl, argP (id := 2) (by (conv => lhs; whnf); all_goals rfl) rfl, argE (by (conv => lhs; whnf); all_goals rfl) rfl, argE (by (conv => lhs; whnf); all_goals rfl) rfl, argE (by (conv => lhs; whnf); all_goals rfl) rfl, trivial⟩ ⟨boxL rfl rfl rfl ⟨(.ni _ rfl), (.ni _ rfl), trivial⟩, boxL rfl rfl rfl ⟨(.ni _ rfl), (.ni _ rfl), (.ni _ rfl), (.ni _ rfl), (.ni _ rfl), (.ni _ rfl), trivial⟩, blkR (fun _ => ⟨rfl, rfl⟩) rfl rfl, trivial⟩) ?_
            rintro ⟨k_21, a_19⟩ ⟨hk_k_21, hL2⟩
            try dsimp only at hk_k_21 hL2
            show awp _ _ _ _ _ _ ⟨eL [(3, .ptr 0 0), (4, .ptr 1 0), (6, .ptr 2 0), (7, .int .i64 (w64 (i_13 + r_15.1))), (8, .int .i64 i_14), (16, .int .i64 (k_21 : Int))], hL [(0, .box [.lst 1 (r_17.2.L.map iA), .int .i64 r_17.2.At]), (1, .box [.int .i64 r_18.1.Limits.e0, .int .i64 r_18.1.Limits.e1, .int .i64 r_18.1.Limits.e2, .int .i64 r_18.1.Limits.e3, .int .i64 r_18.1.Next, .lst 5 (r_18.1.L.map encCheck)]), (2, .row 2 (a_19.map encA2_Int))], 3⟩
            conv => whnf
            refine len_q (enc := encCheck) (l := r_18.1.L) rfl ?_
            conv => whnf
            refine ⟨fun h => ?_, fun h => ?_⟩
            · have hlt_k_21 : k_21 < r_18.1.L.length := by have h := of_decide_eq_true h; omega
              obtain ⟨e_22, h_e_22⟩ : ∃ y, r_18.1.L[k_21]? = some y := ⟨_, List.getElem?_eq_getElem hlt_k_21⟩
              rw [drop_cons h_e_22, law15_ScreenImages_L2.eq_2] at hL2
              conv => whnf
              refine ⟨k_21, _, rfl, ix_map h_e_22, ?_⟩
              conv => whnf
              refine ⟨fun hb_831 => ?_, fun hb_831 => ?_⟩
              · replace hL2 := cond_f hb_831 hL2
                conv => whnf
                refine ⟨fun hb_832 => ?_, fun hb_832 => ?_⟩
                · replace hL2 := cond_f hb_832 hL2
                  conv => whnf
                  refine ⟨fun hb_833 => ?_, fun hb_833 => ?_⟩
                  · replace hL2 := cond_t hb_833 hL2
                    conv => whnf
                    obtain rfl := Option.some.inj hL2
                    replace hL1 := sub_ret hL1
                    obtain rfl := Option.some.inj hL1
                    replace hF := fin_ret hF
                    obtain rfl := Option.some.inj hF
                    exact ret_gz [] [] [] rfl (argFl (by (conv => lhs; whnf); all_goals rfl)) trivial
                  · replace hL2 := cond_f hb_833 hL2
                    conv => whnf
                    refine .inr ?_
                    conv => whnf
                    obtain ⟨u_23, h_u_23, hL2⟩ := bind_some hL2
                    refine ixa_q 1 h_u_23 rfl (fun m_u_23 hm_u_23 => ?_)
                    conv => whnf
                    obtain ⟨v_24, h_v_24, hL2⟩ := bind_some hL2
                    refine ⟨_, ix_map (enc := encA2_Int) (ixL_at h_v_24 (ixm1 hm_u_23)), ?_⟩
                    conv => whnf
                    refine ⟨fun hb_834 => ?_, fun hb_834 => ?_⟩
                    · replace hL2 := cond_t hb_834 hL2
                      conv => whnf
                      obtain ⟨u_25, h_u_25, hL2⟩ := bind_some hL2
                      refine ixa_q 1 h_u_25 rfl (fun m_u_25 hm_u_25 => ?_)
                      conv => whnf
                      obtain ⟨v_26, h_v_26, hL2⟩ := bind_some hL2
                      refine ⟨_, ix_map (enc := encA2_Int) (ixL_at h_v_26 (ixm1 hm_u_25)), ?_⟩
                      conv => whnf
                      refine ⟨by kernel_rfl, ?_⟩
                      conv => whnf
                      refine ⟨fun hb_835 => ?_, fun hb_835 => ?_⟩
                      · replace hL2 := cond_t hb_835 hL2
                        conv => whnf
                        obtain rfl := Option.some.inj hL2
                        replace hL1 := sub_ret hL1
                        obtain rfl := Option.some.inj hL1
                        replace hF := fin_ret hF
                        obtain rfl := Option.some.inj hF
                        exact ret_gz [] [] [] rfl (argFl (by (conv => lhs; whnf); all_goals rfl)) trivial
                      · replace hL2 := cond_f hb_835 hL2
                        conv => whnf
                        obtain ⟨u_27, h_u_27, hL2⟩ := bind_some hL2
                        refine ixa_q 1 h_u_27 rfl (fun m_u_27 hm_u_27 => ?_)
                        conv => whnf
                        obtain ⟨v_28, h_v_28, hL2⟩ := bind_some hL2
                        refine st_q (enc := encA2_Int) (l := a_19) (x' := (⟨e_22.Bag, e_22.Level⟩ : A2_Int)) (i := e_22.Image) (ixm1 hm_u_27) (ixL_at h_v_28 (ixm1 hm_u_27)) rfl (Nat.le_of_ble_eq_true rfl) rfl ?_
                        conv => whnf
                        refine ⟨((k_21 + 1 : Nat) : Int), wrapE (by omega) (by omega) (by omega), ?_⟩
                        conv => whnf
                        exact ⟨(k_21 + 1, (a_19.set e_22.Image.toNat (⟨e_22.Bag, e_22.Level⟩ : A2_Int))), [0, 1, 2], [], [], ⟨hlt_k_21, hL2⟩, by show r_18.1.L.length - (k_21 + 1) < r_18.1.L.length - k_21; omega, wk_mk [0, 1, 2] [] [] rfl ⟨argP (id := 0) (by (conv => lhs; whnf); all_goals rfl) rfl, argP (id := 1) (by (conv => lhs; whnf); all_goals rfl) rfl, argP (id := 2) (by (conv => lhs; whnf); all_goals rfl) rfl, argE (by (conv => lhs; whnf); all_goals rfl) rfl, argE (by (conv => lhs; whnf); all_goals rfl) rfl, argE (by (conv => lhs; whnf); all_goals rfl) rfl, trivial⟩ ⟨boxL rfl rfl rfl ⟨(.ni _ rfl), (.ni _ rfl), trivial⟩, boxL rfl rfl rfl ⟨(.ni _ rfl), (.ni _ rfl), (.ni _ rfl), (.ni _ rfl), (.ni _ rfl), (.ni _ rfl), trivial⟩, blkR (fun _ => ⟨rfl, rfl⟩) rfl rfl, trivial⟩⟩
                    · replace hL2 := cond_f hb_834 hL2
                      conv => whnf
                      refine ⟨by kernel_rfl, ?_⟩
                      conv => whnf
                      obtain ⟨u_29, h_u_29, hL2⟩ := bind_some hL2
                      refine ixa_q 1 h_u_29 rfl (fun m_u_29 hm_u_29 => ?_)
                      conv => whnf
                      obtain ⟨v_30, h_v_30, hL2⟩ := bind_some hL2
                      refine st_q (enc := encA2_Int) (l := a_19) (x' := (⟨e_22.Bag, e_22.Level⟩ : A2_Int)) (i := e_22.Image) (ixm1 hm_u_29) (ixL_at h_v_30 (ixm1 hm_u_29)) rfl (Nat.le_of_ble_eq_true rfl) rfl ?_
                      conv => whnf
                      refine ⟨((k_21 + 1 : Nat) : Int), wrapE (by omega) (by omega) (by omega), ?_⟩
                      conv => whnf
                      exact ⟨(k_21 + 1, (a_19.set e_22.Image.toNat (⟨e_22.Bag, e_22.Level⟩ : A2_Int))), [0, 1, 2], [], [], ⟨hlt_k_21, hL2⟩, by show r_18.1.L.length - (k_21 + 1) < r_18.1.L.length - k_21; omega, wk_mk [0, 1, 2] [] [] rfl ⟨argP (id := 0) (by (conv => lhs; whnf); all_goals rfl) rfl, argP (id := 1) (by (conv => lhs; whnf); all_goals rfl) rfl, argP (id := 2) (by (conv => lhs; whnf); all_goals rfl) rfl, argE (by (conv => lhs; whnf); all_goals rfl) rfl, argE (by (conv => lhs; whnf); all_goals rfl) rfl, argE (by (conv => lhs; whnf); all_goals rfl) rfl, trivial⟩ ⟨boxL rfl rfl rfl ⟨(.ni _ rfl), (.ni _ rfl), trivial⟩, boxL rfl rfl rfl ⟨(.ni _ rfl), (.ni _ rfl), (.ni _ rfl), (.ni _ rfl), (.ni _ rfl), (.ni _ rfl), trivial⟩, blkR (fun _ => ⟨rfl, rfl⟩) rfl rfl, trivial⟩⟩
                · replace hL2 := cond_t hb_832 hL2
                  conv => whnf
                  obtain rfl := Option.some.inj hL2
                  replace hL1 := sub_ret hL1
                  obtain rfl := Option.some.inj hL1
                  replace hF := fin_ret hF
                  obtain rfl := Option.some.inj hF
                  exact ret_gz [] [] [] rfl (argFl (by (conv => lhs; whnf); all_goals rfl)) trivial
              · replace hL2 := cond_t hb_831 hL2
                conv => whnf
                obtain rfl := Option.some.inj hL2
                replace hL1 := sub_ret hL1
                obtain rfl := Option.some.inj hL1
                replace hF := fin_ret hF
                obtain rfl := Option.some.inj hF
                exact ret_gz [] [] [] rfl (argFl (by (conv => lhs; whnf); all_goals rfl)) trivial
            · rw [drop_nil (show r_18.1.L.length ≤ k_21 by have h := of_decide_eq_false h; omega), law15_ScreenImages_L2.eq_1] at hL2
              conv => whnf
              obtain rfl := Option.some.inj hL2
              replace hL1 := sub_brk hL1
              try dsimp only at hL1
              refine ⟨_, rfl, ?_⟩
              conv => whnf
              exact ⟨(q_200, r_17.2.L, r_17.2.At, r_18.1.Limits.e0, r_18.1.Limits.e1, r_18.1.Limits.e2, r_18.1.Limits.e3, r_18.1.Next, r_18.1.L, a_19, (w64 (i_13 + r_15.1)), (w64 (i_14 + (1 : Int)))), [0, 1, 2], [], [], hL1, Nat.lt_succ_self _, wk_mk [0, 1, 2] [] [] rfl ⟨argP (id := 0) (by (conv => lhs; whnf); all_goals rfl) rfl, argP (id := 1) (by (conv => lhs; whnf); all_goals rfl) rfl, argP (id := 2) (by (conv => lhs; whnf); all_goals rfl) rfl, argE (by (conv => lhs; whnf); all_goals rfl) rfl, argE (by (conv => lhs; whnf); all_goals rfl) rfl, trivial⟩ ⟨boxL rfl rfl rfl ⟨(.ni _ rfl), (.ni _ rfl), trivial⟩, boxL rfl rfl rfl ⟨(.ni _ rfl), (.ni _ rfl), (.ni _ rfl), (.ni _ rfl), (.ni _ rfl), (.ni _ rfl), trivial⟩, blkR (fun _ => ⟨rfl, rfl⟩) rfl rfl, trivial⟩⟩
          · replace hL1 := cond_f hb_830 hL1
            conv => whnf
            obtain ⟨c_3, hc_3, hL1⟩ := sub_some hL1
            refine sw_bv 64 (v := .agg [.int .i64 i_6, .int .i64 i_7, .int .i64 i_8, .int .i64 i_9, .int .i64 i_10, .lst 5 (a_11.map encCheck)]) (by (conv => lhs; whnf); all_goals rfl) (fun hb => ?_)
            have hbd_k_35 : a_11.length ≤ 9223372036854775807 := bnd_len (enc := encCheck) ((bnd_at hb.cell 5 rfl))
            refine sw_loop tab_ok follows_ok (fun y : Nat × (List A2_Int) => y.1 ≤ a_11.length ∧ law15_ScreenImages_L3 i_10 (a_11.drop y.1) y.1 y.2 = some c_3) (fun y => ⟨eL [(3, .ptr 0 0), (4, .ptr 1 0), (6, .ptr 2 0), (7, .int .i64 (w64 (i_13 + r_15.1))), (8, .int .i64 i_14), (16, .int .i64 (y.1 : Int))], hL [(0, .box [.lst 1 (r_17.2.L.map iA), .int .i64 r_17.2.At]), (1, .box [.int .i64 i_6, .int .i64 i_7, .int .i64 i_8, .int .i64 i_9, .int .i64 i_10, .lst 5 (a_11.map encCheck)]), (2, .row 2 (y.2.map encA2_Int))], 3⟩) (fun y => a_11.length - y.1) (0, a_12) ⟨Nat.zero_le _, hc_3⟩ (wk_mk [0, 1, 2] [] [] rfl ⟨argP (id := 0) (by (conv => lhs; whnf); all_goals rfl) rfl, argP (id := 1) (by (conv => lhs; whnf); all_goals rfl) rfl, argP (id := 2) (by (conv => lhs; whnf); all_goals rfl) rfl, argE (by (conv => lhs; whnf); all_goals rfl) rfl, argE (by (conv => lhs; whnf); all_goals rfl) rfl, argE (by (conv => lhs; whnf); all_goals rfl) rfl, trivial⟩ ⟨boxL rfl rfl rfl ⟨(.ni _ rfl), (.ni _ rfl), trivial⟩, boxL rfl rfl rfl ⟨(.ni _ rfl), (.ni _ rfl), (.ni _ rfl), (.ni _ rfl), (.ni _ rfl), (.ni _ rfl), trivial⟩, blkR (fun _ => ⟨rfl, rfl⟩) rfl rfl, trivial⟩) ?_
            rintro ⟨k_35, a_33⟩ ⟨hk_k_35, hL2⟩
            try dsimp only at hk_k_35 hL2
            show awp _ _ _ _ _ _ ⟨eL [(3, .ptr 0 0), (4, .ptr 1 0), (6, .ptr 2 0), (7, .int .i64 (w64 (i_13 + r_15.1))), (8, .int .i64 i_14), (16, .int .i64 (k_35 : Int))], hL [(0, .box [.lst 1 (r_17.2.L.map iA), .int .i64 r_17.2.At]), (1, .box [.int .i64 i_6, .int .i64 i_7, .int .i64 i_8, .int .i64 i_9, .int .i64 i_10, .lst 5 (a_11.map encCheck)]), (2, .row 2 (a_33.map encA2_Int))], 3⟩
            conv => whnf
            refine len_q (enc := encCheck) (l := a_11) rfl ?_
            conv => whnf
            refine ⟨fun h => ?_, fun h => ?_⟩
            · have hlt_k_35 : k_35 < a_11.length := by have h := of_decide_eq_true h; omega
              obtain ⟨e_36, h_e_36⟩ : ∃ y, a_11[k_35]? = some y := ⟨_, List.getElem?_eq_getElem hlt_k_35⟩
              rw [drop_cons h_e_36, law15_ScreenImages_L3.eq_2] at hL2
              conv => whnf
              refine ⟨k_35, _, rfl, ix_map h_e_36, ?_⟩
              conv => whnf
              refine ⟨fun hb_836 => ?_, fun hb_836 => ?_⟩
              · replace hL2 := cond_f hb_836 hL2
                conv => whnf
                refine ⟨fun hb_837 => ?_, fun hb_837 => ?_⟩
                · replace hL2 := cond_f hb_837 hL2
                  conv => whnf
                  refine ⟨fun hb_838 => ?_, fun hb_838 => ?_⟩
                  · replace hL2 := cond_t hb_838 hL2
                    conv => whnf
                    obtain rfl := Option.some.inj hL2
                    replace hL1 := sub_ret hL1
                    obtain rfl := Option.some.inj hL1
                    replace hF := fin_ret hF
                    obtain rfl := Option.some.inj hF
                    exact ret_gz [] [] [] rfl (argFl (by (conv => lhs; whnf); all_goals rfl)) trivial
                  · replace hL2 := cond_f hb_838 hL2
                    conv => whnf
                    refine .inr ?_
                    conv => whnf
                    obtain ⟨u_37, h_u_37, hL2⟩ := bind_some hL2
                    refine ixa_q 1 h_u_37 rfl (fun m_u_37 hm_u_37 => ?_)
                    conv => whnf
                    obtain ⟨v_38, h_v_38, hL2⟩ := bind_some hL2
                    refine ⟨_, ix_map (enc := encA2_Int) (ixL_at h_v_38 (ixm1 hm_u_37)), ?_⟩
                    conv => whnf
                    refine ⟨fun hb_839 => ?_, fun hb_839 => ?_⟩
                    · replace hL2 := cond_t hb_839 hL2
                      conv => whnf
                      obtain ⟨u_39, h_u_39, hL2⟩ := bind_some hL2
                      refine ixa_q 1 h_u_39 rfl (fun m_u_39 hm_u_39 => ?_)
                      conv => whnf
                      obtain ⟨v_40, h_v_40, hL2⟩ := bind_some hL2
                      refine ⟨_, ix_map (enc := encA2_Int) (ixL_at h_v_40 (ixm1 hm_u_39)), ?_⟩
                      conv => whnf
                      refine ⟨by kernel_rfl, ?_⟩
                      conv => whnf
                      refine ⟨fun hb_840 => ?_, fun hb_840 => ?_⟩
                      · replace hL2 := cond_t hb_840 hL2
                        conv => whnf
                        obtain rfl := Option.some.inj hL2
                        replace hL1 := sub_ret hL1
                        obtain rfl := Option.some.inj hL1
                        replace hF := fin_ret hF
                        obtain rfl := Option.some.inj hF
                        exact ret_gz [] [] [] rfl (argFl (by (conv => lhs; whnf); all_goals rfl)) trivial
                      · replace hL2 := cond_f hb_840 hL2
                        conv => whnf
                        obtain ⟨u_41, h_u_41, hL2⟩ := bind_some hL2
                        refine ixa_q 1 h_u_41 rfl (fun m_u_41 hm_u_41 => ?_)
                        conv => whnf
                        obtain ⟨v_42, h_v_42, hL2⟩ := bind_some hL2
                        refine st_q (enc := encA2_Int) (l := a_33) (x' := (⟨e_36.Bag, e_36.Level⟩ : A2_Int)) (i := e_36.Image) (ixm1 hm_u_41) (ixL_at h_v_42 (ixm1 hm_u_41)) rfl (Nat.le_of_ble_eq_true rfl) rfl ?_
                        conv => whnf
                        refine ⟨((k_35 + 1 : Nat) : Int), wrapE (by omega) (by omega) (by omega), ?_⟩
                        conv => whnf
                        exact ⟨(k_35 + 1, (a_33.set e_36.Image.toNat (⟨e_36.Bag, e_36.Level⟩ : A2_Int))), [0, 1, 2], [], [], ⟨hlt_k_35, hL2⟩, by show a_11.length - (k_35 + 1) < a_11.length - k_35; omega, wk_mk [0, 1, 2] [] [] rfl ⟨argP (id := 0) (by (conv => lhs; whnf); all_goals rfl) rfl, argP (id := 1) (by (conv => lhs; whnf); all_goals rfl) rfl, argP (id := 2) (by (conv => lhs; whnf); all_goals rfl) rfl, argE (by (conv => lhs; whnf); all_goals rfl) rfl, argE (by (conv => lhs; whnf); all_goals rfl) rfl, argE (by (conv => lhs; whnf); all_goals rfl) rfl, trivial⟩ ⟨boxL rfl rfl rfl ⟨(.ni _ rfl), (.ni _ rfl), trivial⟩, boxL rfl rfl rfl ⟨(.ni _ rfl), (.ni _ rfl), (.ni _ rfl), (.ni _ rfl), (.ni _ rfl), (.ni _ rfl), trivial⟩, blkR (fun _ => ⟨rfl, rfl⟩) rfl rfl, trivial⟩⟩
                    · replace hL2 := cond_f hb_839 hL2
                      conv => whnf
                      refine ⟨by kernel_rfl, ?_⟩
                      conv => whnf
                      obtain ⟨u_43, h_u_43, hL2⟩ := bind_some hL2
                      refine ixa_q 1 h_u_43 rfl (fun m_u_43 hm_u_43 => ?_)
                      conv => whnf
                      obtain ⟨v_44, h_v_44, hL2⟩ := bind_some hL2
                      refine st_q (enc := encA2_Int) (l := a_33) (x' := (⟨e_36.Bag, e_36.Level⟩ : A2_Int)) (i := e_36.Image) (ixm1 hm_u_43) (ixL_at h_v_44 (ixm1 hm_u_43)) rfl (Nat.le_of_ble_eq_true rfl) rfl ?_
                      conv => whnf
                      refine ⟨((k_35 + 1 : Nat) : Int), wrapE (by omega) (by omega) (by omega), ?_⟩
                      conv => whnf
                      exact ⟨(k_35 + 1, (a_33.set e_36.Image.toNat (⟨e_36.Bag, e_36.Level⟩ : A2_Int))), [0, 1, 2], [], [], ⟨hlt_k_35, hL2⟩, by show a_11.length - (k_35 + 1) < a_11.length - k_35; omega, wk_mk [0, 1, 2] [] [] rfl ⟨argP (id := 0) (by (conv => lhs; whnf); all_goals rfl) rfl, argP (id := 1) (by (conv => lhs; whnf); all_goals rfl) rfl, argP (id := 2) (by (conv => lhs; whnf); all_goals rfl) rfl, argE (by (conv => lhs; whnf); all_goals rfl) rfl, argE (by (conv => lhs; whnf); all_goals rfl) rfl, argE (by (conv => lhs; whnf); all_goals rfl) rfl, trivial⟩ ⟨boxL rfl rfl rfl ⟨(.ni _ rfl), (.ni _ rfl), trivial⟩, boxL rfl rfl rfl ⟨(.ni _ rfl), (.ni _ rfl), (.ni _ rfl), (.ni _ rfl), (.ni _ rfl), (.ni _ rfl), trivial⟩, blkR (fun _ => ⟨rfl, rfl⟩) rfl rfl, trivial⟩⟩
                · replace hL2 := cond_t hb_837 hL2
                  conv => whnf
                  obtain rfl := Option.some.inj hL2
                  replace hL1 := sub_ret hL1
                  obtain rfl := Option.some.inj hL1
                  replace hF := fin_ret hF
                  obtain rfl := Option.some.inj hF
                  exact ret_gz [] [] [] rfl (argFl (by (conv => lhs; whnf); all_goals rfl)) trivial
              · replace hL2 := cond_t hb_836 hL2
                conv => whnf
                obtain rfl := Option.some.inj hL2
                replace hL1 := sub_ret hL1
                obtain rfl := Option.some.inj hL1
                replace hF := fin_ret hF
                obtain rfl := Option.some.inj hF
                exact ret_gz [] [] [] rfl (argFl (by (conv => lhs; whnf); all_goals rfl)) trivial
            · rw [drop_nil (show a_11.length ≤ k_35 by have h := of_decide_eq_false h; omega), law15_ScreenImages_L3.eq_1] at hL2
              conv => whnf
              obtain rfl := Option.some.inj hL2
              replace hL1 := sub_brk hL1
              try dsimp only at hL1
              refine ⟨_, rfl, ?_⟩
              conv => whnf
              exact ⟨(q_200, r_17.2.L, r_17.2.At, i_6, i_7, i_8, i_9, i_10, a_11, a_33, (w64 (i_13 + r_15.1)), (w64 (i_14 + (1 : Int)))), [0, 1, 2], [], [], hL1, Nat.lt_succ_self _, wk_mk [0, 1, 2] [] [] rfl ⟨argP (id := 0) (by (conv => lhs; whnf); all_goals rfl) rfl, argP (id := 1) (by (conv => lhs; whnf); all_goals rfl) rfl, argP (id := 2) (by (conv => lhs; whnf); all_goals rfl) rfl, argE (by (conv => lhs; whnf); all_goals rfl) rfl, argE (by (conv => lhs; whnf); all_goals rfl) rfl, trivial⟩ ⟨boxL rfl rfl rfl ⟨(.ni _ rfl), (.ni _ rfl), trivial⟩, boxL rfl rfl rfl ⟨(.ni _ rfl), (.ni _ rfl), (.ni _ rfl), (.ni _ rfl), (.ni _ rfl), (.ni _ rfl), trivial⟩, blkR (fun _ => ⟨rfl, rfl⟩) rfl rfl, trivial⟩⟩
        · replace hL1 := cond_f hb_829 hL1
          conv => whnf
          refine ⟨fun hb_841 => ?_, fun hb_841 => ?_⟩
          · replace hL1 := cond_t hb_841 hL1
            conv => whnf
            obtain ⟨r_47, h_r_47, hL1⟩ := bind_some hL1
            refine ⟨_, _, _, _, _, _, _, _, _, callX false [] [] 0 Try.func13 (by decide) rfl (screen_Expire_ac (⟨(⟨i_6, i_7, i_8, i_9⟩ : A4_Int), i_10, a_11⟩ : Screening) (w64 (i_13 + r_15.1)) r_47 h_r_47) rfl ⟨(argE (by (conv => lhs; whnf); all_goals rfl) rfl), (argE (by (conv => lhs; whnf); all_goals rfl) rfl), trivial⟩ rfl trivial rfl rfl rfl lend0 trivial rfl, ?_⟩
            conv => whnf
            refine ⟨fun hb_842 => ?_, fun hb_842 => ?_⟩
            · replace hL1 := cond_t hb_842 hL1
              conv => whnf
              obtain ⟨c_2, hc_2, hL1⟩ := sub_some hL1
              refine sw_bv 76 (v := .tup [.agg [.int .i64 r_47.1.Limits.e0, .int .i64 r_47.1.Limits.e1, .int .i64 r_47.1.Limits.e2, .int .i64 r_47.1.Limits.e3, .int .i64 r_47.1.Next, .lst 5 (r_47.1.L.map encCheck)], .int .i64 r_47.2]) (by (conv => lhs; whnf); all_goals rfl) (fun hb => ?_)
              have hbd_k_50 : r_47.1.L.length ≤ 9223372036854775807 := bnd_len (enc := encCheck) ((bnd_at (bnd_at hb.tcell 0 rfl).cell 5 rfl))
              refine sw_loop tab_ok follows_ok (fun y : Nat × (List A2_Int) => y.1 ≤ r_47.1.L.length ∧ law15_ScreenImages_L2 r_47 (r_47.1.L.drop y.1) y.1 y.2 = some c_2) (fun y => ⟨eL [(3, .ptr 0 0), (4, .ptr 1 0), (6, .ptr 2 0), (7, .int .i64 (w64 (i_13 + r_15.1))), (8, .int .i64 i_14), (16, .int .i64 (y.1 : Int))], hL [(0, .box [.lst 1 (r_16.2.L.map iA), .int .i64 r_16.2.At]), (1, .box [.int .i64 r_47.1.Limits.e0, .int .i64 r_47.1.Limits.e1, .int .i64 r_47.1.Limits.e2, .int .i64 r_47.1.Limits.e3, .int .i64 r_47.1.Next, .lst 5 (r_47.1.L.map encCheck)]), (2, .row 2 (y.2.map encA2_Int))], 3⟩) (fun y => r_47.1.L.length - y.1) (0, a_12) ⟨Nat.zero_le _, hc_2⟩ (wk_mk [0, 1, 2] [] [] rfl ⟨argP (id := 0) (by (conv => lhs; whnf); all_goals rfl) rfl, argP (id := 1) (by (conv => lhs; whnf); all_goals rfl) rfl, argP (id := 2) (by (conv => lhs; whnf); all_goals rfl) rfl, argE (by (conv => lhs; whnf); all_goals rfl) rfl, argE (by (conv => lhs; whnf); all_goals rfl) rfl, argE (by (conv => lhs; whnf); all_goals rfl) rfl, trivial⟩ ⟨boxL rfl rfl rfl ⟨(.ni _ rfl), (.ni _ rfl), trivial⟩, boxL rfl rfl rfl ⟨(.ni _ rfl), (.ni _ rfl), (.ni _ rfl), (.ni _ rfl), (.ni _ rfl), (.ni _ rfl), trivial⟩, blkR (fun _ => ⟨rfl, rfl⟩) rfl rfl, trivial⟩) ?_
              rintro ⟨k_50, a_48⟩ ⟨hk_k_50, hL2⟩
              try dsimp only at hk_k_50 hL2
              show awp _ _ _ _ _ _ ⟨eL [(3, .ptr 0 0), (4, .ptr 1 0), (6, .ptr 2 0), (7, .int .i64 (w64 (i_13 + r_15.1))), (8, .int .i64 i_14), (16, .int .i64 (k_50 : Int))], hL [(0, .box [.lst 1 (r_16.2.L.map iA), .int .i64 r_16.2.At]), (1, .box [.int .i64 r_47.1.Limits.e0, .int .i64 r_47.1.Limits.e1, .int .i64 r_47.1.Limits.e2, .int .i64 r_47.1.Limits.e3, .int .i64 r_47.1.Next, .lst 5 (r_47.1.L.map encCheck)]), (2, .row 2 (a_48.map encA2_Int))], 3⟩
              conv => whnf
              refine len_q (enc := encCheck) (l := r_47.1.L) rfl ?_
              conv => whnf
              refine ⟨fun h => ?_, fun h => ?_⟩
              · have hlt_k_50 : k_50 < r_47.1.L.length := by have h := of_decide_eq_true h; omega
                obtain ⟨e_51, h_e_51⟩ : ∃ y, r_47.1.L[k_50]? = some y := ⟨_, List.getElem?_eq_getElem hlt_k_50⟩
                rw [drop_cons h_e_51, law15_ScreenImages_L2.eq_2] at hL2
                conv => whnf
                refine ⟨k_50, _, rfl, ix_map h_e_51, ?_⟩
                conv => whnf
                refine ⟨fun hb_843 => ?_, fun hb_843 => ?_⟩
                · replace hL2 := cond_f hb_843 hL2
                  conv => whnf
                  refine ⟨fun hb_844 => ?_, fun hb_844 => ?_⟩
                  · replace hL2 := cond_f hb_844 hL2
                    conv => whnf
                    refine ⟨fun hb_845 => ?_, fun hb_845 => ?_⟩
                    · replace hL2 := cond_t hb_845 hL2
                      conv => whnf
                      obtain rfl := Option.some.inj hL2
                      replace hL1 := sub_ret hL1
                      obtain rfl := Option.some.inj hL1
                      replace hF := fin_ret hF
                      obtain rfl := Option.some.inj hF
                      exact ret_gz [] [] [] rfl (argFl (by (conv => lhs; whnf); all_goals rfl)) trivial
                    · replace hL2 := cond_f hb_845 hL2
                      conv => whnf
                      refine .inr ?_
                      conv => whnf
                      obtain ⟨u_52, h_u_52, hL2⟩ := bind_some hL2
                      refine ixa_q 1 h_u_52 rfl (fun m_u_52 hm_u_52 => ?_)
                      conv => whnf
                      obtain ⟨v_53, h_v_53, hL2⟩ := bind_some hL2
                      refine ⟨_, ix_map (enc := encA2_Int) (ixL_at h_v_53 (ixm1 hm_u_52)), ?_⟩
                      conv => whnf
                      refine ⟨fun hb_846 => ?_, fun hb_846 => ?_⟩
                      · replace hL2 := cond_t hb_846 hL2
                        conv => whnf
                        obtain ⟨u_54, h_u_54, hL2⟩ := bind_some hL2
                        refine ixa_q 1 h_u_54 rfl (fun m_u_54 hm_u_54 => ?_)
                        conv => whnf
                        obtain ⟨v_55, h_v_55, hL2⟩ := bind_some hL2
                        refine ⟨_, ix_map (enc := encA2_Int) (ixL_at h_v_55 (ixm1 hm_u_54)), ?_⟩
                        conv => whnf
                        refine ⟨by kernel_rfl, ?_⟩
                        conv => whnf
                        refine ⟨fun hb_847 => ?_, fun hb_847 => ?_⟩
                        · replace hL2 := cond_t hb_847 hL2
                          conv => whnf
                          obtain rfl := Option.some.inj hL2
                          replace hL1 := sub_ret hL1
                          obtain rfl := Option.some.inj hL1
                          replace hF := fin_ret hF
                          obtain rfl := Option.some.inj hF
                          exact ret_gz [] [] [] rfl (argFl (by (conv => lhs; whnf); all_goals rfl)) trivial
                        · replace hL2 := cond_f hb_847 hL2
                          conv => whnf
                          obtain ⟨u_56, h_u_56, hL2⟩ := bind_some hL2
                          refine ixa_q 1 h_u_56 rfl (fun m_u_56 hm_u_56 => ?_)
                          conv => whnf
                          obtain ⟨v_57, h_v_57, hL2⟩ := bind_some hL2
                          refine st_q (enc := encA2_Int) (l := a_48) (x' := (⟨e_51.Bag, e_51.Level⟩ : A2_Int)) (i := e_51.Image) (ixm1 hm_u_56) (ixL_at h_v_57 (ixm1 hm_u_56)) rfl (Nat.le_of_ble_eq_true rfl) rfl ?_
                          conv => whnf
                          refine ⟨((k_50 + 1 : Nat) : Int), wrapE (by omega) (by omega) (by omega), ?_⟩
                          conv => whnf
                          exact ⟨(k_50 + 1, (a_48.set e_51.Image.toNat (⟨e_51.Bag, e_51.Level⟩ : A2_Int))), [0, 1, 2], [], [], ⟨hlt_k_50, hL2⟩, by show r_47.1.L.length - (k_50 + 1) < r_47.1.L.length - k_50; omega, wk_mk [0, 1, 2] [] [] rfl ⟨argP (id := 0) (by (conv => lhs; whnf); all_goals rfl) rfl, argP (id := 1) (by (conv => lhs; whnf); all_goals rfl) rfl, argP (id := 2) (by (conv => lhs; whnf); all_goals rfl) rfl, argE (by (conv => lhs; whnf); all_goals rfl) rfl, argE (by (conv => lhs; whnf); all_goals rfl) rfl, argE (by (conv => lhs; whnf); all_goals rfl) rfl, trivial⟩ ⟨boxL rfl rfl rfl ⟨(.ni _ rfl), (.ni _ rfl), trivial⟩, boxL rfl rfl rfl ⟨(.ni _ rfl), (.ni _ rfl), (.ni _ rfl), (.ni _ rfl), (.ni _ rfl), (.ni _ rfl), trivial⟩, blkR (fun _ => ⟨rfl, rfl⟩) rfl rfl, trivial⟩⟩
                      · replace hL2 := cond_f hb_846 hL2
                        conv => whnf
                        refine ⟨by kernel_rfl, ?_⟩
                        conv => whnf
                        obtain ⟨u_58, h_u_58, hL2⟩ := bind_some hL2
                        refine ixa_q 1 h_u_58 rfl (fun m_u_58 hm_u_58 => ?_)
                        conv => whnf
                        obtain ⟨v_59, h_v_59, hL2⟩ := bind_some hL2
                        refine st_q (enc := encA2_Int) (l := a_48) (x' := (⟨e_51.Bag, e_51.Level⟩ : A2_Int)) (i := e_51.Image) (ixm1 hm_u_58) (ixL_at h_v_59 (ixm1 hm_u_58)) rfl (Nat.le_of_ble_eq_true rfl) rfl ?_
                        conv => whnf
                        refine ⟨((k_50 + 1 : Nat) : Int), wrapE (by omega) (by omega) (by omega), ?_⟩
                        conv => whnf
                        exact ⟨(k_50 + 1, (a_48.set e_51.Image.toNat (⟨e_51.Bag, e_51.Level⟩ : A2_Int))), [0, 1, 2], [], [], ⟨hlt_k_50, hL2⟩, by show r_47.1.L.length - (k_50 + 1) < r_47.1.L.length - k_50; omega, wk_mk [0, 1, 2] [] [] rfl ⟨argP (id := 0) (by (conv => lhs; whnf); all_goals rfl) rfl, argP (id := 1) (by (conv => lhs; whnf); all_goals rfl) rfl, argP (id := 2) (by (conv => lhs; whnf); all_goals rfl) rfl, argE (by (conv => lhs; whnf); all_goals rfl) rfl, argE (by (conv => lhs; whnf); all_goals rfl) rfl, argE (by (conv => lhs; whnf); all_goals rfl) rfl, trivial⟩ ⟨boxL rfl rfl rfl ⟨(.ni _ rfl), (.ni _ rfl), trivial⟩, boxL rfl rfl rfl ⟨(.ni _ rfl), (.ni _ rfl), (.ni _ rfl), (.ni _ rfl), (.ni _ rfl), (.ni _ rfl), trivial⟩, blkR (fun _ => ⟨rfl, rfl⟩) rfl rfl, trivial⟩⟩
                  · replace hL2 := cond_t hb_844 hL2
                    conv => whnf
                    obtain rfl := Option.some.inj hL2
                    replace hL1 := sub_ret hL1
                    obtain rfl := Option.some.inj hL1
                    replace hF := fin_ret hF
                    obtain rfl := Option.some.inj hF
                    exact ret_gz [] [] [] rfl (argFl (by (conv => lhs; whnf); all_goals rfl)) trivial
                · replace hL2 := cond_t hb_843 hL2
                  conv => whnf
                  obtain rfl := Option.some.inj hL2
                  replace hL1 := sub_ret hL1
                  obtain rfl := Option.some.inj hL1
                  replace hF := fin_ret hF
                  obtain rfl := Option.some.inj hF
                  exact ret_gz [] [] [] rfl (argFl (by (conv => lhs; whnf); all_goals rfl)) trivial
              · rw [drop_nil (show r_47.1.L.length ≤ k_50 by have h := of_decide_eq_false h; omega), law15_ScreenImages_L2.eq_1] at hL2
                conv => whnf
                obtain rfl := Option.some.inj hL2
                replace hL1 := sub_brk hL1
                try dsimp only at hL1
                refine ⟨_, rfl, ?_⟩
                conv => whnf
                exact ⟨(q_200, r_16.2.L, r_16.2.At, r_47.1.Limits.e0, r_47.1.Limits.e1, r_47.1.Limits.e2, r_47.1.Limits.e3, r_47.1.Next, r_47.1.L, a_48, (w64 (i_13 + r_15.1)), (w64 (i_14 + (1 : Int)))), [0, 1, 2], [], [], hL1, Nat.lt_succ_self _, wk_mk [0, 1, 2] [] [] rfl ⟨argP (id := 0) (by (conv => lhs; whnf); all_goals rfl) rfl, argP (id := 1) (by (conv => lhs; whnf); all_goals rfl) rfl, argP (id := 2) (by (conv => lhs; whnf); all_goals rfl) rfl, argE (by (conv => lhs; whnf); all_goals rfl) rfl, argE (by (conv => lhs; whnf); all_goals rfl) rfl, trivial⟩ ⟨boxL rfl rfl rfl ⟨(.ni _ rfl), (.ni _ rfl), trivial⟩, boxL rfl rfl rfl ⟨(.ni _ rfl), (.ni _ rfl), (.ni _ rfl), (.ni _ rfl), (.ni _ rfl), (.ni _ rfl), trivial⟩, blkR (fun _ => ⟨rfl, rfl⟩) rfl rfl, trivial⟩⟩
            · replace hL1 := cond_f hb_842 hL1
              conv => whnf
              obtain ⟨c_3, hc_3, hL1⟩ := sub_some hL1
              refine sw_bv 77 (v := .agg [.int .i64 i_6, .int .i64 i_7, .int .i64 i_8, .int .i64 i_9, .int .i64 i_10, .lst 5 (a_11.map encCheck)]) (by (conv => lhs; whnf); all_goals rfl) (fun hb => ?_)
              have hbd_k_64 : a_11.length ≤ 9223372036854775807 := bnd_len (enc := encCheck) ((bnd_at hb.cell 5 rfl))
              refine sw_loop tab_ok follows_ok (fun y : Nat × (List A2_Int) => y.1 ≤ a_11.length ∧ law15_ScreenImages_L3 i_10 (a_11.drop y.1) y.1 y.2 = some c_3) (fun y => ⟨eL [(3, .ptr 0 0), (4, .ptr 1 0), (6, .ptr 2 0), (7, .int .i64 (w64 (i_13 + r_15.1))), (8, .int .i64 i_14), (16, .int .i64 (y.1 : Int))], hL [(0, .box [.lst 1 (r_16.2.L.map iA), .int .i64 r_16.2.At]), (1, .box [.int .i64 i_6, .int .i64 i_7, .int .i64 i_8, .int .i64 i_9, .int .i64 i_10, .lst 5 (a_11.map encCheck)]), (2, .row 2 (y.2.map encA2_Int))], 3⟩) (fun y => a_11.length - y.1) (0, a_12) ⟨Nat.zero_le _, hc_3⟩ (wk_mk [0, 1, 2] [] [] rfl ⟨argP (id := 0) (by (conv => lhs; whnf); all_goals rfl) rfl, argP (id := 1) (by (conv => lhs; whnf); all_goals rfl) rfl, argP (id := 2) (by (conv => lhs; whnf); all_goals rfl) rfl, argE (by (conv => lhs; whnf); all_goals rfl) rfl, argE (by (conv => lhs; whnf); all_goals rfl) rfl, argE (by (conv => lhs; whnf); all_goals rfl) rfl, trivial⟩ ⟨boxL rfl rfl rfl ⟨(.ni _ rfl), (.ni _ rfl), trivial⟩, boxL rfl rfl rfl ⟨(.ni _ rfl), (.ni _ rfl), (.ni _ rfl), (.ni _ rfl), (.ni _ rfl), (.ni _ rfl), trivial⟩, blkR (fun _ => ⟨rfl, rfl⟩) rfl rfl, trivial⟩) ?_
              rintro ⟨k_64, a_62⟩ ⟨hk_k_64, hL2⟩
              try dsimp only at hk_k_64 hL2
              show awp _ _ _ _ _ _ ⟨eL [(3, .ptr 0 0), (4, .ptr 1 0), (6, .ptr 2 0), (7, .int .i64 (w64 (i_13 + r_15.1))), (8, .int .i64 i_14), (16, .int .i64 (k_64 : Int))], hL [(0, .box [.lst 1 (r_16.2.L.map iA), .int .i64 r_16.2.At]), (1, .box [.int .i64 i_6, .int .i64 i_7, .int .i64 i_8, .int .i64 i_9, .int .i64 i_10, .lst 5 (a_11.map encCheck)]), (2, .row 2 (a_62.map encA2_Int))], 3⟩
              conv => whnf
              refine len_q (enc := encCheck) (l := a_11) rfl ?_
              conv => whnf
              refine ⟨fun h => ?_, fun h => ?_⟩
              · have hlt_k_64 : k_64 < a_11.length := by have h := of_decide_eq_true h; omega
                obtain ⟨e_65, h_e_65⟩ : ∃ y, a_11[k_64]? = some y := ⟨_, List.getElem?_eq_getElem hlt_k_64⟩
                rw [drop_cons h_e_65, law15_ScreenImages_L3.eq_2] at hL2
                conv => whnf
                refine ⟨k_64, _, rfl, ix_map h_e_65, ?_⟩
                conv => whnf
                refine ⟨fun hb_848 => ?_, fun hb_848 => ?_⟩
                · replace hL2 := cond_f hb_848 hL2
                  conv => whnf
                  refine ⟨fun hb_849 => ?_, fun hb_849 => ?_⟩
                  · replace hL2 := cond_f hb_849 hL2
                    conv => whnf
                    refine ⟨fun hb_850 => ?_, fun hb_850 => ?_⟩
                    · replace hL2 := cond_t hb_850 hL2
                      conv => whnf
                      obtain rfl := Option.some.inj hL2
                      replace hL1 := sub_ret hL1
                      obtain rfl := Option.some.inj hL1
                      replace hF := fin_ret hF
                      obtain rfl := Option.some.inj hF
                      exact ret_gz [] [] [] rfl (argFl (by (conv => lhs; whnf); all_goals rfl)) trivial
                    · replace hL2 := cond_f hb_850 hL2
                      conv => whnf
                      refine .inr ?_
                      conv => whnf
                      obtain ⟨u_66, h_u_66, hL2⟩ := bind_some hL2
                      refine ixa_q 1 h_u_66 rfl (fun m_u_66 hm_u_66 => ?_)
                      conv => whnf
                      obtain ⟨v_67, h_v_67, hL2⟩ := bind_some hL2
                      refine ⟨_, ix_map (enc := encA2_Int) (ixL_at h_v_67 (ixm1 hm_u_66)), ?_⟩
                      conv => whnf
                      refine ⟨fun hb_851 => ?_, fun hb_851 => ?_⟩
                      · replace hL2 := cond_t hb_851 hL2
                        conv => whnf
                        obtain ⟨u_68, h_u_68, hL2⟩ := bind_some hL2
                        refine ixa_q 1 h_u_68 rfl (fun m_u_68 hm_u_68 => ?_)
                        conv => whnf
                        obtain ⟨v_69, h_v_69, hL2⟩ := bind_some hL2
                        refine ⟨_, ix_map (enc := encA2_Int) (ixL_at h_v_69 (ixm1 hm_u_68)), ?_⟩
                        conv => whnf
                        refine ⟨by kernel_rfl, ?_⟩
                        conv => whnf
                        refine ⟨fun hb_852 => ?_, fun hb_852 => ?_⟩
                        · replace hL2 := cond_t hb_852 hL2
                          conv => whnf
                          obtain rfl := Option.some.inj hL2
                          replace hL1 := sub_ret hL1
                          obtain rfl := Option.some.inj hL1
                          replace hF := fin_ret hF
                          obtain rfl := Option.some.inj hF
                          exact ret_gz [] [] [] rfl (argFl (by (conv => lhs; whnf); all_goals rfl)) trivial
                        · replace hL2 := cond_f hb_852 hL2
                          conv => whnf
                          obtain ⟨u_70, h_u_70, hL2⟩ := bind_some hL2
                          refine ixa_q 1 h_u_70 rfl (fun m_u_70 hm_u_70 => ?_)
                          conv => whnf
                          obtain ⟨v_71, h_v_71, hL2⟩ := bind_some hL2
                          refine st_q (enc := encA2_Int) (l := a_62) (x' := (⟨e_65.Bag, e_65.Level⟩ : A2_Int)) (i := e_65.Image) (ixm1 hm_u_70) (ixL_at h_v_71 (ixm1 hm_u_70)) rfl (Nat.le_of_ble_eq_true rfl) rfl ?_
                          conv => whnf
                          refine ⟨((k_64 + 1 : Nat) : Int), wrapE (by omega) (by omega) (by omega), ?_⟩
                          conv => whnf
                          exact ⟨(k_64 + 1, (a_62.set e_65.Image.toNat (⟨e_65.Bag, e_65.Level⟩ : A2_Int))), [0, 1, 2], [], [], ⟨hlt_k_64, hL2⟩, by show a_11.length - (k_64 + 1) < a_11.length - k_64; omega, wk_mk [0, 1, 2] [] [] rfl ⟨argP (id := 0) (by (conv => lhs; whnf); all_goals rfl) rfl, argP (id := 1) (by (conv => lhs; whnf); all_goals rfl) rfl, argP (id := 2) (by (conv => lhs; whnf); all_goals rfl) rfl, argE (by (conv => lhs; whnf); all_goals rfl) rfl, argE (by (conv => lhs; whnf); all_goals rfl) rfl, argE (by (conv => lhs; whnf); all_goals rfl) rfl, trivial⟩ ⟨boxL rfl rfl rfl ⟨(.ni _ rfl), (.ni _ rfl), trivial⟩, boxL rfl rfl rfl ⟨(.ni _ rfl), (.ni _ rfl), (.ni _ rfl), (.ni _ rfl), (.ni _ rfl), (.ni _ rfl), trivial⟩, blkR (fun _ => ⟨rfl, rfl⟩) rfl rfl, trivial⟩⟩
                      · replace hL2 := cond_f hb_851 hL2
                        conv => whnf
                        refine ⟨by kernel_rfl, ?_⟩
                        conv => whnf
                        obtain ⟨u_72, h_u_72, hL2⟩ := bind_some hL2
                        refine ixa_q 1 h_u_72 rfl (fun m_u_72 hm_u_72 => ?_)
                        conv => whnf
                        obtain ⟨v_73, h_v_73, hL2⟩ := bind_some hL2
                        refine st_q (enc := encA2_Int) (l := a_62) (x' := (⟨e_65.Bag, e_65.Level⟩ : A2_Int)) (i := e_65.Image) (ixm1 hm_u_72) (ixL_at h_v_73 (ixm1 hm_u_72)) rfl (Nat.le_of_ble_eq_true rfl) rfl ?_
                        conv => whnf
                        refine ⟨((k_64 + 1 : Nat) : Int), wrapE (by omega) (by omega) (by omega), ?_⟩
                        conv => whnf
                        exact ⟨(k_64 + 1, (a_62.set e_65.Image.toNat (⟨e_65.Bag, e_65.Level⟩ : A2_Int))), [0, 1, 2], [], [], ⟨hlt_k_64, hL2⟩, by show a_11.length - (k_64 + 1) < a_11.length - k_64; omega, wk_mk [0, 1, 2] [] [] rfl ⟨argP (id := 0) (by (conv => lhs; whnf); all_goals rfl) rfl, argP (id := 1) (by (conv => lhs; whnf); all_goals rfl) rfl, argP (id := 2) (by (conv => lhs; whnf); all_goals rfl) rfl, argE (by (conv => lhs; whnf); all_goals rfl) rfl, argE (by (conv => lhs; whnf); all_goals rfl) rfl, argE (by (conv => lhs; whnf); all_goals rfl) rfl, trivial⟩ ⟨boxL rfl rfl rfl ⟨(.ni _ rfl), (.ni _ rfl), trivial⟩, boxL rfl rfl rfl ⟨(.ni _ rfl), (.ni _ rfl), (.ni _ rfl), (.ni _ rfl), (.ni _ rfl), (.ni _ rfl), trivial⟩, blkR (fun _ => ⟨rfl, rfl⟩) rfl rfl, trivial⟩⟩
                  · replace hL2 := cond_t hb_849 hL2
                    conv => whnf
                    obtain rfl := Option.some.inj hL2
                    replace hL1 := sub_ret hL1
                    obtain rfl := Option.some.inj hL1
                    replace hF := fin_ret hF
                    obtain rfl := Option.some.inj hF
                    exact ret_gz [] [] [] rfl (argFl (by (conv => lhs; whnf); all_goals rfl)) trivial
                · replace hL2 := cond_t hb_848 hL2
                  conv => whnf
                  obtain rfl := Option.some.inj hL2
                  replace hL1 := sub_ret hL1
                  obtain rfl := Option.some.inj hL1
                  replace hF := fin_ret hF
                  obtain rfl := Option.some.inj hF
                  exact ret_gz [] [] [] rfl (argFl (by (conv => lhs; whnf); all_goals rfl)) trivial
              · rw [drop_nil (show a_11.length ≤ k_64 by have h := of_decide_eq_false h; omega), law15_ScreenImages_L3.eq_1] at hL2
                conv => whnf
                obtain rfl := Option.some.inj hL2
                replace hL1 := sub_brk hL1
                try dsimp only at hL1
                refine ⟨_, rfl, ?_⟩
                conv => whnf
                exact ⟨(q_200, r_16.2.L, r_16.2.At, i_6, i_7, i_8, i_9, i_10, a_11, a_62, (w64 (i_13 + r_15.1)), (w64 (i_14 + (1 : Int)))), [0, 1, 2], [], [], hL1, Nat.lt_succ_self _, wk_mk [0, 1, 2] [] [] rfl ⟨argP (id := 0) (by (conv => lhs; whnf); all_goals rfl) rfl, argP (id := 1) (by (conv => lhs; whnf); all_goals rfl) rfl, argP (id := 2) (by (conv => lhs; whnf); all_goals rfl) rfl, argE (by (conv => lhs; whnf); all_goals rfl) rfl, argE (by (conv => lhs; whnf); all_goals rfl) rfl, trivial⟩ ⟨boxL rfl rfl rfl ⟨(.ni _ rfl), (.ni _ rfl), trivial⟩, boxL rfl rfl rfl ⟨(.ni _ rfl), (.ni _ rfl), (.ni _ rfl), (.ni _ rfl), (.ni _ rfl), (.ni _ rfl), trivial⟩, blkR (fun _ => ⟨rfl, rfl⟩) rfl rfl, trivial⟩⟩
          · replace hL1 := cond_f hb_841 hL1
            conv => whnf
            obtain ⟨r_76, h_r_76, hL1⟩ := bind_some hL1
            refine ⟨_, _, _, _, _, _, _, _, _, callX false [0] [] 0 Try.func12 (by decide) rfl (keep_Src_Range_ac r_16.2 (1 : Int) (20 : Int) r_76 h_r_76) rfl ⟨(argP (id := 0) (by (conv => lhs; whnf); all_goals rfl) rfl), (argE (by (conv => lhs; whnf); all_goals rfl) rfl), (argE (by (conv => lhs; whnf); all_goals rfl) rfl), trivial⟩ rfl ⟨rfl, trivial⟩ rfl rfl rfl lend0 ⟨rfl, trivial⟩ rfl, ?_⟩
            conv => whnf
            obtain ⟨r_77, h_r_77, hL1⟩ := bind_some hL1
            refine ⟨_, _, _, _, _, _, _, _, _, callX false [0] [] 0 Try.func10 (by decide) rfl (keep_Src_N_ac r_76.2 (3 : Int) r_77 h_r_77) rfl ⟨(argP (id := 0) (by (conv => lhs; whnf); all_goals rfl) rfl), (argE (by (conv => lhs; whnf); all_goals rfl) rfl), trivial⟩ rfl ⟨rfl, trivial⟩ rfl rfl rfl lend0 ⟨rfl, trivial⟩ rfl, ?_⟩
            conv => whnf
            obtain ⟨r_78, h_r_78, hL1⟩ := bind_some hL1
            refine ⟨_, _, _, _, _, _, _, _, _, callX false [] [] 0 Try.func14 (by decide) rfl (screen_Verdict_ac (⟨(⟨i_6, i_7, i_8, i_9⟩ : A4_Int), i_10, a_11⟩ : Screening) r_76.1 (r_77.1 == (0 : Int)) (w64 (i_13 + r_15.1)) r_78 h_r_78) rfl ⟨(argE (by (conv => lhs; whnf); all_goals rfl) rfl), (argE (by (conv => lhs; whnf); all_goals rfl) rfl), (argE (by (conv => lhs; whnf); all_goals rfl) rfl), (argE (by (conv => lhs; whnf); all_goals rfl) rfl), trivial⟩ rfl trivial rfl rfl rfl lend0 trivial rfl, ?_⟩
            conv => whnf
            refine ⟨by kernel_rfl, ?_⟩
            conv => whnf
            refine ⟨fun hb_853 => ?_, fun hb_853 => ?_⟩
            · replace hL1 := cond_t hb_853 hL1
              conv => whnf
              obtain ⟨c_6, hc_6, hL1⟩ := sub_some hL1
              refine sw_bv 46 (v := .tup [.agg [.int .i64 r_78.1.Limits.e0, .int .i64 r_78.1.Limits.e1, .int .i64 r_78.1.Limits.e2, .int .i64 r_78.1.Limits.e3, .int .i64 r_78.1.Next, .lst 5 (r_78.1.L.map encCheck)], .int .i64 r_78.2.1, .int .i64 r_78.2.2]) (by (conv => lhs; whnf); all_goals rfl) (fun hb => ?_)
              have hbd_k_81 : r_78.1.L.length ≤ 9223372036854775807 := bnd_len (enc := encCheck) ((bnd_at (bnd_at hb.tcell 0 rfl).cell 5 rfl))
              refine sw_loop tab_ok follows_ok (fun y : Nat × (List A2_Int) => y.1 ≤ r_78.1.L.length ∧ law15_ScreenImages_L6 r_78 (r_78.1.L.drop y.1) y.1 y.2 = some c_6) (fun y => ⟨eL [(3, .ptr 0 0), (4, .ptr 1 0), (6, .ptr 2 0), (7, .int .i64 (w64 (i_13 + r_15.1))), (8, .int .i64 i_14), (16, .int .i64 (y.1 : Int))], hL [(0, .box [.lst 1 (r_77.2.L.map iA), .int .i64 r_77.2.At]), (1, .box [.int .i64 r_78.1.Limits.e0, .int .i64 r_78.1.Limits.e1, .int .i64 r_78.1.Limits.e2, .int .i64 r_78.1.Limits.e3, .int .i64 r_78.1.Next, .lst 5 (r_78.1.L.map encCheck)]), (2, .row 2 (y.2.map encA2_Int))], 3⟩) (fun y => r_78.1.L.length - y.1) (0, a_12) ⟨Nat.zero_le _, hc_6⟩ (wk_mk [0, 1, 2] [] [] rfl ⟨argP (id := 0) (by (conv => lhs; whnf); all_goals rfl) rfl, argP (id := 1) (by (conv => lhs; whnf); all_goals rfl) rfl, argP (id := 2) (by (conv => lhs; whnf); all_goals rfl) rfl, argE (by (conv => lhs; whnf); all_goals rfl) rfl, argE (by (conv => lhs; whnf); all_goals rfl) rfl, argE (by (conv => lhs; whnf); all_goals rfl) rfl, trivial⟩ ⟨boxL rfl rfl rfl ⟨(.ni _ rfl), (.ni _ rfl), trivial⟩, boxL rfl rfl rfl ⟨(.ni _ rfl), (.ni _ rfl), (.ni _ rfl), (.ni _ rfl), (.ni _ rfl), (.ni _ rfl), trivial⟩, blkR (fun _ => ⟨rfl, rfl⟩) rfl rfl, trivial⟩) ?_
              rintro ⟨k_81, a_79⟩ ⟨hk_k_81, hL2⟩
              try dsimp only at hk_k_81 hL2
              show awp _ _ _ _ _ _ ⟨eL [(3, .ptr 0 0), (4, .ptr 1 0), (6, .ptr 2 0), (7, .int .i64 (w64 (i_13 + r_15.1))), (8, .int .i64 i_14), (16, .int .i64 (k_81 : Int))], hL [(0, .box [.lst 1 (r_77.2.L.map iA), .int .i64 r_77.2.At]), (1, .box [.int .i64 r_78.1.Limits.e0, .int .i64 r_78.1.Limits.e1, .int .i64 r_78.1.Limits.e2, .int .i64 r_78.1.Limits.e3, .int .i64 r_78.1.Next, .lst 5 (r_78.1.L.map encCheck)]), (2, .row 2 (a_79.map encA2_Int))], 3⟩
              conv => whnf
              refine len_q (enc := encCheck) (l := r_78.1.L) rfl ?_
              conv => whnf
              refine ⟨fun h => ?_, fun h => ?_⟩
              · have hlt_k_81 : k_81 < r_78.1.L.length := by have h := of_decide_eq_true h; omega
                obtain ⟨e_82, h_e_82⟩ : ∃ y, r_78.1.L[k_81]? = some y := ⟨_, List.getElem?_eq_getElem hlt_k_81⟩
                rw [drop_cons h_e_82, law15_ScreenImages_L6.eq_2] at hL2
                conv => whnf
                refine ⟨k_81, _, rfl, ix_map h_e_82, ?_⟩
                conv => whnf
                refine ⟨fun hb_854 => ?_, fun hb_854 => ?_⟩
                · replace hL2 := cond_f hb_854 hL2
                  conv => whnf
                  refine ⟨fun hb_855 => ?_, fun hb_855 => ?_⟩
                  · replace hL2 := cond_f hb_855 hL2
                    conv => whnf
                    refine ⟨fun hb_856 => ?_, fun hb_856 => ?_⟩
                    · replace hL2 := cond_t hb_856 hL2
                      conv => whnf
                      obtain rfl := Option.some.inj hL2
                      replace hL1 := sub_ret hL1
                      obtain rfl := Option.some.inj hL1
                      replace hF := fin_ret hF
                      obtain rfl := Option.some.inj hF
                      exact ret_gz [] [] [] rfl (argFl (by (conv => lhs; whnf); all_goals rfl)) trivial
                    · replace hL2 := cond_f hb_856 hL2
                      conv => whnf
                      refine .inr ?_
                      conv => whnf
                      obtain ⟨u_83, h_u_83, hL2⟩ := bind_some hL2
                      refine ixa_q 1 h_u_83 rfl (fun m_u_83 hm_u_83 => ?_)
                      conv => whnf
                      obtain ⟨v_84, h_v_84, hL2⟩ := bind_some hL2
                      refine ⟨_, ix_map (enc := encA2_Int) (ixL_at h_v_84 (ixm1 hm_u_83)), ?_⟩
                      conv => whnf
                      refine ⟨fun hb_857 => ?_, fun hb_857 => ?_⟩
                      · replace hL2 := cond_t hb_857 hL2
                        conv => whnf
                        obtain ⟨u_85, h_u_85, hL2⟩ := bind_some hL2
                        refine ixa_q 1 h_u_85 rfl (fun m_u_85 hm_u_85 => ?_)
                        conv => whnf
                        obtain ⟨v_86, h_v_86, hL2⟩ := bind_some hL2
                        refine ⟨_, ix_map (enc := encA2_Int) (ixL_at h_v_86 (ixm1 hm_u_85)), ?_⟩
                        conv => whnf
                        refine ⟨by kernel_rfl, ?_⟩
                        conv => whnf
                        refine ⟨fun hb_858 => ?_, fun hb_858 => ?_⟩
                        · replace hL2 := cond_t hb_858 hL2
                          conv => whnf
                          obtain rfl := Option.some.inj hL2
                          replace hL1 := sub_ret hL1
                          obtain rfl := Option.some.inj hL1
                          replace hF := fin_ret hF
                          obtain rfl := Option.some.inj hF
                          exact ret_gz [] [] [] rfl (argFl (by (conv => lhs; whnf); all_goals rfl)) trivial
                        · replace hL2 := cond_f hb_858 hL2
                          conv => whnf
                          obtain ⟨u_87, h_u_87, hL2⟩ := bind_some hL2
                          refine ixa_q 1 h_u_87 rfl (fun m_u_87 hm_u_87 => ?_)
                          conv => whnf
                          obtain ⟨v_88, h_v_88, hL2⟩ := bind_some hL2
                          refine st_q (enc := encA2_Int) (l := a_79) (x' := (⟨e_82.Bag, e_82.Level⟩ : A2_Int)) (i := e_82.Image) (ixm1 hm_u_87) (ixL_at h_v_88 (ixm1 hm_u_87)) rfl (Nat.le_of_ble_eq_true rfl) rfl ?_
                          conv => whnf
                          refine ⟨((k_81 + 1 : Nat) : Int), wrapE (by omega) (by omega) (by omega), ?_⟩
                          conv => whnf
                          exact ⟨(k_81 + 1, (a_79.set e_82.Image.toNat (⟨e_82.Bag, e_82.Level⟩ : A2_Int))), [0, 1, 2], [], [], ⟨hlt_k_81, hL2⟩, by show r_78.1.L.length - (k_81 + 1) < r_78.1.L.length - k_81; omega, wk_mk [0, 1, 2] [] [] rfl ⟨argP (id := 0) (by (conv => lhs; whnf); all_goals rfl) rfl, argP (id := 1) (by (conv => lhs; whnf); all_goals rfl) rfl, argP (id := 2) (by (conv => lhs; whnf); all_goals rfl) rfl, argE (by (conv => lhs; whnf); all_goals rfl) rfl, argE (by (conv => lhs; whnf); all_goals rfl) rfl, argE (by (conv => lhs; whnf); all_goals rfl) rfl, trivial⟩ ⟨boxL rfl rfl rfl ⟨(.ni _ rfl), (.ni _ rfl), trivial⟩, boxL rfl rfl rfl ⟨(.ni _ rfl), (.ni _ rfl), (.ni _ rfl), (.ni _ rfl), (.ni _ rfl), (.ni _ rfl), trivial⟩, blkR (fun _ => ⟨rfl, rfl⟩) rfl rfl, trivial⟩⟩
                      · replace hL2 := cond_f hb_857 hL2
                        conv => whnf
                        refine ⟨by kernel_rfl, ?_⟩
                        conv => whnf
                        obtain ⟨u_89, h_u_89, hL2⟩ := bind_some hL2
                        refine ixa_q 1 h_u_89 rfl (fun m_u_89 hm_u_89 => ?_)
                        conv => whnf
                        obtain ⟨v_90, h_v_90, hL2⟩ := bind_some hL2
                        refine st_q (enc := encA2_Int) (l := a_79) (x' := (⟨e_82.Bag, e_82.Level⟩ : A2_Int)) (i := e_82.Image) (ixm1 hm_u_89) (ixL_at h_v_90 (ixm1 hm_u_89)) rfl (Nat.le_of_ble_eq_true rfl) rfl ?_
                        conv => whnf
                        refine ⟨((k_81 + 1 : Nat) : Int), wrapE (by omega) (by omega) (by omega), ?_⟩
                        conv => whnf
                        exact ⟨(k_81 + 1, (a_79.set e_82.Image.toNat (⟨e_82.Bag, e_82.Level⟩ : A2_Int))), [0, 1, 2], [], [], ⟨hlt_k_81, hL2⟩, by show r_78.1.L.length - (k_81 + 1) < r_78.1.L.length - k_81; omega, wk_mk [0, 1, 2] [] [] rfl ⟨argP (id := 0) (by (conv => lhs; whnf); all_goals rfl) rfl, argP (id := 1) (by (conv => lhs; whnf); all_goals rfl) rfl, argP (id := 2) (by (conv => lhs; whnf); all_goals rfl) rfl, argE (by (conv => lhs; whnf); all_goals rfl) rfl, argE (by (conv => lhs; whnf); all_goals rfl) rfl, argE (by (conv => lhs; whnf); all_goals rfl) rfl, trivial⟩ ⟨boxL rfl rfl rfl ⟨(.ni _ rfl), (.ni _ rfl), trivial⟩, boxL rfl rfl rfl ⟨(.ni _ rfl), (.ni _ rfl), (.ni _ rfl), (.ni _ rfl), (.ni _ rfl), (.ni _ rfl), trivial⟩, blkR (fun _ => ⟨rfl, rfl⟩) rfl rfl, trivial⟩⟩
                  · replace hL2 := cond_t hb_855 hL2
                    conv => whnf
                    obtain rfl := Option.some.inj hL2
                    replace hL1 := sub_ret hL1
                    obtain rfl := Option.some.inj hL1
                    replace hF := fin_ret hF
                    obtain rfl := Option.some.inj hF
                    exact ret_gz [] [] [] rfl (argFl (by (conv => lhs; whnf); all_goals rfl)) trivial
                · replace hL2 := cond_t hb_854 hL2
                  conv => whnf
                  obtain rfl := Option.some.inj hL2
                  replace hL1 := sub_ret hL1
                  obtain rfl := Option.some.inj hL1
                  replace hF := fin_ret hF
                  obtain rfl := Option.some.inj hF
                  exact ret_gz [] [] [] rfl (argFl (by (conv => lhs; whnf); all_goals rfl)) trivial
              · rw [drop_nil (show r_78.1.L.length ≤ k_81 by have h := of_decide_eq_false h; omega), law15_ScreenImages_L6.eq_1] at hL2
                conv => whnf
                obtain rfl := Option.some.inj hL2
                replace hL1 := sub_brk hL1
                try dsimp only at hL1
                refine ⟨_, rfl, ?_⟩
                conv => whnf
                exact ⟨(q_200, r_77.2.L, r_77.2.At, r_78.1.Limits.e0, r_78.1.Limits.e1, r_78.1.Limits.e2, r_78.1.Limits.e3, r_78.1.Next, r_78.1.L, a_79, (w64 (i_13 + r_15.1)), (w64 (i_14 + (1 : Int)))), [0, 1, 2], [], [], hL1, Nat.lt_succ_self _, wk_mk [0, 1, 2] [] [] rfl ⟨argP (id := 0) (by (conv => lhs; whnf); all_goals rfl) rfl, argP (id := 1) (by (conv => lhs; whnf); all_goals rfl) rfl, argP (id := 2) (by (conv => lhs; whnf); all_goals rfl) rfl, argE (by (conv => lhs; whnf); all_goals rfl) rfl, argE (by (conv => lhs; whnf); all_goals rfl) rfl, trivial⟩ ⟨boxL rfl rfl rfl ⟨(.ni _ rfl), (.ni _ rfl), trivial⟩, boxL rfl rfl rfl ⟨(.ni _ rfl), (.ni _ rfl), (.ni _ rfl), (.ni _ rfl), (.ni _ rfl), (.ni _ rfl), trivial⟩, blkR (fun _ => ⟨rfl, rfl⟩) rfl rfl, trivial⟩⟩
            · replace hL1 := cond_f hb_853 hL1
              conv => whnf
              obtain ⟨c_3, hc_3, hL1⟩ := sub_some hL1
              refine sw_bv 47 (v := .agg [.int .i64 i_6, .int .i64 i_7, .int .i64 i_8, .int .i64 i_9, .int .i64 i_10, .lst 5 (a_11.map encCheck)]) (by (conv => lhs; whnf); all_goals rfl) (fun hb => ?_)
              have hbd_k_95 : a_11.length ≤ 9223372036854775807 := bnd_len (enc := encCheck) ((bnd_at hb.cell 5 rfl))
              refine sw_loop tab_ok follows_ok (fun y : Nat × (List A2_Int) => y.1 ≤ a_11.length ∧ law15_ScreenImages_L3 i_10 (a_11.drop y.1) y.1 y.2 = some c_3) (fun y => ⟨eL [(3, .ptr 0 0), (4, .ptr 1 0), (6, .ptr 2 0), (7, .int .i64 (w64 (i_13 + r_15.1))), (8, .int .i64 i_14), (16, .int .i64 (y.1 : Int))], hL [(0, .box [.lst 1 (r_77.2.L.map iA), .int .i64 r_77.2.At]), (1, .box [.int .i64 i_6, .int .i64 i_7, .int .i64 i_8, .int .i64 i_9, .int .i64 i_10, .lst 5 (a_11.map encCheck)]), (2, .row 2 (y.2.map encA2_Int))], 3⟩) (fun y => a_11.length - y.1) (0, a_12) ⟨Nat.zero_le _, hc_3⟩ (wk_mk [0, 1, 2] [] [] rfl ⟨argP (id := 0) (by (conv => lhs; whnf); all_goals rfl) rfl, argP (id := 1) (by (conv => lhs; whnf); all_goals rfl) rfl, argP (id := 2) (by (conv => lhs; whnf); all_goals rfl) rfl, argE (by (conv => lhs; whnf); all_goals rfl) rfl, argE (by (conv => lhs; whnf); all_goals rfl) rfl, argE (by (conv => lhs; whnf); all_goals rfl) rfl, trivial⟩ ⟨boxL rfl rfl rfl ⟨(.ni _ rfl), (.ni _ rfl), trivial⟩, boxL rfl rfl rfl ⟨(.ni _ rfl), (.ni _ rfl), (.ni _ rfl), (.ni _ rfl), (.ni _ rfl), (.ni _ rfl), trivial⟩, blkR (fun _ => ⟨rfl, rfl⟩) rfl rfl, trivial⟩) ?_
              rintro ⟨k_95, a_93⟩ ⟨hk_k_95, hL2⟩
              try dsimp only at hk_k_95 hL2
              show awp _ _ _ _ _ _ ⟨eL [(3, .ptr 0 0), (4, .ptr 1 0), (6, .ptr 2 0), (7, .int .i64 (w64 (i_13 + r_15.1))), (8, .int .i64 i_14), (16, .int .i64 (k_95 : Int))], hL [(0, .box [.lst 1 (r_77.2.L.map iA), .int .i64 r_77.2.At]), (1, .box [.int .i64 i_6, .int .i64 i_7, .int .i64 i_8, .int .i64 i_9, .int .i64 i_10, .lst 5 (a_11.map encCheck)]), (2, .row 2 (a_93.map encA2_Int))], 3⟩
              conv => whnf
              refine len_q (enc := encCheck) (l := a_11) rfl ?_
              conv => whnf
              refine ⟨fun h => ?_, fun h => ?_⟩
              · have hlt_k_95 : k_95 < a_11.length := by have h := of_decide_eq_true h; omega
                obtain ⟨e_96, h_e_96⟩ : ∃ y, a_11[k_95]? = some y := ⟨_, List.getElem?_eq_getElem hlt_k_95⟩
                rw [drop_cons h_e_96, law15_ScreenImages_L3.eq_2] at hL2
                conv => whnf
                refine ⟨k_95, _, rfl, ix_map h_e_96, ?_⟩
                conv => whnf
                refine ⟨fun hb_859 => ?_, fun hb_859 => ?_⟩
                · replace hL2 := cond_f hb_859 hL2
                  conv => whnf
                  refine ⟨fun hb_860 => ?_, fun hb_860 => ?_⟩
                  · replace hL2 := cond_f hb_860 hL2
                    conv => whnf
                    refine ⟨fun hb_861 => ?_, fun hb_861 => ?_⟩
                    · replace hL2 := cond_t hb_861 hL2
                      conv => whnf
                      obtain rfl := Option.some.inj hL2
                      replace hL1 := sub_ret hL1
                      obtain rfl := Option.some.inj hL1
                      replace hF := fin_ret hF
                      obtain rfl := Option.some.inj hF
                      exact ret_gz [] [] [] rfl (argFl (by (conv => lhs; whnf); all_goals rfl)) trivial
                    · replace hL2 := cond_f hb_861 hL2
                      conv => whnf
                      refine .inr ?_
                      conv => whnf
                      obtain ⟨u_97, h_u_97, hL2⟩ := bind_some hL2
                      refine ixa_q 1 h_u_97 rfl (fun m_u_97 hm_u_97 => ?_)
                      conv => whnf
                      obtain ⟨v_98, h_v_98, hL2⟩ := bind_some hL2
                      refine ⟨_, ix_map (enc := encA2_Int) (ixL_at h_v_98 (ixm1 hm_u_97)), ?_⟩
                      conv => whnf
                      refine ⟨fun hb_862 => ?_, fun hb_862 => ?_⟩
                      · replace hL2 := cond_t hb_862 hL2
                        conv => whnf
                        obtain ⟨u_99, h_u_99, hL2⟩ := bind_some hL2
                        refine ixa_q 1 h_u_99 rfl (fun m_u_99 hm_u_99 => ?_)
                        conv => whnf
                        obtain ⟨v_100, h_v_100, hL2⟩ := bind_some hL2
                        refine ⟨_, ix_map (enc := encA2_Int) (ixL_at h_v_100 (ixm1 hm_u_99)), ?_⟩
                        conv => whnf
                        refine ⟨by kernel_rfl, ?_⟩
                        conv => whnf
                        refine ⟨fun hb_863 => ?_, fun hb_863 => ?_⟩
                        · replace hL2 := cond_t hb_863 hL2
                          conv => whnf
                          obtain rfl := Option.some.inj hL2
                          replace hL1 := sub_ret hL1
                          obtain rfl := Option.some.inj hL1
                          replace hF := fin_ret hF
                          obtain rfl := Option.some.inj hF
                          exact ret_gz [] [] [] rfl (argFl (by (conv => lhs; whnf); all_goals rfl)) trivial
                        · replace hL2 := cond_f hb_863 hL2
                          conv => whnf
                          obtain ⟨u_101, h_u_101, hL2⟩ := bind_some hL2
                          refine ixa_q 1 h_u_101 rfl (fun m_u_101 hm_u_101 => ?_)
                          conv => whnf
                          obtain ⟨v_102, h_v_102, hL2⟩ := bind_some hL2
                          refine st_q (enc := encA2_Int) (l := a_93) (x' := (⟨e_96.Bag, e_96.Level⟩ : A2_Int)) (i := e_96.Image) (ixm1 hm_u_101) (ixL_at h_v_102 (ixm1 hm_u_101)) rfl (Nat.le_of_ble_eq_true rfl) rfl ?_
                          conv => whnf
                          refine ⟨((k_95 + 1 : Nat) : Int), wrapE (by omega) (by omega) (by omega), ?_⟩
                          conv => whnf
                          exact ⟨(k_95 + 1, (a_93.set e_96.Image.toNat (⟨e_96.Bag, e_96.Level⟩ : A2_Int))), [0, 1, 2], [], [], ⟨hlt_k_95, hL2⟩, by show a_11.length - (k_95 + 1) < a_11.length - k_95; omega, wk_mk [0, 1, 2] [] [] rfl ⟨argP (id := 0) (by (conv => lhs; whnf); all_goals rfl) rfl, argP (id := 1) (by (conv => lhs; whnf); all_goals rfl) rfl, argP (id := 2) (by (conv => lhs; whnf); all_goals rfl) rfl, argE (by (conv => lhs; whnf); all_goals rfl) rfl, argE (by (conv => lhs; whnf); all_goals rfl) rfl, argE (by (conv => lhs; whnf); all_goals rfl) rfl, trivial⟩ ⟨boxL rfl rfl rfl ⟨(.ni _ rfl), (.ni _ rfl), trivial⟩, boxL rfl rfl rfl ⟨(.ni _ rfl), (.ni _ rfl), (.ni _ rfl), (.ni _ rfl), (.ni _ rfl), (.ni _ rfl), trivial⟩, blkR (fun _ => ⟨rfl, rfl⟩) rfl rfl, trivial⟩⟩
                      · replace hL2 := cond_f hb_862 hL2
                        conv => whnf
                        refine ⟨by kernel_rfl, ?_⟩
                        conv => whnf
                        obtain ⟨u_103, h_u_103, hL2⟩ := bind_some hL2
                        refine ixa_q 1 h_u_103 rfl (fun m_u_103 hm_u_103 => ?_)
                        conv => whnf
                        obtain ⟨v_104, h_v_104, hL2⟩ := bind_some hL2
                        refine st_q (enc := encA2_Int) (l := a_93) (x' := (⟨e_96.Bag, e_96.Level⟩ : A2_Int)) (i := e_96.Image) (ixm1 hm_u_103) (ixL_at h_v_104 (ixm1 hm_u_103)) rfl (Nat.le_of_ble_eq_true rfl) rfl ?_
                        conv => whnf
                        refine ⟨((k_95 + 1 : Nat) : Int), wrapE (by omega) (by omega) (by omega), ?_⟩
                        conv => whnf
                        exact ⟨(k_95 + 1, (a_93.set e_96.Image.toNat (⟨e_96.Bag, e_96.Level⟩ : A2_Int))), [0, 1, 2], [], [], ⟨hlt_k_95, hL2⟩, by show a_11.length - (k_95 + 1) < a_11.length - k_95; omega, wk_mk [0, 1, 2] [] [] rfl ⟨argP (id := 0) (by (conv => lhs; whnf); all_goals rfl) rfl, argP (id := 1) (by (conv => lhs; whnf); all_goals rfl) rfl, argP (id := 2) (by (conv => lhs; whnf); all_goals rfl) rfl, argE (by (conv => lhs; whnf); all_goals rfl) rfl, argE (by (conv => lhs; whnf); all_goals rfl) rfl, argE (by (conv => lhs; whnf); all_goals rfl) rfl, trivial⟩ ⟨boxL rfl rfl rfl ⟨(.ni _ rfl), (.ni _ rfl), trivial⟩, boxL rfl rfl rfl ⟨(.ni _ rfl), (.ni _ rfl), (.ni _ rfl), (.ni _ rfl), (.ni _ rfl), (.ni _ rfl), trivial⟩, blkR (fun _ => ⟨rfl, rfl⟩) rfl rfl, trivial⟩⟩
                  · replace hL2 := cond_t hb_860 hL2
                    conv => whnf
                    obtain rfl := Option.some.inj hL2
                    replace hL1 := sub_ret hL1
                    obtain rfl := Option.some.inj hL1
                    replace hF := fin_ret hF
                    obtain rfl := Option.some.inj hF
                    exact ret_gz [] [] [] rfl (argFl (by (conv => lhs; whnf); all_goals rfl)) trivial
                · replace hL2 := cond_t hb_859 hL2
                  conv => whnf
                  obtain rfl := Option.some.inj hL2
                  replace hL1 := sub_ret hL1
                  obtain rfl := Option.some.inj hL1
                  replace hF := fin_ret hF
                  obtain rfl := Option.some.inj hF
                  exact ret_gz [] [] [] rfl (argFl (by (conv => lhs; whnf); all_goals rfl)) trivial
              · rw [drop_nil (show a_11.length ≤ k_95 by have h := of_decide_eq_false h; omega), law15_ScreenImages_L3.eq_1] at hL2
                conv => whnf
                obtain rfl := Option.some.inj hL2
                replace hL1 := sub_brk hL1
                try dsimp only at hL1
                refine ⟨_, rfl, ?_⟩
                conv => whnf
                exact ⟨(q_200, r_77.2.L, r_77.2.At, i_6, i_7, i_8, i_9, i_10, a_11, a_93, (w64 (i_13 + r_15.1)), (w64 (i_14 + (1 : Int)))), [0, 1, 2], [], [], hL1, Nat.lt_succ_self _, wk_mk [0, 1, 2] [] [] rfl ⟨argP (id := 0) (by (conv => lhs; whnf); all_goals rfl) rfl, argP (id := 1) (by (conv => lhs; whnf); all_goals rfl) rfl, argP (id := 2) (by (conv => lhs; whnf); all_goals rfl) rfl, argE (by (conv => lhs; whnf); all_goals rfl) rfl, argE (by (conv => lhs; whnf); all_goals rfl) rfl, trivial⟩ ⟨boxL rfl rfl rfl ⟨(.ni _ rfl), (.ni _ rfl), trivial⟩, boxL rfl rfl rfl ⟨(.ni _ rfl), (.ni _ rfl), (.ni _ rfl), (.ni _ rfl), (.ni _ rfl), (.ni _ rfl), trivial⟩, blkR (fun _ => ⟨rfl, rfl⟩) rfl rfl, trivial⟩⟩
    · replace hL1 := cond_f hb_827 hL1
      conv => whnf
      obtain rfl := Option.some.inj hL1
      replace hF := fin_brk hF
      try dsimp only at hF
      obtain ⟨r_202, h_r_202, hF⟩ := bind_some hF
      refine ⟨_, _, _, _, _, _, _, _, _, callX false [] [] 0 Try.func15 (by decide) rfl (law15_awake_ac r_202 h_r_202) rfl trivial rfl trivial rfl rfl rfl lend0 trivial rfl, ?_⟩
      conv => whnf
      obtain rfl := Option.some.inj hF
      exact ret_gz [] [] [] rfl (argE (by (conv => lhs; whnf); all_goals rfl) rfl) trivial
end Go.Proofs.Ytidhgcgbdjjdlaa.Ex
