/- The functions of the program compute what was printed; walks printed by a program. -/
import Derived.Test.YtpipggnfbgjefaaExF
import Derived.Test.YtpipggnfbgjefaaExP1
import Derived.Test.YtpipggnfbgjefaaExP2
import Derived.Test.YtpipggnfbgjefaaExP4
namespace Go.Proofs.Ytpipggnfbgjefaa.Ex
open Go.RowKit Go.Proofs.Ytpipggnfbgjefaa.Ax
set_option linter.unusedVariables false
set_option linter.unusedSimpArgs false
set_option maxRecDepth 100000 in
set_option maxHeartbeats 40000000 in
theorem law05_InboxOrder_ac (x_0 : Int) (x_1 : Int) (x_2 : (List Int)) (r : Bool) (hF : law05_InboxOrder x_0 x_1 x_2 = some r) : AC Try.prog 3 [.int .i64 x_0, .int .i64 x_1, .lst 1 (x_2.map iA)] [] (.bool r) [] := by
  refine ac_of tab_ok follows_ok Try.func3 rfl Try.ntmps3 rfl ?_
  unfold law05_InboxOrder at hF
  conv => whnf
  obtain ⟨r_1, h_r_1, hF⟩ := bind_some hF
  refine ⟨_, _, _, _, _, _, _, _, _, callX false [] [] 0 Try.func8 (by decide) rfl (keep_Mod_ac x_0 (8 : Int) r_1 h_r_1) rfl ⟨(argE (by (conv => lhs; whnf); all_goals rfl) rfl), (argE (by (conv => lhs; whnf); all_goals rfl) rfl), trivial⟩ rfl trivial rfl rfl rfl lend0 trivial rfl, ?_⟩
  conv => whnf
  refine ⟨_, rfl, ?_⟩
  conv => whnf
  obtain ⟨r_2, h_r_2, hF⟩ := bind_some hF
  refine ⟨_, _, _, _, _, _, _, _, _, callX false [] [] 0 Try.func8 (by decide) rfl (keep_Mod_ac x_1 (12 : Int) r_2 h_r_2) rfl ⟨(argE (by (conv => lhs; whnf); all_goals rfl) rfl), (argE (by (conv => lhs; whnf); all_goals rfl) rfl), trivial⟩ rfl trivial rfl rfl rfl lend0 trivial rfl, ?_⟩
  conv => whnf
  refine ⟨_, rfl, ?_⟩
  conv => whnf
  obtain ⟨r_3, h_r_3, hF⟩ := bind_some hF
  refine ⟨_, _, _, _, _, _, _, _, _, callX false [] [] 0 Try.func9 (by decide) rfl (inbox_New_ac (w64 ((1 : Int) + r_1)) r_3 h_r_3) rfl ⟨(argE (by (conv => lhs; whnf); all_goals rfl) rfl), trivial⟩ rfl trivial rfl rfl rfl lend0 trivial rfl, ?_⟩
  conv => whnf
  refine ⟨fun hb_584 => ?_, fun hb_584 => ?_⟩
  · replace hF := cond_t hb_584 hF
    conv => whnf
    obtain rfl := Option.some.inj hF
    exact ret_gz [] [] [] rfl (argFl (by (conv => lhs; whnf); all_goals rfl)) trivial
  · replace hF := cond_f hb_584 hF
    conv => whnf
    obtain ⟨r_4, h_r_4, hF⟩ := bind_some hF
    refine ⟨_, _, _, _, _, _, _, _, _, callX false [] [] 1 Try.func10 (by decide) rfl (keep_New_ac x_2 r_4 h_r_4) rfl ⟨(argE (by (conv => lhs; whnf); all_goals rfl) rfl), trivial⟩ rfl trivial rfl rfl rfl lend0 ⟨rfl, trivial⟩ rfl, ?_⟩
    conv => whnf
    obtain ⟨l_5, h_l_5, hF⟩ := bind_some hF
    refine .inl (al_q (enc := bA) h_l_5 rfl rfl (by decide) (Nat.le_of_ble_eq_true rfl) (by kernel_rfl) ?_)
    conv => whnf
    obtain ⟨c_1, hc_1, hF⟩ := fin_some hF
    refine sw_loop tab_ok follows_ok (fun y : Nat × Int × (List Sender) × (List Int) × Int × Int × (List Bool) × Int => law05_InboxOrder_L1 r_1 r_2 y.1 y.2.1 y.2.2.1 y.2.2.2.1 y.2.2.2.2.1 y.2.2.2.2.2.1 y.2.2.2.2.2.2.1 y.2.2.2.2.2.2.2 = some c_1) (fun y => ⟨eL [(1, .int .i64 (w64 ((1 : Int) + r_2))), (7, .int .i64 (w64 ((1 : Int) + r_1))), (8, .ptr 0 0), (10, .ptr 1 0), (11, .int .i64 y.2.2.2.2.2.1), (12, .ptr 2 0), (13, .int .i64 y.2.2.2.2.2.2.2)], hL [(0, .box [.int .i64 y.2.1, .lst 3 (y.2.2.1.map encSender)]), (1, .box [.lst 1 (y.2.2.2.1.map iA), .int .i64 y.2.2.2.2.1]), (2, .row 1 (y.2.2.2.2.2.2.1.map bA))], 3⟩) (fun y => y.1) (9223372036854775807, r_3.1.Window, r_3.1.L, r_4.L, r_4.At, (1 : Int), l_5, (0 : Int)) hc_1 (wk_mk [3, 4, 6] [] [] rfl ⟨argE (by (conv => lhs; whnf); all_goals rfl) rfl, argE (by (conv => lhs; whnf); all_goals rfl) rfl, argP (id := 3) (by (conv => lhs; whnf); all_goals rfl) rfl, argP (id := 4) (by (conv => lhs; whnf); all_goals rfl) rfl, argE (by (conv => lhs; whnf); all_goals rfl) rfl, argP (id := 6) (by (conv => lhs; whnf); all_goals rfl) rfl, argE (by (conv => lhs; whnf); all_goals rfl) rfl, trivial⟩ ⟨boxL rfl rfl rfl ⟨(.ni _ rfl), (.ni _ rfl), trivial⟩, boxL rfl rfl rfl ⟨(.ni _ rfl), (.ni _ rfl), trivial⟩, blkR (fun _ => ⟨rfl, rfl⟩) rfl rfl, trivial⟩) ?_
    rintro ⟨q_261, i_6, a_7, a_8, i_9, i_11, a_10, i_12⟩ hL1
    try dsimp only at hL1
    rcases q_261 with _ | q_261
    · rw [law05_InboxOrder_L1.eq_1] at hL1
      cases hL1
    rw [law05_InboxOrder_L1.eq_2] at hL1
    show awp _ _ _ _ _ _ ⟨eL [(1, .int .i64 (w64 ((1 : Int) + r_2))), (7, .int .i64 (w64 ((1 : Int) + r_1))), (8, .ptr 0 0), (10, .ptr 1 0), (11, .int .i64 i_11), (12, .ptr 2 0), (13, .int .i64 i_12)], hL [(0, .box [.int .i64 i_6, .lst 3 (a_7.map encSender)]), (1, .box [.lst 1 (a_8.map iA), .int .i64 i_9]), (2, .row 1 (a_10.map bA))], 3⟩
    conv => whnf
    refine ⟨fun hb_585 => ?_, fun hb_585 => ?_⟩
    · replace hL1 := cond_t hb_585 hL1
      conv => whnf
      refine ⟨fun hb_586 => ?_, fun hb_586 => ?_⟩
      · replace hL1 := cond_t hb_586 hL1
        conv => whnf
        refine ⟨_, rfl, ?_⟩
        conv => whnf
        refine ⟨_, rfl, ?_⟩
        conv => whnf
        obtain ⟨r_13, h_r_13, hL1⟩ := bind_some hL1
        refine ⟨_, _, _, _, _, _, _, _, _, callX false [1] [] 0 Try.func11 (by decide) rfl (keep_Src_Range_ac (⟨a_8, i_9⟩ : Src) (1 : Int) (if (w64 ((w64 (i_11 + (w64 ((1 : Int) + r_1)))) - (1 : Int))) < (w64 ((1 : Int) + r_2)) then (w64 ((w64 (i_11 + (w64 ((1 : Int) + r_1)))) - (1 : Int))) else (w64 ((1 : Int) + r_2))) r_13 h_r_13) rfl ⟨(argP (id := 1) (by (conv => lhs; whnf); all_goals rfl) rfl), (argE (by (conv => lhs; whnf); all_goals rfl) rfl), (argE (by (conv => lhs; whnf); all_goals rfl) rfl), trivial⟩ rfl ⟨rfl, trivial⟩ rfl rfl rfl lend0 ⟨rfl, trivial⟩ rfl, ?_⟩
        conv => whnf
        refine ⟨fun hb_587 => ?_, fun hb_587 => ?_⟩
        · replace hL1 := cond_f hb_587 hL1
          conv => whnf
          obtain ⟨r_96, h_r_96, hL1⟩ := bind_some hL1
          refine ⟨_, _, _, _, _, _, _, _, _, callX false [] [1] 0 Try.func12 (by decide) rfl (keep_Src_More_ac r_13.2 r_96 h_r_96) rfl ⟨(argIb 1 _ (by (conv => lhs; whnf); all_goals rfl) rfl rfl rfl rfl), trivial⟩ rfl trivial rfl rfl rfl (lendF rfl) trivial rfl, ?_⟩
          conv => whnf
          refine ⟨fun hb_616 => ?_, fun hb_616 => ?_⟩
          · replace hL1 := cond_t hb_616 hL1
            conv => whnf
            obtain ⟨r_97, h_r_97, hL1⟩ := bind_some hL1
            refine ⟨_, _, _, _, _, _, _, _, _, callX false [] [] 0 Try.func14 (by decide) rfl (law05_numbered_ac (⟨#[65, 82, 78]⟩ : ByteArray) i_11 r_97 h_r_97) rfl ⟨(argE (by (conv => lhs; whnf); all_goals rfl) rfl), (argE (by (conv => lhs; whnf); all_goals rfl) rfl), trivial⟩ rfl trivial rfl rfl rfl lend0 trivial rfl, ?_⟩
            conv => whnf
            obtain ⟨r_98, h_r_98, hL1⟩ := bind_some hL1
            refine ⟨_, _, _, _, _, _, _, _, _, callX false [] [] 0 Try.func13 (by decide) rfl (inbox_Receive_ac (⟨i_6, a_7⟩ : Inbox) r_97 r_98 h_r_98) rfl ⟨(argE (by (conv => lhs; whnf); all_goals rfl) rfl), (argE (by (conv => lhs; whnf); all_goals rfl) rfl), trivial⟩ rfl trivial rfl rfl rfl lend0 trivial rfl, ?_⟩
            conv => whnf
            refine ⟨by kernel_rfl, ?_⟩
            conv => whnf
            refine ⟨fun hb_617 => ?_, fun hb_617 => ?_⟩
            · replace hL1 := cond_t hb_617 hL1
              conv => whnf
              obtain rfl := Option.some.inj hL1
              replace hF := fin_ret hF
              obtain rfl := Option.some.inj hF
              exact ret_gz [] [] [] rfl (argFl (by (conv => lhs; whnf); all_goals rfl)) trivial
            · replace hL1 := cond_f hb_617 hL1
              conv => whnf
              obtain ⟨u_99, h_u_99, hL1⟩ := bind_some hL1
              refine ixa_q 1 h_u_99 rfl (fun m_u_99 hm_u_99 => ?_)
              conv => whnf
              obtain ⟨v_100, h_v_100, hL1⟩ := bind_some hL1
              refine ⟨_, ix_map (enc := bA) (ixL_at h_v_100 (ixm1 hm_u_99)), ?_⟩
              conv => whnf
              refine ⟨fun hb_618 => ?_, fun hb_618 => ?_⟩
              · replace hL1 := cond_f hb_618 hL1
                conv => whnf
                obtain ⟨u_101, h_u_101, hL1⟩ := bind_some hL1
                refine ixa_q 1 h_u_101 rfl (fun m_u_101 hm_u_101 => ?_)
                conv => whnf
                obtain ⟨v_102, h_v_102, hL1⟩ := bind_some hL1
                refine ⟨_, ix_map (enc := bA) (ixL_at h_v_102 (ixm1 hm_u_101)), ?_⟩
                conv => whnf
                refine ⟨fun hb_619 => ?_, fun hb_619 => ?_⟩
                · replace hL1 := cond_t hb_619 hL1
                  conv => whnf
                  refine ⟨fun hb_620 => ?_, fun hb_620 => ?_⟩
                  · replace hL1 := cond_f hb_620 hL1
                    conv => whnf
                    obtain ⟨u_103, h_u_103, hL1⟩ := bind_some hL1
                    refine ixa_q 1 h_u_103 rfl (fun m_u_103 hm_u_103 => ?_)
                    conv => whnf
                    obtain ⟨v_104, h_v_104, hL1⟩ := bind_some hL1
                    refine ⟨_, ix_map (enc := bA) (ixL_at h_v_104 (ixm1 hm_u_103)), ?_⟩
                    conv => whnf
                    refine ⟨fun hb_621 => ?_, fun hb_621 => ?_⟩
                    · replace hL1 := cond_t hb_621 hL1
                      conv => whnf
                      refine ⟨fun hb_622 => ?_, fun hb_622 => ?_⟩
                      · replace hL1 := cond_t hb_622 hL1
                        conv => whnf
                        refine ⟨fun hb_623 => ?_, fun hb_623 => ?_⟩
                        · replace hL1 := cond_t hb_623 hL1
                          conv => whnf
                          obtain rfl := Option.some.inj hL1
                          replace hF := fin_ret hF
                          obtain rfl := Option.some.inj hF
                          exact ret_gz [] [] [] rfl (argFl (by (conv => lhs; whnf); all_goals rfl)) trivial
                        · replace hL1 := cond_f hb_623 hL1
                          conv => whnf
                          obtain ⟨u_105, h_u_105, hL1⟩ := bind_some hL1
                          refine ixa_q 1 h_u_105 rfl (fun m_u_105 hm_u_105 => ?_)
                          conv => whnf
                          obtain ⟨v_106, h_v_106, hL1⟩ := bind_some hL1
                          refine st_q (enc := bA) (l := a_10) (x' := true) (i := i_11) (ixm1 hm_u_105) (ixL_at h_v_106 (ixm1 hm_u_105)) rfl (Nat.le_of_ble_eq_true rfl) rfl ?_
                          conv => whnf
                          obtain ⟨c_2, hc_2, hL1⟩ := sub_some hL1
                          refine sw_bv 16 (v := .lst 30 (r_98.2.1.map encMessage)) (by (conv => lhs; whnf); all_goals rfl) (fun hb => ?_)
                          have hbd_k_109 : r_98.2.1.length ≤ 9223372036854775807 := bnd_len (enc := encMessage) (hb)
                          refine sw_loop tab_ok follows_ok (fun y : Nat × Int => y.1 ≤ r_98.2.1.length ∧ law05_InboxOrder_L2 (r_98.2.1.drop y.1) y.1 y.2 = some c_2) (fun y => ⟨eL [(1, .int .i64 (w64 ((1 : Int) + r_2))), (7, .int .i64 (w64 ((1 : Int) + r_1))), (8, .ptr 0 0), (10, .ptr 1 0), (11, .int .i64 y.2), (12, .ptr 2 0), (13, .int .i64 i_12), (15, .ptr 3 0), (16, .lst 30 (r_98.2.1.map encMessage)), (19, .int .i64 (y.1 : Int))], hL [(0, .box [.int .i64 i_6, .lst 3 (a_7.map encSender)]), (1, .box [.lst 1 (r_13.2.L.map iA), .int .i64 r_13.2.At]), (2, .row 1 ((a_10.set i_11.toNat true).map bA)), (3, .box [.int .i64 r_98.1.Window, .lst 3 (r_98.1.L.map encSender)])], 4⟩) (fun y => r_98.2.1.length - y.1) (0, i_11) ⟨Nat.zero_le _, hc_2⟩ (wk_mk [0, 1, 2, 7] [] [] rfl ⟨argE (by (conv => lhs; whnf); all_goals rfl) rfl, argE (by (conv => lhs; whnf); all_goals rfl) rfl, argP (id := 0) (by (conv => lhs; whnf); all_goals rfl) rfl, argP (id := 1) (by (conv => lhs; whnf); all_goals rfl) rfl, argE (by (conv => lhs; whnf); all_goals rfl) rfl, argP (id := 2) (by (conv => lhs; whnf); all_goals rfl) rfl, argE (by (conv => lhs; whnf); all_goals rfl) rfl, argP (id := 7) (by (conv => lhs; whnf); all_goals rfl) rfl, argE (by (conv => lhs; whnf); all_goals rfl) rfl, argE (by (conv => lhs; whnf); all_goals rfl) rfl, trivial⟩ ⟨boxL rfl rfl rfl ⟨(.ni _ rfl), (.ni _ rfl), trivial⟩, boxL rfl rfl rfl ⟨(.ni _ rfl), (.ni _ rfl), trivial⟩, blkR (fun _ => ⟨rfl, rfl⟩) rfl rfl, boxL rfl rfl rfl ⟨(.ni _ rfl), (.ni _ rfl), trivial⟩, trivial⟩) ?_
                          rintro ⟨k_109, i_107⟩ ⟨hk_k_109, hL2⟩
                          try dsimp only at hk_k_109 hL2
                          show awp _ _ _ _ _ _ ⟨eL [(1, .int .i64 (w64 ((1 : Int) + r_2))), (7, .int .i64 (w64 ((1 : Int) + r_1))), (8, .ptr 0 0), (10, .ptr 1 0), (11, .int .i64 i_107), (12, .ptr 2 0), (13, .int .i64 i_12), (15, .ptr 3 0), (16, .lst 30 (r_98.2.1.map encMessage)), (19, .int .i64 (k_109 : Int))], hL [(0, .box [.int .i64 i_6, .lst 3 (a_7.map encSender)]), (1, .box [.lst 1 (r_13.2.L.map iA), .int .i64 r_13.2.At]), (2, .row 1 ((a_10.set i_11.toNat true).map bA)), (3, .box [.int .i64 r_98.1.Window, .lst 3 (r_98.1.L.map encSender)])], 4⟩
                          conv => whnf
                          refine len_q (enc := encMessage) (l := r_98.2.1) rfl ?_
                          conv => whnf
                          refine ⟨fun h => ?_, fun h => ?_⟩
                          · have hlt_k_109 : k_109 < r_98.2.1.length := by have h := of_decide_eq_true h; omega
                            obtain ⟨e_110, h_e_110⟩ : ∃ y, r_98.2.1[k_109]? = some y := ⟨_, List.getElem?_eq_getElem hlt_k_109⟩
                            rw [drop_cons h_e_110, law05_InboxOrder_L2.eq_2] at hL2
                            conv => whnf
                            refine ⟨k_109, _, rfl, ix_map h_e_110, ?_⟩
                            conv => whnf
                            obtain ⟨r_111, h_r_111, hL2⟩ := bind_some hL2
                            refine ⟨_, _, _, _, _, _, _, _, _, callX false [] [] 0 Try.func14 (by decide) rfl (law05_numbered_ac (⟨#[65, 82, 78]⟩ : ByteArray) i_107 r_111 h_r_111) rfl ⟨(argE (by (conv => lhs; whnf); all_goals rfl) rfl), (argE (by (conv => lhs; whnf); all_goals rfl) rfl), trivial⟩ rfl trivial rfl rfl rfl lend0 trivial rfl, ?_⟩
                            conv => whnf
                            obtain ⟨r_112, h_r_112, hL2⟩ := bind_some hL2
                            refine ⟨_, _, _, _, _, _, _, _, _, callX false [] [] 0 Try.func15 (by decide) rfl (ref04_Same_ac e_110 r_111 r_112 h_r_112) rfl ⟨(argE (by (conv => lhs; whnf); all_goals rfl) rfl), (argE (by (conv => lhs; whnf); all_goals rfl) rfl), trivial⟩ rfl trivial rfl rfl rfl lend0 trivial rfl, ?_⟩
                            conv => whnf
                            refine ⟨by kernel_rfl, ?_⟩
                            conv => whnf
                            refine ⟨fun hb_624 => ?_, fun hb_624 => ?_⟩
                            · replace hL2 := cond_t hb_624 hL2
                              conv => whnf
                              obtain rfl := Option.some.inj hL2
                              replace hL1 := sub_ret hL1
                              obtain rfl := Option.some.inj hL1
                              replace hF := fin_ret hF
                              obtain rfl := Option.some.inj hF
                              exact ret_gz [] [] [] rfl (argFl (by (conv => lhs; whnf); all_goals rfl)) trivial
                            · replace hL2 := cond_f hb_624 hL2
                              conv => whnf
                              refine ⟨_, rfl, ?_⟩
                              conv => whnf
                              refine ⟨((k_109 + 1 : Nat) : Int), wrapE (by omega) (by omega) (by omega), ?_⟩
                              conv => whnf
                              exact ⟨(k_109 + 1, (w64 (i_107 + (1 : Int)))), [0, 1, 2, 3], [], [], ⟨hlt_k_109, hL2⟩, by show r_98.2.1.length - (k_109 + 1) < r_98.2.1.length - k_109; omega, wk_mk [0, 1, 2, 3] [] [] rfl ⟨argE (by (conv => lhs; whnf); all_goals rfl) rfl, argE (by (conv => lhs; whnf); all_goals rfl) rfl, argP (id := 0) (by (conv => lhs; whnf); all_goals rfl) rfl, argP (id := 1) (by (conv => lhs; whnf); all_goals rfl) rfl, argE (by (conv => lhs; whnf); all_goals rfl) rfl, argP (id := 2) (by (conv => lhs; whnf); all_goals rfl) rfl, argE (by (conv => lhs; whnf); all_goals rfl) rfl, argP (id := 3) (by (conv => lhs; whnf); all_goals rfl) rfl, argE (by (conv => lhs; whnf); all_goals rfl) rfl, argE (by (conv => lhs; whnf); all_goals rfl) rfl, trivial⟩ ⟨boxL rfl rfl rfl ⟨(.ni _ rfl), (.ni _ rfl), trivial⟩, boxL rfl rfl rfl ⟨(.ni _ rfl), (.ni _ rfl), trivial⟩, blkR (fun _ => ⟨rfl, rfl⟩) rfl rfl, boxL rfl rfl rfl ⟨(.ni _ rfl), (.ni _ rfl), trivial⟩, trivial⟩⟩
                          · rw [drop_nil (show r_98.2.1.length ≤ k_109 by have h := of_decide_eq_false h; omega), law05_InboxOrder_L2.eq_1] at hL2
                            conv => whnf
                            obtain rfl := Option.some.inj hL2
                            replace hL1 := sub_brk hL1
                            try dsimp only at hL1
                            refine ⟨fun hb_625 => ?_, fun hb_625 => ?_⟩
                            · replace hL1 := cond_t hb_625 hL1
                              conv => whnf
                              obtain ⟨u_115, h_u_115, hL1⟩ := bind_some hL1
                              refine ixa_q 1 h_u_115 rfl (fun m_u_115 hm_u_115 => ?_)
                              conv => whnf
                              obtain ⟨v_116, h_v_116, hL1⟩ := bind_some hL1
                              refine ⟨_, ix_map (enc := bA) (ixL_at h_v_116 (ixm1 hm_u_115)), ?_⟩
                              conv => whnf
                              refine ⟨fun hb_626 => ?_, fun hb_626 => ?_⟩
                              · replace hL1 := cond_t hb_626 hL1
                                conv => whnf
                                obtain rfl := Option.some.inj hL1
                                replace hF := fin_ret hF
                                obtain rfl := Option.some.inj hF
                                exact ret_gz [] [] [] rfl (argFl (by (conv => lhs; whnf); all_goals rfl)) trivial
                              · replace hL1 := cond_f hb_626 hL1
                                conv => whnf
                                refine ⟨_, rfl, ?_⟩
                                conv => whnf
                                exact ⟨(q_261, r_98.1.Window, r_98.1.L, r_13.2.L, r_13.2.At, i_107, (a_10.set i_11.toNat true), (w64 (i_12 + (1 : Int)))), [0, 1, 2], [], [], hL1, Nat.lt_succ_self _, wk_mk [0, 1, 2] [] [] rfl ⟨argE (by (conv => lhs; whnf); all_goals rfl) rfl, argE (by (conv => lhs; whnf); all_goals rfl) rfl, argP (id := 0) (by (conv => lhs; whnf); all_goals rfl) rfl, argP (id := 1) (by (conv => lhs; whnf); all_goals rfl) rfl, argE (by (conv => lhs; whnf); all_goals rfl) rfl, argP (id := 2) (by (conv => lhs; whnf); all_goals rfl) rfl, argE (by (conv => lhs; whnf); all_goals rfl) rfl, trivial⟩ ⟨boxL rfl rfl rfl ⟨(.ni _ rfl), (.ni _ rfl), trivial⟩, boxL rfl rfl rfl ⟨(.ni _ rfl), (.ni _ rfl), trivial⟩, blkR (fun _ => ⟨rfl, rfl⟩) rfl rfl, trivial⟩⟩
                            · replace hL1 := cond_f hb_625 hL1
                              conv => whnf
                              refine ⟨_, rfl, ?_⟩
                              conv => whnf
                              exact ⟨(q_261, r_98.1.Window, r_98.1.L, r_13.2.L, r_13.2.At, i_107, (a_10.set i_11.toNat true), (w64 (i_12 + (1 : Int)))), [0, 1, 2], [], [], hL1, Nat.lt_succ_self _, wk_mk [0, 1, 2] [] [] rfl ⟨argE (by (conv => lhs; whnf); all_goals rfl) rfl, argE (by (conv => lhs; whnf); all_goals rfl) rfl, argP (id := 0) (by (conv => lhs; whnf); all_goals rfl) rfl, argP (id := 1) (by (conv => lhs; whnf); all_goals rfl) rfl, argE (by (conv => lhs; whnf); all_goals rfl) rfl, argP (id := 2) (by (conv => lhs; whnf); all_goals rfl) rfl, argE (by (conv => lhs; whnf); all_goals rfl) rfl, trivial⟩ ⟨boxL rfl rfl rfl ⟨(.ni _ rfl), (.ni _ rfl), trivial⟩, boxL rfl rfl rfl ⟨(.ni _ rfl), (.ni _ rfl), trivial⟩, blkR (fun _ => ⟨rfl, rfl⟩) rfl rfl, trivial⟩⟩
                      · replace hL1 := cond_f hb_622 hL1
                        conv => whnf
                        obtain ⟨u_117, h_u_117, hL1⟩ := bind_some hL1
                        refine ixa_q 1 h_u_117 rfl (fun m_u_117 hm_u_117 => ?_)
                        conv => whnf
                        obtain ⟨v_118, h_v_118, hL1⟩ := bind_some hL1
                        refine st_q (enc := bA) (l := a_10) (x' := true) (i := i_11) (ixm1 hm_u_117) (ixL_at h_v_118 (ixm1 hm_u_117)) rfl (Nat.le_of_ble_eq_true rfl) rfl ?_
                        conv => whnf
                        obtain ⟨c_2, hc_2, hL1⟩ := sub_some hL1
                        refine sw_bv 16 (v := .lst 30 (r_98.2.1.map encMessage)) (by (conv => lhs; whnf); all_goals rfl) (fun hb => ?_)
                        have hbd_k_121 : r_98.2.1.length ≤ 9223372036854775807 := bnd_len (enc := encMessage) (hb)
                        refine sw_loop tab_ok follows_ok (fun y : Nat × Int => y.1 ≤ r_98.2.1.length ∧ law05_InboxOrder_L2 (r_98.2.1.drop y.1) y.1 y.2 = some c_2) (fun y => ⟨eL [(1, .int .i64 (w64 ((1 : Int) + r_2))), (7, .int .i64 (w64 ((1 : Int) + r_1))), (8, .ptr 0 0), (10, .ptr 1 0), (11, .int .i64 y.2), (12, .ptr 2 0), (13, .int .i64 i_12), (15, .ptr 3 0), (16, .lst 30 (r_98.2.1.map encMessage)), (19, .int .i64 (y.1 : Int))], hL [(0, .box [.int .i64 i_6, .lst 3 (a_7.map encSender)]), (1, .box [.lst 1 (r_13.2.L.map iA), .int .i64 r_13.2.At]), (2, .row 1 ((a_10.set i_11.toNat true).map bA)), (3, .box [.int .i64 r_98.1.Window, .lst 3 (r_98.1.L.map encSender)])], 4⟩) (fun y => r_98.2.1.length - y.1) (0, i_11) ⟨Nat.zero_le _, hc_2⟩ (wk_mk [0, 1, 2, 7] [] [] rfl ⟨argE (by (conv => lhs; whnf); all_goals rfl) rfl, argE (by (conv => lhs; whnf); all_goals rfl) rfl, argP (id := 0) (by (conv => lhs; whnf); all_goals rfl) rfl, argP (id := 1) (by (conv => lhs; whnf); all_goals rfl) rfl, argE (by (conv => lhs; whnf); all_goals rfl) rfl, argP (id := 2) (by (conv => lhs; whnf); all_goals rfl) rfl, argE (by (conv => lhs; whnf); all_goals rfl) rfl, argP (id := 7) (by (conv => lhs; whnf); all_goals rfl) rfl, argE (by (conv => lhs; whnf); all_goals rfl) rfl, argE (by (conv => lhs; whnf); all_goals rfl) rfl, trivial⟩ ⟨boxL rfl rfl rfl ⟨(.ni _ rfl), (.ni _ rfl), trivial⟩, boxL rfl rfl rfl ⟨(.ni _ rfl), (.ni _ rfl), trivial⟩, blkR (fun _ => ⟨rfl, rfl⟩) rfl rfl, boxL rfl rfl rfl ⟨(.ni _ rfl), (.ni _ rfl), trivial⟩, trivial⟩) ?_
                        rintro ⟨k_121, i_119⟩ ⟨hk_k_121, hL2⟩
                        try dsimp only at hk_k_121 hL2
                        show awp _ _ _ _ _ _ ⟨eL [(1, .int .i64 (w64 ((1 : Int) + r_2))), (7, .int .i64 (w64 ((1 : Int) + r_1))), (8, .ptr 0 0), (10, .ptr 1 0), (11, .int .i64 i_119), (12, .ptr 2 0), (13, .int .i64 i_12), (15, .ptr 3 0), (16, .lst 30 (r_98.2.1.map encMessage)), (19, .int .i64 (k_121 : Int))], hL [(0, .box [.int .i64 i_6, .lst 3 (a_7.map encSender)]), (1, .box [.lst 1 (r_13.2.L.map iA), .int .i64 r_13.2.At]), (2, .row 1 ((a_10.set i_11.toNat true).map bA)), (3, .box [.int .i64 r_98.1.Window, .lst 3 (r_98.1.L.map encSender)])], 4⟩
                        conv => whnf
                        refine len_q (enc := encMessage) (l := r_98.2.1) rfl ?_
                        conv => whnf
                        refine ⟨fun h => ?_, fun h => ?_⟩
                        · have hlt_k_121 : k_121 < r_98.2.1.length := by have h := of_decide_eq_true h; omega
                          obtain ⟨e_122, h_e_122⟩ : ∃ y, r_98.2.1[k_121]? = some y := ⟨_, List.getElem?_eq_getElem hlt_k_121⟩
                          rw [drop_cons h_e_122, law05_InboxOrder_L2.eq_2] at hL2
                          conv => whnf
                          refine ⟨k_121, _, rfl, ix_map h_e_122, ?_⟩
                          conv => whnf
                          obtain ⟨r_123, h_r_123, hL2⟩ := bind_some hL2
                          refine ⟨_, _, _, _, _, _, _, _, _, callX false [] [] 0 Try.func14 (by decide) rfl (law05_numbered_ac (⟨#[65, 82, 78]⟩ : ByteArray) i_119 r_123 h_r_123) rfl ⟨(argE (by (conv => lhs; whnf); all_goals rfl) rfl), (argE (by (conv => lhs; whnf); all_goals rfl) rfl), trivial⟩ rfl trivial rfl rfl rfl lend0 trivial rfl, ?_⟩
                          conv => whnf
                          obtain ⟨r_124, h_r_124, hL2⟩ := bind_some hL2
                          refine ⟨_, _, _, _, _, _, _, _, _, callX false [] [] 0 Try.func15 (by decide) rfl (ref04_Same_ac e_122 r_123 r_124 h_r_124) rfl ⟨(argE (by (conv => lhs; whnf); all_goals rfl) rfl), (argE (by (conv => lhs; whnf); all_goals rfl) rfl), trivial⟩ rfl trivial rfl rfl rfl lend0 trivial rfl, ?_⟩
                          conv => whnf
                          refine ⟨by kernel_rfl, ?_⟩
                          conv => whnf
                          refine ⟨fun hb_627 => ?_, fun hb_627 => ?_⟩
                          · replace hL2 := cond_t hb_627 hL2
                            conv => whnf
                            obtain rfl := Option.some.inj hL2
                            replace hL1 := sub_ret hL1
                            obtain rfl := Option.some.inj hL1
                            replace hF := fin_ret hF
                            obtain rfl := Option.some.inj hF
                            exact ret_gz [] [] [] rfl (argFl (by (conv => lhs; whnf); all_goals rfl)) trivial
                          · replace hL2 := cond_f hb_627 hL2
                            conv => whnf
                            refine ⟨_, rfl, ?_⟩
                            conv => whnf
                            refine ⟨((k_121 + 1 : Nat) : Int), wrapE (by omega) (by omega) (by omega), ?_⟩
                            conv => whnf
                            exact ⟨(k_121 + 1, (w64 (i_119 + (1 : Int)))), [0, 1, 2, 3], [], [], ⟨hlt_k_121, hL2⟩, by show r_98.2.1.length - (k_121 + 1) < r_98.2.1.length - k_121; omega, wk_mk [0, 1, 2, 3] [] [] rfl ⟨argE (by (conv => lhs; whnf); all_goals rfl) rfl, argE (by (conv => lhs; whnf); all_goals rfl) rfl, argP (id := 0) (by (conv => lhs; whnf); all_goals rfl) rfl, argP (id := 1) (by (conv => lhs; whnf); all_goals rfl) rfl, argE (by (conv => lhs; whnf); all_goals rfl) rfl, argP (id := 2) (by (conv => lhs; whnf); all_goals rfl) rfl, argE (by (conv => lhs; whnf); all_goals rfl) rfl, argP (id := 3) (by (conv => lhs; whnf); all_goals rfl) rfl, argE (by (conv => lhs; whnf); all_goals rfl) rfl, argE (by (conv => lhs; whnf); all_goals rfl) rfl, trivial⟩ ⟨boxL rfl rfl rfl ⟨(.ni _ rfl), (.ni _ rfl), trivial⟩, boxL rfl rfl rfl ⟨(.ni _ rfl), (.ni _ rfl), trivial⟩, blkR (fun _ => ⟨rfl, rfl⟩) rfl rfl, boxL rfl rfl rfl ⟨(.ni _ rfl), (.ni _ rfl), trivial⟩, trivial⟩⟩
                        · rw [drop_nil (show r_98.2.1.length ≤ k_121 by have h := of_decide_eq_false h; omega), law05_InboxOrder_L2.eq_1] at hL2
                          conv => whnf
                          obtain rfl := Option.some.inj hL2
                          replace hL1 := sub_brk hL1
                          try dsimp only at hL1
                          refine ⟨fun hb_628 => ?_, fun hb_628 => ?_⟩
                          · replace hL1 := cond_t hb_628 hL1
                            conv => whnf
                            obtain ⟨u_127, h_u_127, hL1⟩ := bind_some hL1
                            refine ixa_q 1 h_u_127 rfl (fun m_u_127 hm_u_127 => ?_)
                            conv => whnf
                            obtain ⟨v_128, h_v_128, hL1⟩ := bind_some hL1
                            refine ⟨_, ix_map (enc := bA) (ixL_at h_v_128 (ixm1 hm_u_127)), ?_⟩
                            conv => whnf
                            refine ⟨fun hb_629 => ?_, fun hb_629 => ?_⟩
                            · replace hL1 := cond_t hb_629 hL1
                              conv => whnf
                              obtain rfl := Option.some.inj hL1
                              replace hF := fin_ret hF
                              obtain rfl := Option.some.inj hF
                              exact ret_gz [] [] [] rfl (argFl (by (conv => lhs; whnf); all_goals rfl)) trivial
                            · replace hL1 := cond_f hb_629 hL1
                              conv => whnf
                              refine ⟨_, rfl, ?_⟩
                              conv => whnf
                              exact ⟨(q_261, r_98.1.Window, r_98.1.L, r_13.2.L, r_13.2.At, i_119, (a_10.set i_11.toNat true), (w64 (i_12 + (1 : Int)))), [0, 1, 2], [], [], hL1, Nat.lt_succ_self _, wk_mk [0, 1, 2] [] [] rfl ⟨argE (by (conv => lhs; whnf); all_goals rfl) rfl, argE (by (conv => lhs; whnf); all_goals rfl) rfl, argP (id := 0) (by (conv => lhs; whnf); all_goals rfl) rfl, argP (id := 1) (by (conv => lhs; whnf); all_goals rfl) rfl, argE (by (conv => lhs; whnf); all_goals rfl) rfl, argP (id := 2) (by (conv => lhs; whnf); all_goals rfl) rfl, argE (by (conv => lhs; whnf); all_goals rfl) rfl, trivial⟩ ⟨boxL rfl rfl rfl ⟨(.ni _ rfl), (.ni _ rfl), trivial⟩, boxL rfl rfl rfl ⟨(.ni _ rfl), (.ni _ rfl), trivial⟩, blkR (fun _ => ⟨rfl, rfl⟩) rfl rfl, trivial⟩⟩
                          · replace hL1 := cond_f hb_628 hL1
                            conv => whnf
                            refine ⟨_, rfl, ?_⟩
                            conv => whnf
                            exact ⟨(q_261, r_98.1.Window, r_98.1.L, r_13.2.L, r_13.2.At, i_119, (a_10.set i_11.toNat true), (w64 (i_12 + (1 : Int)))), [0, 1, 2], [], [], hL1, Nat.lt_succ_self _, wk_mk [0, 1, 2] [] [] rfl ⟨argE (by (conv => lhs; whnf); all_goals rfl) rfl, argE (by (conv => lhs; whnf); all_goals rfl) rfl, argP (id := 0) (by (conv => lhs; whnf); all_goals rfl) rfl, argP (id := 1) (by (conv => lhs; whnf); all_goals rfl) rfl, argE (by (conv => lhs; whnf); all_goals rfl) rfl, argP (id := 2) (by (conv => lhs; whnf); all_goals rfl) rfl, argE (by (conv => lhs; whnf); all_goals rfl) rfl, trivial⟩ ⟨boxL rfl rfl rfl ⟨(.ni _ rfl), (.ni _ rfl), trivial⟩, boxL rfl rfl rfl ⟨(.ni _ rfl), (.ni _ rfl), trivial⟩, blkR (fun _ => ⟨rfl, rfl⟩) rfl rfl, trivial⟩⟩
                    · replace hL1 := cond_f hb_621 hL1
                      conv => whnf
                      obtain ⟨u_129, h_u_129, hL1⟩ := bind_some hL1
                      refine ixa_q 1 h_u_129 rfl (fun m_u_129 hm_u_129 => ?_)
                      conv => whnf
                      obtain ⟨v_130, h_v_130, hL1⟩ := bind_some hL1
                      refine st_q (enc := bA) (l := a_10) (x' := true) (i := i_11) (ixm1 hm_u_129) (ixL_at h_v_130 (ixm1 hm_u_129)) rfl (Nat.le_of_ble_eq_true rfl) rfl ?_
                      conv => whnf
                      obtain ⟨c_2, hc_2, hL1⟩ := sub_some hL1
                      refine sw_bv 16 (v := .lst 30 (r_98.2.1.map encMessage)) (by (conv => lhs; whnf); all_goals rfl) (fun hb => ?_)
                      have hbd_k_133 : r_98.2.1.length ≤ 9223372036854775807 := bnd_len (enc := encMessage) (hb)
                      refine sw_loop tab_ok follows_ok (fun y : Nat × Int => y.1 ≤ r_98.2.1.length ∧ law05_InboxOrder_L2 (r_98.2.1.drop y.1) y.1 y.2 = some c_2) (fun y => ⟨eL [(1, .int .i64 (w64 ((1 : Int) + r_2))), (7, .int .i64 (w64 ((1 : Int) + r_1))), (8, .ptr 0 0), (10, .ptr 1 0), (11, .int .i64 y.2), (12, .ptr 2 0), (13, .int .i64 i_12), (15, .ptr 3 0), (16, .lst 30 (r_98.2.1.map encMessage)), (19, .int .i64 (y.1 : Int))], hL [(0, .box [.int .i64 i_6, .lst 3 (a_7.map encSender)]), (1, .box [.lst 1 (r_13.2.L.map iA), .int .i64 r_13.2.At]), (2, .row 1 ((a_10.set i_11.toNat true).map bA)), (3, .box [.int .i64 r_98.1.Window, .lst 3 (r_98.1.L.map encSender)])], 4⟩) (fun y => r_98.2.1.length - y.1) (0, i_11) ⟨Nat.zero_le _, hc_2⟩ (wk_mk [0, 1, 2, 7] [] [] rfl ⟨argE (by (conv => lhs; whnf); all_goals rfl) rfl, argE (by (conv => lhs; whnf); all_goals rfl) rfl, argP (id := 0) (by (conv => lhs; whnf); all_goals rfl) rfl, argP (id := 1) (by (conv => lhs; whnf); all_goals rfl) rfl, argE (by (conv => lhs; whnf); all_goals rfl) rfl, argP (id := 2) (by (conv => lhs; whnf); all_goals rfl) rfl, argE (by (conv => lhs; whnf); all_goals rfl) rfl, argP (id := 7) (by (conv => lhs; whnf); all_goals rfl) rfl, argE (by (conv => lhs; whnf); all_goals rfl) rfl, argE (by (conv => lhs; whnf); all_goals rfl) rfl, trivial⟩ ⟨boxL rfl rfl rfl ⟨(.ni _ rfl), (.ni _ rfl), trivial⟩, boxL rfl rfl rfl ⟨(.ni _ rfl), (.ni _ rfl), trivial⟩, blkR (fun _ => ⟨rfl, rfl⟩) rfl rfl, boxL rfl rfl rfl ⟨(.ni _ rfl), (.ni _ rfl), trivial⟩, trivial⟩) ?_
                      rintro ⟨k_133, i_131⟩ ⟨hk_k_133, hL2⟩
                      try dsimp only at hk_k_133 hL2
                      show awp _ _ _ _ _ _ ⟨eL [(1, .int .i64 (w64 ((1 : Int) + r_2))), (7, .int .i64 (w64 ((1 : Int) + r_1))), (8, .ptr 0 0), (10, .ptr 1 0), (11, .int .i64 i_131), (12, .ptr 2 0), (13, .int .i64 i_12), (15, .ptr 3 0), (16, .lst 30 (r_98.2.1.map encMessage)), (19, .int .i64 (k_133 : Int))], hL [(0, .box [.int .i64 i_6, .lst 3 (a_7.map encSender)]), (1, .box [.lst 1 (r_13.2.L.map iA), .int .i64 r_13.2.At]), (2, .row 1 ((a_10.set i_11.toNat true).map bA)), (3, .box [.int .i64 r_98.1.Window, .lst 3 (r_98.1.L.map encSender)])], 4⟩
                      conv => whnf
                      refine len_q (enc := encMessage) (l := r_98.2.1) rfl ?_
                      conv => whnf
                      refine ⟨fun h => ?_, fun h => ?_⟩
                      · have hlt_k_133 : k_133 < r_98.2.1.length := by have h := of_decide_eq_true h; omega
                        obtain ⟨e_134, h_e_134⟩ : ∃ y, r_98.2.1[k_133]? = some y := ⟨_, List.getElem?_eq_getElem hlt_k_133⟩
                        rw [drop_cons h_e_134, law05_InboxOrder_L2.eq_2] at hL2
                        conv => whnf
                        refine ⟨k_133, _, rfl, ix_map h_e_134, ?_⟩
                        conv => whnf
                        obtain ⟨r_135, h_r_135, hL2⟩ := bind_some hL2
                        refine ⟨_, _, _, _, _, _, _, _, _, callX false [] [] 0 Try.func14 (by decide) rfl (law05_numbered_ac (⟨#[65, 82, 78]⟩ : ByteArray) i_131 r_135 h_r_135) rfl ⟨(argE (by (conv => lhs; whnf); all_goals rfl) rfl), (argE (by (conv => lhs; whnf); all_goals rfl) rfl), trivial⟩ rfl trivial rfl rfl rfl lend0 trivial rfl, ?_⟩
                        conv => whnf
                        obtain ⟨r_136, h_r_136, hL2⟩ := bind_some hL2
                        refine ⟨_, _, _, _, _, _, _, _, _, callX false [] [] 0 Try.func15 (by decide) rfl (ref04_Same_ac e_134 r_135 r_136 h_r_136) rfl ⟨(argE (by (conv => lhs; whnf); all_goals rfl) rfl), (argE (by (conv => lhs; whnf); all_goals rfl) rfl), trivial⟩ rfl trivial rfl rfl rfl lend0 trivial rfl, ?_⟩
                        conv => whnf
                        refine ⟨by kernel_rfl, ?_⟩
                        conv => whnf
                        refine ⟨fun hb_630 => ?_, fun hb_630 => ?_⟩
                        · replace hL2 := cond_t hb_630 hL2
                          conv => whnf
                          obtain rfl := Option.some.inj hL2
                          replace hL1 := sub_ret hL1
                          obtain rfl := Option.some.inj hL1
                          replace hF := fin_ret hF
                          obtain rfl := Option.some.inj hF
                          exact ret_gz [] [] [] rfl (argFl (by (conv => lhs; whnf); all_goals rfl)) trivial
                        · replace hL2 := cond_f hb_630 hL2
                          conv => whnf
                          refine ⟨_, rfl, ?_⟩
                          conv => whnf
                          refine ⟨((k_133 + 1 : Nat) : Int), wrapE (by omega) (by omega) (by omega), ?_⟩
                          conv => whnf
                          exact ⟨(k_133 + 1, (w64 (i_131 + (1 : Int)))), [0, 1, 2, 3], [], [], ⟨hlt_k_133, hL2⟩, by show r_98.2.1.length - (k_133 + 1) < r_98.2.1.length - k_133; omega, wk_mk [0, 1, 2, 3] [] [] rfl ⟨argE (by (conv => lhs; whnf); all_goals rfl) rfl, argE (by (conv => lhs; whnf); all_goals rfl) rfl, argP (id := 0) (by (conv => lhs; whnf); all_goals rfl) rfl, argP (id := 1) (by (conv => lhs; whnf); all_goals rfl) rfl, argE (by (conv => lhs; whnf); all_goals rfl) rfl, argP (id := 2) (by (conv => lhs; whnf); all_goals rfl) rfl, argE (by (conv => lhs; whnf); all_goals rfl) rfl, argP (id := 3) (by (conv => lhs; whnf); all_goals rfl) rfl, argE (by (conv => lhs; whnf); all_goals rfl) rfl, argE (by (conv => lhs; whnf); all_goals rfl) rfl, trivial⟩ ⟨boxL rfl rfl rfl ⟨(.ni _ rfl), (.ni _ rfl), trivial⟩, boxL rfl rfl rfl ⟨(.ni _ rfl), (.ni _ rfl), trivial⟩, blkR (fun _ => ⟨rfl, rfl⟩) rfl rfl, boxL rfl rfl rfl ⟨(.ni _ rfl), (.ni _ rfl), trivial⟩, trivial⟩⟩
                      · rw [drop_nil (show r_98.2.1.length ≤ k_133 by have h := of_decide_eq_false h; omega), law05_InboxOrder_L2.eq_1] at hL2
                        conv => whnf
                        obtain rfl := Option.some.inj hL2
                        replace hL1 := sub_brk hL1
                        try dsimp only at hL1
                        refine ⟨fun hb_631 => ?_, fun hb_631 => ?_⟩
                        · replace hL1 := cond_t hb_631 hL1
                          conv => whnf
                          obtain ⟨u_139, h_u_139, hL1⟩ := bind_some hL1
                          refine ixa_q 1 h_u_139 rfl (fun m_u_139 hm_u_139 => ?_)
                          conv => whnf
                          obtain ⟨v_140, h_v_140, hL1⟩ := bind_some hL1
                          refine ⟨_, ix_map (enc := bA) (ixL_at h_v_140 (ixm1 hm_u_139)), ?_⟩
                          conv => whnf
                          refine ⟨fun hb_632 => ?_, fun hb_632 => ?_⟩
                          · replace hL1 := cond_t hb_632 hL1
                            conv => whnf
                            obtain rfl := Option.some.inj hL1
                            replace hF := fin_ret hF
                            obtain rfl := Option.some.inj hF
                            exact ret_gz [] [] [] rfl (argFl (by (conv => lhs; whnf); all_goals rfl)) trivial
                          · replace hL1 := cond_f hb_632 hL1
                            conv => whnf
                            refine ⟨_, rfl, ?_⟩
                            conv => whnf
                            exact ⟨(q_261, r_98.1.Window, r_98.1.L, r_13.2.L, r_13.2.At, i_131, (a_10.set i_11.toNat true), (w64 (i_12 + (1 : Int)))), [0, 1, 2], [], [], hL1, Nat.lt_succ_self _, wk_mk [0, 1, 2] [] [] rfl ⟨argE (by (conv => lhs; whnf); all_goals rfl) rfl, argE (by (conv => lhs; whnf); all_goals rfl) rfl, argP (id := 0) (by (conv => lhs; whnf); all_goals rfl) rfl, argP (id := 1) (by (conv => lhs; whnf); all_goals rfl) rfl, argE (by (conv => lhs; whnf); all_goals rfl) rfl, argP (id := 2) (by (conv => lhs; whnf); all_goals rfl) rfl, argE (by (conv => lhs; whnf); all_goals rfl) rfl, trivial⟩ ⟨boxL rfl rfl rfl ⟨(.ni _ rfl), (.ni _ rfl), trivial⟩, boxL rfl rfl rfl ⟨(.ni _ rfl), (.ni _ rfl), trivial⟩, blkR (fun _ => ⟨rfl, rfl⟩) rfl rfl, trivial⟩⟩
                        · replace hL1 := cond_f hb_631 hL1
                          conv => whnf
                          refine ⟨_, rfl, ?_⟩
                          conv => whnf
                          exact ⟨(q_261, r_98.1.Window, r_98.1.L, r_13.2.L, r_13.2.At, i_131, (a_10.set i_11.toNat true), (w64 (i_12 + (1 : Int)))), [0, 1, 2], [], [], hL1, Nat.lt_succ_self _, wk_mk [0, 1, 2] [] [] rfl ⟨argE (by (conv => lhs; whnf); all_goals rfl) rfl, argE (by (conv => lhs; whnf); all_goals rfl) rfl, argP (id := 0) (by (conv => lhs; whnf); all_goals rfl) rfl, argP (id := 1) (by (conv => lhs; whnf); all_goals rfl) rfl, argE (by (conv => lhs; whnf); all_goals rfl) rfl, argP (id := 2) (by (conv => lhs; whnf); all_goals rfl) rfl, argE (by (conv => lhs; whnf); all_goals rfl) rfl, trivial⟩ ⟨boxL rfl rfl rfl ⟨(.ni _ rfl), (.ni _ rfl), trivial⟩, boxL rfl rfl rfl ⟨(.ni _ rfl), (.ni _ rfl), trivial⟩, blkR (fun _ => ⟨rfl, rfl⟩) rfl rfl, trivial⟩⟩
                  · replace hL1 := cond_t hb_620 hL1
                    conv => whnf
                    obtain rfl := Option.some.inj hL1
                    replace hF := fin_ret hF
                    obtain rfl := Option.some.inj hF
                    exact ret_gz [] [] [] rfl (argFl (by (conv => lhs; whnf); all_goals rfl)) trivial
                · replace hL1 := cond_f hb_619 hL1
                  conv => whnf
                  obtain ⟨u_141, h_u_141, hL1⟩ := bind_some hL1
                  refine ixa_q 1 h_u_141 rfl (fun m_u_141 hm_u_141 => ?_)
                  conv => whnf
                  obtain ⟨v_142, h_v_142, hL1⟩ := bind_some hL1
                  refine ⟨_, ix_map (enc := bA) (ixL_at h_v_142 (ixm1 hm_u_141)), ?_⟩
                  conv => whnf
                  refine ⟨fun hb_633 => ?_, fun hb_633 => ?_⟩
                  · replace hL1 := cond_t hb_633 hL1
                    conv => whnf
                    refine ⟨fun hb_634 => ?_, fun hb_634 => ?_⟩
                    · replace hL1 := cond_t hb_634 hL1
                      conv => whnf
                      refine ⟨fun hb_635 => ?_, fun hb_635 => ?_⟩
                      · replace hL1 := cond_t hb_635 hL1
                        conv => whnf
                        obtain rfl := Option.some.inj hL1
                        replace hF := fin_ret hF
                        obtain rfl := Option.some.inj hF
                        exact ret_gz [] [] [] rfl (argFl (by (conv => lhs; whnf); all_goals rfl)) trivial
                      · replace hL1 := cond_f hb_635 hL1
                        conv => whnf
                        obtain ⟨u_143, h_u_143, hL1⟩ := bind_some hL1
                        refine ixa_q 1 h_u_143 rfl (fun m_u_143 hm_u_143 => ?_)
                        conv => whnf
                        obtain ⟨v_144, h_v_144, hL1⟩ := bind_some hL1
                        refine st_q (enc := bA) (l := a_10) (x' := true) (i := i_11) (ixm1 hm_u_143) (ixL_at h_v_144 (ixm1 hm_u_143)) rfl (Nat.le_of_ble_eq_true rfl) rfl ?_
                        conv => whnf
                        obtain ⟨c_2, hc_2, hL1⟩ := sub_some hL1
                        refine sw_bv 16 (v := .lst 30 (r_98.2.1.map encMessage)) (by (conv => lhs; whnf); all_goals rfl) (fun hb => ?_)
                        have hbd_k_147 : r_98.2.1.length ≤ 9223372036854775807 := bnd_len (enc := encMessage) (hb)
                        refine sw_loop tab_ok follows_ok (fun y : Nat × Int => y.1 ≤ r_98.2.1.length ∧ law05_InboxOrder_L2 (r_98.2.1.drop y.1) y.1 y.2 = some c_2) (fun y => ⟨eL [(1, .int .i64 (w64 ((1 : Int) + r_2))), (7, .int .i64 (w64 ((1 : Int) + r_1))), (8, .ptr 0 0), (10, .ptr 1 0), (11, .int .i64 y.2), (12, .ptr 2 0), (13, .int .i64 i_12), (15, .ptr 3 0), (16, .lst 30 (r_98.2.1.map encMessage)), (19, .int .i64 (y.1 : Int))], hL [(0, .box [.int .i64 i_6, .lst 3 (a_7.map encSender)]), (1, .box [.lst 1 (r_13.2.L.map iA), .int .i64 r_13.2.At]), (2, .row 1 ((a_10.set i_11.toNat true).map bA)), (3, .box [.int .i64 r_98.1.Window, .lst 3 (r_98.1.L.map encSender)])], 4⟩) (fun y => r_98.2.1.length - y.1) (0, i_11) ⟨Nat.zero_le _, hc_2⟩ (wk_mk [0, 1, 2, 7] [] [] rfl ⟨argE (by (conv => lhs; whnf); all_goals rfl) rfl, argE (by (conv => lhs; whnf); all_goals rfl) rfl, argP (id := 0) (by (conv => lhs; whnf); all_goals rfl) rfl, argP (id := 1) (by (conv => lhs; whnf); all_goals rfl) rfl, argE (by (conv => lhs; whnf); all_goals rfl) rfl, argP (id := 2) (by (conv => lhs; whnf); all_goals rfl) rfl, argE (by (conv => lhs; whnf); all_goals rfl) rfl, argP (id := 7) (by (conv => lhs; whnf); all_goals rfl) rfl, argE (by (conv => lhs; whnf); all_goals rfl) rfl, argE (by (conv => lhs; whnf); all_goals rfl) rfl, trivial⟩ ⟨boxL rfl rfl rfl ⟨(.ni _ rfl), (.ni _ rfl), trivial⟩, boxL rfl rfl rfl ⟨(.ni _ rfl), (.ni _ rfl), trivial⟩, blkR (fun _ => ⟨rfl, rfl⟩) rfl rfl, boxL rfl rfl rfl ⟨(.ni _ rfl), (.ni _ rfl), trivial⟩, trivial⟩) ?_
                        rintro ⟨k_147, i_145⟩ ⟨hk_k_147, hL2⟩
                        try dsimp only at hk_k_147 hL2
                        show awp _ _ _ _ _ _ ⟨eL [(1, .int .i64 (w64 ((1 : Int) + r_2))), (7, .int .i64 (w64 ((1 : Int) + r_1))), (8, .ptr 0 0), (10, .ptr 1 0), (11, .int .i64 i_145), (12, .ptr 2 0), (13, .int .i64 i_12), (15, .ptr 3 0), (16, .lst 30 (r_98.2.1.map encMessage)), (19, .int .i64 (k_147 : Int))], hL [(0, .box [.int .i64 i_6, .lst 3 (a_7.map encSender)]), (1, .box [.lst 1 (r_13.2.L.map iA), .int .i64 r_13.2.At]), (2, .row 1 ((a_10.set i_11.toNat true).map bA)), (3, .box [.int .i64 r_98.1.Window, .lst 3 (r_98.1.L.map encSender)])], 4⟩
                        conv => whnf
                        refine len_q (enc := encMessage) (l := r_98.2.1) rfl ?_
                        conv => whnf
                        refine ⟨fun h => ?_, fun h => ?_⟩
                        · have hlt_k_147 : k_147 < r_98.2.1.length := by have h := of_decide_eq_true h; omega
                          obtain ⟨e_148, h_e_148⟩ : ∃ y, r_98.2.1[k_147]? = some y := ⟨_, List.getElem?_eq_getElem hlt_k_147⟩
                          rw [drop_cons h_e_148, law05_InboxOrder_L2.eq_2] at hL2
                          conv => whnf
                          refine ⟨k_147, _, rfl, ix_map h_e_148, ?_⟩
                          conv => whnf
                          obtain ⟨r_149, h_r_149, hL2⟩ := bind_some hL2
                          refine ⟨_, _, _, _, _, _, _, _, _, callX false [] [] 0 Try.func14 (by decide) rfl (law05_numbered_ac (⟨#[65, 82, 78]⟩ : ByteArray) i_145 r_149 h_r_149) rfl ⟨(argE (by (conv => lhs; whnf); all_goals rfl) rfl), (argE (by (conv => lhs; whnf); all_goals rfl) rfl), trivial⟩ rfl trivial rfl rfl rfl lend0 trivial rfl, ?_⟩
                          conv => whnf
                          obtain ⟨r_150, h_r_150, hL2⟩ := bind_some hL2
                          refine ⟨_, _, _, _, _, _, _, _, _, callX false [] [] 0 Try.func15 (by decide) rfl (ref04_Same_ac e_148 r_149 r_150 h_r_150) rfl ⟨(argE (by (conv => lhs; whnf); all_goals rfl) rfl), (argE (by (conv => lhs; whnf); all_goals rfl) rfl), trivial⟩ rfl trivial rfl rfl rfl lend0 trivial rfl, ?_⟩
                          conv => whnf
                          refine ⟨by kernel_rfl, ?_⟩
                          conv => whnf
                          refine ⟨fun hb_636 => ?_, fun hb_636 => ?_⟩
                          · replace hL2 := cond_t hb_636 hL2
                            conv => whnf
                            obtain rfl := Option.some.inj hL2
                            replace hL1 := sub_ret hL1
                            obtain rfl := Option.some.inj hL1
                            replace hF := fin_ret hF
                            obtain rfl := Option.some.inj hF
                            exact ret_gz [] [] [] rfl (argFl (by (conv => lhs; whnf); all_goals rfl)) trivial
                          · replace hL2 := cond_f hb_636 hL2
                            conv => whnf
                            refine ⟨_, rfl, ?_⟩
                            conv => whnf
                            refine ⟨((k_147 + 1 : Nat) : Int), wrapE (by omega) (by omega) (by omega), ?_⟩
                            conv => whnf
                            exact ⟨(k_147 + 1, (w64 (i_145 + (1 : Int)))), [0, 1, 2, 3], [], [], ⟨hlt_k_147, hL2⟩, by show r_98.2.1.length - (k_147 + 1) < r_98.2.1.length - k_147; omega, wk_mk [0, 1, 2, 3] [] [] rfl ⟨argE (by (conv => lhs; whnf); all_goals rfl) rfl, argE (by (conv => lhs; whnf); all_goals rfl) rfl, argP (id := 0) (by (conv => lhs; whnf); all_goals rfl) rfl, argP (id := 1) (by (conv => lhs; whnf); all_goals rfl) rfl, argE (by (conv => lhs; whnf); all_goals rfl) rfl, argP (id := 2) (by (conv => lhs; whnf); all_goals rfl) rfl, argE (by (conv => lhs; whnf); all_goals rfl) rfl, argP (id := 3) (by (conv => lhs; whnf); all_goals rfl) rfl, argE (by (conv => lhs; whnf); all_goals rfl) rfl, argE (by (conv => lhs; whnf); all_goals rfl) rfl, trivial⟩ ⟨boxL rfl rfl rfl ⟨(.ni _ rfl), (.ni _ rfl), trivial⟩, boxL rfl rfl rfl ⟨(.ni _ rfl), (.ni _ rfl), trivial⟩, blkR (fun _ => ⟨rfl, rfl⟩) rfl rfl, boxL rfl rfl rfl ⟨(.ni _ rfl), (.ni _ rfl), trivial⟩, trivial⟩⟩
                        · rw [drop_nil (show r_98.2.1.length ≤ k_147 by have h := of_decide_eq_false h; omega), law05_InboxOrder_L2.eq_1] at hL2
                          conv => whnf
                          obtain rfl := Option.some.inj hL2
                          replace hL1 := sub_brk hL1
                          try dsimp only at hL1
                          refine ⟨fun hb_637 => ?_, fun hb_637 => ?_⟩
                          · replace hL1 := cond_t hb_637 hL1
                            conv => whnf
                            obtain ⟨u_153, h_u_153, hL1⟩ := bind_some hL1
                            refine ixa_q 1 h_u_153 rfl (fun m_u_153 hm_u_153 => ?_)
                            conv => whnf
                            obtain ⟨v_154, h_v_154, hL1⟩ := bind_some hL1
                            refine ⟨_, ix_map (enc := bA) (ixL_at h_v_154 (ixm1 hm_u_153)), ?_⟩
                            conv => whnf
                            refine ⟨fun hb_638 => ?_, fun hb_638 => ?_⟩
                            · replace hL1 := cond_t hb_638 hL1
                              conv => whnf
                              obtain rfl := Option.some.inj hL1
                              replace hF := fin_ret hF
                              obtain rfl := Option.some.inj hF
                              exact ret_gz [] [] [] rfl (argFl (by (conv => lhs; whnf); all_goals rfl)) trivial
                            · replace hL1 := cond_f hb_638 hL1
                              conv => whnf
                              refine ⟨_, rfl, ?_⟩
                              conv => whnf
                              exact ⟨(q_261, r_98.1.Window, r_98.1.L, r_13.2.L, r_13.2.At, i_145, (a_10.set i_11.toNat true), (w64 (i_12 + (1 : Int)))), [0, 1, 2], [], [], hL1, Nat.lt_succ_self _, wk_mk [0, 1, 2] [] [] rfl ⟨argE (by (conv => lhs; whnf); all_goals rfl) rfl, argE (by (conv => lhs; whnf); all_goals rfl) rfl, argP (id := 0) (by (conv => lhs; whnf); all_goals rfl) rfl, argP (id := 1) (by (conv => lhs; whnf); all_goals rfl) rfl, argE (by (conv => lhs; whnf); all_goals rfl) rfl, argP (id := 2) (by (conv => lhs; whnf); all_goals rfl) rfl, argE (by (conv => lhs; whnf); all_goals rfl) rfl, trivial⟩ ⟨boxL rfl rfl rfl ⟨(.ni _ rfl), (.ni _ rfl), trivial⟩, boxL rfl rfl rfl ⟨(.ni _ rfl), (.ni _ rfl), trivial⟩, blkR (fun _ => ⟨rfl, rfl⟩) rfl rfl, trivial⟩⟩
                          · replace hL1 := cond_f hb_637 hL1
                            conv => whnf
                            refine ⟨_, rfl, ?_⟩
                            conv => whnf
                            exact ⟨(q_261, r_98.1.Window, r_98.1.L, r_13.2.L, r_13.2.At, i_145, (a_10.set i_11.toNat true), (w64 (i_12 + (1 : Int)))), [0, 1, 2], [], [], hL1, Nat.lt_succ_self _, wk_mk [0, 1, 2] [] [] rfl ⟨argE (by (conv => lhs; whnf); all_goals rfl) rfl, argE (by (conv => lhs; whnf); all_goals rfl) rfl, argP (id := 0) (by (conv => lhs; whnf); all_goals rfl) rfl, argP (id := 1) (by (conv => lhs; whnf); all_goals rfl) rfl, argE (by (conv => lhs; whnf); all_goals rfl) rfl, argP (id := 2) (by (conv => lhs; whnf); all_goals rfl) rfl, argE (by (conv => lhs; whnf); all_goals rfl) rfl, trivial⟩ ⟨boxL rfl rfl rfl ⟨(.ni _ rfl), (.ni _ rfl), trivial⟩, boxL rfl rfl rfl ⟨(.ni _ rfl), (.ni _ rfl), trivial⟩, blkR (fun _ => ⟨rfl, rfl⟩) rfl rfl, trivial⟩⟩
                    · replace hL1 := cond_f hb_634 hL1
                      conv => whnf
                      obtain ⟨u_155, h_u_155, hL1⟩ := bind_some hL1
                      refine ixa_q 1 h_u_155 rfl (fun m_u_155 hm_u_155 => ?_)
                      conv => whnf
                      obtain ⟨v_156, h_v_156, hL1⟩ := bind_some hL1
                      refine st_q (enc := bA) (l := a_10) (x' := true) (i := i_11) (ixm1 hm_u_155) (ixL_at h_v_156 (ixm1 hm_u_155)) rfl (Nat.le_of_ble_eq_true rfl) rfl ?_
                      conv => whnf
                      obtain ⟨c_2, hc_2, hL1⟩ := sub_some hL1
                      refine sw_bv 16 (v := .lst 30 (r_98.2.1.map encMessage)) (by (conv => lhs; whnf); all_goals rfl) (fun hb => ?_)
                      have hbd_k_159 : r_98.2.1.length ≤ 9223372036854775807 := bnd_len (enc := encMessage) (hb)
                      refine sw_loop tab_ok follows_ok (fun y : Nat × Int => y.1 ≤ r_98.2.1.length ∧ law05_InboxOrder_L2 (r_98.2.1.drop y.1) y.1 y.2 = some c_2) (fun y => ⟨eL [(1, .int .i64 (w64 ((1 : Int) + r_2))), (7, .int .i64 (w64 ((1 : Int) + r_1))), (8, .ptr 0 0), (10, .ptr 1 0), (11, .int .i64 y.2), (12, .ptr 2 0), (13, .int .i64 i_12), (15, .ptr 3 0), (16, .lst 30 (r_98.2.1.map encMessage)), (19, .int .i64 (y.1 : Int))], hL [(0, .box [.int .i64 i_6, .lst 3 (a_7.map encSender)]), (1, .box [.lst 1 (r_13.2.L.map iA), .int .i64 r_13.2.At]), (2, .row 1 ((a_10.set i_11.toNat true).map bA)), (3, .box [.int .i64 r_98.1.Window, .lst 3 (r_98.1.L.map encSender)])], 4⟩) (fun y => r_98.2.1.length - y.1) (0, i_11) ⟨Nat.zero_le _, hc_2⟩ (wk_mk [0, 1, 2, 7] [] [] rfl ⟨argE (by (conv => lhs; whnf); all_goals rfl) rfl, argE (by (conv => lhs; whnf); all_goals rfl) rfl, argP (id := 0) (by (conv => lhs; whnf); all_goals rfl) rfl, argP (id := 1) (by (conv => lhs; whnf); all_goals rfl) rfl, argE (by (conv => lhs; whnf); all_goals rfl) rfl, argP (id := 2) (by (conv => lhs; whnf); all_goals rfl) rfl, argE (by (conv => lhs; whnf); all_goals rfl) rfl, argP (id := 7) (by (conv => lhs; whnf); all_goals rfl) rfl, argE (by (conv => lhs; whnf); all_goals rfl) rfl, argE (by (conv => lhs; whnf); all_goals rfl) rfl, trivial⟩ ⟨boxL rfl rfl rfl ⟨(.ni _ rfl), (.ni _ rfl), trivial⟩, boxL rfl rfl rfl ⟨(.ni _ rfl), (.ni _ rfl), trivial⟩, blkR (fun _ => ⟨rfl, rfl⟩) rfl rfl, boxL rfl rfl rfl ⟨(.ni _ rfl), (.ni _ rfl), trivial⟩, trivial⟩) ?_
                      rintro ⟨k_159, i_157⟩ ⟨hk_k_159, hL2⟩
                      try dsimp only at hk_k_159 hL2
                      show awp _ _ _ _ _ _ ⟨eL [(1, .int .i64 (w64 ((1 : Int) + r_2))), (7, .int .i64 (w64 ((1 : Int) + r_1))), (8, .ptr 0 0), (10, .ptr 1 0), (11, .int .i64 i_157), (12, .ptr 2 0), (13, .int .i64 i_12), (15, .ptr 3 0), (16, .lst 30 (r_98.2.1.map encMessage)), (19, .int .i64 (k_159 : Int))], hL [(0, .box [.int .i64 i_6, .lst 3 (a_7.map encSender)]), (1, .box [.lst 1 (r_13.2.L.map iA), .int .i64 r_13.2.At]), (2, .row 1 ((a_10.set i_11.toNat true).map bA)), (3, .box [.int .i64 r_98.1.Window, .lst 3 (r_98.1.L.map encSender)])], 4⟩
                      conv => whnf
                      refine len_q (enc := encMessage) (l := r_98.2.1) rfl ?_
                      conv => whnf
                      refine ⟨fun h => ?_, fun h => ?_⟩
                      · have hlt_k_159 : k_159 < r_98.2.1.length := by have h := of_decide_eq_true h; omega
                        obtain ⟨e_160, h_e_160⟩ : ∃ y, r_98.2.1[k_159]? = some y := ⟨_, List.getElem?_eq_getElem hlt_k_159⟩
                        rw [drop_cons h_e_160, law05_InboxOrder_L2.eq_2] at hL2
                        conv => whnf
                        refine ⟨k_159, _, rfl, ix_map h_e_160, ?_⟩
                        conv => whnf
                        obtain ⟨r_161, h_r_161, hL2⟩ := bind_some hL2
                        refine ⟨_, _, _, _, _, _, _, _, _, callX false [] [] 0 Try.func14 (by decide) rfl (law05_numbered_ac (⟨#[65, 82, 78]⟩ : ByteArray) i_157 r_161 h_r_161) rfl ⟨(argE (by (conv => lhs; whnf); all_goals rfl) rfl), (argE (by (conv => lhs; whnf); all_goals rfl) rfl), trivial⟩ rfl trivial rfl rfl rfl lend0 trivial rfl, ?_⟩
                        conv => whnf
                        obtain ⟨r_162, h_r_162, hL2⟩ := bind_some hL2
                        refine ⟨_, _, _, _, _, _, _, _, _, callX false [] [] 0 Try.func15 (by decide) rfl (ref04_Same_ac e_160 r_161 r_162 h_r_162) rfl ⟨(argE (by (conv => lhs; whnf); all_goals rfl) rfl), (argE (by (conv => lhs; whnf); all_goals rfl) rfl), trivial⟩ rfl trivial rfl rfl rfl lend0 trivial rfl, ?_⟩
                        conv => whnf
                        refine ⟨by kernel_rfl, ?_⟩
                        conv => whnf
                        refine ⟨fun hb_639 => ?_, fun hb_639 => ?_⟩
                        · replace hL2 := cond_t hb_639 hL2
                          conv => whnf
                          obtain rfl := Option.some.inj hL2
                          replace hL1 := sub_ret hL1
                          obtain rfl := Option.some.inj hL1
                          replace hF := fin_ret hF
                          obtain rfl := Option.some.inj hF
                          exact ret_gz [] [] [] rfl (argFl (by (conv => lhs; whnf); all_goals rfl)) trivial
                        · replace hL2 := cond_f hb_639 hL2
                          conv => whnf
                          refine ⟨_, rfl, ?_⟩
                          conv => whnf
                          refine ⟨((k_159 + 1 : Nat) : Int), wrapE (by omega) (by omega) (by omega), ?_⟩
                          conv => whnf
                          exact ⟨(k_159 + 1, (w64 (i_157 + (1 : Int)))), [0, 1, 2, 3], [], [], ⟨hlt_k_159, hL2⟩, by show r_98.2.1.length - (k_159 + 1) < r_98.2.1.length - k_159; omega, wk_mk [0, 1, 2, 3] [] [] rfl ⟨argE (by (conv => lhs; whnf); all_goals rfl) rfl, argE (by (conv => lhs; whnf); all_goals rfl) rfl, argP (id := 0) (by (conv => lhs; whnf); all_goals rfl) rfl, argP (id := 1) (by (conv => lhs; whnf); all_goals rfl) rfl, argE (by (conv => lhs; whnf); all_goals rfl) rfl, argP (id := 2) (by (conv => lhs; whnf); all_goals rfl) rfl, argE (by (conv => lhs; whnf); all_goals rfl) rfl, argP (id := 3) (by (conv => lhs; whnf); all_goals rfl) rfl, argE (by (conv => lhs; whnf); all_goals rfl) rfl, argE (by (conv => lhs; whnf); all_goals rfl) rfl, trivial⟩ ⟨boxL rfl rfl rfl ⟨(.ni _ rfl), (.ni _ rfl), trivial⟩, boxL rfl rfl rfl ⟨(.ni _ rfl), (.ni _ rfl), trivial⟩, blkR (fun _ => ⟨rfl, rfl⟩) rfl rfl, boxL rfl rfl rfl ⟨(.ni _ rfl), (.ni _ rfl), trivial⟩, trivial⟩⟩
                      · rw [drop_nil (show r_98.2.1.length ≤ k_159 by have h := of_decide_eq_false h; omega), law05_InboxOrder_L2.eq_1] at hL2
                        conv => whnf
                        obtain rfl := Option.some.inj hL2
                        replace hL1 := sub_brk hL1
                        try dsimp only at hL1
                        refine ⟨fun hb_640 => ?_, fun hb_640 => ?_⟩
                        · replace hL1 := cond_t hb_640 hL1
                          conv => whnf
                          obtain ⟨u_165, h_u_165, hL1⟩ := bind_some hL1
                          refine ixa_q 1 h_u_165 rfl (fun m_u_165 hm_u_165 => ?_)
                          conv => whnf
                          obtain ⟨v_166, h_v_166, hL1⟩ := bind_some hL1
                          refine ⟨_, ix_map (enc := bA) (ixL_at h_v_166 (ixm1 hm_u_165)), ?_⟩
                          conv => whnf
                          refine ⟨fun hb_641 => ?_, fun hb_641 => ?_⟩
                          · replace hL1 := cond_t hb_641 hL1
                            conv => whnf
                            obtain rfl := Option.some.inj hL1
                            replace hF := fin_ret hF
                            obtain rfl := Option.some.inj hF
                            exact ret_gz [] [] [] rfl (argFl (by (conv => lhs; whnf); all_goals rfl)) trivial
                          · replace hL1 := cond_f hb_641 hL1
                            conv => whnf
                            refine ⟨_, rfl, ?_⟩
                            conv => whnf
                            exact ⟨(q_261, r_98.1.Window, r_98.1.L, r_13.2.L, r_13.2.At, i_157, (a_10.set i_11.toNat true), (w64 (i_12 + (1 : Int)))), [0, 1, 2], [], [], hL1, Nat.lt_succ_self _, wk_mk [0, 1, 2] [] [] rfl ⟨argE (by (conv => lhs; whnf); all_goals rfl) rfl, argE (by (conv => lhs; whnf); all_goals rfl) rfl, argP (id := 0) (by (conv => lhs; whnf); all_goals rfl) rfl, argP (id := 1) (by (conv => lhs; whnf); all_goals rfl) rfl, argE (by (conv => lhs; whnf); all_goals rfl) rfl, argP (id := 2) (by (conv => lhs; whnf); all_goals rfl) rfl, argE (by (conv => lhs; whnf); all_goals rfl) rfl, trivial⟩ ⟨boxL rfl rfl rfl ⟨(.ni _ rfl), (.ni _ rfl), trivial⟩, boxL rfl rfl rfl ⟨(.ni _ rfl), (.ni _ rfl), trivial⟩, blkR (fun _ => ⟨rfl, rfl⟩) rfl rfl, trivial⟩⟩
                        · replace hL1 := cond_f hb_640 hL1
                          conv => whnf
                          refine ⟨_, rfl, ?_⟩
                          conv => whnf
                          exact ⟨(q_261, r_98.1.Window, r_98.1.L, r_13.2.L, r_13.2.At, i_157, (a_10.set i_11.toNat true), (w64 (i_12 + (1 : Int)))), [0, 1, 2], [], [], hL1, Nat.lt_succ_self _, wk_mk [0, 1, 2] [] [] rfl ⟨argE (by (conv => lhs; whnf); all_goals rfl) rfl, argE (by (conv => lhs; whnf); all_goals rfl) rfl, argP (id := 0) (by (conv => lhs; whnf); all_goals rfl) rfl, argP (id := 1) (by (conv => lhs; whnf); all_goals rfl) rfl, argE (by (conv => lhs; whnf); all_goals rfl) rfl, argP (id := 2) (by (conv => lhs; whnf); all_goals rfl) rfl, argE (by (conv => lhs; whnf); all_goals rfl) rfl, trivial⟩ ⟨boxL rfl rfl rfl ⟨(.ni _ rfl), (.ni _ rfl), trivial⟩, boxL rfl rfl rfl ⟨(.ni _ rfl), (.ni _ rfl), trivial⟩, blkR (fun _ => ⟨rfl, rfl⟩) rfl rfl, trivial⟩⟩
                  · replace hL1 := cond_f hb_633 hL1
                    conv => whnf
                    obtain ⟨u_167, h_u_167, hL1⟩ := bind_some hL1
                    refine ixa_q 1 h_u_167 rfl (fun m_u_167 hm_u_167 => ?_)
                    conv => whnf
                    obtain ⟨v_168, h_v_168, hL1⟩ := bind_some hL1
                    refine st_q (enc := bA) (l := a_10) (x' := true) (i := i_11) (ixm1 hm_u_167) (ixL_at h_v_168 (ixm1 hm_u_167)) rfl (Nat.le_of_ble_eq_true rfl) rfl ?_
                    conv => whnf
                    obtain ⟨c_2, hc_2, hL1⟩ := sub_some hL1
                    refine sw_bv 16 (v := .lst 30 (r_98.2.1.map encMessage)) (by (conv => lhs; whnf); all_goals rfl) (fun hb => ?_)
                    have hbd_k_171 : r_98.2.1.length ≤ 9223372036854775807 := bnd_len (enc := encMessage) (hb)
                    refine sw_loop tab_ok follows_ok (fun y : Nat × Int => y.1 ≤ r_98.2.1.length ∧ law05_InboxOrder_L2 (r_98.2.1.drop y.1) y.1 y.2 = some c_2) (fun y => ⟨eL [(1, .int .i64 (w64 ((1 : Int) + r_2))), (7, .int .i64 (w64 ((1 : Int) + r_1))), (8, .ptr 0 0), (10, .ptr 1 0), (11, .int .i64 y.2), (12, .ptr 2 0), (13, .int .i64 i_12), (15, .ptr 3 0), (16, .lst 30 (r_98.2.1.map encMessage)), (19, .int .i64 (y.1 : Int))], hL [(0, .box [.int .i64 i_6, .lst 3 (a_7.map encSender)]), (1, .box [.lst 1 (r_13.2.L.map iA), .int .i64 r_13.2.At]), (2, .row 1 ((a_10.set i_11.toNat true).map bA)), (3, .box [.int .i64 r_98.1.Window, .lst 3 (r_98.1.L.map encSender)])], 4⟩) (fun y => r_98.2.1.length - y.1) (0, i_11) ⟨Nat.zero_le _, hc_2⟩ (wk_mk [0, 1, 2, 7] [] [] rfl ⟨argE (by (conv => lhs; whnf); all_goals rfl) rfl, argE (by (conv => lhs; whnf); all_goals rfl) rfl, argP (id := 0) (by (conv => lhs; whnf); all_goals rfl) rfl, argP (id := 1) (by (conv => lhs; whnf); all_goals rfl) rfl, argE (by (conv => lhs; whnf); all_goals rfl) rfl, argP (id := 2) (by (conv => lhs; whnf); all_goals rfl) rfl, argE (by (conv => lhs; whnf); all_goals rfl) rfl, argP (id := 7) (by (conv => lhs; whnf); all_goals rfl) rfl, argE (by (conv => lhs; whnf); all_goals rfl) rfl, argE (by (conv => lhs; whnf); all_goals rfl) rfl, trivial⟩ ⟨boxL rfl rfl rfl ⟨(.ni _ rfl), (.ni _ rfl), trivial⟩, boxL rfl rfl rfl ⟨(.ni _ rfl), (.ni _ rfl), trivial⟩, blkR (fun _ => ⟨rfl, rfl⟩) rfl rfl, boxL rfl rfl rfl ⟨(.ni _ rfl), (.ni _ rfl), trivial⟩, trivial⟩) ?_
                    rintro ⟨k_171, i_169⟩ ⟨hk_k_171, hL2⟩
                    try dsimp only at hk_k_171 hL2
                    show awp _ _ _ _ _ _ ⟨eL [(1, .int .i64 (w64 ((1 : Int) + r_2))), (7, .int .i64 (w64 ((1 : Int) + r_1))), (8, .ptr 0 0), (10, .ptr 1 0), (11, .int .i64 i_169), (12, .ptr 2 0), (13, .int .i64 i_12), (15, .ptr 3 0), (16, .lst 30 (r_98.2.1.map encMessage)), (19, .int .i64 (k_171 : Int))], hL [(0, .box [.int .i64 i_6, .lst 3 (a_7.map encSender)]), (1, .box [.lst 1 (r_13.2.L.map iA), .int .i64 r_13.2.At]), (2, .row 1 ((a_10.set i_11.toNat true).map bA)), (3, .box [.int .i64 r_98.1.Window, .lst 3 (r_98.1.L.map encSender)])], 4⟩
                    conv => whnf
                    refine len_q (enc := encMessage) (l := r_98.2.1) rfl ?_
                    conv => whnf
                    refine ⟨fun h => ?_, fun h => ?_⟩
                    · have hlt_k_171 : k_171 < r_98.2.1.length := by have h := of_decide_eq_true h; omega
                      obtain ⟨e_172, h_e_172⟩ : ∃ y, r_98.2.1[k_171]? = some y := ⟨_, List.getElem?_eq_getElem hlt_k_171⟩
                      rw [drop_cons h_e_172, law05_InboxOrder_L2.eq_2] at hL2
                      conv => whnf
                      refine ⟨k_171, _, rfl, ix_map h_e_172, ?_⟩
                      conv => whnf
                      obtain ⟨r_173, h_r_173, hL2⟩ := bind_some hL2
                      refine ⟨_, _, _, _, _, _, _, _, _, callX false [] [] 0 Try.func14 (by decide) rfl (law05_numbered_ac (⟨#[65, 82, 78]⟩ : ByteArray) i_169 r_173 h_r_173) rfl ⟨(argE (by (conv => lhs; whnf); all_goals rfl) rfl), (argE (by (conv => lhs; whnf); all_goals rfl) rfl), trivial⟩ rfl trivial rfl rfl rfl lend0 trivial rfl, ?_⟩
                      conv => whnf
                      obtain ⟨r_174, h_r_174, hL2⟩ := bind_some hL2
                      refine ⟨_, _, _, _, _, _, _, _, _, callX false [] [] 0 Try.func15 (by decide) rfl (ref04_Same_ac e_172 r_173 r_174 h_r_174) rfl ⟨(argE (by (conv => lhs; whnf); all_goals rfl) rfl), (argE (by (conv => lhs; whnf); all_goals rfl) rfl), trivial⟩ rfl trivial rfl rfl rfl lend0 trivial rfl, ?_⟩
                      conv => whnf
                      refine ⟨by kernel_rfl, ?_⟩
                      conv => whnf
                      refine ⟨fun hb_642 => ?_, fun hb_642 => ?_⟩
                      · replace hL2 := cond_t hb_642 hL2
                        conv => whnf
                        obtain rfl := Option.some.inj hL2
                        replace hL1 := sub_ret hL1
                        obtain rfl := Option.some.inj hL1
                        replace hF := fin_ret hF
                        obtain rfl := Option.some.inj hF
                        exact ret_gz [] [] [] rfl (argFl (by (conv => lhs; whnf); all_goals rfl)) trivial
                      · replace hL2 := cond_f hb_642 hL2
                        conv => whnf
                        refine ⟨_, rfl, ?_⟩
                        conv => whnf
                        refine ⟨((k_171 + 1 : Nat) : Int), wrapE (by omega) (by omega) (by omega), ?_⟩
                        conv => whnf
                        exact ⟨(k_171 + 1, (w64 (i_169 + (1 : Int)))), [0, 1, 2, 3], [], [], ⟨hlt_k_171, hL2⟩, by show r_98.2.1.length - (k_171 + 1) < r_98.2.1.length - k_171; omega, wk_mk [0, 1, 2, 3] [] [] rfl ⟨argE (by (conv => lhs; whnf); all_goals rfl) rfl, argE (by (conv => lhs; whnf); all_goals rfl) rfl, argP (id := 0) (by (conv => lhs; whnf); all_goals rfl) rfl, argP (id := 1) (by (conv => lhs; whnf); all_goals rfl) rfl, argE (by (conv => lhs; whnf); all_goals rfl) rfl, argP (id := 2) (by (conv => lhs; whnf); all_goals rfl) rfl, argE (by (conv => lhs; whnf); all_goals rfl) rfl, argP (id := 3) (by (conv => lhs; whnf); all_goals rfl) rfl, argE (by (conv => lhs; whnf); all_goals rfl) rfl, argE (by (conv => lhs; whnf); all_goals rfl) rfl, trivial⟩ ⟨boxL rfl rfl rfl ⟨(.ni _ rfl), (.ni _ rfl), trivial⟩, boxL rfl rfl rfl ⟨(.ni _ rfl), (.ni _ rfl), trivial⟩, blkR (fun _ => ⟨rfl, rfl⟩) rfl rfl, boxL rfl rfl rfl ⟨(.ni _ rfl), (.ni _ rfl), trivial⟩, trivial⟩⟩
                    · rw [drop_nil (show r_98.2.1.length ≤ k_171 by have h := of_decide_eq_false h; omega), law05_InboxOrder_L2.eq_1] at hL2
                      conv => whnf
                      obtain rfl := Option.some.inj hL2
                      replace hL1 := sub_brk hL1
                      try dsimp only at hL1
                      refine ⟨fun hb_643 => ?_, fun hb_643 => ?_⟩
                      · replace hL1 := cond_t hb_643 hL1
                        conv => whnf
                        obtain ⟨u_177, h_u_177, hL1⟩ := bind_some hL1
                        refine ixa_q 1 h_u_177 rfl (fun m_u_177 hm_u_177 => ?_)
                        conv => whnf
                        obtain ⟨v_178, h_v_178, hL1⟩ := bind_some hL1
                        refine ⟨_, ix_map (enc := bA) (ixL_at h_v_178 (ixm1 hm_u_177)), ?_⟩
                        conv => whnf
                        refine ⟨fun hb_644 => ?_, fun hb_644 => ?_⟩
                        · replace hL1 := cond_t hb_644 hL1
                          conv => whnf
                          obtain rfl := Option.some.inj hL1
                          replace hF := fin_ret hF
                          obtain rfl := Option.some.inj hF
                          exact ret_gz [] [] [] rfl (argFl (by (conv => lhs; whnf); all_goals rfl)) trivial
                        · replace hL1 := cond_f hb_644 hL1
                          conv => whnf
                          refine ⟨_, rfl, ?_⟩
                          conv => whnf
                          exact ⟨(q_261, r_98.1.Window, r_98.1.L, r_13.2.L, r_13.2.At, i_169, (a_10.set i_11.toNat true), (w64 (i_12 + (1 : Int)))), [0, 1, 2], [], [], hL1, Nat.lt_succ_self _, wk_mk [0, 1, 2] [] [] rfl ⟨argE (by (conv => lhs; whnf); all_goals rfl) rfl, argE (by (conv => lhs; whnf); all_goals rfl) rfl, argP (id := 0) (by (conv => lhs; whnf); all_goals rfl) rfl, argP (id := 1) (by (conv => lhs; whnf); all_goals rfl) rfl, argE (by (conv => lhs; whnf); all_goals rfl) rfl, argP (id := 2) (by (conv => lhs; whnf); all_goals rfl) rfl, argE (by (conv => lhs; whnf); all_goals rfl) rfl, trivial⟩ ⟨boxL rfl rfl rfl ⟨(.ni _ rfl), (.ni _ rfl), trivial⟩, boxL rfl rfl rfl ⟨(.ni _ rfl), (.ni _ rfl), trivial⟩, blkR (fun _ => ⟨rfl, rfl⟩) rfl rfl, trivial⟩⟩
                      · replace hL1 := cond_f hb_643 hL1
                        conv => whnf
                        refine ⟨_, rfl, ?_⟩
                        conv => whnf
                        exact ⟨(q_261, r_98.1.Window, r_98.1.L, r_13.2.L, r_13.2.At, i_169, (a_10.set i_11.toNat true), (w64 (i_12 + (1 : Int)))), [0, 1, 2], [], [], hL1, Nat.lt_succ_self _, wk_mk [0, 1, 2] [] [] rfl ⟨argE (by (conv => lhs; whnf); all_goals rfl) rfl, argE (by (conv => lhs; whnf); all_goals rfl) rfl, argP (id := 0) (by (conv => lhs; whnf); all_goals rfl) rfl, argP (id := 1) (by (conv => lhs; whnf); all_goals rfl) rfl, argE (by (conv => lhs; whnf); all_goals rfl) rfl, argP (id := 2) (by (conv => lhs; whnf); all_goals rfl) rfl, argE (by (conv => lhs; whnf); all_goals rfl) rfl, trivial⟩ ⟨boxL rfl rfl rfl ⟨(.ni _ rfl), (.ni _ rfl), trivial⟩, boxL rfl rfl rfl ⟨(.ni _ rfl), (.ni _ rfl), trivial⟩, blkR (fun _ => ⟨rfl, rfl⟩) rfl rfl, trivial⟩⟩
              · replace hL1 := cond_t hb_618 hL1
                conv => whnf
                obtain rfl := Option.some.inj hL1
                replace hF := fin_ret hF
                obtain rfl := Option.some.inj hF
                exact ret_gz [] [] [] rfl (argFl (by (conv => lhs; whnf); all_goals rfl)) trivial
          · replace hL1 := cond_f hb_616 hL1
            conv => whnf
            obtain ⟨r_179, h_r_179, hL1⟩ := bind_some hL1
            refine ⟨_, _, _, _, _, _, _, _, _, callX false [] [] 0 Try.func14 (by decide) rfl (law05_numbered_ac (⟨#[65, 82, 78]⟩ : ByteArray) r_13.1 r_179 h_r_179) rfl ⟨(argE (by (conv => lhs; whnf); all_goals rfl) rfl), (argE (by (conv => lhs; whnf); all_goals rfl) rfl), trivial⟩ rfl trivial rfl rfl rfl lend0 trivial rfl, ?_⟩
            conv => whnf
            obtain ⟨r_180, h_r_180, hL1⟩ := bind_some hL1
            refine ⟨_, _, _, _, _, _, _, _, _, callX false [] [] 0 Try.func13 (by decide) rfl (inbox_Receive_ac (⟨i_6, a_7⟩ : Inbox) r_179 r_180 h_r_180) rfl ⟨(argE (by (conv => lhs; whnf); all_goals rfl) rfl), (argE (by (conv => lhs; whnf); all_goals rfl) rfl), trivial⟩ rfl trivial rfl rfl rfl lend0 trivial rfl, ?_⟩
            conv => whnf
            refine ⟨by kernel_rfl, ?_⟩
            conv => whnf
            refine ⟨fun hb_645 => ?_, fun hb_645 => ?_⟩
            · replace hL1 := cond_t hb_645 hL1
              conv => whnf
              obtain rfl := Option.some.inj hL1
              replace hF := fin_ret hF
              obtain rfl := Option.some.inj hF
              exact ret_gz [] [] [] rfl (argFl (by (conv => lhs; whnf); all_goals rfl)) trivial
            · replace hL1 := cond_f hb_645 hL1
              conv => whnf
              obtain ⟨u_181, h_u_181, hL1⟩ := bind_some hL1
              refine ixa_q 1 h_u_181 rfl (fun m_u_181 hm_u_181 => ?_)
              conv => whnf
              obtain ⟨v_182, h_v_182, hL1⟩ := bind_some hL1
              refine ⟨_, ix_map (enc := bA) (ixL_at h_v_182 (ixm1 hm_u_181)), ?_⟩
              conv => whnf
              refine ⟨fun hb_646 => ?_, fun hb_646 => ?_⟩
              · replace hL1 := cond_f hb_646 hL1
                conv => whnf
                obtain ⟨u_183, h_u_183, hL1⟩ := bind_some hL1
                refine ixa_q 1 h_u_183 rfl (fun m_u_183 hm_u_183 => ?_)
                conv => whnf
                obtain ⟨v_184, h_v_184, hL1⟩ := bind_some hL1
                refine ⟨_, ix_map (enc := bA) (ixL_at h_v_184 (ixm1 hm_u_183)), ?_⟩
                conv => whnf
                refine ⟨fun hb_647 => ?_, fun hb_647 => ?_⟩
                · replace hL1 := cond_t hb_647 hL1
                  conv => whnf
                  refine ⟨fun hb_648 => ?_, fun hb_648 => ?_⟩
                  · replace hL1 := cond_f hb_648 hL1
                    conv => whnf
                    obtain ⟨u_185, h_u_185, hL1⟩ := bind_some hL1
                    refine ixa_q 1 h_u_185 rfl (fun m_u_185 hm_u_185 => ?_)
                    conv => whnf
                    obtain ⟨v_186, h_v_186, hL1⟩ := bind_some hL1
                    refine ⟨_, ix_map (enc := bA) (ixL_at h_v_186 (ixm1 hm_u_185)), ?_⟩
                    conv => whnf
                    refine ⟨fun hb_649 => ?_, fun hb_649 => ?_⟩
                    · replace hL1 := cond_t hb_649 hL1
                      conv => whnf
                      refine ⟨fun hb_650 => ?_, fun hb_650 => ?_⟩
                      · replace hL1 := cond_t hb_650 hL1
                        conv => whnf
                        refine ⟨fun hb_651 => ?_, fun hb_651 => ?_⟩
                        · replace hL1 := cond_t hb_651 hL1
                          conv => whnf
                          obtain rfl := Option.some.inj hL1
                          replace hF := fin_ret hF
                          obtain rfl := Option.some.inj hF
                          exact ret_gz [] [] [] rfl (argFl (by (conv => lhs; whnf); all_goals rfl)) trivial
                        · replace hL1 := cond_f hb_651 hL1
                          conv => whnf
                          obtain ⟨u_187, h_u_187, hL1⟩ := bind_some hL1
                          refine ixa_q 1 h_u_187 rfl (fun m_u_187 hm_u_187 => ?_)
                          conv => whnf
                          obtain ⟨v_188, h_v_188, hL1⟩ := bind_some hL1
                          refine st_q (enc := bA) (l := a_10) (x' := true) (i := r_13.1) (ixm1 hm_u_187) (ixL_at h_v_188 (ixm1 hm_u_187)) rfl (Nat.le_of_ble_eq_true rfl) rfl ?_
                          conv => whnf
                          obtain ⟨c_2, hc_2, hL1⟩ := sub_some hL1
                          refine sw_bv 16 (v := .lst 30 (r_180.2.1.map encMessage)) (by (conv => lhs; whnf); all_goals rfl) (fun hb => ?_)
                          have hbd_k_191 : r_180.2.1.length ≤ 9223372036854775807 := bnd_len (enc := encMessage) (hb)
                          refine sw_loop tab_ok follows_ok (fun y : Nat × Int => y.1 ≤ r_180.2.1.length ∧ law05_InboxOrder_L2 (r_180.2.1.drop y.1) y.1 y.2 = some c_2) (fun y => ⟨eL [(1, .int .i64 (w64 ((1 : Int) + r_2))), (7, .int .i64 (w64 ((1 : Int) + r_1))), (8, .ptr 0 0), (10, .ptr 1 0), (11, .int .i64 y.2), (12, .ptr 2 0), (13, .int .i64 i_12), (15, .ptr 3 0), (16, .lst 30 (r_180.2.1.map encMessage)), (19, .int .i64 (y.1 : Int))], hL [(0, .box [.int .i64 i_6, .lst 3 (a_7.map encSender)]), (1, .box [.lst 1 (r_13.2.L.map iA), .int .i64 r_13.2.At]), (2, .row 1 ((a_10.set r_13.1.toNat true).map bA)), (3, .box [.int .i64 r_180.1.Window, .lst 3 (r_180.1.L.map encSender)])], 4⟩) (fun y => r_180.2.1.length - y.1) (0, i_11) ⟨Nat.zero_le _, hc_2⟩ (wk_mk [0, 1, 2, 7] [] [] rfl ⟨argE (by (conv => lhs; whnf); all_goals rfl) rfl, argE (by (conv => lhs; whnf); all_goals rfl) rfl, argP (id := 0) (by (conv => lhs; whnf); all_goals rfl) rfl, argP (id := 1) (by (conv => lhs; whnf); all_goals rfl) rfl, argE (by (conv => lhs; whnf); all_goals rfl) rfl, argP (id := 2) (by (conv => lhs; whnf); all_goals rfl) rfl, argE (by (conv => lhs; whnf); all_goals rfl) rfl, argP (id := 7) (by (conv => lhs; whnf); all_goals rfl) rfl, argE (by (conv => lhs; whnf); all_goals rfl) rfl, argE (by (conv => lhs; whnf); all_goals rfl) rfl, trivial⟩ ⟨boxL rfl rfl rfl ⟨(.ni _ rfl), (.ni _ rfl), trivial⟩, boxL rfl rfl rfl ⟨(.ni _ rfl), (.ni _ rfl), trivial⟩, blkR (fun _ => ⟨rfl, rfl⟩) rfl rfl, boxL rfl rfl rfl ⟨(.ni _ rfl), (.ni _ rfl), trivial⟩, trivial⟩) ?_
                          rintro ⟨k_191, i_189⟩ ⟨hk_k_191, hL2⟩
                          try dsimp only at hk_k_191 hL2
                          show awp _ _ _ _ _ _ ⟨eL [(1, .int .i64 (w64 ((1 : Int) + r_2))), (7, .int .i64 (w64 ((1 : Int) + r_1))), (8, .ptr 0 0), (10, .ptr 1 0), (11, .int .i64 i_189), (12, .ptr 2 0), (13, .int .i64 i_12), (15, .ptr 3 0), (16, .lst 30 (r_180.2.1.map encMessage)), (19, .int .i64 (k_191 : Int))], hL [(0, .box [.int .i64 i_6, .lst 3 (a_7.map encSender)]), (1, .box [.lst 1 (r_13.2.L.map iA), .int .i64 r_13.2.At]), (2, .row 1 ((a_10.set r_13.1.toNat true).map bA)), (3, .box [.int .i64 r_180.1.Window, .lst 3 (r_180.1.L.map encSender)])], 4⟩
                          conv => whnf
                          refine len_q (enc := encMessage) (l := r_180.2.1) rfl ?_
                          conv => whnf
                          refine ⟨fun h => ?_, fun h => ?_⟩
                          · have hlt_k_191 : k_191 < r_180.2.1.length := by have h := of_decide_eq_true h; omega
                            obtain ⟨e_192, h_e_192⟩ : ∃ y, r_180.2.1[k_191]? = some y := ⟨_, List.getElem?_eq_getElem hlt_k_191⟩
                            rw [drop_cons h_e_192, law05_InboxOrder_L2.eq_2] at hL2
                            conv => whnf
                            refine ⟨k_191, _, rfl, ix_map h_e_192, ?_⟩
                            conv => whnf
                            obtain ⟨r_193, h_r_193, hL2⟩ := bind_some hL2
                            refine ⟨_, _, _, _, _, _, _, _, _, callX false [] [] 0 Try.func14 (by decide) rfl (law05_numbered_ac (⟨#[65, 82, 78]⟩ : ByteArray) i_189 r_193 h_r_193) rfl ⟨(argE (by (conv => lhs; whnf); all_goals rfl) rfl), (argE (by (conv => lhs; whnf); all_goals rfl) rfl), trivial⟩ rfl trivial rfl rfl rfl lend0 trivial rfl, ?_⟩
                            conv => whnf
                            obtain ⟨r_194, h_r_194, hL2⟩ := bind_some hL2
                            refine ⟨_, _, _, _, _, _, _, _, _, callX false [] [] 0 Try.func15 (by decide) rfl (ref04_Same_ac e_192 r_193 r_194 h_r_194) rfl ⟨(argE (by (conv => lhs; whnf); all_goals rfl) rfl), (argE (by (conv => lhs; whnf); all_goals rfl) rfl), trivial⟩ rfl trivial rfl rfl rfl lend0 trivial rfl, ?_⟩
                            conv => whnf
                            refine ⟨by kernel_rfl, ?_⟩
                            conv => whnf
                            refine ⟨fun hb_652 => ?_, fun hb_652 => ?_⟩
                            · replace hL2 := cond_t hb_652 hL2
                              conv => whnf
                              obtain rfl := Option.some.inj hL2
                              replace hL1 := sub_ret hL1
                              obtain rfl := Option.some.inj hL1
                              replace hF := fin_ret hF
                              obtain rfl := Option.some.inj hF
                              exact ret_gz [] [] [] rfl (argFl (by (conv => lhs; whnf); all_goals rfl)) trivial
                            · replace hL2 := cond_f hb_652 hL2
                              conv => whnf
                              refine ⟨_, rfl, ?_⟩
                              conv => whnf
                              refine ⟨((k_191 + 1 : Nat) : Int), wrapE (by omega) (by omega) (by omega), ?_⟩
                              conv => whnf
                              exact ⟨(k_191 + 1, (w64 (i_189 + (1 : Int)))), [0, 1, 2, 3], [], [], ⟨hlt_k_191, hL2⟩, by show r_180.2.1.length - (k_191 + 1) < r_180.2.1.length - k_191; omega, wk_mk [0, 1, 2, 3] [] [] rfl ⟨argE (by (conv => lhs; whnf); all_goals rfl) rfl, argE (by (conv => lhs; whnf); all_goals rfl) rfl, argP (id := 0) (by (conv => lhs; whnf); all_goals rfl) rfl, argP (id := 1) (by (conv => lhs; whnf); all_goals rfl) rfl, argE (by (conv => lhs; whnf); all_goals rfl) rfl, argP (id := 2) (by (conv => lhs; whnf); all_goals rfl) rfl, argE (by (conv => lhs; whnf); all_goals rfl) rfl, argP (id := 3) (by (conv => lhs; whnf); all_goals rfl) rfl, argE (by (conv => lhs; whnf); all_goals rfl) rfl, argE (by (conv => lhs; whnf); all_goals rfl) rfl, trivial⟩ ⟨boxL rfl rfl rfl ⟨(.ni _ rfl), (.ni _ rfl), trivial⟩, boxL rfl rfl rfl ⟨(.ni _ rfl), (.ni _ rfl), trivial⟩, blkR (fun _ => ⟨rfl, rfl⟩) rfl rfl, boxL rfl rfl rfl ⟨(.ni _ rfl), (.ni _ rfl), trivial⟩, trivial⟩⟩
                          · rw [drop_nil (show r_180.2.1.length ≤ k_191 by have h := of_decide_eq_false h; omega), law05_InboxOrder_L2.eq_1] at hL2
                            conv => whnf
                            obtain rfl := Option.some.inj hL2
                            replace hL1 := sub_brk hL1
                            try dsimp only at hL1
                            refine ⟨fun hb_653 => ?_, fun hb_653 => ?_⟩
                            · replace hL1 := cond_t hb_653 hL1
                              conv => whnf
                              obtain ⟨u_197, h_u_197, hL1⟩ := bind_some hL1
                              refine ixa_q 1 h_u_197 rfl (fun m_u_197 hm_u_197 => ?_)
                              conv => whnf
                              obtain ⟨v_198, h_v_198, hL1⟩ := bind_some hL1
                              refine ⟨_, ix_map (enc := bA) (ixL_at h_v_198 (ixm1 hm_u_197)), ?_⟩
                              conv => whnf
                              refine ⟨fun hb_654 => ?_, fun hb_654 => ?_⟩
                              · replace hL1 := cond_t hb_654 hL1
                                conv => whnf
                                obtain rfl := Option.some.inj hL1
                                replace hF := fin_ret hF
                                obtain rfl := Option.some.inj hF
                                exact ret_gz [] [] [] rfl (argFl (by (conv => lhs; whnf); all_goals rfl)) trivial
                              · replace hL1 := cond_f hb_654 hL1
                                conv => whnf
                                refine ⟨_, rfl, ?_⟩
                                conv => whnf
                                exact ⟨(q_261, r_180.1.Window, r_180.1.L, r_13.2.L, r_13.2.At, i_189, (a_10.set r_13.1.toNat true), (w64 (i_12 + (1 : Int)))), [0, 1, 2], [], [], hL1, Nat.lt_succ_self _, wk_mk [0, 1, 2] [] [] rfl ⟨argE (by (conv => lhs; whnf); all_goals rfl) rfl, argE (by (conv => lhs; whnf); all_goals rfl) rfl, argP (id := 0) (by (conv => lhs; whnf); all_goals rfl) rfl, argP (id := 1) (by (conv => lhs; whnf); all_goals rfl) rfl, argE (by (conv => lhs; whnf); all_goals rfl) rfl, argP (id := 2) (by (conv => lhs; whnf); all_goals rfl) rfl, argE (by (conv => lhs; whnf); all_goals rfl) rfl, trivial⟩ ⟨boxL rfl rfl rfl ⟨(.ni _ rfl), (.ni _ rfl), trivial⟩, boxL rfl rfl rfl ⟨(.ni _ rfl), (.ni _ rfl), trivial⟩, blkR (fun _ => ⟨rfl, rfl⟩) rfl rfl, trivial⟩⟩
                            · replace hL1 := cond_f hb_653 hL1
                              conv => whnf
                              refine ⟨_, rfl, ?_⟩
                              conv => whnf
                              exact ⟨(q_261, r_180.1.Window, r_180.1.L, r_13.2.L, r_13.2.At, i_189, (a_10.set r_13.1.toNat true), (w64 (i_12 + (1 : Int)))), [0, 1, 2], [], [], hL1, Nat.lt_succ_self _, wk_mk [0, 1, 2] [] [] rfl ⟨argE (by (conv => lhs; whnf); all_goals rfl) rfl, argE (by (conv => lhs; whnf); all_goals rfl) rfl, argP (id := 0) (by (conv => lhs; whnf); all_goals rfl) rfl, argP (id := 1) (by (conv => lhs; whnf); all_goals rfl) rfl, argE (by (conv => lhs; whnf); all_goals rfl) rfl, argP (id := 2) (by (conv => lhs; whnf); all_goals rfl) rfl, argE (by (conv => lhs; whnf); all_goals rfl) rfl, trivial⟩ ⟨boxL rfl rfl rfl ⟨(.ni _ rfl), (.ni _ rfl), trivial⟩, boxL rfl rfl rfl ⟨(.ni _ rfl), (.ni _ rfl), trivial⟩, blkR (fun _ => ⟨rfl, rfl⟩) rfl rfl, trivial⟩⟩
                      · replace hL1 := cond_f hb_650 hL1
                        conv => whnf
                        obtain ⟨u_199, h_u_199, hL1⟩ := bind_some hL1
                        refine ixa_q 1 h_u_199 rfl (fun m_u_199 hm_u_199 => ?_)
                        conv => whnf
                        obtain ⟨v_200, h_v_200, hL1⟩ := bind_some hL1
                        refine st_q (enc := bA) (l := a_10) (x' := true) (i := r_13.1) (ixm1 hm_u_199) (ixL_at h_v_200 (ixm1 hm_u_199)) rfl (Nat.le_of_ble_eq_true rfl) rfl ?_
                        conv => whnf
                        obtain ⟨c_2, hc_2, hL1⟩ := sub_some hL1
                        refine sw_bv 16 (v := .lst 30 (r_180.2.1.map encMessage)) (by (conv => lhs; whnf); all_goals rfl) (fun hb => ?_)
                        have hbd_k_203 : r_180.2.1.length ≤ 9223372036854775807 := bnd_len (enc := encMessage) (hb)
                        refine sw_loop tab_ok follows_ok (fun y : Nat × Int => y.1 ≤ r_180.2.1.length ∧ law05_InboxOrder_L2 (r_180.2.1.drop y.1) y.1 y.2 = some c_2) (fun y => ⟨eL [(1, .int .i64 (w64 ((1 : Int) + r_2))), (7, .int .i64 (w64 ((1 : Int) + r_1))), (8, .ptr 0 0), (10, .ptr 1 0), (11, .int .i64 y.2), (12, .ptr 2 0), (13, .int .i64 i_12), (15, .ptr 3 0), (16, .lst 30 (r_180.2.1.map encMessage)), (19, .int .i64 (y.1 : Int))], hL [(0, .box [.int .i64 i_6, .lst 3 (a_7.map encSender)]), (1, .box [.lst 1 (r_13.2.L.map iA), .int .i64 r_13.2.At]), (2, .row 1 ((a_10.set r_13.1.toNat true).map bA)), (3, .box [.int .i64 r_180.1.Window, .lst 3 (r_180.1.L.map encSender)])], 4⟩) (fun y => r_180.2.1.length - y.1) (0, i_11) ⟨Nat.zero_le _, hc_2⟩ (wk_mk [0, 1, 2, 7] [] [] rfl ⟨argE (by (conv => lhs; whnf); all_goals rfl) rfl, argE (by (conv => lhs; whnf); all_goals rfl) rfl, argP (id := 0) (by (conv => lhs; whnf); all_goals rfl) rfl, argP (id := 1) (by (conv => lhs; whnf); all_goals rfl) rfl, argE (by (conv => lhs; whnf); all_goals rfl) rfl, argP (id := 2) (by (conv => lhs; whnf); all_goals rfl) rfl, argE (by (conv => lhs; whnf); all_goals rfl) rfl, argP (id := 7) (by (conv => lhs; whnf); all_goals rfl) rfl, argE (by (conv => lhs; whnf); all_goals rfl) rfl, argE (by (conv => lhs; whnf); all_goals rfl) rfl, trivial⟩ ⟨boxL rfl rfl rfl ⟨(.ni _ rfl), (.ni _ rfl), trivial⟩, boxL rfl rfl rfl ⟨(.ni _ rfl), (.ni _ rfl), trivial⟩, blkR (fun _ => ⟨rfl, rfl⟩) rfl rfl, boxL rfl rfl rfl ⟨(.ni _ rfl), (.ni _ rfl), trivial⟩, trivial⟩) ?_
                        rintro ⟨k_203, i_201⟩ ⟨hk_k_203, hL2⟩
                        try dsimp only at hk_k_203 hL2
                        show awp _ _ _ _ _ _ ⟨eL [(1, .int .i64 (w64 ((1 : Int) + r_2))), (7, .int .i64 (w64 ((1 : Int) + r_1))), (8, .ptr 0 0), (10, .ptr 1 0), (11, .int .i64 i_201), (12, .ptr 2 0), (13, .int .i64 i_12), (15, .ptr 3 0), (16, .lst 30 (r_180.2.1.map encMessage)), (19, .int .i64 (k_203 : Int))], hL [(0, .box [.int .i64 i_6, .lst 3 (a_7.map encSender)]), (1, .box [.lst 1 (r_13.2.L.map iA), .int .i64 r_13.2.At]), (2, .row 1 ((a_10.set r_13.1.toNat true).map bA)), (3, .box [.int .i64 r_180.1.Window, .lst 3 (r_180.1.L.map encSender)])], 4⟩
                        conv => whnf
                        refine len_q (enc := encMessage) (l := r_180.2.1) rfl ?_
                        conv => whnf
                        refine ⟨fun h => ?_, fun h => ?_⟩
                        · have hlt_k_203 : k_203 < r_180.2.1.length := by have h := of_decide_eq_true h; omega
                          obtain ⟨e_204, h_e_204⟩ : ∃ y, r_180.2.1[k_203]? = some y := ⟨_, List.getElem?_eq_getElem hlt_k_203⟩
                          rw [drop_cons h_e_204, law05_InboxOrder_L2.eq_2] at hL2
                          conv => whnf
                          refine ⟨k_203, _, rfl, ix_map h_e_204, ?_⟩
                          conv => whnf
                          obtain ⟨r_205, h_r_205, hL2⟩ := bind_some hL2
                          refine ⟨_, _, _, _, _, _, _, _, _, callX false [] [] 0 Try.func14 (by decide) rfl (law05_numbered_ac (⟨#[65, 82, 78]⟩ : ByteArray) i_201 r_205 h_r_205) rfl ⟨(argE (by (conv => lhs; whnf); all_goals rfl) rfl), (argE (by (conv => lhs; whnf); all_goals rfl) rfl), trivial⟩ rfl trivial rfl rfl rfl lend0 trivial rfl, ?_⟩
                          conv => whnf
                          obtain ⟨r_206, h_r_206, hL2⟩ := bind_some hL2
                          refine ⟨_, _, _, _, _, _, _, _, _, callX false [] [] 0 Try.func15 (by decide) rfl (ref04_Same_ac e_204 r_205 r_206 h_r_206) rfl ⟨(argE (by (conv => lhs; whnf); all_goals rfl) rfl), (argE (by (conv => lhs; whnf); all_goals rfl) rfl), trivial⟩ rfl trivial rfl rfl rfl lend0 trivial rfl, ?_⟩
                          conv => whnf
                          refine ⟨by kernel_rfl, ?_⟩
                          conv => whnf
                          refine ⟨fun hb_655 => ?_, fun hb_655 => ?_⟩
                          · replace hL2 := cond_t hb_655 hL2
                            conv => whnf
                            obtain rfl := Option.some.inj hL2
                            replace hL1 := sub_ret hL1
                            obtain rfl := Option.some.inj hL1
                            replace hF := fin_ret hF
                            obtain rfl := Option.some.inj hF
                            exact ret_gz [] [] [] rfl (argFl (by (conv => lhs; whnf); all_goals rfl)) trivial
                          · replace hL2 := cond_f hb_655 hL2
                            conv => whnf
                            refine ⟨_, rfl, ?_⟩
                            conv => whnf
                            refine ⟨((k_203 + 1 : Nat) : Int), wrapE (by omega) (by omega) (by omega), ?_⟩
                            conv => whnf
                            exact ⟨(k_203 + 1, (w64 (i_201 + (1 : Int)))), [0, 1, 2, 3], [], [], ⟨hlt_k_203, hL2⟩, by show r_180.2.1.length - (k_203 + 1) < r_180.2.1.length - k_203; omega, wk_mk [0, 1, 2, 3] [] [] rfl ⟨argE (by (conv => lhs; whnf); all_goals rfl) rfl, argE (by (conv => lhs; whnf); all_goals rfl) rfl, argP (id := 0) (by (conv => lhs; whnf); all_goals rfl) rfl, argP (id := 1) (by (conv => lhs; whnf); all_goals rfl) rfl, argE (by (conv => lhs; whnf); all_goals rfl) rfl, argP (id := 2) (by (conv => lhs; whnf); all_goals rfl) rfl, argE (by (conv => lhs; whnf); all_goals rfl) rfl, argP (id := 3) (by (conv => lhs; whnf); all_goals rfl) rfl, argE (by (conv => lhs; whnf); all_goals rfl) rfl, argE (by (conv => lhs; whnf); all_goals rfl) rfl, trivial⟩ ⟨boxL rfl rfl rfl ⟨(.ni _ rfl), (.ni _ rfl), trivial⟩, boxL rfl rfl rfl ⟨(.ni _ rfl), (.ni _ rfl), trivial⟩, blkR (fun _ => ⟨rfl, rfl⟩) rfl rfl, boxL rfl rfl rfl ⟨(.ni _ rfl), (.ni _ rfl), trivial⟩, trivial⟩⟩
                        · rw [drop_nil (show r_180.2.1.length ≤ k_203 by have h := of_decide_eq_false h; omega), law05_InboxOrder_L2.eq_1] at hL2
                          conv => whnf
                          obtain rfl := Option.some.inj hL2
                          replace hL1 := sub_brk hL1
                          try dsimp only at hL1
                          refine ⟨fun hb_656 => ?_, fun hb_656 => ?_⟩
                          · replace hL1 := cond_t hb_656 hL1
                            conv => whnf
                            obtain ⟨u_209, h_u_209, hL1⟩ := bind_some hL1
                            refine ixa_q 1 h_u_209 rfl (fun m_u_209 hm_u_209 => ?_)
                            conv => whnf
                            obtain ⟨v_210, h_v_210, hL1⟩ := bind_some hL1
                            refine ⟨_, ix_map (enc := bA) (ixL_at h_v_210 (ixm1 hm_u_209)), ?_⟩
                            conv => whnf
                            refine ⟨fun hb_657 => ?_, fun hb_657 => ?_⟩
                            · replace hL1 := cond_t hb_657 hL1
                              conv => whnf
                              obtain rfl := Option.some.inj hL1
                              replace hF := fin_ret hF
                              obtain rfl := Option.some.inj hF
                              exact ret_gz [] [] [] rfl (argFl (by (conv => lhs; whnf); all_goals rfl)) trivial
                            · replace hL1 := cond_f hb_657 hL1
                              conv => whnf
                              refine ⟨_, rfl, ?_⟩
                              conv => whnf
                              exact ⟨(q_261, r_180.1.Window, r_180.1.L, r_13.2.L, r_13.2.At, i_201, (a_10.set r_13.1.toNat true), (w64 (i_12 + (1 : Int)))), [0, 1, 2], [], [], hL1, Nat.lt_succ_self _, wk_mk [0, 1, 2] [] [] rfl ⟨argE (by (conv => lhs; whnf); all_goals rfl) rfl, argE (by (conv => lhs; whnf); all_goals rfl) rfl, argP (id := 0) (by (conv => lhs; whnf); all_goals rfl) rfl, argP (id := 1) (by (conv => lhs; whnf); all_goals rfl) rfl, argE (by (conv => lhs; whnf); all_goals rfl) rfl, argP (id := 2) (by (conv => lhs; whnf); all_goals rfl) rfl, argE (by (conv => lhs; whnf); all_goals rfl) rfl, trivial⟩ ⟨boxL rfl rfl rfl ⟨(.ni _ rfl), (.ni _ rfl), trivial⟩, boxL rfl rfl rfl ⟨(.ni _ rfl), (.ni _ rfl), trivial⟩, blkR (fun _ => ⟨rfl, rfl⟩) rfl rfl, trivial⟩⟩
                          · replace hL1 := cond_f hb_656 hL1
                            conv => whnf
                            refine ⟨_, rfl, ?_⟩
                            conv => whnf
                            exact ⟨(q_261, r_180.1.Window, r_180.1.L, r_13.2.L, r_13.2.At, i_201, (a_10.set r_13.1.toNat true), (w64 (i_12 + (1 : Int)))), [0, 1, 2], [], [], hL1, Nat.lt_succ_self _, wk_mk [0, 1, 2] [] [] rfl ⟨argE (by (conv => lhs; whnf); all_goals rfl) rfl, argE (by (conv => lhs; whnf); all_goals rfl) rfl, argP (id := 0) (by (conv => lhs; whnf); all_goals rfl) rfl, argP (id := 1) (by (conv => lhs; whnf); all_goals rfl) rfl, argE (by (conv => lhs; whnf); all_goals rfl) rfl, argP (id := 2) (by (conv => lhs; whnf); all_goals rfl) rfl, argE (by (conv => lhs; whnf); all_goals rfl) rfl, trivial⟩ ⟨boxL rfl rfl rfl ⟨(.ni _ rfl), (.ni _ rfl), trivial⟩, boxL rfl rfl rfl ⟨(.ni _ rfl), (.ni _ rfl), trivial⟩, blkR (fun _ => ⟨rfl, rfl⟩) rfl rfl, trivial⟩⟩
                    · replace hL1 := cond_f hb_649 hL1
                      conv => whnf
                      obtain ⟨u_211, h_u_211, hL1⟩ := bind_some hL1
                      refine ixa_q 1 h_u_211 rfl (fun m_u_211 hm_u_211 => ?_)
                      conv => whnf
                      obtain ⟨v_212, h_v_212, hL1⟩ := bind_some hL1
                      refine st_q (enc := bA) (l := a_10) (x' := true) (i := r_13.1) (ixm1 hm_u_211) (ixL_at h_v_212 (ixm1 hm_u_211)) rfl (Nat.le_of_ble_eq_true rfl) rfl ?_
                      conv => whnf
                      obtain ⟨c_2, hc_2, hL1⟩ := sub_some hL1
                      refine sw_bv 16 (v := .lst 30 (r_180.2.1.map encMessage)) (by (conv => lhs; whnf); all_goals rfl) (fun hb => ?_)
                      have hbd_k_215 : r_180.2.1.length ≤ 9223372036854775807 := bnd_len (enc := encMessage) (hb)
                      refine sw_loop tab_ok follows_ok (fun y : Nat × Int => y.1 ≤ r_180.2.1.length ∧ law05_InboxOrder_L2 (r_180.2.1.drop y.1) y.1 y.2 = some c_2) (fun y => ⟨eL [(1, .int .i64 (w64 ((1 : Int) + r_2))), (7, .int .i64 (w64 ((1 : Int) + r_1))), (8, .ptr 0 0), (10, .ptr 1 0), (11, .int .i64 y.2), (12, .ptr 2 0), (13, .int .i64 i_12), (15, .ptr 3 0), (16, .lst 30 (r_180.2.1.map encMessage)), (19, .int .i64 (y.1 : Int))], hL [(0, .box [.int .i64 i_6, .lst 3 (a_7.map encSender)]), (1, .box [.lst 1 (r_13.2.L.map iA), .int .i64 r_13.2.At]), (2, .row 1 ((a_10.set r_13.1.toNat true).map bA)), (3, .box [.int .i64 r_180.1.Window, .lst 3 (r_180.1.L.map encSender)])], 4⟩) (fun y => r_180.2.1.length - y.1) (0, i_11) ⟨Nat.zero_le _, hc_2⟩ (wk_mk [0, 1, 2, 7] [] [] rfl ⟨argE (by (conv => lhs; whnf); all_goals rfl) rfl, argE (by (conv => lhs; whnf); all_goals rfl) rfl, argP (id := 0) (by (conv => lhs; whnf); all_goals rfl) rfl, argP (id := 1) (by (conv => lhs; whnf); all_goals rfl) rfl, argE (by (conv => lhs; whnf); all_goals rfl) rfl, argP (id := 2) (by (conv => lhs; whnf); all_goals rfl) rfl, argE (by (conv => lhs; whnf); all_goals rfl) rfl, argP (id := 7) (by (conv => lhs; whnf); all_goals rfl) rfl, argE (by (conv => lhs; whnf); all_goals rfl) rfl, argE (by (conv => lhs; whnf); all_goals rfl) rfl, trivial⟩ ⟨boxL rfl rfl rfl ⟨(.ni _ rfl), (.ni _ rfl), trivial⟩, boxL rfl rfl rfl ⟨(.ni _ rfl), (.ni _ rfl), trivial⟩, blkR (fun _ => ⟨rfl, rfl⟩) rfl rfl, boxL rfl rfl rfl ⟨(.ni _ rfl), (.ni _ rfl), trivial⟩, trivial⟩) ?_
                      rintro ⟨k_215, i_213⟩ ⟨hk_k_215, hL2⟩
                      try dsimp only at hk_k_215 hL2
                      show awp _ _ _ _ _ _ ⟨eL [(1, .int .i64 (w64 ((1 : Int) + r_2))), (7, .int .i64 (w64 ((1 : Int) + r_1))), (8, .ptr 0 0), (10, .ptr 1 0), (11, .int .i64 i_213), (12, .ptr 2 0), (13, .int .i64 i_12), (15, .ptr 3 0), (16, .lst 30 (r_180.2.1.map encMessage)), (19, .int .i64 (k_215 : Int))], hL [(0, .box [.int .i64 i_6, .lst 3 (a_7.map encSender)]), (1, .box [.lst 1 (r_13.2.L.map iA), .int .i64 r_13.2.At]), (2, .row 1 ((a_10.set r_13.1.toNat true).map bA)), (3, .box [.int .i64 r_180.1.Window, .lst 3 (r_180.1.L.map encSender)])], 4⟩
                      conv => whnf
                      refine len_q (enc := encMessage) (l := r_180.2.1) rfl ?_
                      conv => whnf
                      refine ⟨fun h => ?_, fun h => ?_⟩
                      · have hlt_k_215 : k_215 < r_180.2.1.length := by have h := of_decide_eq_true h; omega
                        obtain ⟨e_216, h_e_216⟩ : ∃ y, r_180.2.1[k_215]? = some y := ⟨_, List.getElem?_eq_getElem hlt_k_215⟩
                        rw [drop_cons h_e_216, law05_InboxOrder_L2.eq_2] at hL2
                        conv => whnf
                        refine ⟨k_215, _, rfl, ix_map h_e_216, ?_⟩
                        conv => whnf
                        obtain ⟨r_217, h_r_217, hL2⟩ := bind_some hL2
                        refine ⟨_, _, _, _, _, _, _, _, _, callX false [] [] 0 Try.func14 (by decide) rfl (law05_numbered_ac (⟨#[65, 82, 78]⟩ : ByteArray) i_213 r_217 h_r_217) rfl ⟨(argE (by (conv => lhs; whnf); all_goals rfl) rfl), (argE (by (conv => lhs; whnf); all_goals rfl) rfl), trivial⟩ rfl trivial rfl rfl rfl lend0 trivial rfl, ?_⟩
                        conv => whnf
                        obtain ⟨r_218, h_r_218, hL2⟩ := bind_some hL2
                        refine ⟨_, _, _, _, _, _, _, _, _, callX false [] [] 0 Try.func15 (by decide) rfl (ref04_Same_ac e_216 r_217 r_218 h_r_218) rfl ⟨(argE (by (conv => lhs; whnf); all_goals rfl) rfl), (argE (by (conv => lhs; whnf); all_goals rfl) rfl), trivial⟩ rfl trivial rfl rfl rfl lend0 trivial rfl, ?_⟩
                        conv => whnf
                        refine ⟨by kernel_rfl, ?_⟩
                        conv => whnf
                        refine ⟨fun hb_658 => ?_, fun hb_658 => ?_⟩
                        · replace hL2 := cond_t hb_658 hL2
                          conv => whnf
                          obtain rfl := Option.some.inj hL2
                          replace hL1 := sub_ret hL1
                          obtain rfl := Option.some.inj hL1
                          replace hF := fin_ret hF
                          obtain rfl := Option.some.inj hF
                          exact ret_gz [] [] [] rfl (argFl (by (conv => lhs; whnf); all_goals rfl)) trivial
                        · replace hL2 := cond_f hb_658 hL2
                          conv => whnf
                          refine ⟨_, rfl, ?_⟩
                          conv => whnf
                          refine ⟨((k_215 + 1 : Nat) : Int), wrapE (by omega) (by omega) (by omega), ?_⟩
                          conv => whnf
                          exact ⟨(k_215 + 1, (w64 (i_213 + (1 : Int)))), [0, 1, 2, 3], [], [], ⟨hlt_k_215, hL2⟩, by show r_180.2.1.length - (k_215 + 1) < r_180.2.1.length - k_215; omega, wk_mk [0, 1, 2, 3] [] [] rfl ⟨argE (by (conv => lhs; whnf); all_goals rfl) rfl, argE (by (conv => lhs; whnf); all_goals rfl) rfl, argP (id := 0) (by (conv => lhs; whnf); all_goals rfl) rfl, argP (id := 1) (by (conv => lhs; whnf); all_goals rfl) rfl, argE (by (conv => lhs; whnf); all_goals rfl) rfl, argP (id := 2) (by (conv => lhs; whnf); all_goals rfl) rfl, argE (by (conv => lhs; whnf); all_goals rfl) rfl, argP (id := 3) (by (conv => lhs; whnf); all_goals rfl) rfl, argE (by (conv => lhs; whnf); all_goals rfl) rfl, argE (by (conv => lhs; whnf); all_goals rfl) rfl, trivial⟩ ⟨boxL rfl rfl rfl ⟨(.ni _ rfl), (.ni _ rfl), trivial⟩, boxL rfl rfl rfl ⟨(.ni _ rfl), (.ni _ rfl), trivial⟩, blkR (fun _ => ⟨rfl, rfl⟩) rfl rfl, boxL rfl rfl rfl ⟨(.ni _ rfl), (.ni _ rfl), trivial⟩, trivial⟩⟩
                      · rw [drop_nil (show r_180.2.1.length ≤ k_215 by have h := of_decide_eq_false h; omega), law05_InboxOrder_L2.eq_1] at hL2
                        conv => whnf
                        obtain rfl := Option.some.inj hL2
                        replace hL1 := sub_brk hL1
                        try dsimp only at hL1
                        refine ⟨fun hb_659 => ?_, fun hb_659 => ?_⟩
                        · replace hL1 := cond_t hb_659 hL1
                          conv => whnf
                          obtain ⟨u_221, h_u_221, hL1⟩ := bind_some hL1
                          refine ixa_q 1 h_u_221 rfl (fun m_u_221 hm_u_221 => ?_)
                          conv => whnf
                          obtain ⟨v_222, h_v_222, hL1⟩ := bind_some hL1
                          refine ⟨_, ix_map (enc := bA) (ixL_at h_v_222 (ixm1 hm_u_221)), ?_⟩
                          conv => whnf
                          refine ⟨fun hb_660 => ?_, fun hb_660 => ?_⟩
                          · replace hL1 := cond_t hb_660 hL1
                            conv => whnf
                            obtain rfl := Option.some.inj hL1
                            replace hF := fin_ret hF
                            obtain rfl := Option.some.inj hF
                            exact ret_gz [] [] [] rfl (argFl (by (conv => lhs; whnf); all_goals rfl)) trivial
                          · replace hL1 := cond_f hb_660 hL1
                            conv => whnf
                            refine ⟨_, rfl, ?_⟩
                            conv => whnf
                            exact ⟨(q_261, r_180.1.Window, r_180.1.L, r_13.2.L, r_13.2.At, i_213, (a_10.set r_13.1.toNat true), (w64 (i_12 + (1 : Int)))), [0, 1, 2], [], [], hL1, Nat.lt_succ_self _, wk_mk [0, 1, 2] [] [] rfl ⟨argE (by (conv => lhs; whnf); all_goals rfl) rfl, argE (by (conv => lhs; whnf); all_goals rfl) rfl, argP (id := 0) (by (conv => lhs; whnf); all_goals rfl) rfl, argP (id := 1) (by (conv => lhs; whnf); all_goals rfl) rfl, argE (by (conv => lhs; whnf); all_goals rfl) rfl, argP (id := 2) (by (conv => lhs; whnf); all_goals rfl) rfl, argE (by (conv => lhs; whnf); all_goals rfl) rfl, trivial⟩ ⟨boxL rfl rfl rfl ⟨(.ni _ rfl), (.ni _ rfl), trivial⟩, boxL rfl rfl rfl ⟨(.ni _ rfl), (.ni _ rfl), trivial⟩, blkR (fun _ => ⟨rfl, rfl⟩) rfl rfl, trivial⟩⟩
                        · replace hL1 := cond_f hb_659 hL1
                          conv => whnf
                          refine ⟨_, rfl, ?_⟩
                          conv => whnf
                          exact ⟨(q_261, r_180.1.Window, r_180.1.L, r_13.2.L, r_13.2.At, i_213, (a_10.set r_13.1.toNat true), (w64 (i_12 + (1 : Int)))), [0, 1, 2], [], [], hL1, Nat.lt_succ_self _, wk_mk [0, 1, 2] [] [] rfl ⟨argE (by (conv => lhs; whnf); all_goals rfl) rfl, argE (by (conv => lhs; whnf); all_goals rfl) rfl, argP (id := 0) (by (conv => lhs; whnf); all_goals rfl) rfl, argP (id := 1) (by (conv => lhs; whnf); all_goals rfl) rfl, argE (by (conv => lhs; whnf); all_goals rfl) rfl, argP (id := 2) (by (conv => lhs; whnf); all_goals rfl) rfl, argE (by (conv => lhs; whnf); all_goals rfl) rfl, trivial⟩ ⟨boxL rfl rfl rfl ⟨(.ni _ rfl), (.ni _ rfl), trivial⟩, boxL rfl rfl rfl ⟨(.ni _ rfl), (.ni _ rfl), trivial⟩, blkR (fun _ => ⟨rfl, rfl⟩) rfl rfl, trivial⟩⟩
                  · replace hL1 := cond_t hb_648 hL1
                    conv => whnf
                    obtain rfl := Option.some.inj hL1
                    replace hF := fin_ret hF
                    obtain rfl := Option.some.inj hF
                    exact ret_gz [] [] [] rfl (argFl (by (conv => lhs; whnf); all_goals rfl)) trivial
                · replace hL1 := cond_f hb_647 hL1
                  conv => whnf
                  obtain ⟨u_223, h_u_223, hL1⟩ := bind_some hL1
                  refine ixa_q 1 h_u_223 rfl (fun m_u_223 hm_u_223 => ?_)
                  conv => whnf
                  obtain ⟨v_224, h_v_224, hL1⟩ := bind_some hL1
                  refine ⟨_, ix_map (enc := bA) (ixL_at h_v_224 (ixm1 hm_u_223)), ?_⟩
                  conv => whnf
                  refine ⟨fun hb_661 => ?_, fun hb_661 => ?_⟩
                  · replace hL1 := cond_t hb_661 hL1
                    conv => whnf
                    refine ⟨fun hb_662 => ?_, fun hb_662 => ?_⟩
                    · replace hL1 := cond_t hb_662 hL1
                      conv => whnf
                      refine ⟨fun hb_663 => ?_, fun hb_663 => ?_⟩
                      · replace hL1 := cond_t hb_663 hL1
                        conv => whnf
                        obtain rfl := Option.some.inj hL1
                        replace hF := fin_ret hF
                        obtain rfl := Option.some.inj hF
                        exact ret_gz [] [] [] rfl (argFl (by (conv => lhs; whnf); all_goals rfl)) trivial
                      · replace hL1 := cond_f hb_663 hL1
                        conv => whnf
                        obtain ⟨u_225, h_u_225, hL1⟩ := bind_some hL1
                        refine ixa_q 1 h_u_225 rfl (fun m_u_225 hm_u_225 => ?_)
                        conv => whnf
                        obtain ⟨v_226, h_v_226, hL1⟩ := bind_some hL1
                        refine st_q (enc := bA) (l := a_10) (x' := true) (i := r_13.1) (ixm1 hm_u_225) (ixL_at h_v_226 (ixm1 hm_u_225)) rfl (Nat.le_of_ble_eq_true rfl) rfl ?_
                        conv => whnf
                        obtain ⟨c_2, hc_2, hL1⟩ := sub_some hL1
                        refine sw_bv 16 (v := .lst 30 (r_180.2.1.map encMessage)) (by (conv => lhs; whnf); all_goals rfl) (fun hb => ?_)
                        have hbd_k_229 : r_180.2.1.length ≤ 9223372036854775807 := bnd_len (enc := encMessage) (hb)
                        refine sw_loop tab_ok follows_ok (fun y : Nat × Int => y.1 ≤ r_180.2.1.length ∧ law05_InboxOrder_L2 (r_180.2.1.drop y.1) y.1 y.2 = some c_2) (fun y => ⟨eL [(1, .int .i64 (w64 ((1 : Int) + r_2))), (7, .int .i64 (w64 ((1 : Int) + r_1))), (8, .ptr 0 0), (10, .ptr 1 0), (11, .int .i64 y.2), (12, .ptr 2 0), (13, .int .i64 i_12), (15, .ptr 3 0), (16, .lst 30 (r_180.2.1.map encMessage)), (19, .int .i64 (y.1 : Int))], hL [(0, .box [.int .i64 i_6, .lst 3 (a_7.map encSender)]), (1, .box [.lst 1 (r_13.2.L.map iA), .int .i64 r_13.2.At]), (2, .row 1 ((a_10.set r_13.1.toNat true).map bA)), (3, .box [.int .i64 r_180.1.Window, .lst 3 (r_180.1.L.map encSender)])], 4⟩) (fun y => r_180.2.1.length - y.1) (0, i_11) ⟨Nat.zero_le _, hc_2⟩ (wk_mk [0, 1, 2, 7] [] [] rfl ⟨argE (by (conv => lhs; whnf); all_goals rfl) rfl, argE (by (conv => lhs; whnf); all_goals rfl) rfl, argP (id := 0) (by (conv => lhs; whnf); all_goals rfl) rfl, argP (id := 1) (by (conv => lhs; whnf); all_goals rfl) rfl, argE (by (conv => lhs; whnf); all_goals rfl) rfl, argP (id := 2) (by (conv => lhs; whnf); all_goals rfl) rfl, argE (by (conv => lhs; whnf); all_goals rfl) rfl, argP (id := 7) (by (conv => lhs; whnf); all_goals rfl) rfl, argE (by (conv => lhs; whnf); all_goals rfl) rfl, argE (by (conv => lhs; whnf); all_goals rfl) rfl, trivial⟩ ⟨boxL rfl rfl rfl ⟨(.ni _ rfl), (.ni _ rfl), trivial⟩, boxL rfl rfl rfl ⟨(.ni _ rfl), (.ni _ rfl), trivial⟩, blkR (fun _ => ⟨rfl, rfl⟩) rfl rfl, boxL rfl rfl rfl ⟨(.ni _ rfl), (.ni _ rfl), trivial⟩, trivial⟩) ?_
                        rintro ⟨k_229, i_227⟩ ⟨hk_k_229, hL2⟩
                        try dsimp only at hk_k_229 hL2
                        show awp _ _ _ _ _ _ ⟨eL [(1, .int .i64 (w64 ((1 : Int) + r_2))), (7, .int .i64 (w64 ((1 : Int) + r_1))), (8, .ptr 0 0), (10, .ptr 1 0), (11, .int .i64 i_227), (12, .ptr 2 0), (13, .int .i64 i_12), (15, .ptr 3 0), (16, .lst 30 (r_180.2.1.map encMessage)), (19, .int .i64 (k_229 : Int))], hL [(0, .box [.int .i64 i_6, .lst 3 (a_7.map encSender)]), (1, .box [.lst 1 (r_13.2.L.map iA), .int .i64 r_13.2.At]), (2, .row 1 ((a_10.set r_13.1.toNat true).map bA)), (3, .box [.int .i64 r_180.1.Window, .lst 3 (r_180.1.L.map encSender)])], 4⟩
                        conv => whnf
                        refine len_q (enc := encMessage) (l := r_180.2.1) rfl ?_
                        conv => whnf
                        refine ⟨fun h => ?_, fun h => ?_⟩
                        · have hlt_k_229 : k_229 < r_180.2.1.length := by have h := of_decide_eq_true h; omega
                          obtain ⟨e_230, h_e_230⟩ : ∃ y, r_180.2.1[k_229]? = some y := ⟨_, List.getElem?_eq_getElem hlt_k_229⟩
                          rw [drop_cons h_e_230, law05_InboxOrder_L2.eq_2] at hL2
                          conv => whnf
                          refine ⟨k_229, _, rfl, ix_map h_e_230, ?_⟩
                          conv => whnf
                          obtain ⟨r_231, h_r_231, hL2⟩ := bind_some hL2
                          refine ⟨_, _, _, _, _, _, _, _, _, callX false [] [] 0 Try.func14 (by decide) rfl (law05_numbered_ac (⟨#[65, 82, 78]⟩ : ByteArray) i_227 r_231 h_r_231) rfl ⟨(argE (by (conv => lhs; whnf); all_goals rfl) rfl), (argE (by (conv => lhs; whnf); all_goals rfl) rfl), trivial⟩ rfl trivial rfl rfl rfl lend0 trivial rfl, ?_⟩
                          conv => whnf
                          obtain ⟨r_232, h_r_232, hL2⟩ := bind_some hL2
                          refine ⟨_, _, _, _, _, _, _, _, _, callX false [] [] 0 Try.func15 (by decide) rfl (ref04_Same_ac e_230 r_231 r_232 h_r_232) rfl ⟨(argE (by (conv => lhs; whnf); all_goals rfl) rfl), (argE (by (conv => lhs; whnf); all_goals rfl) rfl), trivial⟩ rfl trivial rfl rfl rfl lend0 trivial rfl, ?_⟩
                          conv => whnf
                          refine ⟨by kernel_rfl, ?_⟩
                          conv => whnf
                          refine ⟨fun hb_664 => ?_, fun hb_664 => ?_⟩
                          · replace hL2 := cond_t hb_664 hL2
                            conv => whnf
                            obtain rfl := Option.some.inj hL2
                            replace hL1 := sub_ret hL1
                            obtain rfl := Option.some.inj hL1
                            replace hF := fin_ret hF
                            obtain rfl := Option.some.inj hF
                            exact ret_gz [] [] [] rfl (argFl (by (conv => lhs; whnf); all_goals rfl)) trivial
                          · replace hL2 := cond_f hb_664 hL2
                            conv => whnf
                            refine ⟨_, rfl, ?_⟩
                            conv => whnf
                            refine ⟨((k_229 + 1 : Nat) : Int), wrapE (by omega) (by omega) (by omega), ?_⟩
                            conv => whnf
                            exact ⟨(k_229 + 1, (w64 (i_227 + (1 : Int)))), [0, 1, 2, 3], [], [], ⟨hlt_k_229, hL2⟩, by show r_180.2.1.length - (k_229 + 1) < r_180.2.1.length - k_229; omega, wk_mk [0, 1, 2, 3] [] [] rfl ⟨argE (by (conv => lhs; whnf); all_goals rfl) rfl, argE (by (conv => lhs; whnf); all_goals rfl) rfl, argP (id := 0) (by (conv => lhs; whnf); all_goals rfl) rfl, argP (id := 1) (by (conv => lhs; whnf); all_goals rfl) rfl, argE (by (conv => lhs; whnf); all_goals rfl) rfl, argP (id := 2) (by (conv => lhs; whnf); all_goals rfl) rfl, argE (by (conv => lhs; whnf); all_goals rfl) rfl, argP (id := 3) (by (conv => lhs; whnf); all_goals rfl) rfl, argE (by (conv => lhs; whnf); all_goals rfl) rfl, argE (by (conv => lhs; whnf); all_goals rfl) rfl, trivial⟩ ⟨boxL rfl rfl rfl ⟨(.ni _ rfl), (.ni _ rfl), trivial⟩, boxL rfl rfl rfl ⟨(.ni _ rfl), (.ni _ rfl), trivial⟩, blkR (fun _ => ⟨rfl, rfl⟩) rfl rfl, boxL rfl rfl rfl ⟨(.ni _ rfl), (.ni _ rfl), trivial⟩, trivial⟩⟩
                        · rw [drop_nil (show r_180.2.1.length ≤ k_229 by have h := of_decide_eq_false h; omega), law05_InboxOrder_L2.eq_1] at hL2
                          conv => whnf
                          obtain rfl := Option.some.inj hL2
                          replace hL1 := sub_brk hL1
                          try dsimp only at hL1
                          refine ⟨fun hb_665 => ?_, fun hb_665 => ?_⟩
                          · replace hL1 := cond_t hb_665 hL1
                            conv => whnf
                            obtain ⟨u_235, h_u_235, hL1⟩ := bind_some hL1
                            refine ixa_q 1 h_u_235 rfl (fun m_u_235 hm_u_235 => ?_)
                            conv => whnf
                            obtain ⟨v_236, h_v_236, hL1⟩ := bind_some hL1
                            refine ⟨_, ix_map (enc := bA) (ixL_at h_v_236 (ixm1 hm_u_235)), ?_⟩
                            conv => whnf
                            refine ⟨fun hb_666 => ?_, fun hb_666 => ?_⟩
                            · replace hL1 := cond_t hb_666 hL1
                              conv => whnf
                              obtain rfl := Option.some.inj hL1
                              replace hF := fin_ret hF
                              obtain rfl := Option.some.inj hF
                              exact ret_gz [] [] [] rfl (argFl (by (conv => lhs; whnf); all_goals rfl)) trivial
                            · replace hL1 := cond_f hb_666 hL1
                              conv => whnf
                              refine ⟨_, rfl, ?_⟩
                              conv => whnf
                              exact ⟨(q_261, r_180.1.Window, r_180.1.L, r_13.2.L, r_13.2.At, i_227, (a_10.set r_13.1.toNat true), (w64 (i_12 + (1 : Int)))), [0, 1, 2], [], [], hL1, Nat.lt_succ_self _, wk_mk [0, 1, 2] [] [] rfl ⟨argE (by (conv => lhs; whnf); all_goals rfl) rfl, argE (by (conv => lhs; whnf); all_goals rfl) rfl, argP (id := 0) (by (conv => lhs; whnf); all_goals rfl) rfl, argP (id := 1) (by (conv => lhs; whnf); all_goals rfl) rfl, argE (by (conv => lhs; whnf); all_goals rfl) rfl, argP (id := 2) (by (conv => lhs; whnf); all_goals rfl) rfl, argE (by (conv => lhs; whnf); all_goals rfl) rfl, trivial⟩ ⟨boxL rfl rfl rfl ⟨(.ni _ rfl), (.ni _ rfl), trivial⟩, boxL rfl rfl rfl ⟨(.ni _ rfl), (.ni _ rfl), trivial⟩, blkR (fun _ => ⟨rfl, rfl⟩) rfl rfl, trivial⟩⟩
                          · replace hL1 := cond_f hb_665 hL1
                            conv => whnf
                            refine ⟨_, rfl, ?_⟩
                            conv => whnf
                            exact ⟨(q_261, r_180.1.Window, r_180.1.L, r_13.2.L, r_13.2.At, i_227, (a_10.set r_13.1.toNat true), (w64 (i_12 + (1 : Int)))), [0, 1, 2], [], [], hL1, Nat.lt_succ_self _, wk_mk [0, 1, 2] [] [] rfl ⟨argE (by (conv => lhs; whnf); all_goals rfl) rfl, argE (by (conv => lhs; whnf); all_goals rfl) rfl, argP (id := 0) (by (conv => lhs; whnf); all_goals rfl) rfl, argP (id := 1) (by (conv => lhs; whnf); all_goals rfl) rfl, argE (by (conv => lhs; whnf); all_goals rfl) rfl, argP (id := 2) (by (conv => lhs; whnf); all_goals rfl) rfl, argE (by (conv => lhs; whnf); all_goals rfl) rfl, trivial⟩ ⟨boxL rfl rfl rfl ⟨(.ni _ rfl), (.ni _ rfl), trivial⟩, boxL rfl rfl rfl ⟨(.ni _ rfl), (.ni _ rfl), trivial⟩, blkR (fun _ => ⟨rfl, rfl⟩) rfl rfl, trivial⟩⟩
                    · replace hL1 := cond_f hb_662 hL1
                      conv => whnf
                      obtain ⟨u_237, h_u_237, hL1⟩ := bind_some hL1
                      refine ixa_q 1 h_u_237 rfl (fun m_u_237 hm_u_237 => ?_)
                      conv => whnf
                      obtain ⟨v_238, h_v_238, hL1⟩ := bind_some hL1
                      refine st_q (enc := bA) (l := a_10) (x' := true) (i := r_13.1) (ixm1 hm_u_237) (ixL_at h_v_238 (ixm1 hm_u_237)) rfl (Nat.le_of_ble_eq_true rfl) rfl ?_
                      conv => whnf
                      obtain ⟨c_2, hc_2, hL1⟩ := sub_some hL1
                      refine sw_bv 16 (v := .lst 30 (r_180.2.1.map encMessage)) (by (conv => lhs; whnf); all_goals rfl) (fun hb => ?_)
                      have hbd_k_241 : r_180.2.1.length ≤ 9223372036854775807 := bnd_len (enc := encMessage) (hb)
                      refine sw_loop tab_ok follows_ok (fun y : Nat × Int => y.1 ≤ r_180.2.1.length ∧ law05_InboxOrder_L2 (r_180.2.1.drop y.1) y.1 y.2 = some c_2) (fun y => ⟨eL [(1, .int .i64 (w64 ((1 : Int) + r_2))), (7, .int .i64 (w64 ((1 : Int) + r_1))), (8, .ptr 0 0), (10, .ptr 1 0), (11, .int .i64 y.2), (12, .ptr 2 0), (13, .int .i64 i_12), (15, .ptr 3 0), (16, .lst 30 (r_180.2.1.map encMessage)), (19, .int .i64 (y.1 : Int))], hL [(0, .box [.int .i64 i_6, .lst 3 (a_7.map encSender)]), (1, .box [.lst 1 (r_13.2.L.map iA), .int .i64 r_13.2.At]), (2, .row 1 ((a_10.set r_13.1.toNat true).map bA)), (3, .box [.int .i64 r_180.1.Window, .lst 3 (r_180.1.L.map encSender)])], 4⟩) (fun y => r_180.2.1.length - y.1) (0, i_11) ⟨Nat.zero_le _, hc_2⟩ (wk_mk [0, 1, 2, 7] [] [] rfl ⟨argE (by (conv => lhs; whnf); all_goals rfl) rfl, argE (by (conv => lhs; whnf); all_goals rfl) rfl, argP (id := 0) (by (conv => lhs; whnf); all_goals rfl) rfl, argP (id := 1) (by (conv => lhs; whnf); all_goals rfl) rfl, argE (by (conv => lhs; whnf); all_goals rfl) rfl, argP (id := 2) (by (conv => lhs; whnf); all_goals rfl) rfl, argE (by (conv => lhs; whnf); all_goals rfl) rfl, argP (id := 7) (by (conv => lhs; whnf); all_goals rfl) rfl, argE (by (conv => lhs; whnf); all_goals rfl) rfl, argE (by (conv => lhs; whnf); all_goals rfl) rfl, trivial⟩ ⟨boxL rfl rfl rfl ⟨(.ni _ rfl), (.ni _ rfl), trivial⟩, boxL rfl rfl rfl ⟨(.ni _ rfl), (.ni _ rfl), trivial⟩, blkR (fun _ => ⟨rfl, rfl⟩) rfl rfl, boxL rfl rfl rfl ⟨(.ni _ rfl), (.ni _ rfl), trivial⟩, trivial⟩) ?_
                      rintro ⟨k_241, i_239⟩ ⟨hk_k_241, hL2⟩
                      try dsimp only at hk_k_241 hL2
                      show awp _ _ _ _ _ _ ⟨eL [(1, .int .i64 (w64 ((1 : Int) + r_2))), (7, .int .i64 (w64 ((1 : Int) + r_1))), (8, .ptr 0 0), (10, .ptr 1 0), (11, .int .i64 i_239), (12, .ptr 2 0), (13, .int .i64 i_12), (15, .ptr 3 0), (16, .lst 30 (r_180.2.1.map encMessage)), (19, .int .i64 (k_241 : Int))], hL [(0, .box [.int .i64 i_6, .lst 3 (a_7.map encSender)]), (1, .box [.lst 1 (r_13.2.L.map iA), .int .i64 r_13.2.At]), (2, .row 1 ((a_10.set r_13.1.toNat true).map bA)), (3, .box [.int .i64 r_180.1.Window, .lst 3 (r_180.1.L.map encSender)])], 4⟩
                      conv => whnf
                      refine len_q (enc := encMessage) (l := r_180.2.1) rfl ?_
                      conv => whnf
                      refine ⟨fun h => ?_, fun h => ?_⟩
                      · have hlt_k_241 : k_241 < r_180.2.1.length := by have h := of_decide_eq_true h; omega
                        obtain ⟨e_242, h_e_242⟩ : ∃ y, r_180.2.1[k_241]? = some y := ⟨_, List.getElem?_eq_getElem hlt_k_241⟩
                        rw [drop_cons h_e_242, law05_InboxOrder_L2.eq_2] at hL2
                        conv => whnf
                        refine ⟨k_241, _, rfl, ix_map h_e_242, ?_⟩
                        conv => whnf
                        obtain ⟨r_243, h_r_243, hL2⟩ := bind_some hL2
                        refine ⟨_, _, _, _, _, _, _, _, _, callX false [] [] 0 Try.func14 (by decide) rfl (law05_numbered_ac (⟨#[65, 82, 78]⟩ : ByteArray) i_239 r_243 h_r_243) rfl ⟨(argE (by (conv => lhs; whnf); all_goals rfl) rfl), (argE (by (conv => lhs; whnf); all_goals rfl) rfl), trivial⟩ rfl trivial rfl rfl rfl lend0 trivial rfl, ?_⟩
                        conv => whnf
                        obtain ⟨r_244, h_r_244, hL2⟩ := bind_some hL2
                        refine ⟨_, _, _, _, _, _, _, _, _, callX false [] [] 0 Try.func15 (by decide) rfl (ref04_Same_ac e_242 r_243 r_244 h_r_244) rfl ⟨(argE (by (conv => lhs; whnf); all_goals rfl) rfl), (argE (by (conv => lhs; whnf); all_goals rfl) rfl), trivial⟩ rfl trivial rfl rfl rfl lend0 trivial rfl, ?_⟩
                        conv => whnf
                        refine ⟨by kernel_rfl, ?_⟩
                        conv => whnf
                        refine ⟨fun hb_667 => ?_, fun hb_667 => ?_⟩
                        · replace hL2 := cond_t hb_667 hL2
                          conv => whnf
                          obtain rfl := Option.some.inj hL2
                          replace hL1 := sub_ret hL1
                          obtain rfl := Option.some.inj hL1
                          replace hF := fin_ret hF
                          obtain rfl := Option.some.inj hF
                          exact ret_gz [] [] [] rfl (argFl (by (conv => lhs; whnf); all_goals rfl)) trivial
                        · replace hL2 := cond_f hb_667 hL2
                          conv => whnf
                          refine ⟨_, rfl, ?_⟩
                          conv => whnf
                          refine ⟨((k_241 + 1 : Nat) : Int), wrapE (by omega) (by omega) (by omega), ?_⟩
                          conv => whnf
                          exact ⟨(k_241 + 1, (w64 (i_239 + (1 : Int)))), [0, 1, 2, 3], [], [], ⟨hlt_k_241, hL2⟩, by show r_180.2.1.length - (k_241 + 1) < r_180.2.1.length - k_241; omega, wk_mk [0, 1, 2, 3] [] [] rfl ⟨argE (by (conv => lhs; whnf); all_goals rfl) rfl, argE (by (conv => lhs; whnf); all_goals rfl) rfl, argP (id := 0) (by (conv => lhs; whnf); all_goals rfl) rfl, argP (id := 1) (by (conv => lhs; whnf); all_goals rfl) rfl, argE (by (conv => lhs; whnf); all_goals rfl) rfl, argP (id := 2) (by (conv => lhs; whnf); all_goals rfl) rfl, argE (by (conv => lhs; whnf); all_goals rfl) rfl, argP (id := 3) (by (conv => lhs; whnf); all_goals rfl) rfl, argE (by (conv => lhs; whnf); all_goals rfl) rfl, argE (by (conv => lhs; whnf); all_goals rfl) rfl, trivial⟩ ⟨boxL rfl rfl rfl ⟨(.ni _ rfl), (.ni _ rfl), trivial⟩, boxL rfl rfl rfl ⟨(.ni _ rfl), (.ni _ rfl), trivial⟩, blkR (fun _ => ⟨rfl, rfl⟩) rfl rfl, boxL rfl rfl rfl ⟨(.ni _ rfl), (.ni _ rfl), trivial⟩, trivial⟩⟩
                      · rw [drop_nil (show r_180.2.1.length ≤ k_241 by have h := of_decide_eq_false h; omega), law05_InboxOrder_L2.eq_1] at hL2
                        conv => whnf
                        obtain rfl := Option.some.inj hL2
                        replace hL1 := sub_brk hL1
                        try dsimp only at hL1
                        refine ⟨fun hb_668 => ?_, fun hb_668 => ?_⟩
                        · replace hL1 := cond_t hb_668 hL1
                          conv => whnf
                          obtain ⟨u_247, h_u_247, hL1⟩ := bind_some hL1
                          refine ixa_q 1 h_u_247 rfl (fun m_u_247 hm_u_247 => ?_)
                          conv => whnf
                          obtain ⟨v_248, h_v_248, hL1⟩ := bind_some hL1
                          refine ⟨_, ix_map (enc := bA) (ixL_at h_v_248 (ixm1 hm_u_247)), ?_⟩
                          conv => whnf
                          refine ⟨fun hb_669 => ?_, fun hb_669 => ?_⟩
                          · replace hL1 := cond_t hb_669 hL1
                            conv => whnf
                            obtain rfl := Option.some.inj hL1
                            replace hF := fin_ret hF
                            obtain rfl := Option.some.inj hF
                            exact ret_gz [] [] [] rfl (argFl (by (conv => lhs; whnf); all_goals rfl)) trivial
                          · replace hL1 := cond_f hb_669 hL1
                            conv => whnf
                            refine ⟨_, rfl, ?_⟩
                            conv => whnf
                            exact ⟨(q_261, r_180.1.Window, r_180.1.L, r_13.2.L, r_13.2.At, i_239, (a_10.set r_13.1.toNat true), (w64 (i_12 + (1 : Int)))), [0, 1, 2], [], [], hL1, Nat.lt_succ_self _, wk_mk [0, 1, 2] [] [] rfl ⟨argE (by (conv => lhs; whnf); all_goals rfl) rfl, argE (by (conv => lhs; whnf); all_goals rfl) rfl, argP (id := 0) (by (conv => lhs; whnf); all_goals rfl) rfl, argP (id := 1) (by (conv => lhs; whnf); all_goals rfl) rfl, argE (by (conv => lhs; whnf); all_goals rfl) rfl, argP (id := 2) (by (conv => lhs; whnf); all_goals rfl) rfl, argE (by (conv => lhs; whnf); all_goals rfl) rfl, trivial⟩ ⟨boxL rfl rfl rfl ⟨(.ni _ rfl), (.ni _ rfl), trivial⟩, boxL rfl rfl rfl ⟨(.ni _ rfl), (.ni _ rfl), trivial⟩, blkR (fun _ => ⟨rfl, rfl⟩) rfl rfl, trivial⟩⟩
                        · replace hL1 := cond_f hb_668 hL1
                          conv => whnf
                          refine ⟨_, rfl, ?_⟩
                          conv => whnf
                          exact ⟨(q_261, r_180.1.Window, r_180.1.L, r_13.2.L, r_13.2.At, i_239, (a_10.set r_13.1.toNat true), (w64 (i_12 + (1 : Int)))), [0, 1, 2], [], [], hL1, Nat.lt_succ_self _, wk_mk [0, 1, 2] [] [] rfl ⟨argE (by (conv => lhs; whnf); all_goals rfl) rfl, argE (by (conv => lhs; whnf); all_goals rfl) rfl, argP (id := 0) (by (conv => lhs; whnf); all_goals rfl) rfl, argP (id := 1) (by (conv => lhs; whnf); all_goals rfl) rfl, argE (by (conv => lhs; whnf); all_goals rfl) rfl, argP (id := 2) (by (conv => lhs; whnf); all_goals rfl) rfl, argE (by (conv => lhs; whnf); all_goals rfl) rfl, trivial⟩ ⟨boxL rfl rfl rfl ⟨(.ni _ rfl), (.ni _ rfl), trivial⟩, boxL rfl rfl rfl ⟨(.ni _ rfl), (.ni _ rfl), trivial⟩, blkR (fun _ => ⟨rfl, rfl⟩) rfl rfl, trivial⟩⟩
                  · replace hL1 := cond_f hb_661 hL1
                    conv => whnf
                    obtain ⟨u_249, h_u_249, hL1⟩ := bind_some hL1
                    refine ixa_q 1 h_u_249 rfl (fun m_u_249 hm_u_249 => ?_)
                    conv => whnf
                    obtain ⟨v_250, h_v_250, hL1⟩ := bind_some hL1
                    refine st_q (enc := bA) (l := a_10) (x' := true) (i := r_13.1) (ixm1 hm_u_249) (ixL_at h_v_250 (ixm1 hm_u_249)) rfl (Nat.le_of_ble_eq_true rfl) rfl ?_
                    conv => whnf
                    obtain ⟨c_2, hc_2, hL1⟩ := sub_some hL1
                    refine sw_bv 16 (v := .lst 30 (r_180.2.1.map encMessage)) (by (conv => lhs; whnf); all_goals rfl) (fun hb => ?_)
                    have hbd_k_253 : r_180.2.1.length ≤ 9223372036854775807 := bnd_len (enc := encMessage) (hb)
                    refine sw_loop tab_ok follows_ok (fun y : Nat × Int => y.1 ≤ r_180.2.1.length ∧ law05_InboxOrder_L2 (r_180.2.1.drop y.1) y.1 y.2 = some c_2) (fun y => ⟨eL [(1, .int .i64 (w64 ((1 : Int) + r_2))), (7, .int .i64 (w64 ((1 : Int) + r_1))), (8, .ptr 0 0), (10, .ptr 1 0), (11, .int .i64 y.2), (12, .ptr 2 0), (13, .int .i64 i_12), (15, .ptr 3 0), (16, .lst 30 (r_180.2.1.map encMessage)), (19, .int .i64 (y.1 : Int))], hL [(0, .box [.int .i64 i_6, .lst 3 (a_7.map encSender)]), (1, .box [.lst 1 (r_13.2.L.map iA), .int .i64 r_13.2.At]), (2, .row 1 ((a_10.set r_13.1.toNat true).map bA)), (3, .box [.int .i64 r_180.1.Window, .lst 3 (r_180.1.L.map encSender)])], 4⟩) (fun y => r_180.2.1.length - y.1) (0, i_11) ⟨Nat.zero_le _, hc_2⟩ (wk_mk [0, 1, 2, 7] [] [] rfl ⟨argE (by (conv => lhs; whnf); all_goals rfl) rfl, argE (by (conv => lhs; whnf); all_goals rfl) rfl, argP (id := 0) (by (conv => lhs; whnf); all_goals rfl) rfl, argP (id := 1) (by (conv => lhs; whnf); all_goals rfl) rfl, argE (by (conv => lhs; whnf); all_goals rfl) rfl, argP (id := 2) (by (conv => lhs; whnf); all_goals rfl) rfl, argE (by (conv => lhs; whnf); all_goals rfl) rfl, argP (id := 7) (by (conv => lhs; whnf); all_goals rfl) rfl, argE (by (conv => lhs; whnf); all_goals rfl) rfl, argE (by (conv => lhs; whnf); all_goals rfl) rfl, trivial⟩ ⟨boxL rfl rfl rfl ⟨(.ni _ rfl), (.ni _ rfl), trivial⟩, boxL rfl rfl rfl ⟨(.ni _ rfl), (.ni _ rfl), trivial⟩, blkR (fun _ => ⟨rfl, rfl⟩) rfl rfl, boxL rfl rfl rfl ⟨(.ni _ rfl), (.ni _ rfl), trivial⟩, trivial⟩) ?_
                    rintro ⟨k_253, i_251⟩ ⟨hk_k_253, hL2⟩
                    try dsimp only at hk_k_253 hL2
                    show awp _ _ _ _ _ _ ⟨eL [(1, .int .i64 (w64 ((1 : Int) + r_2))), (7, .int .i64 (w64 ((1 : Int) + r_1))), (8, .ptr 0 0), (10, .ptr 1 0), (11, .int .i64 i_251), (12, .ptr 2 0), (13, .int .i64 i_12), (15, .ptr 3 0), (16, .lst 30 (r_180.2.1.map encMessage)), (19, .int .i64 (k_253 : Int))], hL [(0, .box [.int .i64 i_6, .lst 3 (a_7.map encSender)]), (1, .box [.lst 1 (r_13.2.L.map iA), .int .i64 r_13.2.At]), (2, .row 1 ((a_10.set r_13.1.toNat true).map bA)), (3, .box [.int .i64 r_180.1.Window, .lst 3 (r_180.1.L.map encSender)])], 4⟩
                    conv => whnf
                    refine len_q (enc := encMessage) (l := r_180.2.1) rfl ?_
                    conv => whnf
                    refine ⟨fun h => ?_, fun h => ?_⟩
                    · have hlt_k_253 : k_253 < r_180.2.1.length := by have h := of_decide_eq_true h; omega
                      obtain ⟨e_254, h_e_254⟩ : ∃ y, r_180.2.1[k_253]? = some y := ⟨_, List.getElem?_eq_getElem hlt_k_253⟩
                      rw [drop_cons h_e_254, law05_InboxOrder_L2.eq_2] at hL2
                      conv => whnf
                      refine ⟨k_253, _, rfl, ix_map h_e_254, ?_⟩
                      conv => whnf
                      obtain ⟨r_255, h_r_255, hL2⟩ := bind_some hL2
                      refine ⟨_, _, _, _, _, _, _, _, _, callX false [] [] 0 Try.func14 (by decide) rfl (law05_numbered_ac (⟨#[65, 82, 78]⟩ : ByteArray) i_251 r_255 h_r_255) rfl ⟨(argE (by (conv => lhs; whnf); all_goals rfl) rfl), (argE (by (conv => lhs; whnf); all_goals rfl) rfl), trivial⟩ rfl trivial rfl rfl rfl lend0 trivial rfl, ?_⟩
                      conv => whnf
                      obtain ⟨r_256, h_r_256, hL2⟩ := bind_some hL2
                      refine ⟨_, _, _, _, _, _, _, _, _, callX false [] [] 0 Try.func15 (by decide) rfl (ref04_Same_ac e_254 r_255 r_256 h_r_256) rfl ⟨(argE (by (conv => lhs; whnf); all_goals rfl) rfl), (argE (by (conv => lhs; whnf); all_goals rfl) rfl), trivial⟩ rfl trivial rfl rfl rfl lend0 trivial rfl, ?_⟩
                      conv => whnf
                      refine ⟨by kernel_rfl, ?_⟩
                      conv => whnf
                      refine ⟨fun hb_670 => ?_, fun hb_670 => ?_⟩
                      · replace hL2 := cond_t hb_670 hL2
                        conv => whnf
                        obtain rfl := Option.some.inj hL2
                        replace hL1 := sub_ret hL1
                        obtain rfl := Option.some.inj hL1
                        replace hF := fin_ret hF
                        obtain rfl := Option.some.inj hF
                        exact ret_gz [] [] [] rfl (argFl (by (conv => lhs; whnf); all_goals rfl)) trivial
                      · replace hL2 := cond_f hb_670 hL2
                        conv => whnf
                        refine ⟨_, rfl, ?_⟩
                        conv => whnf
                        refine ⟨((k_253 + 1 : Nat) : Int), wrapE (by omega) (by omega) (by omega), ?_⟩
                        conv => whnf
                        exact ⟨(k_253 + 1, (w64 (i_251 + (1 : Int)))), [0, 1, 2, 3], [], [], ⟨hlt_k_253, hL2⟩, by show r_180.2.1.length - (k_253 + 1) < r_180.2.1.length - k_253; omega, wk_mk [0, 1, 2, 3] [] [] rfl ⟨argE (by (conv => lhs; whnf); all_goals rfl) rfl, argE (by (conv => lhs; whnf); all_goals rfl) rfl, argP (id := 0) (by (conv => lhs; whnf); all_goals rfl) rfl, argP (id := 1) (by (conv => lhs; whnf); all_goals rfl) rfl, argE (by (conv => lhs; whnf); all_goals rfl) rfl, argP (id := 2) (by (conv => lhs; whnf); all_goals rfl) rfl, argE (by (conv => lhs; whnf); all_goals rfl) rfl, argP (id := 3) (by (conv => lhs; whnf); all_goals rfl) rfl, argE (by (conv => lhs; whnf); all_goals rfl) rfl, argE (by (conv => lhs; whnf); all_goals rfl) rfl, trivial⟩ ⟨boxL rfl rfl rfl ⟨(.ni _ rfl), (.ni _ rfl), trivial⟩, boxL rfl rfl rfl ⟨(.ni _ rfl), (.ni _ rfl), trivial⟩, blkR (fun _ => ⟨rfl, rfl⟩) rfl rfl, boxL rfl rfl rfl ⟨(.ni _ rfl), (.ni _ rfl), trivial⟩, trivial⟩⟩
                    · rw [drop_nil (show r_180.2.1.length ≤ k_253 by have h := of_decide_eq_false h; omega), law05_InboxOrder_L2.eq_1] at hL2
                      conv => whnf
                      obtain rfl := Option.some.inj hL2
                      replace hL1 := sub_brk hL1
                      try dsimp only at hL1
                      refine ⟨fun hb_671 => ?_, fun hb_671 => ?_⟩
                      · replace hL1 := cond_t hb_671 hL1
                        conv => whnf
                        obtain ⟨u_259, h_u_259, hL1⟩ := bind_some hL1
                        refine ixa_q 1 h_u_259 rfl (fun m_u_259 hm_u_259 => ?_)
                        conv => whnf
                        obtain ⟨v_260, h_v_260, hL1⟩ := bind_some hL1
                        refine ⟨_, ix_map (enc := bA) (ixL_at h_v_260 (ixm1 hm_u_259)), ?_⟩
                        conv => whnf
                        refine ⟨fun hb_672 => ?_, fun hb_672 => ?_⟩
                        · replace hL1 := cond_t hb_672 hL1
                          conv => whnf
                          obtain rfl := Option.some.inj hL1
                          replace hF := fin_ret hF
                          obtain rfl := Option.some.inj hF
                          exact ret_gz [] [] [] rfl (argFl (by (conv => lhs; whnf); all_goals rfl)) trivial
                        · replace hL1 := cond_f hb_672 hL1
                          conv => whnf
                          refine ⟨_, rfl, ?_⟩
                          conv => whnf
                          exact ⟨(q_261, r_180.1.Window, r_180.1.L, r_13.2.L, r_13.2.At, i_251, (a_10.set r_13.1.toNat true), (w64 (i_12 + (1 : Int)))), [0, 1, 2], [], [], hL1, Nat.lt_succ_self _, wk_mk [0, 1, 2] [] [] rfl ⟨argE (by (conv => lhs; whnf); all_goals rfl) rfl, argE (by (conv => lhs; whnf); all_goals rfl) rfl, argP (id := 0) (by (conv => lhs; whnf); all_goals rfl) rfl, argP (id := 1) (by (conv => lhs; whnf); all_goals rfl) rfl, argE (by (conv => lhs; whnf); all_goals rfl) rfl, argP (id := 2) (by (conv => lhs; whnf); all_goals rfl) rfl, argE (by (conv => lhs; whnf); all_goals rfl) rfl, trivial⟩ ⟨boxL rfl rfl rfl ⟨(.ni _ rfl), (.ni _ rfl), trivial⟩, boxL rfl rfl rfl ⟨(.ni _ rfl), (.ni _ rfl), trivial⟩, blkR (fun _ => ⟨rfl, rfl⟩) rfl rfl, trivial⟩⟩
                      · replace hL1 := cond_f hb_671 hL1
                        conv => whnf
                        refine ⟨_, rfl, ?_⟩
                        conv => whnf
                        exact ⟨(q_261, r_180.1.Window, r_180.1.L, r_13.2.L, r_13.2.At, i_251, (a_10.set r_13.1.toNat true), (w64 (i_12 + (1 : Int)))), [0, 1, 2], [], [], hL1, Nat.lt_succ_self _, wk_mk [0, 1, 2] [] [] rfl ⟨argE (by (conv => lhs; whnf); all_goals rfl) rfl, argE (by (conv => lhs; whnf); all_goals rfl) rfl, argP (id := 0) (by (conv => lhs; whnf); all_goals rfl) rfl, argP (id := 1) (by (conv => lhs; whnf); all_goals rfl) rfl, argE (by (conv => lhs; whnf); all_goals rfl) rfl, argP (id := 2) (by (conv => lhs; whnf); all_goals rfl) rfl, argE (by (conv => lhs; whnf); all_goals rfl) rfl, trivial⟩ ⟨boxL rfl rfl rfl ⟨(.ni _ rfl), (.ni _ rfl), trivial⟩, boxL rfl rfl rfl ⟨(.ni _ rfl), (.ni _ rfl), trivial⟩, blkR (fun _ => ⟨rfl, rfl⟩) rfl rfl, trivial⟩⟩
              · replace hL1 := cond_t hb_646 hL1
                conv => whnf
                obtain rfl := Option.some.inj hL1
                replace hF := fin_ret hF
                obtain rfl := Option.some.inj hF
                exact ret_gz [] [] [] rfl (argFl (by (conv => lhs; whnf); all_goals rfl)) trivial
        · replace hL1 := cond_t hb_587 hL1
          conv => whnf
          obtain ⟨r_14, h_r_14, hL1⟩ := bind_some hL1
          refine ⟨_, _, _, _, _, _, _, _, _, callX false [] [] 0 Try.func14 (by decide) rfl (law05_numbered_ac (⟨#[65, 82, 78]⟩ : ByteArray) i_11 r_14 h_r_14) rfl ⟨(argE (by (conv => lhs; whnf); all_goals rfl) rfl), (argE (by (conv => lhs; whnf); all_goals rfl) rfl), trivial⟩ rfl trivial rfl rfl rfl lend0 trivial rfl, ?_⟩
          conv => whnf
          obtain ⟨r_15, h_r_15, hL1⟩ := bind_some hL1
          refine ⟨_, _, _, _, _, _, _, _, _, callX false [] [] 0 Try.func13 (by decide) rfl (inbox_Receive_ac (⟨i_6, a_7⟩ : Inbox) r_14 r_15 h_r_15) rfl ⟨(argE (by (conv => lhs; whnf); all_goals rfl) rfl), (argE (by (conv => lhs; whnf); all_goals rfl) rfl), trivial⟩ rfl trivial rfl rfl rfl lend0 trivial rfl, ?_⟩
          conv => whnf
          refine ⟨by kernel_rfl, ?_⟩
          conv => whnf
          refine ⟨fun hb_588 => ?_, fun hb_588 => ?_⟩
          · replace hL1 := cond_t hb_588 hL1
            conv => whnf
            obtain rfl := Option.some.inj hL1
            replace hF := fin_ret hF
            obtain rfl := Option.some.inj hF
            exact ret_gz [] [] [] rfl (argFl (by (conv => lhs; whnf); all_goals rfl)) trivial
          · replace hL1 := cond_f hb_588 hL1
            conv => whnf
            obtain ⟨u_16, h_u_16, hL1⟩ := bind_some hL1
            refine ixa_q 1 h_u_16 rfl (fun m_u_16 hm_u_16 => ?_)
            conv => whnf
            obtain ⟨v_17, h_v_17, hL1⟩ := bind_some hL1
            refine ⟨_, ix_map (enc := bA) (ixL_at h_v_17 (ixm1 hm_u_16)), ?_⟩
            conv => whnf
            refine ⟨fun hb_589 => ?_, fun hb_589 => ?_⟩
            · replace hL1 := cond_f hb_589 hL1
              conv => whnf
              obtain ⟨u_18, h_u_18, hL1⟩ := bind_some hL1
              refine ixa_q 1 h_u_18 rfl (fun m_u_18 hm_u_18 => ?_)
              conv => whnf
              obtain ⟨v_19, h_v_19, hL1⟩ := bind_some hL1
              refine ⟨_, ix_map (enc := bA) (ixL_at h_v_19 (ixm1 hm_u_18)), ?_⟩
              conv => whnf
              refine ⟨fun hb_590 => ?_, fun hb_590 => ?_⟩
              · replace hL1 := cond_t hb_590 hL1
                conv => whnf
                refine ⟨fun hb_591 => ?_, fun hb_591 => ?_⟩
                · replace hL1 := cond_f hb_591 hL1
                  conv => whnf
                  obtain ⟨u_20, h_u_20, hL1⟩ := bind_some hL1
                  refine ixa_q 1 h_u_20 rfl (fun m_u_20 hm_u_20 => ?_)
                  conv => whnf
                  obtain ⟨v_21, h_v_21, hL1⟩ := bind_some hL1
                  refine ⟨_, ix_map (enc := bA) (ixL_at h_v_21 (ixm1 hm_u_20)), ?_⟩
                  conv => whnf
                  refine ⟨fun hb_592 => ?_, fun hb_592 => ?_⟩
                  · replace hL1 := cond_t hb_592 hL1
                    conv => whnf
                    refine ⟨fun hb_593 => ?_, fun hb_593 => ?_⟩
                    · replace hL1 := cond_t hb_593 hL1
                      conv => whnf
                      refine ⟨fun hb_594 => ?_, fun hb_594 => ?_⟩
                      · replace hL1 := cond_t hb_594 hL1
                        conv => whnf
                        obtain rfl := Option.some.inj hL1
                        replace hF := fin_ret hF
                        obtain rfl := Option.some.inj hF
                        exact ret_gz [] [] [] rfl (argFl (by (conv => lhs; whnf); all_goals rfl)) trivial
                      · replace hL1 := cond_f hb_594 hL1
                        conv => whnf
                        obtain ⟨u_22, h_u_22, hL1⟩ := bind_some hL1
                        refine ixa_q 1 h_u_22 rfl (fun m_u_22 hm_u_22 => ?_)
                        conv => whnf
                        obtain ⟨v_23, h_v_23, hL1⟩ := bind_some hL1
                        refine st_q (enc := bA) (l := a_10) (x' := true) (i := i_11) (ixm1 hm_u_22) (ixL_at h_v_23 (ixm1 hm_u_22)) rfl (Nat.le_of_ble_eq_true rfl) rfl ?_
                        conv => whnf
                        obtain ⟨c_2, hc_2, hL1⟩ := sub_some hL1
                        refine sw_bv 16 (v := .lst 30 (r_15.2.1.map encMessage)) (by (conv => lhs; whnf); all_goals rfl) (fun hb => ?_)
                        have hbd_k_26 : r_15.2.1.length ≤ 9223372036854775807 := bnd_len (enc := encMessage) (hb)
                        refine sw_loop tab_ok follows_ok (fun y : Nat × Int => y.1 ≤ r_15.2.1.length ∧ law05_InboxOrder_L2 (r_15.2.1.drop y.1) y.1 y.2 = some c_2) (fun y => ⟨eL [(1, .int .i64 (w64 ((1 : Int) + r_2))), (7, .int .i64 (w64 ((1 : Int) + r_1))), (8, .ptr 0 0), (10, .ptr 1 0), (11, .int .i64 y.2), (12, .ptr 2 0), (13, .int .i64 i_12), (15, .ptr 3 0), (16, .lst 30 (r_15.2.1.map encMessage)), (19, .int .i64 (y.1 : Int))], hL [(0, .box [.int .i64 i_6, .lst 3 (a_7.map encSender)]), (1, .box [.lst 1 (r_13.2.L.map iA), .int .i64 r_13.2.At]), (2, .row 1 ((a_10.set i_11.toNat true).map bA)), (3, .box [.int .i64 r_15.1.Window, .lst 3 (r_15.1.L.map encSender)])], 4⟩) (fun y => r_15.2.1.length - y.1) (0, i_11) ⟨Nat.zero_le _, hc_2⟩ (wk_mk [0, 1, 2, 6] [] [] rfl ⟨argE (by (conv => lhs; whnf); all_goals rfl) rfl, argE (by (conv => lhs; whnf); all_goals rfl) rfl, argP (id := 0) (by (conv => lhs; whnf); all_goals rfl) rfl, argP (id := 1) (by (conv => lhs; whnf); all_goals rfl) rfl, argE (by (conv => lhs; whnf); all_goals rfl) rfl, argP (id := 2) (by (conv => lhs; whnf); all_goals rfl) rfl, argE (by (conv => lhs; whnf); all_goals rfl) rfl, argP (id := 6) (by (conv => lhs; whnf); all_goals rfl) rfl, argE (by (conv => lhs; whnf); all_goals rfl) rfl, argE (by (conv => lhs; whnf); all_goals rfl) rfl, trivial⟩ ⟨boxL rfl rfl rfl ⟨(.ni _ rfl), (.ni _ rfl), trivial⟩, boxL rfl rfl rfl ⟨(.ni _ rfl), (.ni _ rfl), trivial⟩, blkR (fun _ => ⟨rfl, rfl⟩) rfl rfl, boxL rfl rfl rfl ⟨(.ni _ rfl), (.ni _ rfl), trivial⟩, trivial⟩) ?_
                        rintro ⟨k_26, i_24⟩ ⟨hk_k_26, hL2⟩
                        try dsimp only at hk_k_26 hL2
                        show awp _ _ _ _ _ _ ⟨eL [(1, .int .i64 (w64 ((1 : Int) + r_2))), (7, .int .i64 (w64 ((1 : Int) + r_1))), (8, .ptr 0 0), (10, .ptr 1 0), (11, .int .i64 i_24), (12, .ptr 2 0), (13, .int .i64 i_12), (15, .ptr 3 0), (16, .lst 30 (r_15.2.1.map encMessage)), (19, .int .i64 (k_26 : Int))], hL [(0, .box [.int .i64 i_6, .lst 3 (a_7.map encSender)]), (1, .box [.lst 1 (r_13.2.L.map iA), .int .i64 r_13.2.At]), (2, .row 1 ((a_10.set i_11.toNat true).map bA)), (3, .box [.int .i64 r_15.1.Window, .lst 3 (r_15.1.L.map encSender)])], 4⟩
                        conv => whnf
                        refine len_q (enc := encMessage) (l := r_15.2.1) rfl ?_
                        conv => whnf
                        refine ⟨fun h => ?_, fun h => ?_⟩
                        · have hlt_k_26 : k_26 < r_15.2.1.length := by have h := of_decide_eq_true h; omega
                          obtain ⟨e_27, h_e_27⟩ : ∃ y, r_15.2.1[k_26]? = some y := ⟨_, List.getElem?_eq_getElem hlt_k_26⟩
                          rw [drop_cons h_e_27, law05_InboxOrder_L2.eq_2] at hL2
                          conv => whnf
                          refine ⟨k_26, _, rfl, ix_map h_e_27, ?_⟩
                          conv => whnf
                          obtain ⟨r_28, h_r_28, hL2⟩ := bind_some hL2
                          refine ⟨_, _, _, _, _, _, _, _, _, callX false [] [] 0 Try.func14 (by decide) rfl (law05_numbered_ac (⟨#[65, 82, 78]⟩ : ByteArray) i_24 r_28 h_r_28) rfl ⟨(argE (by (conv => lhs; whnf); all_goals rfl) rfl), (argE (by (conv => lhs; whnf); all_goals rfl) rfl), trivial⟩ rfl trivial rfl rfl rfl lend0 trivial rfl, ?_⟩
                          conv => whnf
                          obtain ⟨r_29, h_r_29, hL2⟩ := bind_some hL2
                          refine ⟨_, _, _, _, _, _, _, _, _, callX false [] [] 0 Try.func15 (by decide) rfl (ref04_Same_ac e_27 r_28 r_29 h_r_29) rfl ⟨(argE (by (conv => lhs; whnf); all_goals rfl) rfl), (argE (by (conv => lhs; whnf); all_goals rfl) rfl), trivial⟩ rfl trivial rfl rfl rfl lend0 trivial rfl, ?_⟩
                          conv => whnf
                          refine ⟨by kernel_rfl, ?_⟩
                          conv => whnf
                          refine ⟨fun hb_595 => ?_, fun hb_595 => ?_⟩
                          · replace hL2 := cond_t hb_595 hL2
                            conv => whnf
                            obtain rfl := Option.some.inj hL2
                            replace hL1 := sub_ret hL1
                            obtain rfl := Option.some.inj hL1
                            replace hF := fin_ret hF
                            obtain rfl := Option.some.inj hF
                            exact ret_gz [] [] [] rfl (argFl (by (conv => lhs; whnf); all_goals rfl)) trivial
                          · replace hL2 := cond_f hb_595 hL2
                            conv => whnf
                            refine ⟨_, rfl, ?_⟩
                            conv => whnf
                            refine ⟨((k_26 + 1 : Nat) : Int), wrapE (by omega) (by omega) (by omega), ?_⟩
                            conv => whnf
                            exact ⟨(k_26 + 1, (w64 (i_24 + (1 : Int)))), [0, 1, 2, 3], [], [], ⟨hlt_k_26, hL2⟩, by show r_15.2.1.length - (k_26 + 1) < r_15.2.1.length - k_26; omega, wk_mk [0, 1, 2, 3] [] [] rfl ⟨argE (by (conv => lhs; whnf); all_goals rfl) rfl, argE (by (conv => lhs; whnf); all_goals rfl) rfl, argP (id := 0) (by (conv => lhs; whnf); all_goals rfl) rfl, argP (id := 1) (by (conv => lhs; whnf); all_goals rfl) rfl, argE (by (conv => lhs; whnf); all_goals rfl) rfl, argP (id := 2) (by (conv => lhs; whnf); all_goals rfl) rfl, argE (by (conv => lhs; whnf); all_goals rfl) rfl, argP (id := 3) (by (conv => lhs; whnf); all_goals rfl) rfl, argE (by (conv => lhs; whnf); all_goals rfl) rfl, argE (by (conv => lhs; whnf); all_goals rfl) rfl, trivial⟩ ⟨boxL rfl rfl rfl ⟨(.ni _ rfl), (.ni _ rfl), trivial⟩, boxL rfl rfl rfl ⟨(.ni _ rfl), (.ni _ rfl), trivial⟩, blkR (fun _ => ⟨rfl, rfl⟩) rfl rfl, boxL rfl rfl rfl ⟨(.ni _ rfl), (.ni _ rfl), trivial⟩, trivial⟩⟩
                        · rw [drop_nil (show r_15.2.1.length ≤ k_26 by have h := of_decide_eq_false h; omega), law05_InboxOrder_L2.eq_1] at hL2
                          conv => whnf
                          obtain rfl := Option.some.inj hL2
                          replace hL1 := sub_brk hL1
                          try dsimp only at hL1
                          refine ⟨fun hb_596 => ?_, fun hb_596 => ?_⟩
                          · replace hL1 := cond_t hb_596 hL1
                            conv => whnf
                            obtain ⟨u_32, h_u_32, hL1⟩ := bind_some hL1
                            refine ixa_q 1 h_u_32 rfl (fun m_u_32 hm_u_32 => ?_)
                            conv => whnf
                            obtain ⟨v_33, h_v_33, hL1⟩ := bind_some hL1
                            refine ⟨_, ix_map (enc := bA) (ixL_at h_v_33 (ixm1 hm_u_32)), ?_⟩
                            conv => whnf
                            refine ⟨fun hb_597 => ?_, fun hb_597 => ?_⟩
                            · replace hL1 := cond_t hb_597 hL1
                              conv => whnf
                              obtain rfl := Option.some.inj hL1
                              replace hF := fin_ret hF
                              obtain rfl := Option.some.inj hF
                              exact ret_gz [] [] [] rfl (argFl (by (conv => lhs; whnf); all_goals rfl)) trivial
                            · replace hL1 := cond_f hb_597 hL1
                              conv => whnf
                              refine ⟨_, rfl, ?_⟩
                              conv => whnf
                              exact ⟨(q_261, r_15.1.Window, r_15.1.L, r_13.2.L, r_13.2.At, i_24, (a_10.set i_11.toNat true), (w64 (i_12 + (1 : Int)))), [0, 1, 2], [], [], hL1, Nat.lt_succ_self _, wk_mk [0, 1, 2] [] [] rfl ⟨argE (by (conv => lhs; whnf); all_goals rfl) rfl, argE (by (conv => lhs; whnf); all_goals rfl) rfl, argP (id := 0) (by (conv => lhs; whnf); all_goals rfl) rfl, argP (id := 1) (by (conv => lhs; whnf); all_goals rfl) rfl, argE (by (conv => lhs; whnf); all_goals rfl) rfl, argP (id := 2) (by (conv => lhs; whnf); all_goals rfl) rfl, argE (by (conv => lhs; whnf); all_goals rfl) rfl, trivial⟩ ⟨boxL rfl rfl rfl ⟨(.ni _ rfl), (.ni _ rfl), trivial⟩, boxL rfl rfl rfl ⟨(.ni _ rfl), (.ni _ rfl), trivial⟩, blkR (fun _ => ⟨rfl, rfl⟩) rfl rfl, trivial⟩⟩
                          · replace hL1 := cond_f hb_596 hL1
                            conv => whnf
                            refine ⟨_, rfl, ?_⟩
                            conv => whnf
                            exact ⟨(q_261, r_15.1.Window, r_15.1.L, r_13.2.L, r_13.2.At, i_24, (a_10.set i_11.toNat true), (w64 (i_12 + (1 : Int)))), [0, 1, 2], [], [], hL1, Nat.lt_succ_self _, wk_mk [0, 1, 2] [] [] rfl ⟨argE (by (conv => lhs; whnf); all_goals rfl) rfl, argE (by (conv => lhs; whnf); all_goals rfl) rfl, argP (id := 0) (by (conv => lhs; whnf); all_goals rfl) rfl, argP (id := 1) (by (conv => lhs; whnf); all_goals rfl) rfl, argE (by (conv => lhs; whnf); all_goals rfl) rfl, argP (id := 2) (by (conv => lhs; whnf); all_goals rfl) rfl, argE (by (conv => lhs; whnf); all_goals rfl) rfl, trivial⟩ ⟨boxL rfl rfl rfl ⟨(.ni _ rfl), (.ni _ rfl), trivial⟩, boxL rfl rfl rfl ⟨(.ni _ rfl), (.ni _ rfl), trivial⟩, blkR (fun _ => ⟨rfl, rfl⟩) rfl rfl, trivial⟩⟩
                    · replace hL1 := cond_f hb_593 hL1
                      conv => whnf
                      obtain ⟨u_34, h_u_34, hL1⟩ := bind_some hL1
                      refine ixa_q 1 h_u_34 rfl (fun m_u_34 hm_u_34 => ?_)
                      conv => whnf
                      obtain ⟨v_35, h_v_35, hL1⟩ := bind_some hL1
                      refine st_q (enc := bA) (l := a_10) (x' := true) (i := i_11) (ixm1 hm_u_34) (ixL_at h_v_35 (ixm1 hm_u_34)) rfl (Nat.le_of_ble_eq_true rfl) rfl ?_
                      conv => whnf
                      obtain ⟨c_2, hc_2, hL1⟩ := sub_some hL1
                      refine sw_bv 16 (v := .lst 30 (r_15.2.1.map encMessage)) (by (conv => lhs; whnf); all_goals rfl) (fun hb => ?_)
                      have hbd_k_38 : r_15.2.1.length ≤ 9223372036854775807 := bnd_len (enc := encMessage) (hb)
                      refine sw_loop tab_ok follows_ok (fun y : Nat × Int => y.1 ≤ r_15.2.1.length ∧ law05_InboxOrder_L2 (r_15.2.1.drop y.1) y.1 y.2 = some c_2) (fun y => ⟨eL [(1, .int .i64 (w64 ((1 : Int) + r_2))), (7, .int .i64 (w64 ((1 : Int) + r_1))), (8, .ptr 0 0), (10, .ptr 1 0), (11, .int .i64 y.2), (12, .ptr 2 0), (13, .int .i64 i_12), (15, .ptr 3 0), (16, .lst 30 (r_15.2.1.map encMessage)), (19, .int .i64 (y.1 : Int))], hL [(0, .box [.int .i64 i_6, .lst 3 (a_7.map encSender)]), (1, .box [.lst 1 (r_13.2.L.map iA), .int .i64 r_13.2.At]), (2, .row 1 ((a_10.set i_11.toNat true).map bA)), (3, .box [.int .i64 r_15.1.Window, .lst 3 (r_15.1.L.map encSender)])], 4⟩) (fun y => r_15.2.1.length - y.1) (0, i_11) ⟨Nat.zero_le _, hc_2⟩ (wk_mk [0, 1, 2, 6] [] [] rfl ⟨argE (by (conv => lhs; whnf); all_goals rfl) rfl, argE (by (conv => lhs; whnf); all_goals rfl) rfl, argP (id := 0) (by (conv => lhs; whnf); all_goals rfl) rfl, argP (id := 1) (by (conv => lhs; whnf); all_goals rfl) rfl, argE (by (conv => lhs; whnf); all_goals rfl) rfl, argP (id := 2) (by (conv => lhs; whnf); all_goals rfl) rfl, argE (by (conv => lhs; whnf); all_goals rfl) rfl, argP (id := 6) (by (conv => lhs; whnf); all_goals rfl) rfl, argE (by (conv => lhs; whnf); all_goals rfl) rfl, argE (by (conv => lhs; whnf); all_goals rfl) rfl, trivial⟩ ⟨boxL rfl rfl rfl ⟨(.ni _ rfl), (.ni _ rfl), trivial⟩, boxL rfl rfl rfl ⟨(.ni _ rfl), (.ni _ rfl), trivial⟩, blkR (fun _ => ⟨rfl, rfl⟩) rfl rfl, boxL rfl rfl rfl ⟨(.ni _ rfl), (.ni _ rfl), trivial⟩, trivial⟩) ?_
                      rintro ⟨k_38, i_36⟩ ⟨hk_k_38, hL2⟩
                      try dsimp only at hk_k_38 hL2
                      show awp _ _ _ _ _ _ ⟨eL [(1, .int .i64 (w64 ((1 : Int) + r_2))), (7, .int .i64 (w64 ((1 : Int) + r_1))), (8, .ptr 0 0), (10, .ptr 1 0), (11, .int .i64 i_36), (12, .ptr 2 0), (13, .int .i64 i_12), (15, .ptr 3 0), (16, .lst 30 (r_15.2.1.map encMessage)), (19, .int .i64 (k_38 : Int))], hL [(0, .box [.int .i64 i_6, .lst 3 (a_7.map encSender)]), (1, .box [.lst 1 (r_13.2.L.map iA), .int .i64 r_13.2.At]), (2, .row 1 ((a_10.set i_11.toNat true).map bA)), (3, .box [.int .i64 r_15.1.Window, .lst 3 (r_15.1.L.map encSender)])], 4⟩
                      conv => whnf
                      refine len_q (enc := encMessage) (l := r_15.2.1) rfl ?_
                      conv => whnf
                      refine ⟨fun h => ?_, fun h => ?_⟩
                      · have hlt_k_38 : k_38 < r_15.2.1.length := by have h := of_decide_eq_true h; omega
                        obtain ⟨e_39, h_e_39⟩ : ∃ y, r_15.2.1[k_38]? = some y := ⟨_, List.getElem?_eq_getElem hlt_k_38⟩
                        rw [drop_cons h_e_39, law05_InboxOrder_L2.eq_2] at hL2
                        conv => whnf
                        refine ⟨k_38, _, rfl, ix_map h_e_39, ?_⟩
                        conv => whnf
                        obtain ⟨r_40, h_r_40, hL2⟩ := bind_some hL2
                        refine ⟨_, _, _, _, _, _, _, _, _, callX false [] [] 0 Try.func14 (by decide) rfl (law05_numbered_ac (⟨#[65, 82, 78]⟩ : ByteArray) i_36 r_40 h_r_40) rfl ⟨(argE (by (conv => lhs; whnf); all_goals rfl) rfl), (argE (by (conv => lhs; whnf); all_goals rfl) rfl), trivial⟩ rfl trivial rfl rfl rfl lend0 trivial rfl, ?_⟩
                        conv => whnf
                        obtain ⟨r_41, h_r_41, hL2⟩ := bind_some hL2
                        refine ⟨_, _, _, _, _, _, _, _, _, callX false [] [] 0 Try.func15 (by decide) rfl (ref04_Same_ac e_39 r_40 r_41 h_r_41) rfl ⟨(argE (by (conv => lhs; whnf); all_goals rfl) rfl), (argE (by (conv => lhs; whnf); all_goals rfl) rfl), trivial⟩ rfl trivial rfl rfl rfl lend0 trivial rfl, ?_⟩
                        conv => whnf
                        refine ⟨by kernel_rfl, ?_⟩
                        conv => whnf
                        refine ⟨fun hb_598 => ?_, fun hb_598 => ?_⟩
                        · replace hL2 := cond_t hb_598 hL2
                          conv => whnf
                          obtain rfl := Option.some.inj hL2
                          replace hL1 := sub_ret hL1
                          obtain rfl := Option.some.inj hL1
                          replace hF := fin_ret hF
                          obtain rfl := Option.some.inj hF
                          exact ret_gz [] [] [] rfl (argFl (by (conv => lhs; whnf); all_goals rfl)) trivial
                        · replace hL2 := cond_f hb_598 hL2
                          conv => whnf
                          refine ⟨_, rfl, ?_⟩
                          conv => whnf
                          refine ⟨((k_38 + 1 : Nat) : Int), wrapE (by omega) (by omega) (by omega), ?_⟩
                          conv => whnf
                          exact ⟨(k_38 + 1, (w64 (i_36 + (1 : Int)))), [0, 1, 2, 3], [], [], ⟨hlt_k_38, hL2⟩, by show r_15.2.1.length - (k_38 + 1) < r_15.2.1.length - k_38; omega, wk_mk [0, 1, 2, 3] [] [] rfl ⟨argE (by (conv => lhs; whnf); all_goals rfl) rfl, argE (by (conv => lhs; whnf); all_goals rfl) rfl, argP (id := 0) (by (conv => lhs; whnf); all_goals rfl) rfl, argP (id := 1) (by (conv => lhs; whnf); all_goals rfl) rfl, argE (by (conv => lhs; whnf); all_goals rfl) rfl, argP (id := 2) (by (conv => lhs; whnf); all_goals rfl) rfl, argE (by (conv => lhs; whnf); all_goals rfl) rfl, argP (id := 3) (by (conv => lhs; whnf); all_goals rfl) rfl, argE (by (conv => lhs; whnf); all_goals rfl) rfl, argE (by (conv => lhs; whnf); all_goals rfl) rfl, trivial⟩ ⟨boxL rfl rfl rfl ⟨(.ni _ rfl), (.ni _ rfl), trivial⟩, boxL rfl rfl rfl ⟨(.ni _ rfl), (.ni _ rfl), trivial⟩, blkR (fun _ => ⟨rfl, rfl⟩) rfl rfl, boxL rfl rfl rfl ⟨(.ni _ rfl), (.ni _ rfl), trivial⟩, trivial⟩⟩
                      · rw [drop_nil (show r_15.2.1.length ≤ k_38 by have h := of_decide_eq_false h; omega), law05_InboxOrder_L2.eq_1] at hL2
                        conv => whnf
                        obtain rfl := Option.some.inj hL2
                        replace hL1 := sub_brk hL1
                        try dsimp only at hL1
                        refine ⟨fun hb_599 => ?_, fun hb_599 => ?_⟩
                        · replace hL1 := cond_t hb_599 hL1
                          conv => whnf
                          obtain ⟨u_44, h_u_44, hL1⟩ := bind_some hL1
                          refine ixa_q 1 h_u_44 rfl (fun m_u_44 hm_u_44 => ?_)
                          conv => whnf
                          obtain ⟨v_45, h_v_45, hL1⟩ := bind_some hL1
                          refine ⟨_, ix_map (enc := bA) (ixL_at h_v_45 (ixm1 hm_u_44)), ?_⟩
                          conv => whnf
                          refine ⟨fun hb_600 => ?_, fun hb_600 => ?_⟩
                          · replace hL1 := cond_t hb_600 hL1
                            conv => whnf
                            obtain rfl := Option.some.inj hL1
                            replace hF := fin_ret hF
                            obtain rfl := Option.some.inj hF
                            exact ret_gz [] [] [] rfl (argFl (by (conv => lhs; whnf); all_goals rfl)) trivial
                          · replace hL1 := cond_f hb_600 hL1
                            conv => whnf
                            refine ⟨_, rfl, ?_⟩
                            conv => whnf
                            exact ⟨(q_261, r_15.1.Window, r_15.1.L, r_13.2.L, r_13.2.At, i_36, (a_10.set i_11.toNat true), (w64 (i_12 + (1 : Int)))), [0, 1, 2], [], [], hL1, Nat.lt_succ_self _, wk_mk [0, 1, 2] [] [] rfl ⟨argE (by (conv => lhs; whnf); all_goals rfl) rfl, argE (by (conv => lhs; whnf); all_goals rfl) rfl, argP (id := 0) (by (conv => lhs; whnf); all_goals rfl) rfl, argP (id := 1) (by (conv => lhs; whnf); all_goals rfl) rfl, argE (by (conv => lhs; whnf); all_goals rfl) rfl, argP (id := 2) (by (conv => lhs; whnf); all_goals rfl) rfl, argE (by (conv => lhs; whnf); all_goals rfl) rfl, trivial⟩ ⟨boxL rfl rfl rfl ⟨(.ni _ rfl), (.ni _ rfl), trivial⟩, boxL rfl rfl rfl ⟨(.ni _ rfl), (.ni _ rfl), trivial⟩, blkR (fun _ => ⟨rfl, rfl⟩) rfl rfl, trivial⟩⟩
                        · replace hL1 := cond_f hb_599 hL1
                          conv => whnf
                          refine ⟨_, rfl, ?_⟩
                          conv => whnf
                          exact ⟨(q_261, r_15.1.Window, r_15.1.L, r_13.2.L, r_13.2.At, i_36, (a_10.set i_11.toNat true), (w64 (i_12 + (1 : Int)))), [0, 1, 2], [], [], hL1, Nat.lt_succ_self _, wk_mk [0, 1, 2] [] [] rfl ⟨argE (by (conv => lhs; whnf); all_goals rfl) rfl, argE (by (conv => lhs; whnf); all_goals rfl) rfl, argP (id := 0) (by (conv => lhs; whnf); all_goals rfl) rfl, argP (id := 1) (by (conv => lhs; whnf); all_goals rfl) rfl, argE (by (conv => lhs; whnf); all_goals rfl) rfl, argP (id := 2) (by (conv => lhs; whnf); all_goals rfl) rfl, argE (by (conv => lhs; whnf); all_goals rfl) rfl, trivial⟩ ⟨boxL rfl rfl rfl ⟨(.ni _ rfl), (.ni _ rfl), trivial⟩, boxL rfl rfl rfl ⟨(.ni _ rfl), (.ni _ rfl), trivial⟩, blkR (fun _ => ⟨rfl, rfl⟩) rfl rfl, trivial⟩⟩
                  · replace hL1 := cond_f hb_592 hL1
                    conv => whnf
                    obtain ⟨u_46, h_u_46, hL1⟩ := bind_some hL1
                    refine ixa_q 1 h_u_46 rfl (fun m_u_46 hm_u_46 => ?_)
                    conv => whnf
                    obtain ⟨v_47, h_v_47, hL1⟩ := bind_some hL1
                    refine st_q (enc := bA) (l := a_10) (x' := true) (i := i_11) (ixm1 hm_u_46) (ixL_at h_v_47 (ixm1 hm_u_46)) rfl (Nat.le_of_ble_eq_true rfl) rfl ?_
                    conv => whnf
                    obtain ⟨c_2, hc_2, hL1⟩ := sub_some hL1
                    refine sw_bv 16 (v := .lst 30 (r_15.2.1.map encMessage)) (by (conv => lhs; whnf); all_goals rfl) (fun hb => ?_)
                    have hbd_k_50 : r_15.2.1.length ≤ 9223372036854775807 := bnd_len (enc := encMessage) (hb)
                    refine sw_loop tab_ok follows_ok (fun y : Nat × Int => y.1 ≤ r_15.2.1.length ∧ law05_InboxOrder_L2 (r_15.2.1.drop y.1) y.1 y.2 = some c_2) (fun y => ⟨eL [(1, .int .i64 (w64 ((1 : Int) + r_2))), (7, .int .i64 (w64 ((1 : Int) + r_1))), (8, .ptr 0 0), (10, .ptr 1 0), (11, .int .i64 y.2), (12, .ptr 2 0), (13, .int .i64 i_12), (15, .ptr 3 0), (16, .lst 30 (r_15.2.1.map encMessage)), (19, .int .i64 (y.1 : Int))], hL [(0, .box [.int .i64 i_6, .lst 3 (a_7.map encSender)]), (1, .box [.lst 1 (r_13.2.L.map iA), .int .i64 r_13.2.At]), (2, .row 1 ((a_10.set i_11.toNat true).map bA)), (3, .box [.int .i64 r_15.1.Window, .lst 3 (r_15.1.L.map encSender)])], 4⟩) (fun y => r_15.2.1.length - y.1) (0, i_11) ⟨Nat.zero_le _, hc_2⟩ (wk_mk [0, 1, 2, 6] [] [] rfl ⟨argE (by (conv => lhs; whnf); all_goals rfl) rfl, argE (by (conv => lhs; whnf); all_goals rfl) rfl, argP (id := 0) (by (conv => lhs; whnf); all_goals rfl) rfl, argP (id := 1) (by (conv => lhs; whnf); all_goals rfl) rfl, argE (by (conv => lhs; whnf); all_goals rfl) rfl, argP (id := 2) (by (conv => lhs; whnf); all_goals rfl) rfl, argE (by (conv => lhs; whnf); all_goals rfl) rfl, argP (id := 6) (by (conv => lhs; whnf); all_goals rfl) rfl, argE (by (conv => lhs; whnf); all_goals rfl) rfl, argE (by (conv => lhs; whnf); all_goals rfl) rfl, trivial⟩ ⟨boxL rfl rfl rfl ⟨(.ni _ rfl), (.ni _ rfl), trivial⟩, boxL rfl rfl rfl ⟨(.ni _ rfl), (.ni _ rfl), trivial⟩, blkR (fun _ => ⟨rfl, rfl⟩) rfl rfl, boxL rfl rfl rfl ⟨(.ni _ rfl), (.ni _ rfl), trivial⟩, trivial⟩) ?_
                    rintro ⟨k_50, i_48⟩ ⟨hk_k_50, hL2⟩
                    try dsimp only at hk_k_50 hL2
                    show awp _ _ _ _ _ _ ⟨eL [(1, .int .i64 (w64 ((1 : Int) + r_2))), (7, .int .i64 (w64 ((1 : Int) + r_1))), (8, .ptr 0 0), (10, .ptr 1 0), (11, .int .i64 i_48), (12, .ptr 2 0), (13, .int .i64 i_12), (15, .ptr 3 0), (16, .lst 30 (r_15.2.1.map encMessage)), (19, .int .i64 (k_50 : Int))], hL [(0, .box [.int .i64 i_6, .lst 3 (a_7.map encSender)]), (1, .box [.lst 1 (r_13.2.L.map iA), .int .i64 r_13.2.At]), (2, .row 1 ((a_10.set i_11.toNat true).map bA)), (3, .box [.int .i64 r_15.1.Window, .lst 3 (r_15.1.L.map encSender)])], 4⟩
                    conv => whnf
                    refine len_q (enc := encMessage) (l := r_15.2.1) rfl ?_
                    conv => whnf
                    refine ⟨fun h => ?_, fun h => ?_⟩
                    · have hlt_k_50 : k_50 < r_15.2.1.length := by have h := of_decide_eq_true h; omega
                      obtain ⟨e_51, h_e_51⟩ : ∃ y, r_15.2.1[k_50]? = some y := ⟨_, List.getElem?_eq_getElem hlt_k_50⟩
                      rw [drop_cons h_e_51, law05_InboxOrder_L2.eq_2] at hL2
                      conv => whnf
                      refine ⟨k_50, _, rfl, ix_map h_e_51, ?_⟩
                      conv => whnf
                      obtain ⟨r_52, h_r_52, hL2⟩ := bind_some hL2
                      refine ⟨_, _, _, _, _, _, _, _, _, callX false [] [] 0 Try.func14 (by decide) rfl (law05_numbered_ac (⟨#[65, 82, 78]⟩ : ByteArray) i_48 r_52 h_r_52) rfl ⟨(argE (by (conv => lhs; whnf); all_goals rfl) rfl), (argE (by (conv => lhs; whnf); all_goals rfl) rfl), trivial⟩ rfl trivial rfl rfl rfl lend0 trivial rfl, ?_⟩
                      conv => whnf
                      obtain ⟨r_53, h_r_53, hL2⟩ := bind_some hL2
                      refine ⟨_, _, _, _, _, _, _, _, _, callX false [] [] 0 Try.func15 (by decide) rfl (ref04_Same_ac e_51 r_52 r_53 h_r_53) rfl ⟨(argE (by (conv => lhs; whnf); all_goals rfl) rfl), (argE (by (conv => lhs; whnf); all_goals rfl) rfl), trivial⟩ rfl trivial rfl rfl rfl lend0 trivial rfl, ?_⟩
                      conv => whnf
                      refine ⟨by kernel_rfl, ?_⟩
                      conv => whnf
                      refine ⟨fun hb_601 => ?_, fun hb_601 => ?_⟩
                      · replace hL2 := cond_t hb_601 hL2
                        conv => whnf
                        obtain rfl := Option.some.inj hL2
                        replace hL1 := sub_ret hL1
                        obtain rfl := Option.some.inj hL1
                        replace hF := fin_ret hF
                        obtain rfl := Option.some.inj hF
                        exact ret_gz [] [] [] rfl (argFl (by (conv => lhs; whnf); all_goals rfl)) trivial
                      · replace hL2 := cond_f hb_601 hL2
                        conv => whnf
                        refine ⟨_, rfl, ?_⟩
                        conv => whnf
                        refine ⟨((k_50 + 1 : Nat) : Int), wrapE (by omega) (by omega) (by omega), ?_⟩
                        conv => whnf
                        exact ⟨(k_50 + 1, (w64 (i_48 + (1 : Int)))), [0, 1, 2, 3], [], [], ⟨hlt_k_50, hL2⟩, by show r_15.2.1.length - (k_50 + 1) < r_15.2.1.length - k_50; omega, wk_mk [0, 1, 2, 3] [] [] rfl ⟨argE (by (conv => lhs; whnf); all_goals rfl) rfl, argE (by (conv => lhs; whnf); all_goals rfl) rfl, argP (id := 0) (by (conv => lhs; whnf); all_goals rfl) rfl, argP (id := 1) (by (conv => lhs; whnf); all_goals rfl) rfl, argE (by (conv => lhs; whnf); all_goals rfl) rfl, argP (id := 2) (by (conv => lhs; whnf); all_goals rfl) rfl, argE (by (conv => lhs; whnf); all_goals rfl) rfl, argP (id := 3) (by (conv => lhs; whnf); all_goals rfl) rfl, argE (by (conv => lhs; whnf); all_goals rfl) rfl, argE (by (conv => lhs; whnf); all_goals rfl) rfl, trivial⟩ ⟨boxL rfl rfl rfl ⟨(.ni _ rfl), (.ni _ rfl), trivial⟩, boxL rfl rfl rfl ⟨(.ni _ rfl), (.ni _ rfl), trivial⟩, blkR (fun _ => ⟨rfl, rfl⟩) rfl rfl, boxL rfl rfl rfl ⟨(.ni _ rfl), (.ni _ rfl), trivial⟩, trivial⟩⟩
                    · rw [drop_nil (show r_15.2.1.length ≤ k_50 by have h := of_decide_eq_false h; omega), law05_InboxOrder_L2.eq_1] at hL2
                      conv => whnf
                      obtain rfl := Option.some.inj hL2
                      replace hL1 := sub_brk hL1
                      try dsimp only at hL1
                      refine ⟨fun hb_602 => ?_, fun hb_602 => ?_⟩
                      · replace hL1 := cond_t hb_602 hL1
                        conv => whnf
                        obtain ⟨u_56, h_u_56, hL1⟩ := bind_some hL1
                        refine ixa_q 1 h_u_56 rfl (fun m_u_56 hm_u_56 => ?_)
                        conv => whnf
                        obtain ⟨v_57, h_v_57, hL1⟩ := bind_some hL1
                        refine ⟨_, ix_map (enc := bA) (ixL_at h_v_57 (ixm1 hm_u_56)), ?_⟩
                        conv => whnf
                        refine ⟨fun hb_603 => ?_, fun hb_603 => ?_⟩
                        · replace hL1 := cond_t hb_603 hL1
                          conv => whnf
                          obtain rfl := Option.some.inj hL1
                          replace hF := fin_ret hF
                          obtain rfl := Option.some.inj hF
                          exact ret_gz [] [] [] rfl (argFl (by (conv => lhs; whnf); all_goals rfl)) trivial
                        · replace hL1 := cond_f hb_603 hL1
                          conv => whnf
                          refine ⟨_, rfl, ?_⟩
                          conv => whnf
                          exact ⟨(q_261, r_15.1.Window, r_15.1.L, r_13.2.L, r_13.2.At, i_48, (a_10.set i_11.toNat true), (w64 (i_12 + (1 : Int)))), [0, 1, 2], [], [], hL1, Nat.lt_succ_self _, wk_mk [0, 1, 2] [] [] rfl ⟨argE (by (conv => lhs; whnf); all_goals rfl) rfl, argE (by (conv => lhs; whnf); all_goals rfl) rfl, argP (id := 0) (by (conv => lhs; whnf); all_goals rfl) rfl, argP (id := 1) (by (conv => lhs; whnf); all_goals rfl) rfl, argE (by (conv => lhs; whnf); all_goals rfl) rfl, argP (id := 2) (by (conv => lhs; whnf); all_goals rfl) rfl, argE (by (conv => lhs; whnf); all_goals rfl) rfl, trivial⟩ ⟨boxL rfl rfl rfl ⟨(.ni _ rfl), (.ni _ rfl), trivial⟩, boxL rfl rfl rfl ⟨(.ni _ rfl), (.ni _ rfl), trivial⟩, blkR (fun _ => ⟨rfl, rfl⟩) rfl rfl, trivial⟩⟩
                      · replace hL1 := cond_f hb_602 hL1
                        conv => whnf
                        refine ⟨_, rfl, ?_⟩
                        conv => whnf
                        exact ⟨(q_261, r_15.1.Window, r_15.1.L, r_13.2.L, r_13.2.At, i_48, (a_10.set i_11.toNat true), (w64 (i_12 + (1 : Int)))), [0, 1, 2], [], [], hL1, Nat.lt_succ_self _, wk_mk [0, 1, 2] [] [] rfl ⟨argE (by (conv => lhs; whnf); all_goals rfl) rfl, argE (by (conv => lhs; whnf); all_goals rfl) rfl, argP (id := 0) (by (conv => lhs; whnf); all_goals rfl) rfl, argP (id := 1) (by (conv => lhs; whnf); all_goals rfl) rfl, argE (by (conv => lhs; whnf); all_goals rfl) rfl, argP (id := 2) (by (conv => lhs; whnf); all_goals rfl) rfl, argE (by (conv => lhs; whnf); all_goals rfl) rfl, trivial⟩ ⟨boxL rfl rfl rfl ⟨(.ni _ rfl), (.ni _ rfl), trivial⟩, boxL rfl rfl rfl ⟨(.ni _ rfl), (.ni _ rfl), trivial⟩, blkR (fun _ => ⟨rfl, rfl⟩) rfl rfl, trivial⟩⟩
                · replace hL1 := cond_t hb_591 hL1
                  conv => whnf
                  obtain rfl := Option.some.inj hL1
                  replace hF := fin_ret hF
                  obtain rfl := Option.some.inj hF
                  exact ret_gz [] [] [] rfl (argFl (by (conv => lhs; whnf); all_goals rfl)) trivial
              · replace hL1 := cond_f hb_590 hL1
                conv => whnf
                obtain ⟨u_58, h_u_58, hL1⟩ := bind_some hL1
                refine ixa_q 1 h_u_58 rfl (fun m_u_58 hm_u_58 => ?_)
                conv => whnf
                obtain ⟨v_59, h_v_59, hL1⟩ := bind_some hL1
                refine ⟨_, ix_map (enc := bA) (ixL_at h_v_59 (ixm1 hm_u_58)), ?_⟩
                conv => whnf
                refine ⟨fun hb_604 => ?_, fun hb_604 => ?_⟩
                · replace hL1 := cond_t hb_604 hL1
                  conv => whnf
                  refine ⟨fun hb_605 => ?_, fun hb_605 => ?_⟩
                  · replace hL1 := cond_t hb_605 hL1
                    conv => whnf
                    refine ⟨fun hb_606 => ?_, fun hb_606 => ?_⟩
                    · replace hL1 := cond_t hb_606 hL1
                      conv => whnf
                      obtain rfl := Option.some.inj hL1
                      replace hF := fin_ret hF
                      obtain rfl := Option.some.inj hF
                      exact ret_gz [] [] [] rfl (argFl (by (conv => lhs; whnf); all_goals rfl)) trivial
                    · replace hL1 := cond_f hb_606 hL1
                      conv => whnf
                      obtain ⟨u_60, h_u_60, hL1⟩ := bind_some hL1
                      refine ixa_q 1 h_u_60 rfl (fun m_u_60 hm_u_60 => ?_)
                      conv => whnf
                      obtain ⟨v_61, h_v_61, hL1⟩ := bind_some hL1
                      refine st_q (enc := bA) (l := a_10) (x' := true) (i := i_11) (ixm1 hm_u_60) (ixL_at h_v_61 (ixm1 hm_u_60)) rfl (Nat.le_of_ble_eq_true rfl) rfl ?_
                      conv => whnf
                      obtain ⟨c_2, hc_2, hL1⟩ := sub_some hL1
                      refine sw_bv 16 (v := .lst 30 (r_15.2.1.map encMessage)) (by (conv => lhs; whnf); all_goals rfl) (fun hb => ?_)
                      have hbd_k_64 : r_15.2.1.length ≤ 9223372036854775807 := bnd_len (enc := encMessage) (hb)
                      refine sw_loop tab_ok follows_ok (fun y : Nat × Int => y.1 ≤ r_15.2.1.length ∧ law05_InboxOrder_L2 (r_15.2.1.drop y.1) y.1 y.2 = some c_2) (fun y => ⟨eL [(1, .int .i64 (w64 ((1 : Int) + r_2))), (7, .int .i64 (w64 ((1 : Int) + r_1))), (8, .ptr 0 0), (10, .ptr 1 0), (11, .int .i64 y.2), (12, .ptr 2 0), (13, .int .i64 i_12), (15, .ptr 3 0), (16, .lst 30 (r_15.2.1.map encMessage)), (19, .int .i64 (y.1 : Int))], hL [(0, .box [.int .i64 i_6, .lst 3 (a_7.map encSender)]), (1, .box [.lst 1 (r_13.2.L.map iA), .int .i64 r_13.2.At]), (2, .row 1 ((a_10.set i_11.toNat true).map bA)), (3, .box [.int .i64 r_15.1.Window, .lst 3 (r_15.1.L.map encSender)])], 4⟩) (fun y => r_15.2.1.length - y.1) (0, i_11) ⟨Nat.zero_le _, hc_2⟩ (wk_mk [0, 1, 2, 6] [] [] rfl ⟨argE (by (conv => lhs; whnf); all_goals rfl) rfl, argE (by (conv => lhs; whnf); all_goals rfl) rfl, argP (id := 0) (by (conv => lhs; whnf); all_goals rfl) rfl, argP (id := 1) (by (conv => lhs; whnf); all_goals rfl) rfl, argE (by (conv => lhs; whnf); all_goals rfl) rfl, argP (id := 2) (by (conv => lhs; whnf); all_goals rfl) rfl, argE (by (conv => lhs; whnf); all_goals rfl) rfl, argP (id := 6) (by (conv => lhs; whnf); all_goals rfl) rfl, argE (by (conv => lhs; whnf); all_goals rfl) rfl, argE (by (conv => lhs; whnf); all_goals rfl) rfl, trivial⟩ ⟨boxL rfl rfl rfl ⟨(.ni _ rfl), (.ni _ rfl), trivial⟩, boxL rfl rfl rfl ⟨(.ni _ rfl), (.ni _ rfl), trivial⟩, blkR (fun _ => ⟨rfl, rfl⟩) rfl rfl, boxL rfl rfl rfl ⟨(.ni _ rfl), (.ni _ rfl), trivial⟩, trivial⟩) ?_
                      rintro ⟨k_64, i_62⟩ ⟨hk_k_64, hL2⟩
                      try dsimp only at hk_k_64 hL2
                      show awp _ _ _ _ _ _ ⟨eL [(1, .int .i64 (w64 ((1 : Int) + r_2))), (7, .int .i64 (w64 ((1 : Int) + r_1))), (8, .ptr 0 0), (10, .ptr 1 0), (11, .int .i64 i_62), (12, .ptr 2 0), (13, .int .i64 i_12), (15, .ptr 3 0), (16, .lst 30 (r_15.2.1.map encMessage)), (19, .int .i64 (k_64 : Int))], hL [(0, .box [.int .i64 i_6, .lst 3 (a_7.map encSender)]), (1, .box [.lst 1 (r_13.2.L.map iA), .int .i64 r_13.2.At]), (2, .row 1 ((a_10.set i_11.toNat true).map bA)), (3, .box [.int .i64 r_15.1.Window, .lst 3 (r_15.1.L.map encSender)])], 4⟩
                      conv => whnf
                      refine len_q (enc := encMessage) (l := r_15.2.1) rfl ?_
                      conv => whnf
                      refine ⟨fun h => ?_, fun h => ?_⟩
                      · have hlt_k_64 : k_64 < r_15.2.1.length := by have h := of_decide_eq_true h; omega
                        obtain ⟨e_65, h_e_65⟩ : ∃ y, r_15.2.1[k_64]? = some y := ⟨_, List.getElem?_eq_getElem hlt_k_64⟩
                        rw [drop_cons h_e_65, law05_InboxOrder_L2.eq_2] at hL2
                        conv => whnf
                        refine ⟨k_64, _, rfl, ix_map h_e_65, ?_⟩
                        conv => whnf
                        obtain ⟨r_66, h_r_66, hL2⟩ := bind_some hL2
                        refine ⟨_, _, _, _, _, _, _, _, _, callX false [] [] 0 Try.func14 (by decide) rfl (law05_numbered_ac (⟨#[65, 82, 78]⟩ : ByteArray) i_62 r_66 h_r_66) rfl ⟨(argE (by (conv => lhs; whnf); all_goals rfl) rfl), (argE (by (conv => lhs; whnf); all_goals rfl) rfl), trivial⟩ rfl trivial rfl rfl rfl lend0 trivial rfl, ?_⟩
                        conv => whnf
                        obtain ⟨r_67, h_r_67, hL2⟩ := bind_some hL2
                        refine ⟨_, _, _, _, _, _, _, _, _, callX false [] [] 0 Try.func15 (by decide) rfl (ref04_Same_ac e_65 r_66 r_67 h_r_67) rfl ⟨(argE (by (conv => lhs; whnf); all_goals rfl) rfl), (argE (by (conv => lhs; whnf); all_goals rfl) rfl), trivial⟩ rfl trivial rfl rfl rfl lend0 trivial rfl, ?_⟩
                        conv => whnf
                        refine ⟨by kernel_rfl, ?_⟩
                        conv => whnf
                        refine ⟨fun hb_607 => ?_, fun hb_607 => ?_⟩
                        · replace hL2 := cond_t hb_607 hL2
                          conv => whnf
                          obtain rfl := Option.some.inj hL2
                          replace hL1 := sub_ret hL1
                          obtain rfl := Option.some.inj hL1
                          replace hF := fin_ret hF
                          obtain rfl := Option.some.inj hF
                          exact ret_gz [] [] [] rfl (argFl (by (conv => lhs; whnf); all_goals rfl)) trivial
                        · replace hL2 := cond_f hb_607 hL2
                          conv => whnf
                          refine ⟨_, rfl, ?_⟩
                          conv => whnf
                          refine ⟨((k_64 + 1 : Nat) : Int), wrapE (by omega) (by omega) (by omega), ?_⟩
                          conv => whnf
                          exact ⟨(k_64 + 1, (w64 (i_62 + (1 : Int)))), [0, 1, 2, 3], [], [], ⟨hlt_k_64, hL2⟩, by show r_15.2.1.length - (k_64 + 1) < r_15.2.1.length - k_64; omega, wk_mk [0, 1, 2, 3] [] [] rfl ⟨argE (by (conv => lhs; whnf); all_goals rfl) rfl, argE (by (conv => lhs; whnf); all_goals rfl) rfl, argP (id := 0) (by (conv => lhs; whnf); all_goals rfl) rfl, argP (id := 1) (by (conv => lhs; whnf); all_goals rfl) rfl, argE (by (conv => lhs; whnf); all_goals rfl) rfl, argP (id := 2) (by (conv => lhs; whnf); all_goals rfl) rfl, argE (by (conv => lhs; whnf); all_goals rfl) rfl, argP (id := 3) (by (conv => lhs; whnf); all_goals rfl) rfl, argE (by (conv => lhs; whnf); all_goals rfl) rfl, argE (by (conv => lhs; whnf); all_goals rfl) rfl, trivial⟩ ⟨boxL rfl rfl rfl ⟨(.ni _ rfl), (.ni _ rfl), trivial⟩, boxL rfl rfl rfl ⟨(.ni _ rfl), (.ni _ rfl), trivial⟩, blkR (fun _ => ⟨rfl, rfl⟩) rfl rfl, boxL rfl rfl rfl ⟨(.ni _ rfl), (.ni _ rfl), trivial⟩, trivial⟩⟩
                      · rw [drop_nil (show r_15.2.1.length ≤ k_64 by have h := of_decide_eq_false h; omega), law05_InboxOrder_L2.eq_1] at hL2
                        conv => whnf
                        obtain rfl := Option.some.inj hL2
                        replace hL1 := sub_brk hL1
                        try dsimp only at hL1
                        refine ⟨fun hb_608 => ?_, fun hb_608 => ?_⟩
                        · replace hL1 := cond_t hb_608 hL1
                          conv => whnf
                          obtain ⟨u_70, h_u_70, hL1⟩ := bind_some hL1
                          refine ixa_q 1 h_u_70 rfl (fun m_u_70 hm_u_70 => ?_)
                          conv => whnf
                          obtain ⟨v_71, h_v_71, hL1⟩ := bind_some hL1
                          refine ⟨_, ix_map (enc := bA) (ixL_at h_v_71 (ixm1 hm_u_70)), ?_⟩
                          conv => whnf
                          refine ⟨fun hb_609 => ?_, fun hb_609 => ?_⟩
                          · replace hL1 := cond_t hb_609 hL1
                            conv => whnf
                            obtain rfl := Option.some.inj hL1
                            replace hF := fin_ret hF
                            obtain rfl := Option.some.inj hF
                            exact ret_gz [] [] [] rfl (argFl (by (conv => lhs; whnf); all_goals rfl)) trivial
                          · replace hL1 := cond_f hb_609 hL1
                            conv => whnf
                            refine ⟨_, rfl, ?_⟩
                            conv => whnf
                            exact ⟨(q_261, r_15.1.Window, r_15.1.L, r_13.2.L, r_13.2.At, i_62, (a_10.set i_11.toNat true), (w64 (i_12 + (1 : Int)))), [0, 1, 2], [], [], hL1, Nat.lt_succ_self _, wk_mk [0, 1, 2] [] [] rfl ⟨argE (by (conv => lhs; whnf); all_goals rfl) rfl, argE (by (conv => lhs; whnf); all_goals rfl) rfl, argP (id := 0) (by (conv => lhs; whnf); all_goals rfl) rfl, argP (id := 1) (by (conv => lhs; whnf); all_goals rfl) rfl, argE (by (conv => lhs; whnf); all_goals rfl) rfl, argP (id := 2) (by (conv => lhs; whnf); all_goals rfl) rfl, argE (by (conv => lhs; whnf); all_goals rfl) rfl, trivial⟩ ⟨boxL rfl rfl rfl ⟨(.ni _ rfl), (.ni _ rfl), trivial⟩, boxL rfl rfl rfl ⟨(.ni _ rfl), (.ni _ rfl), trivial⟩, blkR (fun _ => ⟨rfl, rfl⟩) rfl rfl, trivial⟩⟩
                        · replace hL1 := cond_f hb_608 hL1
                          conv => whnf
                          refine ⟨_, rfl, ?_⟩
                          conv => whnf
                          exact ⟨(q_261, r_15.1.Window, r_15.1.L, r_13.2.L, r_13.2.At, i_62, (a_10.set i_11.toNat true), (w64 (i_12 + (1 : Int)))), [0, 1, 2], [], [], hL1, Nat.lt_succ_self _, wk_mk [0, 1, 2] [] [] rfl ⟨argE (by (conv => lhs; whnf); all_goals rfl) rfl, argE (by (conv => lhs; whnf); all_goals rfl) rfl, argP (id := 0) (by (conv => lhs; whnf); all_goals rfl) rfl, argP (id := 1) (by (conv => lhs; whnf); all_goals rfl) rfl, argE (by (conv => lhs; whnf); all_goals rfl) rfl, argP (id := 2) (by (conv => lhs; whnf); all_goals rfl) rfl, argE (by (conv => lhs; whnf); all_goals rfl) rfl, trivial⟩ ⟨boxL rfl rfl rfl ⟨(.ni _ rfl), (.ni _ rfl), trivial⟩, boxL rfl rfl rfl ⟨(.ni _ rfl), (.ni _ rfl), trivial⟩, blkR (fun _ => ⟨rfl, rfl⟩) rfl rfl, trivial⟩⟩
                  · replace hL1 := cond_f hb_605 hL1
                    conv => whnf
                    obtain ⟨u_72, h_u_72, hL1⟩ := bind_some hL1
                    refine ixa_q 1 h_u_72 rfl (fun m_u_72 hm_u_72 => ?_)
                    conv => whnf
                    obtain ⟨v_73, h_v_73, hL1⟩ := bind_some hL1
                    refine st_q (enc := bA) (l := a_10) (x' := true) (i := i_11) (ixm1 hm_u_72) (ixL_at h_v_73 (ixm1 hm_u_72)) rfl (Nat.le_of_ble_eq_true rfl) rfl ?_
                    conv => whnf
                    obtain ⟨c_2, hc_2, hL1⟩ := sub_some hL1
                    refine sw_bv 16 (v := .lst 30 (r_15.2.1.map encMessage)) (by (conv => lhs; whnf); all_goals rfl) (fun hb => ?_)
                    have hbd_k_76 : r_15.2.1.length ≤ 9223372036854775807 := bnd_len (enc := encMessage) (hb)
                    refine sw_loop tab_ok follows_ok (fun y : Nat × Int => y.1 ≤ r_15.2.1.length ∧ law05_InboxOrder_L2 (r_15.2.1.drop y.1) y.1 y.2 = some c_2) (fun y => ⟨eL [(1, .int .i64 (w64 ((1 : Int) + r_2))), (7, .int .i64 (w64 ((1 : Int) + r_1))), (8, .ptr 0 0), (10, .ptr 1 0), (11, .int .i64 y.2), (12, .ptr 2 0), (13, .int .i64 i_12), (15, .ptr 3 0), (16, .lst 30 (r_15.2.1.map encMessage)), (19, .int .i64 (y.1 : Int))], hL [(0, .box [.int .i64 i_6, .lst 3 (a_7.map encSender)]), (1, .box [.lst 1 (r_13.2.L.map iA), .int .i64 r_13.2.At]), (2, .row 1 ((a_10.set i_11.toNat true).map bA)), (3, .box [.int .i64 r_15.1.Window, .lst 3 (r_15.1.L.map encSender)])], 4⟩) (fun y => r_15.2.1.length - y.1) (0, i_11) ⟨Nat.zero_le _, hc_2⟩ (wk_mk [0, 1, 2, 6] [] [] rfl ⟨argE (by (conv => lhs; whnf); all_goals rfl) rfl, argE (by (conv => lhs; whnf); all_goals rfl) rfl, argP (id := 0) (by (conv => lhs; whnf); all_goals rfl) rfl, argP (id := 1) (by (conv => lhs; whnf); all_goals rfl) rfl, argE (by (conv => lhs; whnf); all_goals rfl) rfl, argP (id := 2) (by (conv => lhs; whnf); all_goals rfl) rfl, argE (by (conv => lhs; whnf); all_goals rfl) rfl, argP (id := 6) (by (conv => lhs; whnf); all_goals rfl) rfl, argE (by (conv => lhs; whnf); all_goals rfl) rfl, argE (by (conv => lhs; whnf); all_goals rfl) rfl, trivial⟩ ⟨boxL rfl rfl rfl ⟨(.ni _ rfl), (.ni _ rfl), trivial⟩, boxL rfl rfl rfl ⟨(.ni _ rfl), (.ni _ rfl), trivial⟩, blkR (fun _ => ⟨rfl, rfl⟩) rfl rfl, boxL rfl rfl rfl ⟨(.ni _ rfl), (.ni _ rfl), trivial⟩, trivial⟩) ?_
                    rintro ⟨k_76, i_74⟩ ⟨hk_k_76, hL2⟩
                    try dsimp only at hk_k_76 hL2
                    show awp _ _ _ _ _ _ ⟨eL [(1, .int .i64 (w64 ((1 : Int) + r_2))), (7, .int .i64 (w64 ((1 : Int) + r_1))), (8, .ptr 0 0), (10, .ptr 1 0), (11, .int .i64 i_74), (12, .ptr 2 0), (13, .int .i64 i_12), (15, .ptr 3 0), (16, .lst 30 (r_15.2.1.map encMessage)), (19, .int .i64 (k_76 : Int))], hL [(0, .box [.int .i64 i_6, .lst 3 (a_7.map encSender)]), (1, .box [.lst 1 (r_13.2.L.map iA), .int .i64 r_13.2.At]), (2, .row 1 ((a_10.set i_11.toNat true).map bA)), (3, .box [.int .i64 r_15.1.Window, .lst 3 (r_15.1.L.map encSender)])], 4⟩
                    conv => whnf
                    refine len_q (enc := encMessage) (l := r_15.2.1) rfl ?_
                    conv => whnf
                    refine ⟨fun h => ?_, fun h => ?_⟩
                    · have hlt_k_76 : k_76 < r_15.2.1.length := by have h := of_decide_eq_true h; omega
                      obtain ⟨e_77, h_e_77⟩ : ∃ y, r_15.2.1[k_76]? = some y := ⟨_, List.getElem?_eq_getElem hlt_k_76⟩
                      rw [drop_cons h_e_77, law05_InboxOrder_L2.eq_2] at hL2
                      conv => whnf
                      refine ⟨k_76, _, rfl, ix_map h_e_77, ?_⟩
                      conv => whnf
                      obtain ⟨r_78, h_r_78, hL2⟩ := bind_some hL2
                      refine ⟨_, _, _, _, _, _, _, _, _, callX false [] [] 0 Try.func14 (by decide) rfl (law05_numbered_ac (⟨#[65, 82, 78]⟩ : ByteArray) i_74 r_78 h_r_78) rfl ⟨(argE (by (conv => lhs; whnf); all_goals rfl) rfl), (argE (by (conv => lhs; whnf); all_goals rfl) rfl), trivial⟩ rfl trivial rfl rfl rfl lend0 trivial rfl, ?_⟩
                      conv => whnf
                      obtain ⟨r_79, h_r_79, hL2⟩ := bind_some hL2
                      refine ⟨_, _, _, _, _, _, _, _, _, callX false [] [] 0 Try.func15 (by decide) rfl (ref04_Same_ac e_77 r_78 r_79 h_r_79) rfl ⟨(argE (by (conv => lhs; whnf); all_goals rfl) rfl), (argE (by (conv => lhs; whnf); all_goals rfl) rfl), trivial⟩ rfl trivial rfl rfl rfl lend0 trivial rfl, ?_⟩
                      conv => whnf
                      refine ⟨by kernel_rfl, ?_⟩
                      conv => whnf
                      refine ⟨fun hb_610 => ?_, fun hb_610 => ?_⟩
                      · replace hL2 := cond_t hb_610 hL2
                        conv => whnf
                        obtain rfl := Option.some.inj hL2
                        replace hL1 := sub_ret hL1
                        obtain rfl := Option.some.inj hL1
                        replace hF := fin_ret hF
                        obtain rfl := Option.some.inj hF
                        exact ret_gz [] [] [] rfl (argFl (by (conv => lhs; whnf); all_goals rfl)) trivial
                      · replace hL2 := cond_f hb_610 hL2
                        conv => whnf
                        refine ⟨_, rfl, ?_⟩
                        conv => whnf
                        refine ⟨((k_76 + 1 : Nat) : Int), wrapE (by omega) (by omega) (by omega), ?_⟩
                        conv => whnf
                        exact ⟨(k_76 + 1, (w64 (i_74 + (1 : Int)))), [0, 1, 2, 3], [], [], ⟨hlt_k_76, hL2⟩, by show r_15.2.1.length - (k_76 + 1) < r_15.2.1.length - k_76; omega, wk_mk [0, 1, 2, 3] [] [] rfl ⟨argE (by (conv => lhs; whnf); all_goals rfl) rfl, argE (by (conv => lhs; whnf); all_goals rfl) rfl, argP (id := 0) (by (conv => lhs; whnf); all_goals rfl) rfl, argP (id := 1) (by (conv => lhs; whnf); all_goals rfl) rfl, argE (by (conv => lhs; whnf); all_goals rfl) rfl, argP (id := 2) (by (conv => lhs; whnf); all_goals rfl) rfl, argE (by (conv => lhs; whnf); all_goals rfl) rfl, argP (id := 3) (by (conv => lhs; whnf); all_goals rfl) rfl, argE (by (conv => lhs; whnf); all_goals rfl) rfl, argE (by (conv => lhs; whnf); all_goals rfl) rfl, trivial⟩ ⟨boxL rfl rfl rfl ⟨(.ni _ rfl), (.ni _ rfl), trivial⟩, boxL rfl rfl rfl ⟨(.ni _ rfl), (.ni _ rfl), trivial⟩, blkR (fun _ => ⟨rfl, rfl⟩) rfl rfl, boxL rfl rfl rfl ⟨(.ni _ rfl), (.ni _ rfl), trivial⟩, trivial⟩⟩
                    · rw [drop_nil (show r_15.2.1.length ≤ k_76 by have h := of_decide_eq_false h; omega), law05_InboxOrder_L2.eq_1] at hL2
                      conv => whnf
                      obtain rfl := Option.some.inj hL2
                      replace hL1 := sub_brk hL1
                      try dsimp only at hL1
                      refine ⟨fun hb_611 => ?_, fun hb_611 => ?_⟩
                      · replace hL1 := cond_t hb_611 hL1
                        conv => whnf
                        obtain ⟨u_82, h_u_82, hL1⟩ := bind_some hL1
                        refine ixa_q 1 h_u_82 rfl (fun m_u_82 hm_u_82 => ?_)
                        conv => whnf
                        obtain ⟨v_83, h_v_83, hL1⟩ := bind_some hL1
                        refine ⟨_, ix_map (enc := bA) (ixL_at h_v_83 (ixm1 hm_u_82)), ?_⟩
                        conv => whnf
                        refine ⟨fun hb_612 => ?_, fun hb_612 => ?_⟩
                        · replace hL1 := cond_t hb_612 hL1
                          conv => whnf
                          obtain rfl := Option.some.inj hL1
                          replace hF := fin_ret hF
                          obtain rfl := Option.some.inj hF
                          exact ret_gz [] [] [] rfl (argFl (by (conv => lhs; whnf); all_goals rfl)) trivial
                        · replace hL1 := cond_f hb_612 hL1
                          conv => whnf
                          refine ⟨_, rfl, ?_⟩
                          conv => whnf
                          exact ⟨(q_261, r_15.1.Window, r_15.1.L, r_13.2.L, r_13.2.At, i_74, (a_10.set i_11.toNat true), (w64 (i_12 + (1 : Int)))), [0, 1, 2], [], [], hL1, Nat.lt_succ_self _, wk_mk [0, 1, 2] [] [] rfl ⟨argE (by (conv => lhs; whnf); all_goals rfl) rfl, argE (by (conv => lhs; whnf); all_goals rfl) rfl, argP (id := 0) (by (conv => lhs; whnf); all_goals rfl) rfl, argP (id := 1) (by (conv => lhs; whnf); all_goals rfl) rfl, argE (by (conv => lhs; whnf); all_goals rfl) rfl, argP (id := 2) (by (conv => lhs; whnf); all_goals rfl) rfl, argE (by (conv => lhs; whnf); all_goals rfl) rfl, trivial⟩ ⟨boxL rfl rfl rfl ⟨(.ni _ rfl), (.ni _ rfl), trivial⟩, boxL rfl rfl rfl ⟨(.ni _ rfl), (.ni _ rfl), trivial⟩, blkR (fun _ => ⟨rfl, rfl⟩) rfl rfl, trivial⟩⟩
                      · replace hL1 := cond_f hb_611 hL1
                        conv => whnf
                        refine ⟨_, rfl, ?_⟩
                        conv => whnf
                        exact ⟨(q_261, r_15.1.Window, r_15.1.L, r_13.2.L, r_13.2.At, i_74, (a_10.set i_11.toNat true), (w64 (i_12 + (1 : Int)))), [0, 1, 2], [], [], hL1, Nat.lt_succ_self _, wk_mk [0, 1, 2] [] [] rfl ⟨argE (by (conv => lhs; whnf); all_goals rfl) rfl, argE (by (conv => lhs; whnf); all_goals rfl) rfl, argP (id := 0) (by (conv => lhs; whnf); all_goals rfl) rfl, argP (id := 1) (by (conv => lhs; whnf); all_goals rfl) rfl, argE (by (conv => lhs; whnf); all_goals rfl) rfl, argP (id := 2) (by (conv => lhs; whnf); all_goals rfl) rfl, argE (by (conv => lhs; whnf); all_goals rfl) rfl, trivial⟩ ⟨boxL rfl rfl rfl ⟨(.ni _ rfl), (.ni _ rfl), trivial⟩, boxL rfl rfl rfl ⟨(.ni _ rfl), (.ni _ rfl), trivial⟩, blkR (fun _ => ⟨rfl, rfl⟩) rfl rfl, trivial⟩⟩
                · replace hL1 := cond_f hb_604 hL1
                  conv => whnf
                  obtain ⟨u_84, h_u_84, hL1⟩ := bind_some hL1
                  refine ixa_q 1 h_u_84 rfl (fun m_u_84 hm_u_84 => ?_)
                  conv => whnf
                  obtain ⟨v_85, h_v_85, hL1⟩ := bind_some hL1
                  refine st_q (enc := bA) (l := a_10) (x' := true) (i := i_11) (ixm1 hm_u_84) (ixL_at h_v_85 (ixm1 hm_u_84)) rfl (Nat.le_of_ble_eq_true rfl) rfl ?_
                  conv => whnf
                  obtain ⟨c_2, hc_2, hL1⟩ := sub_some hL1
                  refine sw_bv 16 (v := .lst 30 (r_15.2.1.map encMessage)) (by (conv => lhs; whnf); all_goals rfl) (fun hb => ?_)
                  have hbd_k_88 : r_15.2.1.length ≤ 9223372036854775807 := bnd_len (enc := encMessage) (hb)
                  refine sw_loop tab_ok follows_ok (fun y : Nat × Int => y.1 ≤ r_15.2.1.length ∧ law05_InboxOrder_L2 (r_15.2.1.drop y.1) y.1 y.2 = some c_2) (fun y => ⟨eL [(1, .int .i64 (w64 ((1 : Int) + r_2))), (7, .int .i64 (w64 ((1 : Int) + r_1))), (8, .ptr 0 0), (10, .ptr 1 0), (11, .int .i64 y.2), (12, .ptr 2 0), (13, .int .i64 i_12), (15, .ptr 3 0), (16, .lst 30 (r_15.2.1.map encMessage)), (19, .int .i64 (y.1 : Int))], hL [(0, .box [.int .i64 i_6, .lst 3 (a_7.map encSender)]), (1, .box [.lst 1 (r_13.2.L.map iA), .int .i64 r_13.2.At]), (2, .row 1 ((a_10.set i_11.toNat true).map bA)), (3, .box [.int .i64 r_15.1.Window, .lst 3 (r_15.1.L.map encSender)])], 4⟩) (fun y => r_15.2.1.length - y.1) (0, i_11) ⟨Nat.zero_le _, hc_2⟩ (wk_mk [0, 1, 2, 6] [] [] rfl ⟨argE (by (conv => lhs; whnf); all_goals rfl) rfl, argE (by (conv => lhs; whnf); all_goals rfl) rfl, argP (id := 0) (by (conv => lhs; whnf); all_goals rfl) rfl, argP (id := 1) (by (conv => lhs; whnf); all_goals rfl) rfl, argE (by (conv => lhs; whnf); all_goals rfl) rfl, argP (id := 2) (by (conv => lhs; whnf); all_goals rfl) rfl, argE (by (conv => lhs; whnf); all_goals rfl) rfl, argP (id := 6) (by (conv => lhs; whnf); all_goals rfl) rfl, argE (by (conv => lhs; whnf); all_goals rfl) rfl, argE (by (conv => lhs; whnf); all_goals rfl) rfl, trivial⟩ ⟨boxL rfl rfl rfl ⟨(.ni _ rfl), (.ni _ rfl), trivial⟩, boxL rfl rfl rfl ⟨(.ni _ rfl), (.ni _ rfl), trivial⟩, blkR (fun _ => ⟨rfl, rfl⟩) rfl rfl, boxL rfl rfl rfl ⟨(.ni _ rfl), (.ni _ rfl), trivial⟩, trivial⟩) ?_
                  rintro ⟨k_88, i_86⟩ ⟨hk_k_88, hL2⟩
                  try dsimp only at hk_k_88 hL2
                  show awp _ _ _ _ _ _ ⟨eL [(1, .int .i64 (w64 ((1 : Int) + r_2))), (7, .int .i64 (w64 ((1 : Int) + r_1))), (8, .ptr 0 0), (10, .ptr 1 0), (11, .int .i64 i_86), (12, .ptr 2 0), (13, .int .i64 i_12), (15, .ptr 3 0), (16, .lst 30 (r_15.2.1.map encMessage)), (19, .int .i64 (k_88 : Int))], hL [(0, .box [.int .i64 i_6, .lst 3 (a_7.map encSender)]), (1, .box [.lst 1 (r_13.2.L.map iA), .int .i64 r_13.2.At]), (2, .row 1 ((a_10.set i_11.toNat true).map bA)), (3, .box [.int .i64 r_15.1.Window, .lst 3 (r_15.1.L.map encSender)])], 4⟩
                  conv => whnf
                  refine len_q (enc := encMessage) (l := r_15.2.1) rfl ?_
                  conv => whnf
                  refine ⟨fun h => ?_, fun h => ?_⟩
                  · have hlt_k_88 : k_88 < r_15.2.1.length := by have h := of_decide_eq_true h; omega
                    obtain ⟨e_89, h_e_89⟩ : ∃ y, r_15.2.1[k_88]? = some y := ⟨_, List.getElem?_eq_getElem hlt_k_88⟩
                    rw [drop_cons h_e_89, law05_InboxOrder_L2.eq_2] at hL2
                    conv => whnf
                    refine ⟨k_88, _, rfl, ix_map h_e_89, ?_⟩
                    conv => whnf
                    obtain ⟨r_90, h_r_90, hL2⟩ := bind_some hL2
                    refine ⟨_, _, _, _, _, _, _, _, _, callX false [] [] 0 Try.func14 (by decide) rfl (law05_numbered_ac (⟨#[65, 82, 78]⟩ : ByteArray) i_86 r_90 h_r_90) rfl ⟨(argE (by (conv => lhs; whnf); all_goals rfl) rfl), (argE (by (conv => lhs; whnf); all_goals rfl) rfl), trivial⟩ rfl trivial rfl rfl rfl lend0 trivial rfl, ?_⟩
                    conv => whnf
                    obtain ⟨r_91, h_r_91, hL2⟩ := bind_some hL2
                    refine ⟨_, _, _, _, _, _, _, _, _, callX false [] [] 0 Try.func15 (by decide) rfl (ref04_Same_ac e_89 r_90 r_91 h_r_91) rfl ⟨(argE (by (conv => lhs; whnf); all_goals rfl) rfl), (argE (by (conv => lhs; whnf); all_goals rfl) rfl), trivial⟩ rfl trivial rfl rfl rfl lend0 trivial rfl, ?_⟩
                    conv => whnf
                    refine ⟨by kernel_rfl, ?_⟩
                    conv => whnf
                    refine ⟨fun hb_613 => ?_, fun hb_613 => ?_⟩
                    · replace hL2 := cond_t hb_613 hL2
                      conv => whnf
                      obtain rfl := Option.some.inj hL2
                      replace hL1 := sub_ret hL1
                      obtain rfl := Option.some.inj hL1
                      replace hF := fin_ret hF
                      obtain rfl := Option.some.inj hF
                      exact ret_gz [] [] [] rfl (argFl (by (conv => lhs; whnf); all_goals rfl)) trivial
                    · replace hL2 := cond_f hb_613 hL2
                      conv => whnf
                      refine ⟨_, rfl, ?_⟩
                      conv => whnf
                      refine ⟨((k_88 + 1 : Nat) : Int), wrapE (by omega) (by omega) (by omega), ?_⟩
                      conv => whnf
                      exact ⟨(k_88 + 1, (w64 (i_86 + (1 : Int)))), [0, 1, 2, 3], [], [], ⟨hlt_k_88, hL2⟩, by show r_15.2.1.length - (k_88 + 1) < r_15.2.1.length - k_88; omega, wk_mk [0, 1, 2, 3] [] [] rfl ⟨argE (by (conv => lhs; whnf); all_goals rfl) rfl, argE (by (conv => lhs; whnf); all_goals rfl) rfl, argP (id := 0) (by (conv => lhs; whnf); all_goals rfl) rfl, argP (id := 1) (by (conv => lhs; whnf); all_goals rfl) rfl, argE (by (conv => lhs; whnf); all_goals rfl) rfl, argP (id := 2) (by (conv => lhs; whnf); all_goals rfl) rfl, argE (by (conv => lhs; whnf); all_goals rfl) rfl, argP (id := 3) (by (conv => lhs; whnf); all_goals rfl) rfl, argE (by (conv => lhs; whnf); all_goals rfl) rfl, argE (by (conv => lhs; whnf); all_goals rfl) rfl, trivial⟩ ⟨boxL rfl rfl rfl ⟨(.ni _ rfl), (.ni _ rfl), trivial⟩, boxL rfl rfl rfl ⟨(.ni _ rfl), (.ni _ rfl), trivial⟩, blkR (fun _ => ⟨rfl, rfl⟩) rfl rfl, boxL rfl rfl rfl ⟨(.ni _ rfl), (.ni _ rfl), trivial⟩, trivial⟩⟩
                  · rw [drop_nil (show r_15.2.1.length ≤ k_88 by have h := of_decide_eq_false h; omega), law05_InboxOrder_L2.eq_1] at hL2
                    conv => whnf
                    obtain rfl := Option.some.inj hL2
                    replace hL1 := sub_brk hL1
                    try dsimp only at hL1
                    refine ⟨fun hb_614 => ?_, fun hb_614 => ?_⟩
                    · replace hL1 := cond_t hb_614 hL1
                      conv => whnf
                      obtain ⟨u_94, h_u_94, hL1⟩ := bind_some hL1
                      refine ixa_q 1 h_u_94 rfl (fun m_u_94 hm_u_94 => ?_)
                      conv => whnf
                      obtain ⟨v_95, h_v_95, hL1⟩ := bind_some hL1
                      refine ⟨_, ix_map (enc := bA) (ixL_at h_v_95 (ixm1 hm_u_94)), ?_⟩
                      conv => whnf
                      refine ⟨fun hb_615 => ?_, fun hb_615 => ?_⟩
                      · replace hL1 := cond_t hb_615 hL1
                        conv => whnf
                        obtain rfl := Option.some.inj hL1
                        replace hF := fin_ret hF
                        obtain rfl := Option.some.inj hF
                        exact ret_gz [] [] [] rfl (argFl (by (conv => lhs; whnf); all_goals rfl)) trivial
                      · replace hL1 := cond_f hb_615 hL1
                        conv => whnf
                        refine ⟨_, rfl, ?_⟩
                        conv => whnf
                        exact ⟨(q_261, r_15.1.Window, r_15.1.L, r_13.2.L, r_13.2.At, i_86, (a_10.set i_11.toNat true), (w64 (i_12 + (1 : Int)))), [0, 1, 2], [], [], hL1, Nat.lt_succ_self _, wk_mk [0, 1, 2] [] [] rfl ⟨argE (by (conv => lhs; whnf); all_goals rfl) rfl, argE (by (conv => lhs; whnf); all_goals rfl) rfl, argP (id := 0) (by (conv => lhs; whnf); all_goals rfl) rfl, argP (id := 1) (by (conv => lhs; whnf); all_goals rfl) rfl, argE (by (conv => lhs; whnf); all_goals rfl) rfl, argP (id := 2) (by (conv => lhs; whnf); all_goals rfl) rfl, argE (by (conv => lhs; whnf); all_goals rfl) rfl, trivial⟩ ⟨boxL rfl rfl rfl ⟨(.ni _ rfl), (.ni _ rfl), trivial⟩, boxL rfl rfl rfl ⟨(.ni _ rfl), (.ni _ rfl), trivial⟩, blkR (fun _ => ⟨rfl, rfl⟩) rfl rfl, trivial⟩⟩
                    · replace hL1 := cond_f hb_614 hL1
                      conv => whnf
                      refine ⟨_, rfl, ?_⟩
                      conv => whnf
                      exact ⟨(q_261, r_15.1.Window, r_15.1.L, r_13.2.L, r_13.2.At, i_86, (a_10.set i_11.toNat true), (w64 (i_12 + (1 : Int)))), [0, 1, 2], [], [], hL1, Nat.lt_succ_self _, wk_mk [0, 1, 2] [] [] rfl ⟨argE (by (conv => lhs; whnf); all_goals rfl) rfl, argE (by (conv => lhs; whnf); all_goals rfl) rfl, argP (id := 0) (by (conv => lhs; whnf); all_goals rfl) rfl, argP (id := 1) (by (conv => lhs; whnf); all_goals rfl) rfl, argE (by (conv => lhs; whnf); all_goals rfl) rfl, argP (id := 2) (by (conv => lhs; whnf); all_goals rfl) rfl, argE (by (conv => lhs; whnf); all_goals rfl) rfl, trivial⟩ ⟨boxL rfl rfl rfl ⟨(.ni _ rfl), (.ni _ rfl), trivial⟩, boxL rfl rfl rfl ⟨(.ni _ rfl), (.ni _ rfl), trivial⟩, blkR (fun _ => ⟨rfl, rfl⟩) rfl rfl, trivial⟩⟩
            · replace hL1 := cond_t hb_589 hL1
              conv => whnf
              obtain rfl := Option.some.inj hL1
              replace hF := fin_ret hF
              obtain rfl := Option.some.inj hF
              exact ret_gz [] [] [] rfl (argFl (by (conv => lhs; whnf); all_goals rfl)) trivial
      · replace hL1 := cond_f hb_586 hL1
        conv => whnf
        obtain rfl := Option.some.inj hL1
        replace hF := fin_brk hF
        try dsimp only at hF
        refine ⟨_, rfl, ?_⟩
        conv => whnf
        refine ⟨fun hb_673 => ?_, fun hb_673 => ?_⟩
        · replace hF := cond_t hb_673 hF
          conv => whnf
          obtain ⟨r_263, h_r_263, hF⟩ := bind_some hF
          refine ⟨_, _, _, _, _, _, _, _, _, callX false [] [] 0 Try.func16 (by decide) rfl (inbox_Missing_ac (⟨i_6, a_7⟩ : Inbox) (⟨#[65, 82, 78]⟩ : ByteArray) r_263 h_r_263) rfl ⟨(argE (by (conv => lhs; whnf); all_goals rfl) rfl), (argE (by (conv => lhs; whnf); all_goals rfl) rfl), trivial⟩ rfl trivial rfl rfl rfl lend0 trivial rfl, ?_⟩
          conv => whnf
          refine len_q (enc := iA) (l := r_263) rfl ?_
          conv => whnf
          refine ⟨fun hb_674 => ?_, fun hb_674 => ?_⟩
          · replace hF := cond_t hb_674 hF
            conv => whnf
            obtain ⟨r_264, h_r_264, hF⟩ := bind_some hF
            refine ⟨_, _, _, _, _, _, _, _, _, callX false [] [] 0 Try.func17 (by decide) rfl (law05_awake_ac r_264 h_r_264) rfl trivial rfl trivial rfl rfl rfl lend0 trivial rfl, ?_⟩
            conv => whnf
            obtain rfl := Option.some.inj hF
            exact ret_gz [] [] [] rfl (argE (by (conv => lhs; whnf); all_goals rfl) rfl) trivial
          · replace hF := cond_f hb_674 hF
            conv => whnf
            obtain rfl := Option.some.inj hF
            exact ret_gz [] [] [] rfl (argFl (by (conv => lhs; whnf); all_goals rfl)) trivial
        · replace hF := cond_f hb_673 hF
          conv => whnf
          obtain rfl := Option.some.inj hF
          exact ret_gz [] [] [] rfl (argFl (by (conv => lhs; whnf); all_goals rfl)) trivial
    · replace hL1 := cond_f hb_585 hL1
      conv => whnf
      obtain rfl := Option.some.inj hL1
      replace hF := fin_brk hF
      try dsimp only at hF
      refine ⟨_, rfl, ?_⟩
      conv => whnf
      refine ⟨fun hb_675 => ?_, fun hb_675 => ?_⟩
      · replace hF := cond_t hb_675 hF
        conv => whnf
        obtain ⟨r_263, h_r_263, hF⟩ := bind_some hF
        refine ⟨_, _, _, _, _, _, _, _, _, callX false [] [] 0 Try.func16 (by decide) rfl (inbox_Missing_ac (⟨i_6, a_7⟩ : Inbox) (⟨#[65, 82, 78]⟩ : ByteArray) r_263 h_r_263) rfl ⟨(argE (by (conv => lhs; whnf); all_goals rfl) rfl), (argE (by (conv => lhs; whnf); all_goals rfl) rfl), trivial⟩ rfl trivial rfl rfl rfl lend0 trivial rfl, ?_⟩
        conv => whnf
        refine len_q (enc := iA) (l := r_263) rfl ?_
        conv => whnf
        refine ⟨fun hb_676 => ?_, fun hb_676 => ?_⟩
        · replace hF := cond_t hb_676 hF
          conv => whnf
          obtain ⟨r_264, h_r_264, hF⟩ := bind_some hF
          refine ⟨_, _, _, _, _, _, _, _, _, callX false [] [] 0 Try.func17 (by decide) rfl (law05_awake_ac r_264 h_r_264) rfl trivial rfl trivial rfl rfl rfl lend0 trivial rfl, ?_⟩
          conv => whnf
          obtain rfl := Option.some.inj hF
          exact ret_gz [] [] [] rfl (argE (by (conv => lhs; whnf); all_goals rfl) rfl) trivial
        · replace hF := cond_f hb_676 hF
          conv => whnf
          obtain rfl := Option.some.inj hF
          exact ret_gz [] [] [] rfl (argFl (by (conv => lhs; whnf); all_goals rfl)) trivial
      · replace hF := cond_f hb_675 hF
        conv => whnf
        obtain rfl := Option.some.inj hF
        exact ret_gz [] [] [] rfl (argFl (by (conv => lhs; whnf); all_goals rfl)) trivial
end Go.Proofs.Ytpipggnfbgjefaa.Ex
