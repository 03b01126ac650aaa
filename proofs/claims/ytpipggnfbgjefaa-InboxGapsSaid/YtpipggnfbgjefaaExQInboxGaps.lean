/- The functions of the program compute what was printed; walks printed by a program. -/
import Derived.Test.YtpipggnfbgjefaaExF
import Derived.Test.YtpipggnfbgjefaaExP1
import Derived.Test.YtpipggnfbgjefaaExP2
import Derived.Test.YtpipggnfbgjefaaExP3
namespace Go.Proofs.Ytpipggnfbgjefaa.Ex
open Go.RowKit Go.Proofs.Ytpipggnfbgjefaa.Ax
set_option linter.unusedVariables false
set_option linter.unusedSimpArgs false
set_option maxRecDepth 100000 in
set_option maxHeartbeats 40000000 in
theorem law05_InboxGaps_ac (x_0 : Int) (r : Bool) (hF : law05_InboxGaps x_0 = some r) : AC Try.prog 7 [.int .i64 x_0] [] (.bool r) [] := by
  refine ac_of tab_ok follows_ok Try.func7 rfl Try.ntmps7 rfl ?_
  unfold law05_InboxGaps at hF
  conv => whnf
  obtain ⟨r_1, h_r_1, hF⟩ := bind_some hF
  refine ⟨_, _, _, _, _, _, _, _, _, callX false [] [] 0 Try.func9 (by decide) rfl (inbox_New_ac (8 : Int) r_1 h_r_1) rfl ⟨(argE (by (conv => lhs; whnf); all_goals rfl) rfl), trivial⟩ rfl trivial rfl rfl rfl lend0 trivial rfl, ?_⟩
  conv => whnf
  refine ⟨fun hb_42 => ?_, fun hb_42 => ?_⟩
  · replace hF := cond_t hb_42 hF
    conv => whnf
    obtain rfl := Option.some.inj hF
    exact ret_gz [] [] [] rfl (argFl (by (conv => lhs; whnf); all_goals rfl)) trivial
  · replace hF := cond_f hb_42 hF
    conv => whnf
    obtain ⟨c_1, hc_1, hF⟩ := fin_some hF
    refine sw_loop tab_ok follows_ok (fun y : Nat × Int × (List Sender) × Int × Int => law05_InboxGaps_L1 x_0 y.1 y.2.1 y.2.2.1 y.2.2.2.1 y.2.2.2.2 = some c_1) (fun y => ⟨eL [(0, .int .i64 x_0), (3, .ptr 0 0), (5, .int .i64 y.2.2.2.1), (6, .nils), (7, .int .i64 y.2.2.2.2)], hL [(0, .box [.int .i64 y.2.1, .lst 3 (y.2.2.1.map encSender)])], 1⟩) (fun y => y.1) (9223372036854775807, r_1.1.Window, r_1.1.L, (0 : Int), (2 : Int)) hc_1 (wk_mk [1] [] [] rfl ⟨argE (by (conv => lhs; whnf); all_goals rfl) rfl, argP (id := 1) (by (conv => lhs; whnf); all_goals rfl) rfl, argE (by (conv => lhs; whnf); all_goals rfl) rfl, argE (by (conv => lhs; whnf); all_goals rfl) rfl, argE (by (conv => lhs; whnf); all_goals rfl) rfl, trivial⟩ ⟨boxL rfl rfl rfl ⟨(.ni _ rfl), (.ni _ rfl), trivial⟩, trivial⟩) ?_
    rintro ⟨q_9, i_2, a_3, i_4, i_5⟩ hL1
    try dsimp only at hL1
    rcases q_9 with _ | q_9
    · rw [law05_InboxGaps_L1.eq_1] at hL1
      cases hL1
    rw [law05_InboxGaps_L1.eq_2] at hL1
    show awp _ _ _ _ _ _ ⟨eL [(0, .int .i64 x_0), (3, .ptr 0 0), (5, .int .i64 i_4), (6, .nils), (7, .int .i64 i_5)], hL [(0, .box [.int .i64 i_2, .lst 3 (a_3.map encSender)])], 1⟩
    conv => whnf
    refine ⟨fun hb_43 => ?_, fun hb_43 => ?_⟩
    · replace hL1 := cond_t hb_43 hL1
      conv => whnf
      refine ⟨_, rfl, ?_⟩
      conv => whnf
      obtain ⟨u_6, h_u_6, hL1⟩ := bind_some hL1
      refine ⟨_, shr_q (ng_some h_u_6), ?_⟩
      conv => whnf
      refine ⟨_, and_q, ?_⟩
      conv => whnf
      refine ⟨fun hb_44 => ?_, fun hb_44 => ?_⟩
      · replace hL1 := cond_t hb_44 hL1
        conv => whnf
        obtain ⟨r_7, h_r_7, hL1⟩ := bind_some hL1
        refine ⟨_, _, _, _, _, _, _, _, _, callX false [] [] 0 Try.func14 (by decide) rfl (law05_numbered_ac (⟨#[67, 80, 72]⟩ : ByteArray) i_5 r_7 h_r_7) rfl ⟨(argE (by (conv => lhs; whnf); all_goals rfl) rfl), (argE (by (conv => lhs; whnf); all_goals rfl) rfl), trivial⟩ rfl trivial rfl rfl rfl lend0 trivial rfl, ?_⟩
        conv => whnf
        obtain ⟨r_8, h_r_8, hL1⟩ := bind_some hL1
        refine ⟨_, _, _, _, _, _, _, _, _, callX false [] [] 0 Try.func13 (by decide) rfl (inbox_Receive_ac (⟨i_2, a_3⟩ : Inbox) r_7 r_8 h_r_8) rfl ⟨(argE (by (conv => lhs; whnf); all_goals rfl) rfl), (argE (by (conv => lhs; whnf); all_goals rfl) rfl), trivial⟩ rfl trivial rfl rfl rfl lend0 trivial rfl, ?_⟩
        conv => whnf
        refine ⟨by kernel_rfl, ?_⟩
        conv => whnf
        refine ⟨fun hb_45 => ?_, fun hb_45 => ?_⟩
        · replace hL1 := cond_f hb_45 hL1
          conv => whnf
          refine ⟨fun hb_46 => ?_, fun hb_46 => ?_⟩
          · replace hL1 := cond_f hb_46 hL1
            conv => whnf
            refine len_q (enc := encMessage) (l := r_8.2.1) rfl ?_
            conv => whnf
            refine ⟨fun hb_47 => ?_, fun hb_47 => ?_⟩
            · replace hL1 := cond_t hb_47 hL1
              conv => whnf
              obtain rfl := Option.some.inj hL1
              replace hF := fin_ret hF
              obtain rfl := Option.some.inj hF
              exact ret_gz [] [] [] rfl (argFl (by (conv => lhs; whnf); all_goals rfl)) trivial
            · replace hL1 := cond_f hb_47 hL1
              conv => whnf
              refine ⟨_, rfl, ?_⟩
              conv => whnf
              exact ⟨(q_9, r_8.1.Window, r_8.1.L, i_5, (w64 (i_5 + (1 : Int)))), [0], [], [], hL1, Nat.lt_succ_self _, wk_mk [0] [] [] rfl ⟨argE (by (conv => lhs; whnf); all_goals rfl) rfl, argP (id := 0) (by (conv => lhs; whnf); all_goals rfl) rfl, argE (by (conv => lhs; whnf); all_goals rfl) rfl, argE (by (conv => lhs; whnf); all_goals rfl) rfl, argE (by (conv => lhs; whnf); all_goals rfl) rfl, trivial⟩ ⟨boxL rfl rfl rfl ⟨(.ni _ rfl), (.ni _ rfl), trivial⟩, trivial⟩⟩
          · replace hL1 := cond_t hb_46 hL1
            conv => whnf
            obtain rfl := Option.some.inj hL1
            replace hF := fin_ret hF
            obtain rfl := Option.some.inj hF
            exact ret_gz [] [] [] rfl (argFl (by (conv => lhs; whnf); all_goals rfl)) trivial
        · replace hL1 := cond_t hb_45 hL1
          conv => whnf
          obtain rfl := Option.some.inj hL1
          replace hF := fin_ret hF
          obtain rfl := Option.some.inj hF
          exact ret_gz [] [] [] rfl (argFl (by (conv => lhs; whnf); all_goals rfl)) trivial
      · replace hL1 := cond_f hb_44 hL1
        conv => whnf
        refine ⟨_, rfl, ?_⟩
        conv => whnf
        exact ⟨(q_9, i_2, a_3, i_4, (w64 (i_5 + (1 : Int)))), [0], [], [], hL1, Nat.lt_succ_self _, wk_mk [0] [] [] rfl ⟨argE (by (conv => lhs; whnf); all_goals rfl) rfl, argP (id := 0) (by (conv => lhs; whnf); all_goals rfl) rfl, argE (by (conv => lhs; whnf); all_goals rfl) rfl, argE (by (conv => lhs; whnf); all_goals rfl) rfl, argE (by (conv => lhs; whnf); all_goals rfl) rfl, trivial⟩ ⟨boxL rfl rfl rfl ⟨(.ni _ rfl), (.ni _ rfl), trivial⟩, trivial⟩⟩
    · replace hL1 := cond_f hb_43 hL1
      conv => whnf
      obtain rfl := Option.some.inj hL1
      replace hF := fin_brk hF
      try dsimp only at hF
      obtain ⟨c_2, hc_2, hF⟩ := fin_some hF
      refine sw_loop tab_ok follows_ok (fun y : Nat × (List Int) × Int => law05_InboxGaps_L2 x_0 (i_2, a_3, i_4) y.1 y.2.1 y.2.2 = some c_2) (fun y => ⟨eL [(0, .int .i64 x_0), (3, .ptr 0 0), (5, .int .i64 i_4), (6, .osl 1), (12, .int .i64 y.2.2)], hL [(0, .box [.int .i64 i_2, .lst 3 (a_3.map encSender)]), (1, .row 1 (y.2.1.map iA))], 2⟩) (fun y => y.1) (9223372036854775807, ([] : List Int), (1 : Int)) hc_2 (wk_mk [0] [1] [] rfl ⟨argE (by (conv => lhs; whnf); all_goals rfl) rfl, argP (id := 0) (by (conv => lhs; whnf); all_goals rfl) rfl, argE (by (conv => lhs; whnf); all_goals rfl) rfl, argZ (by (conv => lhs; whnf); all_goals rfl) rfl, argE (by (conv => lhs; whnf); all_goals rfl) rfl, trivial⟩ ⟨boxL rfl rfl rfl ⟨(.ni _ rfl), (.ni _ rfl), trivial⟩, blkZ rfl, trivial⟩) ?_
      rintro ⟨q_16, a_11, i_12⟩ hL1
      try dsimp only at hL1
      rcases q_16 with _ | q_16
      · rw [law05_InboxGaps_L2.eq_1] at hL1
        cases hL1
      rw [law05_InboxGaps_L2.eq_2] at hL1
      show awp _ _ _ _ _ _ ⟨eL [(0, .int .i64 x_0), (3, .ptr 0 0), (5, .int .i64 i_4), (6, .osl 1), (12, .int .i64 i_12)], hL [(0, .box [.int .i64 i_2, .lst 3 (a_3.map encSender)]), (1, .row 1 (a_11.map iA))], 2⟩
      conv => whnf
      refine ⟨fun hb_48 => ?_, fun hb_48 => ?_⟩
      · replace hL1 := cond_t hb_48 hL1
        conv => whnf
        refine ⟨fun hb_49 => ?_, fun hb_49 => ?_⟩
        · replace hL1 := cond_f hb_49 hL1
          conv => whnf
          refine ⟨_, rfl, ?_⟩
          conv => whnf
          obtain ⟨u_14, h_u_14, hL1⟩ := bind_some hL1
          refine ⟨_, shr_q (ng_some h_u_14), ?_⟩
          conv => whnf
          refine ⟨_, and_q, ?_⟩
          conv => whnf
          refine ⟨fun hb_50 => ?_, fun hb_50 => ?_⟩
          · replace hL1 := cond_t hb_50 hL1
            conv => whnf
            obtain ⟨l_15, h_l_15, hL1⟩ := bind_some hL1
            refine ap_q (enc := iA) (l := a_11) (y := ([i_12] : List Int)) h_l_15 rfl rfl (by decide) ?_
            conv => whnf
            refine ⟨_, rfl, ?_⟩
            conv => whnf
            exact ⟨(q_16, l_15, (w64 (i_12 + (1 : Int)))), [0, 3], [], [], hL1, Nat.lt_succ_self _, wk_mk [0, 3] [] [] rfl ⟨argE (by (conv => lhs; whnf); all_goals rfl) rfl, argP (id := 0) (by (conv => lhs; whnf); all_goals rfl) rfl, argE (by (conv => lhs; whnf); all_goals rfl) rfl, argO (id := 3) (by (conv => lhs; whnf); all_goals rfl) rfl, argE (by (conv => lhs; whnf); all_goals rfl) rfl, trivial⟩ ⟨boxL rfl rfl rfl ⟨(.ni _ rfl), (.ni _ rfl), trivial⟩, blkR (fun _ => ⟨rfl, rfl⟩) rfl rfl, trivial⟩⟩
          · replace hL1 := cond_f hb_50 hL1
            conv => whnf
            refine ⟨_, rfl, ?_⟩
            conv => whnf
            exact ⟨(q_16, a_11, (w64 (i_12 + (1 : Int)))), [0, 1], [], [], hL1, Nat.lt_succ_self _, wk_mk [0, 1] [] [] rfl ⟨argE (by (conv => lhs; whnf); all_goals rfl) rfl, argP (id := 0) (by (conv => lhs; whnf); all_goals rfl) rfl, argE (by (conv => lhs; whnf); all_goals rfl) rfl, argO (id := 1) (by (conv => lhs; whnf); all_goals rfl) rfl, argE (by (conv => lhs; whnf); all_goals rfl) rfl, trivial⟩ ⟨boxL rfl rfl rfl ⟨(.ni _ rfl), (.ni _ rfl), trivial⟩, blkR (fun _ => ⟨rfl, rfl⟩) rfl rfl, trivial⟩⟩
        · replace hL1 := cond_t hb_49 hL1
          conv => whnf
          obtain ⟨l_13, h_l_13, hL1⟩ := bind_some hL1
          refine ap_q (enc := iA) (l := a_11) (y := ([i_12] : List Int)) h_l_13 rfl rfl (by decide) ?_
          conv => whnf
          refine ⟨_, rfl, ?_⟩
          conv => whnf
          exact ⟨(q_16, l_13, (w64 (i_12 + (1 : Int)))), [0, 3], [], [], hL1, Nat.lt_succ_self _, wk_mk [0, 3] [] [] rfl ⟨argE (by (conv => lhs; whnf); all_goals rfl) rfl, argP (id := 0) (by (conv => lhs; whnf); all_goals rfl) rfl, argE (by (conv => lhs; whnf); all_goals rfl) rfl, argO (id := 3) (by (conv => lhs; whnf); all_goals rfl) rfl, argE (by (conv => lhs; whnf); all_goals rfl) rfl, trivial⟩ ⟨boxL rfl rfl rfl ⟨(.ni _ rfl), (.ni _ rfl), trivial⟩, blkR (fun _ => ⟨rfl, rfl⟩) rfl rfl, trivial⟩⟩
      · replace hL1 := cond_f hb_48 hL1
        conv => whnf
        obtain rfl := Option.some.inj hL1
        replace hF := fin_brk hF
        try dsimp only at hF
        obtain ⟨r_18, h_r_18, hF⟩ := bind_some hF
        refine ⟨_, _, _, _, _, _, _, _, _, callX false [] [] 0 Try.func16 (by decide) rfl (inbox_Missing_ac (⟨i_2, a_3⟩ : Inbox) (⟨#[67, 80, 72]⟩ : ByteArray) r_18 h_r_18) rfl ⟨(argE (by (conv => lhs; whnf); all_goals rfl) rfl), (argE (by (conv => lhs; whnf); all_goals rfl) rfl), trivial⟩ rfl trivial rfl rfl rfl lend0 trivial rfl, ?_⟩
        conv => whnf
        obtain ⟨r_19, h_r_19, hF⟩ := bind_some hF
        refine ⟨_, _, _, _, _, _, _, _, _, callX false [] [1] 0 Try.func20 (by decide) rfl (keep_Ints_ac r_18 a_11 r_19 h_r_19) rfl ⟨(argE (by (conv => lhs; whnf); all_goals rfl) rfl), (argOL 1 (by (conv => lhs; whnf); all_goals rfl) rfl rfl (map_ni (fun _ => ⟨rfl, rfl⟩) _)), trivial⟩ rfl trivial rfl rfl rfl (lendF rfl) trivial rfl, ?_⟩
        conv => whnf
        refine ⟨fun hb_51 => ?_, fun hb_51 => ?_⟩
        · replace hF := cond_t hb_51 hF
          conv => whnf
          obtain rfl := Option.some.inj hF
          exact ret_gz [] [] [] rfl (argFl (by (conv => lhs; whnf); all_goals rfl)) trivial
        · replace hF := cond_f hb_51 hF
          conv => whnf
          obtain ⟨r_20, h_r_20, hF⟩ := bind_some hF
          refine ⟨_, _, _, _, _, _, _, _, _, callX false [] [] 0 Try.func26 (by decide) rfl (inbox_Skip_ac (⟨i_2, a_3⟩ : Inbox) (⟨#[67, 80, 72]⟩ : ByteArray) r_20 h_r_20) rfl ⟨(argE (by (conv => lhs; whnf); all_goals rfl) rfl), (argE (by (conv => lhs; whnf); all_goals rfl) rfl), trivial⟩ rfl trivial rfl rfl rfl lend0 trivial rfl, ?_⟩
          conv => whnf
          refine ⟨fun hb_52 => ?_, fun hb_52 => ?_⟩
          · replace hF := cond_t hb_52 hF
            conv => whnf
            refine ⟨fun hb_53 => ?_, fun hb_53 => ?_⟩
            · replace hF := cond_t hb_53 hF
              conv => whnf
              obtain ⟨r_21, h_r_21, hF⟩ := bind_some hF
              refine ⟨_, _, _, _, _, _, _, _, _, callX false [] [] 0 Try.func17 (by decide) rfl (law05_awake_ac r_21 h_r_21) rfl trivial rfl trivial rfl rfl rfl lend0 trivial rfl, ?_⟩
              conv => whnf
              obtain rfl := Option.some.inj hF
              exact ret_gz [] [] [] rfl (argE (by (conv => lhs; whnf); all_goals rfl) rfl) trivial
            · replace hF := cond_f hb_53 hF
              conv => whnf
              obtain rfl := Option.some.inj hF
              exact ret_gz [] [] [] rfl (argFl (by (conv => lhs; whnf); all_goals rfl)) trivial
          · replace hF := cond_f hb_52 hF
            conv => whnf
            obtain ⟨c_3, hc_3, hF⟩ := fin_some hF
            refine sw_loop tab_ok follows_ok (fun y : Nat × Int => law05_InboxGaps_L3 x_0 y.1 y.2 = some c_3) (fun y => ⟨eL [(0, .int .i64 x_0), (14, .lst 30 (r_20.2.1.map encMessage)), (15, .int .i64 r_20.2.2), (16, .int .i64 y.2)], hL [], 0⟩) (fun y => y.1) (9223372036854775807, (2 : Int)) hc_3 (wk_mk [] [] [] rfl ⟨argE (by (conv => lhs; whnf); all_goals rfl) rfl, argE (by (conv => lhs; whnf); all_goals rfl) rfl, argE (by (conv => lhs; whnf); all_goals rfl) rfl, argE (by (conv => lhs; whnf); all_goals rfl) rfl, trivial⟩ trivial) ?_
            rintro ⟨q_24, i_22⟩ hL1
            try dsimp only at hL1
            rcases q_24 with _ | q_24
            · rw [law05_InboxGaps_L3.eq_1] at hL1
              cases hL1
            rw [law05_InboxGaps_L3.eq_2] at hL1
            show awp _ _ _ _ _ _ ⟨eL [(0, .int .i64 x_0), (14, .lst 30 (r_20.2.1.map encMessage)), (15, .int .i64 r_20.2.2), (16, .int .i64 i_22)], hL [], 0⟩
            conv => whnf
            refine ⟨_, rfl, ?_⟩
            conv => whnf
            obtain ⟨u_23, h_u_23, hL1⟩ := bind_some hL1
            refine ⟨_, shr_q (ng_some h_u_23), ?_⟩
            conv => whnf
            refine ⟨_, and_q, ?_⟩
            conv => whnf
            refine ⟨fun hb_54 => ?_, fun hb_54 => ?_⟩
            · replace hL1 := cond_t hb_54 hL1
              conv => whnf
              refine ⟨_, rfl, ?_⟩
              conv => whnf
              exact ⟨(q_24, (w64 (i_22 + (1 : Int)))), [], [], [], hL1, Nat.lt_succ_self _, wk_mk [] [] [] rfl ⟨argE (by (conv => lhs; whnf); all_goals rfl) rfl, argE (by (conv => lhs; whnf); all_goals rfl) rfl, argE (by (conv => lhs; whnf); all_goals rfl) rfl, argE (by (conv => lhs; whnf); all_goals rfl) rfl, trivial⟩ trivial⟩
            · replace hL1 := cond_f hb_54 hL1
              conv => whnf
              obtain rfl := Option.some.inj hL1
              replace hF := fin_brk hF
              try dsimp only at hF
              refine ⟨fun hb_55 => ?_, fun hb_55 => ?_⟩
              · replace hF := cond_t hb_55 hF
                conv => whnf
                refine len_q (enc := encMessage) (l := r_20.2.1) rfl ?_
                conv => whnf
                refine ⟨fun hb_56 => ?_, fun hb_56 => ?_⟩
                · replace hF := cond_t hb_56 hF
                  conv => whnf
                  obtain ⟨e_26, h_e_26, hF⟩ := bind_some hF
                  refine ix_q (enc := encMessage) (l := r_20.2.1) h_e_26 rfl (fun m_e_26 hm_e_26 hx_e_26 => ?_)
                  conv => whnf
                  refine ⟨fun hb_57 => ?_, fun hb_57 => ?_⟩
                  · replace hF := cond_t hb_57 hF
                    conv => whnf
                    refine len_q (enc := encMessage) (l := r_20.2.1) rfl ?_
                    conv => whnf
                    refine ⟨_, rfl, ?_⟩
                    conv => whnf
                    obtain ⟨e_27, h_e_27, hF⟩ := bind_some hF
                    refine ix_q (enc := encMessage) (l := r_20.2.1) h_e_27 rfl (fun m_e_27 hm_e_27 hx_e_27 => ?_)
                    conv => whnf
                    refine len_q (enc := encMessage) (l := r_20.2.1) rfl ?_
                    conv => whnf
                    refine ⟨_, rfl, ?_⟩
                    conv => whnf
                    refine ⟨_, rfl, ?_⟩
                    conv => whnf
                    refine ⟨fun hb_58 => ?_, fun hb_58 => ?_⟩
                    · replace hF := cond_t hb_58 hF
                      conv => whnf
                      obtain ⟨r_28, h_r_28, hF⟩ := bind_some hF
                      refine ⟨_, _, _, _, _, _, _, _, _, callX false [] [] 0 Try.func17 (by decide) rfl (law05_awake_ac r_28 h_r_28) rfl trivial rfl trivial rfl rfl rfl lend0 trivial rfl, ?_⟩
                      conv => whnf
                      obtain rfl := Option.some.inj hF
                      exact ret_gz [] [] [] rfl (argE (by (conv => lhs; whnf); all_goals rfl) rfl) trivial
                    · replace hF := cond_f hb_58 hF
                      conv => whnf
                      obtain rfl := Option.some.inj hF
                      exact ret_gz [] [] [] rfl (argFl (by (conv => lhs; whnf); all_goals rfl)) trivial
                  · replace hF := cond_f hb_57 hF
                    conv => whnf
                    obtain rfl := Option.some.inj hF
                    exact ret_gz [] [] [] rfl (argFl (by (conv => lhs; whnf); all_goals rfl)) trivial
                · replace hF := cond_f hb_56 hF
                  conv => whnf
                  obtain rfl := Option.some.inj hF
                  exact ret_gz [] [] [] rfl (argFl (by (conv => lhs; whnf); all_goals rfl)) trivial
              · replace hF := cond_f hb_55 hF
                conv => whnf
                obtain rfl := Option.some.inj hF
                exact ret_gz [] [] [] rfl (argFl (by (conv => lhs; whnf); all_goals rfl)) trivial
end Go.Proofs.Ytpipggnfbgjefaa.Ex
