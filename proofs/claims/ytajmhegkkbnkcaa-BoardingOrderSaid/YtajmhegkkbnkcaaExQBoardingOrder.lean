/- The functions of the program compute what was printed; walks printed by a program. -/
import Derived.Test.YtajmhegkkbnkcaaExF
import Derived.Test.YtajmhegkkbnkcaaExP1
import Derived.Test.YtajmhegkkbnkcaaExP2
namespace Go.Proofs.Ytajmhegkkbnkcaa.Ex
open Go.RowKit Go.Proofs.Ytajmhegkkbnkcaa.Ax
set_option linter.unusedVariables false
set_option linter.unusedSimpArgs false
set_option maxRecDepth 100000 in
set_option maxHeartbeats 40000000 in
theorem law25_BoardingOrder_ac (x_0 : (List Int)) (x_1 : (List Int)) (r : Bool) (hF : law25_BoardingOrder x_0 x_1 = some r) : AC Try.prog 5 [.lst 1 (x_0.map iA), .lst 1 (x_1.map iA)] [] (.bool r) [] := by
  refine ac_of tab_ok follows_ok Try.func5 rfl Try.ntmps5 rfl ?_
  unfold law25_BoardingOrder at hF
  conv => whnf
  obtain ⟨r_1, h_r_1, hF⟩ := bind_some hF
  refine ⟨_, _, _, _, _, _, _, _, callX false [] [] Try.func11 (by decide) rfl (keep_New_ac x_0 r_1 h_r_1) rfl ⟨(argE (by (conv => lhs; whnf); all_goals rfl) rfl), trivial⟩ rfl trivial rfl rfl rfl lend0 ⟨rfl, trivial⟩, ?_⟩
  conv => whnf
  obtain ⟨r_2, h_r_2, hF⟩ := bind_some hF
  refine ⟨_, _, _, _, _, _, _, _, callX false [0] [] Try.func16 (by decide) rfl (keep_Src_N_ac r_1 (12 : Int) r_2 h_r_2) rfl ⟨(argP (id := 0) (by (conv => lhs; whnf); all_goals rfl) rfl), (argE (by (conv => lhs; whnf); all_goals rfl) rfl), trivial⟩ rfl ⟨rfl, trivial⟩ rfl rfl rfl lend0 ⟨rfl, trivial⟩, ?_⟩
  conv => whnf
  obtain ⟨c_1, hc_1, hF⟩ := fin_some hF
  refine sw_loop tab_ok follows_ok (fun y : Nat × (List Int) × Int × (List Message) × Int => law25_BoardingOrder_L1 y.1 y.2.1 y.2.2.1 y.2.2.2.1 y.2.2.2.2 = some c_1) (fun y => ⟨eL [(1, .lst 1 (x_1.map iA)), (5, .ptr 0 0), (6, .osl 1), (7, .int .i64 y.2.2.2.2)], hL [(0, .box [.lst 1 (y.2.1.map iA), .int .i64 y.2.2.1]), (1, .row 30 (y.2.2.2.1.map encMessage))], 2⟩) (fun y => y.1) (9223372036854775807, r_2.2.L, r_2.2.At, ([] : List Message), r_2.1) hc_1 (wk_mk [0] [1] [] rfl ⟨argE (by (conv => lhs; whnf); all_goals rfl) rfl, argP (id := 0) (by (conv => lhs; whnf); all_goals rfl) rfl, argZ (by (conv => lhs; whnf); all_goals rfl) rfl, argE (by (conv => lhs; whnf); all_goals rfl) rfl, trivial⟩ ⟨boxL rfl rfl rfl ⟨(.ni _ rfl), (.ni _ rfl), trivial⟩, blkZ rfl, trivial⟩) ?_
  rintro ⟨q_9, a_3, i_4, a_5, i_6⟩ hL1
  try dsimp only at hL1
  rcases q_9 with _ | q_9
  · rw [law25_BoardingOrder_L1.eq_1] at hL1
    cases hL1
  rw [law25_BoardingOrder_L1.eq_2] at hL1
  show awp _ _ _ _ _ _ ⟨eL [(1, .lst 1 (x_1.map iA)), (5, .ptr 0 0), (6, .osl 1), (7, .int .i64 i_6)], hL [(0, .box [.lst 1 (a_3.map iA), .int .i64 i_4]), (1, .row 30 (a_5.map encMessage))], 2⟩
  conv => whnf
  refine ⟨fun hb_34 => ?_, fun hb_34 => ?_⟩
  · replace hL1 := cond_t hb_34 hL1
    conv => whnf
    obtain ⟨r_7, h_r_7, hL1⟩ := bind_some hL1
    refine ⟨_, _, _, _, _, _, _, _, callX false [0] [] Try.func21 (by decide) rfl (keep_Src_List_ac (⟨a_3, i_4⟩ : Src) r_7 h_r_7) rfl ⟨(argP (id := 0) (by (conv => lhs; whnf); all_goals rfl) rfl), trivial⟩ rfl ⟨rfl, trivial⟩ rfl rfl rfl lend0 ⟨rfl, trivial⟩, ?_⟩
    conv => whnf
    obtain ⟨l_8, h_l_8, hL1⟩ := bind_some hL1
    refine ap_q (enc := encMessage) (l := a_5) (y := ([r_7.1] : List Message)) h_l_8 rfl rfl (by decide) ?_
    conv => whnf
    refine ⟨_, rfl, ?_⟩
    conv => whnf
    exact ⟨(q_9, r_7.2.L, r_7.2.At, l_8, (w64 (i_6 - (1 : Int)))), [0, 4], [], [], hL1, Nat.lt_succ_self _, wk_mk [0, 4] [] [] rfl ⟨argE (by (conv => lhs; whnf); all_goals rfl) rfl, argP (id := 0) (by (conv => lhs; whnf); all_goals rfl) rfl, argO (id := 4) (by (conv => lhs; whnf); all_goals rfl) rfl, argE (by (conv => lhs; whnf); all_goals rfl) rfl, trivial⟩ ⟨boxL rfl rfl rfl ⟨(.ni _ rfl), (.ni _ rfl), trivial⟩, blkR (fun _ => ⟨rfl, rfl⟩) rfl rfl, trivial⟩⟩
  · replace hL1 := cond_f hb_34 hL1
    conv => whnf
    obtain rfl := Option.some.inj hL1
    replace hF := fin_brk hF
    try dsimp only at hF
    refine len_q (enc := encMessage) (l := a_5) rfl ?_
    conv => whnf
    obtain ⟨c_2, hc_2, hF⟩ := fin_some hF
    refine sw_br 1 (sz := 30) (xs := a_5.map encMessage) (by (conv => lhs; whnf); all_goals rfl) (fun hb => ?_)
    have hbd_k_13 : a_5.length ≤ 9223372036854775807 := bnd_len (enc := encMessage) (hb)
    refine sw_loop tab_ok follows_ok (fun y : Nat × (List Manifest) => y.1 ≤ a_5.length ∧ law25_BoardingOrder_L2 (a_5.drop y.1) y.1 y.2 = some c_2) (fun y => ⟨eL [(1, .lst 1 (x_1.map iA)), (6, .osl 0), (8, .lst 7 (y.2.map encManifest)), (9, .nils), (33, .int .i64 (a_5.length : Int)), (34, .int .i64 (y.1 : Int))], hL [(0, .row 30 (a_5.map encMessage))], 1⟩) (fun y => a_5.length - y.1) (0, ([] : List Manifest)) ⟨Nat.zero_le _, hc_2⟩ (wk_mk [1] [] [] rfl ⟨argE (by (conv => lhs; whnf); all_goals rfl) rfl, argO (id := 1) (by (conv => lhs; whnf); all_goals rfl) rfl, argN (by (conv => lhs; whnf); all_goals rfl), argE (by (conv => lhs; whnf); all_goals rfl) rfl, argE (by (conv => lhs; whnf); all_goals rfl) rfl, argE (by (conv => lhs; whnf); all_goals rfl) rfl, trivial⟩ ⟨blkR (fun _ => ⟨rfl, rfl⟩) rfl rfl, trivial⟩) ?_
    rintro ⟨k_13, a_11⟩ ⟨hk_k_13, hL1⟩
    try dsimp only at hk_k_13 hL1
    show awp _ _ _ _ _ _ ⟨eL [(1, .lst 1 (x_1.map iA)), (6, .osl 0), (8, .lst 7 (a_11.map encManifest)), (9, .nils), (33, .int .i64 (a_5.length : Int)), (34, .int .i64 (k_13 : Int))], hL [(0, .row 30 (a_5.map encMessage))], 1⟩
    conv => whnf
    refine ⟨fun h => ?_, fun h => ?_⟩
    · have hlt_k_13 : k_13 < a_5.length := by have h := of_decide_eq_true h; omega
      obtain ⟨e_14, h_e_14⟩ : ∃ y, a_5[k_13]? = some y := ⟨_, List.getElem?_eq_getElem hlt_k_13⟩
      rw [drop_cons h_e_14, law25_BoardingOrder_L2.eq_2] at hL1
      conv => whnf
      refine ⟨k_13, rfl, by rw [List.length_map]; exact hlt_k_13, ?_⟩
      conv => whnf
      refine ⟨_, ix_map (enc := encMessage) h_e_14, ?_⟩
      conv => whnf
      obtain ⟨r_15, h_r_15, hL1⟩ := bind_some hL1
      refine ⟨_, _, _, _, _, _, _, _, callX false [] [] Try.func25 (by decide) rfl (boarding_Apply_ac a_11 e_14 r_15 h_r_15) rfl ⟨(argE (by (conv => lhs; whnf); all_goals rfl) rfl), (argE (by (conv => lhs; whnf); all_goals rfl) rfl), trivial⟩ rfl trivial rfl rfl rfl lend0 trivial, ?_⟩
      conv => whnf
      refine ⟨fun hb_35 => ?_, fun hb_35 => ?_⟩
      · replace hL1 := cond_t hb_35 hL1
        conv => whnf
        obtain rfl := Option.some.inj hL1
        replace hF := fin_ret hF
        obtain rfl := Option.some.inj hF
        exact ret_gz [] [] [] rfl (argFl (by (conv => lhs; whnf); all_goals rfl)) trivial
      · replace hL1 := cond_f hb_35 hL1
        conv => whnf
        refine ⟨((k_13 + 1 : Nat) : Int), wrapE (by omega) (by omega) (by omega), ?_⟩
        conv => whnf
        exact ⟨(k_13 + 1, r_15.1), [0], [], [], ⟨hlt_k_13, hL1⟩, by show a_5.length - (k_13 + 1) < a_5.length - k_13; omega, wk_mk [0] [] [] rfl ⟨argE (by (conv => lhs; whnf); all_goals rfl) rfl, argO (id := 0) (by (conv => lhs; whnf); all_goals rfl) rfl, argE (by (conv => lhs; whnf); all_goals rfl) rfl, argE (by (conv => lhs; whnf); all_goals rfl) rfl, argE (by (conv => lhs; whnf); all_goals rfl) rfl, argE (by (conv => lhs; whnf); all_goals rfl) rfl, trivial⟩ ⟨blkR (fun _ => ⟨rfl, rfl⟩) rfl rfl, trivial⟩⟩
    · rw [drop_nil (show a_5.length ≤ k_13 by have h := of_decide_eq_false h; omega), law25_BoardingOrder_L2.eq_1] at hL1
      conv => whnf
      obtain rfl := Option.some.inj hL1
      replace hF := fin_brk hF
      try dsimp only at hF
      obtain ⟨c_3, hc_3, hF⟩ := fin_some hF
      refine sw_bv 1 (v := .lst 1 (x_1.map iA)) (by (conv => lhs; whnf); all_goals rfl) (fun hb => ?_)
      have hbd_k_20 : x_1.length ≤ 9223372036854775807 := bnd_len (enc := iA) (hb)
      refine sw_loop tab_ok follows_ok (fun y : Nat × (List Manifest) => y.1 ≤ x_1.length ∧ law25_BoardingOrder_L3 a_5 (x_1.drop y.1) y.1 y.2 = some c_3) (fun y => ⟨eL [(1, .lst 1 (x_1.map iA)), (6, .osl 0), (8, .lst 7 (a_11.map encManifest)), (9, .lst 7 (y.2.map encManifest)), (13, .int .i64 (y.1 : Int))], hL [(0, .row 30 (a_5.map encMessage))], 1⟩) (fun y => x_1.length - y.1) (0, ([] : List Manifest)) ⟨Nat.zero_le _, hc_3⟩ (wk_mk [0] [] [] rfl ⟨argE (by (conv => lhs; whnf); all_goals rfl) rfl, argO (id := 0) (by (conv => lhs; whnf); all_goals rfl) rfl, argE (by (conv => lhs; whnf); all_goals rfl) rfl, argN (by (conv => lhs; whnf); all_goals rfl), argE (by (conv => lhs; whnf); all_goals rfl) rfl, trivial⟩ ⟨blkR (fun _ => ⟨rfl, rfl⟩) rfl rfl, trivial⟩) ?_
      rintro ⟨k_20, a_18⟩ ⟨hk_k_20, hL1⟩
      try dsimp only at hk_k_20 hL1
      show awp _ _ _ _ _ _ ⟨eL [(1, .lst 1 (x_1.map iA)), (6, .osl 0), (8, .lst 7 (a_11.map encManifest)), (9, .lst 7 (a_18.map encManifest)), (13, .int .i64 (k_20 : Int))], hL [(0, .row 30 (a_5.map encMessage))], 1⟩
      conv => whnf
      refine len_q (enc := iA) (l := x_1) rfl ?_
      conv => whnf
      refine ⟨fun h => ?_, fun h => ?_⟩
      · have hlt_k_20 : k_20 < x_1.length := by have h := of_decide_eq_true h; omega
        obtain ⟨e_21, h_e_21⟩ : ∃ y, x_1[k_20]? = some y := ⟨_, List.getElem?_eq_getElem hlt_k_20⟩
        rw [drop_cons h_e_21, law25_BoardingOrder_L3.eq_2] at hL1
        conv => whnf
        refine ⟨fun hb_36 => ?_, fun hb_36 => ?_⟩
        · replace hL1 := cond_t hb_36 hL1
          conv => whnf
          refine len_q (enc := encMessage) (l := a_5) rfl ?_
          conv => whnf
          refine ⟨fun hb_37 => ?_, fun hb_37 => ?_⟩
          · replace hL1 := cond_t hb_37 hL1
            conv => whnf
            refine ⟨k_20, _, rfl, ix_map h_e_21, ?_⟩
            conv => whnf
            refine len_q (enc := encMessage) (l := a_5) rfl ?_
            conv => whnf
            obtain ⟨r_22, h_r_22, hL1⟩ := bind_some hL1
            refine ⟨_, _, _, _, _, _, _, _, callX false [] [] Try.func28 (by decide) rfl (keep_Mod_ac e_21 (a_5.length : Int) r_22 h_r_22) rfl ⟨(argE (by (conv => lhs; whnf); all_goals rfl) rfl), (argE (by (conv => lhs; whnf); all_goals rfl) rfl), trivial⟩ rfl trivial rfl rfl rfl lend0 trivial, ?_⟩
            conv => whnf
            obtain ⟨e_23, h_e_23, hL1⟩ := bind_some hL1
            refine ixo_q (enc := encMessage) (l := a_5) h_e_23 rfl (fun m_e_23 hm_e_23 hx_e_23 => ?_)
            conv => whnf
            refine ⟨_, ix_map (enc := encMessage) hx_e_23, ?_⟩
            conv => whnf
            obtain ⟨r_24, h_r_24, hL1⟩ := bind_some hL1
            refine ⟨_, _, _, _, _, _, _, _, callX false [] [] Try.func25 (by decide) rfl (boarding_Apply_ac a_18 e_23 r_24 h_r_24) rfl ⟨(argE (by (conv => lhs; whnf); all_goals rfl) rfl), (argE (by (conv => lhs; whnf); all_goals rfl) rfl), trivial⟩ rfl trivial rfl rfl rfl lend0 trivial, ?_⟩
            conv => whnf
            refine ⟨fun hb_38 => ?_, fun hb_38 => ?_⟩
            · replace hL1 := cond_t hb_38 hL1
              conv => whnf
              obtain rfl := Option.some.inj hL1
              replace hF := fin_ret hF
              obtain rfl := Option.some.inj hF
              exact ret_gz [] [] [] rfl (argFl (by (conv => lhs; whnf); all_goals rfl)) trivial
            · replace hL1 := cond_f hb_38 hL1
              conv => whnf
              refine ⟨((k_20 + 1 : Nat) : Int), wrapE (by omega) (by omega) (by omega), ?_⟩
              conv => whnf
              exact ⟨(k_20 + 1, r_24.1), [0], [], [], ⟨hlt_k_20, hL1⟩, by show x_1.length - (k_20 + 1) < x_1.length - k_20; omega, wk_mk [0] [] [] rfl ⟨argE (by (conv => lhs; whnf); all_goals rfl) rfl, argO (id := 0) (by (conv => lhs; whnf); all_goals rfl) rfl, argE (by (conv => lhs; whnf); all_goals rfl) rfl, argE (by (conv => lhs; whnf); all_goals rfl) rfl, argE (by (conv => lhs; whnf); all_goals rfl) rfl, trivial⟩ ⟨blkR (fun _ => ⟨rfl, rfl⟩) rfl rfl, trivial⟩⟩
          · replace hL1 := cond_f hb_37 hL1
            conv => whnf
            obtain rfl := Option.some.inj hL1
            replace hF := fin_brk hF
            try dsimp only at hF
            refine len_q (enc := encMessage) (l := a_5) rfl ?_
            conv => whnf
            refine ⟨_, rfl, ?_⟩
            conv => whnf
            obtain ⟨c_4, hc_4, hF⟩ := fin_some hF
            refine sw_loop tab_ok follows_ok (fun y : Nat × (List Manifest) × Int => law25_BoardingOrder_L4 a_5 y.1 y.2.1 y.2.2 = some c_4) (fun y => ⟨eL [(6, .osl 0), (8, .lst 7 (a_11.map encManifest)), (9, .lst 7 (y.2.1.map encManifest)), (16, .int .i64 y.2.2)], hL [(0, .row 30 (a_5.map encMessage))], 1⟩) (fun y => y.1) (9223372036854775807, a_18, (w64 ((a_5.length : Int) - (1 : Int)))) hc_4 (wk_mk [0] [] [] rfl ⟨argO (id := 0) (by (conv => lhs; whnf); all_goals rfl) rfl, argE (by (conv => lhs; whnf); all_goals rfl) rfl, argE (by (conv => lhs; whnf); all_goals rfl) rfl, argE (by (conv => lhs; whnf); all_goals rfl) rfl, trivial⟩ ⟨blkR (fun _ => ⟨rfl, rfl⟩) rfl rfl, trivial⟩) ?_
            rintro ⟨q_31, a_27, i_28⟩ hL1
            try dsimp only at hL1
            rcases q_31 with _ | q_31
            · rw [law25_BoardingOrder_L4.eq_1] at hL1
              cases hL1
            rw [law25_BoardingOrder_L4.eq_2] at hL1
            show awp _ _ _ _ _ _ ⟨eL [(6, .osl 0), (8, .lst 7 (a_11.map encManifest)), (9, .lst 7 (a_27.map encManifest)), (16, .int .i64 i_28)], hL [(0, .row 30 (a_5.map encMessage))], 1⟩
            conv => whnf
            refine ⟨fun hb_39 => ?_, fun hb_39 => ?_⟩
            · replace hL1 := cond_t hb_39 hL1
              conv => whnf
              obtain ⟨e_29, h_e_29, hL1⟩ := bind_some hL1
              refine ixo_q (enc := encMessage) (l := a_5) h_e_29 rfl (fun m_e_29 hm_e_29 hx_e_29 => ?_)
              conv => whnf
              refine ⟨_, ix_map (enc := encMessage) hx_e_29, ?_⟩
              conv => whnf
              obtain ⟨r_30, h_r_30, hL1⟩ := bind_some hL1
              refine ⟨_, _, _, _, _, _, _, _, callX false [] [] Try.func25 (by decide) rfl (boarding_Apply_ac a_27 e_29 r_30 h_r_30) rfl ⟨(argE (by (conv => lhs; whnf); all_goals rfl) rfl), (argE (by (conv => lhs; whnf); all_goals rfl) rfl), trivial⟩ rfl trivial rfl rfl rfl lend0 trivial, ?_⟩
              conv => whnf
              refine ⟨fun hb_40 => ?_, fun hb_40 => ?_⟩
              · replace hL1 := cond_t hb_40 hL1
                conv => whnf
                obtain rfl := Option.some.inj hL1
                replace hF := fin_ret hF
                obtain rfl := Option.some.inj hF
                exact ret_gz [] [] [] rfl (argFl (by (conv => lhs; whnf); all_goals rfl)) trivial
              · replace hL1 := cond_f hb_40 hL1
                conv => whnf
                refine ⟨_, rfl, ?_⟩
                conv => whnf
                exact ⟨(q_31, r_30.1, (w64 (i_28 - (1 : Int)))), [0], [], [], hL1, Nat.lt_succ_self _, wk_mk [0] [] [] rfl ⟨argO (id := 0) (by (conv => lhs; whnf); all_goals rfl) rfl, argE (by (conv => lhs; whnf); all_goals rfl) rfl, argE (by (conv => lhs; whnf); all_goals rfl) rfl, argE (by (conv => lhs; whnf); all_goals rfl) rfl, trivial⟩ ⟨blkR (fun _ => ⟨rfl, rfl⟩) rfl rfl, trivial⟩⟩
            · replace hL1 := cond_f hb_39 hL1
              conv => whnf
              obtain rfl := Option.some.inj hL1
              replace hF := fin_brk hF
              try dsimp only at hF
              obtain ⟨r_33, h_r_33, hF⟩ := bind_some hF
              refine ⟨_, _, _, _, _, _, _, _, callX false [] [] Try.func27 (by decide) rfl (ref25_SameAll_ac a_11 a_27 r_33 h_r_33) rfl ⟨(argE (by (conv => lhs; whnf); all_goals rfl) rfl), (argE (by (conv => lhs; whnf); all_goals rfl) rfl), trivial⟩ rfl trivial rfl rfl rfl lend0 trivial, ?_⟩
              conv => whnf
              refine ⟨fun hb_41 => ?_, fun hb_41 => ?_⟩
              · replace hF := cond_t hb_41 hF
                conv => whnf
                obtain ⟨r_34, h_r_34, hF⟩ := bind_some hF
                refine ⟨_, _, _, _, _, _, _, _, callX false [] [] Try.func15 (by decide) rfl (ref25_Validate_ac a_11 r_34 h_r_34) rfl ⟨(argE (by (conv => lhs; whnf); all_goals rfl) rfl), trivial⟩ rfl trivial rfl rfl rfl lend0 trivial, ?_⟩
                conv => whnf
                refine ⟨fun hb_42 => ?_, fun hb_42 => ?_⟩
                · replace hF := cond_t hb_42 hF
                  conv => whnf
                  obtain ⟨r_35, h_r_35, hF⟩ := bind_some hF
                  refine ⟨_, _, _, _, _, _, _, _, callX false [] [] Try.func20 (by decide) rfl (law25_awake_ac r_35 h_r_35) rfl trivial rfl trivial rfl rfl rfl lend0 trivial, ?_⟩
                  conv => whnf
                  obtain rfl := Option.some.inj hF
                  exact ret_gz [] [] [] rfl (argE (by (conv => lhs; whnf); all_goals rfl) rfl) trivial
                · replace hF := cond_f hb_42 hF
                  conv => whnf
                  obtain rfl := Option.some.inj hF
                  exact ret_gz [] [] [] rfl (argFl (by (conv => lhs; whnf); all_goals rfl)) trivial
              · replace hF := cond_f hb_41 hF
                conv => whnf
                obtain rfl := Option.some.inj hF
                exact ret_gz [] [] [] rfl (argFl (by (conv => lhs; whnf); all_goals rfl)) trivial
        · replace hL1 := cond_f hb_36 hL1
          conv => whnf
          obtain rfl := Option.some.inj hL1
          replace hF := fin_brk hF
          try dsimp only at hF
          refine len_q (enc := encMessage) (l := a_5) rfl ?_
          conv => whnf
          refine ⟨_, rfl, ?_⟩
          conv => whnf
          obtain ⟨c_4, hc_4, hF⟩ := fin_some hF
          refine sw_loop tab_ok follows_ok (fun y : Nat × (List Manifest) × Int => law25_BoardingOrder_L4 a_5 y.1 y.2.1 y.2.2 = some c_4) (fun y => ⟨eL [(6, .osl 0), (8, .lst 7 (a_11.map encManifest)), (9, .lst 7 (y.2.1.map encManifest)), (16, .int .i64 y.2.2)], hL [(0, .row 30 (a_5.map encMessage))], 1⟩) (fun y => y.1) (9223372036854775807, a_18, (w64 ((a_5.length : Int) - (1 : Int)))) hc_4 (wk_mk [0] [] [] rfl ⟨argO (id := 0) (by (conv => lhs; whnf); all_goals rfl) rfl, argE (by (conv => lhs; whnf); all_goals rfl) rfl, argE (by (conv => lhs; whnf); all_goals rfl) rfl, argE (by (conv => lhs; whnf); all_goals rfl) rfl, trivial⟩ ⟨blkR (fun _ => ⟨rfl, rfl⟩) rfl rfl, trivial⟩) ?_
          rintro ⟨q_31, a_27, i_28⟩ hL1
          try dsimp only at hL1
          rcases q_31 with _ | q_31
          · rw [law25_BoardingOrder_L4.eq_1] at hL1
            cases hL1
          rw [law25_BoardingOrder_L4.eq_2] at hL1
          show awp _ _ _ _ _ _ ⟨eL [(6, .osl 0), (8, .lst 7 (a_11.map encManifest)), (9, .lst 7 (a_27.map encManifest)), (16, .int .i64 i_28)], hL [(0, .row 30 (a_5.map encMessage))], 1⟩
          conv => whnf
          refine ⟨fun hb_43 => ?_, fun hb_43 => ?_⟩
          · replace hL1 := cond_t hb_43 hL1
            conv => whnf
            obtain ⟨e_29, h_e_29, hL1⟩ := bind_some hL1
            refine ixo_q (enc := encMessage) (l := a_5) h_e_29 rfl (fun m_e_29 hm_e_29 hx_e_29 => ?_)
            conv => whnf
            refine ⟨_, ix_map (enc := encMessage) hx_e_29, ?_⟩
            conv => whnf
            obtain ⟨r_30, h_r_30, hL1⟩ := bind_some hL1
            refine ⟨_, _, _, _, _, _, _, _, callX false [] [] Try.func25 (by decide) rfl (boarding_Apply_ac a_27 e_29 r_30 h_r_30) rfl ⟨(argE (by (conv => lhs; whnf); all_goals rfl) rfl), (argE (by (conv => lhs; whnf); all_goals rfl) rfl), trivial⟩ rfl trivial rfl rfl rfl lend0 trivial, ?_⟩
            conv => whnf
            refine ⟨fun hb_44 => ?_, fun hb_44 => ?_⟩
            · replace hL1 := cond_t hb_44 hL1
              conv => whnf
              obtain rfl := Option.some.inj hL1
              replace hF := fin_ret hF
              obtain rfl := Option.some.inj hF
              exact ret_gz [] [] [] rfl (argFl (by (conv => lhs; whnf); all_goals rfl)) trivial
            · replace hL1 := cond_f hb_44 hL1
              conv => whnf
              refine ⟨_, rfl, ?_⟩
              conv => whnf
              exact ⟨(q_31, r_30.1, (w64 (i_28 - (1 : Int)))), [0], [], [], hL1, Nat.lt_succ_self _, wk_mk [0] [] [] rfl ⟨argO (id := 0) (by (conv => lhs; whnf); all_goals rfl) rfl, argE (by (conv => lhs; whnf); all_goals rfl) rfl, argE (by (conv => lhs; whnf); all_goals rfl) rfl, argE (by (conv => lhs; whnf); all_goals rfl) rfl, trivial⟩ ⟨blkR (fun _ => ⟨rfl, rfl⟩) rfl rfl, trivial⟩⟩
          · replace hL1 := cond_f hb_43 hL1
            conv => whnf
            obtain rfl := Option.some.inj hL1
            replace hF := fin_brk hF
            try dsimp only at hF
            obtain ⟨r_33, h_r_33, hF⟩ := bind_some hF
            refine ⟨_, _, _, _, _, _, _, _, callX false [] [] Try.func27 (by decide) rfl (ref25_SameAll_ac a_11 a_27 r_33 h_r_33) rfl ⟨(argE (by (conv => lhs; whnf); all_goals rfl) rfl), (argE (by (conv => lhs; whnf); all_goals rfl) rfl), trivial⟩ rfl trivial rfl rfl rfl lend0 trivial, ?_⟩
            conv => whnf
            refine ⟨fun hb_45 => ?_, fun hb_45 => ?_⟩
            · replace hF := cond_t hb_45 hF
              conv => whnf
              obtain ⟨r_34, h_r_34, hF⟩ := bind_some hF
              refine ⟨_, _, _, _, _, _, _, _, callX false [] [] Try.func15 (by decide) rfl (ref25_Validate_ac a_11 r_34 h_r_34) rfl ⟨(argE (by (conv => lhs; whnf); all_goals rfl) rfl), trivial⟩ rfl trivial rfl rfl rfl lend0 trivial, ?_⟩
              conv => whnf
              refine ⟨fun hb_46 => ?_, fun hb_46 => ?_⟩
              · replace hF := cond_t hb_46 hF
                conv => whnf
                obtain ⟨r_35, h_r_35, hF⟩ := bind_some hF
                refine ⟨_, _, _, _, _, _, _, _, callX false [] [] Try.func20 (by decide) rfl (law25_awake_ac r_35 h_r_35) rfl trivial rfl trivial rfl rfl rfl lend0 trivial, ?_⟩
                conv => whnf
                obtain rfl := Option.some.inj hF
                exact ret_gz [] [] [] rfl (argE (by (conv => lhs; whnf); all_goals rfl) rfl) trivial
              · replace hF := cond_f hb_46 hF
                conv => whnf
                obtain rfl := Option.some.inj hF
                exact ret_gz [] [] [] rfl (argFl (by (conv => lhs; whnf); all_goals rfl)) trivial
            · replace hF := cond_f hb_45 hF
              conv => whnf
              obtain rfl := Option.some.inj hF
              exact ret_gz [] [] [] rfl (argFl (by (conv => lhs; whnf); all_goals rfl)) trivial
      · rw [drop_nil (show x_1.length ≤ k_20 by have h := of_decide_eq_false h; omega), law25_BoardingOrder_L3.eq_1] at hL1
        conv => whnf
        obtain rfl := Option.some.inj hL1
        replace hF := fin_brk hF
        try dsimp only at hF
        refine len_q (enc := encMessage) (l := a_5) rfl ?_
        conv => whnf
        refine ⟨_, rfl, ?_⟩
        conv => whnf
        obtain ⟨c_4, hc_4, hF⟩ := fin_some hF
        refine sw_loop tab_ok follows_ok (fun y : Nat × (List Manifest) × Int => law25_BoardingOrder_L4 a_5 y.1 y.2.1 y.2.2 = some c_4) (fun y => ⟨eL [(6, .osl 0), (8, .lst 7 (a_11.map encManifest)), (9, .lst 7 (y.2.1.map encManifest)), (16, .int .i64 y.2.2)], hL [(0, .row 30 (a_5.map encMessage))], 1⟩) (fun y => y.1) (9223372036854775807, a_18, (w64 ((a_5.length : Int) - (1 : Int)))) hc_4 (wk_mk [0] [] [] rfl ⟨argO (id := 0) (by (conv => lhs; whnf); all_goals rfl) rfl, argE (by (conv => lhs; whnf); all_goals rfl) rfl, argE (by (conv => lhs; whnf); all_goals rfl) rfl, argE (by (conv => lhs; whnf); all_goals rfl) rfl, trivial⟩ ⟨blkR (fun _ => ⟨rfl, rfl⟩) rfl rfl, trivial⟩) ?_
        rintro ⟨q_31, a_27, i_28⟩ hL1
        try dsimp only at hL1
        rcases q_31 with _ | q_31
        · rw [law25_BoardingOrder_L4.eq_1] at hL1
          cases hL1
        rw [law25_BoardingOrder_L4.eq_2] at hL1
        show awp _ _ _ _ _ _ ⟨eL [(6, .osl 0), (8, .lst 7 (a_11.map encManifest)), (9, .lst 7 (a_27.map encManifest)), (16, .int .i64 i_28)], hL [(0, .row 30 (a_5.map encMessage))], 1⟩
        conv => whnf
        refine ⟨fun hb_47 => ?_, fun hb_47 => ?_⟩
        · replace hL1 := cond_t hb_47 hL1
          conv => whnf
          obtain ⟨e_29, h_e_29, hL1⟩ := bind_some hL1
          refine ixo_q (enc := encMessage) (l := a_5) h_e_29 rfl (fun m_e_29 hm_e_29 hx_e_29 => ?_)
          conv => whnf
          refine ⟨_, ix_map (enc := encMessage) hx_e_29, ?_⟩
          conv => whnf
          obtain ⟨r_30, h_r_30, hL1⟩ := bind_some hL1
          refine ⟨_, _, _, _, _, _, _, _, callX false [] [] Try.func25 (by decide) rfl (boarding_Apply_ac a_27 e_29 r_30 h_r_30) rfl ⟨(argE (by (conv => lhs; whnf); all_goals rfl) rfl), (argE (by (conv => lhs; whnf); all_goals rfl) rfl), trivial⟩ rfl trivial rfl rfl rfl lend0 trivial, ?_⟩
          conv => whnf
          refine ⟨fun hb_48 => ?_, fun hb_48 => ?_⟩
          · replace hL1 := cond_t hb_48 hL1
            conv => whnf
            obtain rfl := Option.some.inj hL1
            replace hF := fin_ret hF
            obtain rfl := Option.some.inj hF
            exact ret_gz [] [] [] rfl (argFl (by (conv => lhs; whnf); all_goals rfl)) trivial
          · replace hL1 := cond_f hb_48 hL1
            conv => whnf
            refine ⟨_, rfl, ?_⟩
            conv => whnf
            exact ⟨(q_31, r_30.1, (w64 (i_28 - (1 : Int)))), [0], [], [], hL1, Nat.lt_succ_self _, wk_mk [0] [] [] rfl ⟨argO (id := 0) (by (conv => lhs; whnf); all_goals rfl) rfl, argE (by (conv => lhs; whnf); all_goals rfl) rfl, argE (by (conv => lhs; whnf); all_goals rfl) rfl, argE (by (conv => lhs; whnf); all_goals rfl) rfl, trivial⟩ ⟨blkR (fun _ => ⟨rfl, rfl⟩) rfl rfl, trivial⟩⟩
        · replace hL1 := cond_f hb_47 hL1
          conv => whnf
          obtain rfl := Option.some.inj hL1
          replace hF := fin_brk hF
          try dsimp only at hF
          obtain ⟨r_33, h_r_33, hF⟩ := bind_some hF
          refine ⟨_, _, _, _, _, _, _, _, callX false [] [] Try.func27 (by decide) rfl (ref25_SameAll_ac a_11 a_27 r_33 h_r_33) rfl ⟨(argE (by (conv => lhs; whnf); all_goals rfl) rfl), (argE (by (conv => lhs; whnf); all_goals rfl) rfl), trivial⟩ rfl trivial rfl rfl rfl lend0 trivial, ?_⟩
          conv => whnf
          refine ⟨fun hb_49 => ?_, fun hb_49 => ?_⟩
          · replace hF := cond_t hb_49 hF
            conv => whnf
            obtain ⟨r_34, h_r_34, hF⟩ := bind_some hF
            refine ⟨_, _, _, _, _, _, _, _, callX false [] [] Try.func15 (by decide) rfl (ref25_Validate_ac a_11 r_34 h_r_34) rfl ⟨(argE (by (conv => lhs; whnf); all_goals rfl) rfl), trivial⟩ rfl trivial rfl rfl rfl lend0 trivial, ?_⟩
            conv => whnf
            refine ⟨fun hb_50 => ?_, fun hb_50 => ?_⟩
            · replace hF := cond_t hb_50 hF
              conv => whnf
              obtain ⟨r_35, h_r_35, hF⟩ := bind_some hF
              refine ⟨_, _, _, _, _, _, _, _, callX false [] [] Try.func20 (by decide) rfl (law25_awake_ac r_35 h_r_35) rfl trivial rfl trivial rfl rfl rfl lend0 trivial, ?_⟩
              conv => whnf
              obtain rfl := Option.some.inj hF
              exact ret_gz [] [] [] rfl (argE (by (conv => lhs; whnf); all_goals rfl) rfl) trivial
            · replace hF := cond_f hb_50 hF
              conv => whnf
              obtain rfl := Option.some.inj hF
              exact ret_gz [] [] [] rfl (argFl (by (conv => lhs; whnf); all_goals rfl)) trivial
          · replace hF := cond_f hb_49 hF
            conv => whnf
            obtain rfl := Option.some.inj hF
            exact ret_gz [] [] [] rfl (argFl (by (conv => lhs; whnf); all_goals rfl)) trivial
end Go.Proofs.Ytajmhegkkbnkcaa.Ex
