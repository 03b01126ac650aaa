/- The functions of the program compute what was printed; walks printed by a program. -/
import Derived.Test.YtbiofbmjonmglaaDoorExF
import Derived.Test.YtbiofbmjonmglaaDoorExP1
import Derived.Test.YtbiofbmjonmglaaDoorExP3
namespace Go.Proofs.YtbiofbmjonmglaaDoor.Ex
open Go.RowKit Go.Proofs.YtbiofbmjonmglaaDoor.Ax
set_option linter.unusedVariables false
set_option linter.unusedSimpArgs false
set_option maxRecDepth 100000 in
set_option maxHeartbeats 40000000 in
theorem law26_AuthorityRulings_ac (x_0 : (List Ruling)) (x_1 : (List Int)) (x_2 : Plate) (r : Bool) (hF : law26_AuthorityRulings x_0 x_1 x_2 = some r) : AC Tryd.prog 8 [.lst 6 (x_0.map encRuling), .lst 1 (x_1.map iA), .agg (encPlate x_2)] [] (.bool r) [] := by
  refine ac_of tab_ok follows_ok Tryd.func8 rfl Tryd.ntmps8 rfl ?_
  unfold law26_AuthorityRulings at hF
  conv => whnf
  obtain ⟨r_1, h_r_1, hF⟩ := bind_some hF
  refine ⟨_, _, _, _, _, _, _, _, _, callX false [] [] 1 Tryd.func11 (by decide) rfl (keep_New_ac x_1 r_1 h_r_1) rfl ⟨(argE (by (conv => lhs; whnf); all_goals rfl) rfl), trivial⟩ rfl trivial rfl rfl rfl lend0 ⟨rfl, trivial⟩ rfl, ?_⟩
  conv => whnf
  refine len_q (enc := encRuling) (l := x_0) rfl ?_
  conv => whnf
  refine ⟨fun hb_35 => ?_, fun hb_35 => ?_⟩
  · replace hF := cond_t hb_35 hF
    conv => whnf
    obtain rfl := Option.some.inj hF
    exact ret_gz [] [] [] rfl (argT (by (conv => lhs; whnf); all_goals rfl)) trivial
  · replace hF := cond_f hb_35 hF
    conv => whnf
    obtain ⟨r_2, h_r_2, hF⟩ := bind_some hF
    refine ⟨_, _, _, _, _, _, _, _, _, callX false [1] [] 0 Tryd.func15 (by decide) rfl (keep_Src_N_ac r_1 (12 : Int) r_2 h_r_2) rfl ⟨(argP (id := 1) (by (conv => lhs; whnf); all_goals rfl) rfl), (argE (by (conv => lhs; whnf); all_goals rfl) rfl), trivial⟩ rfl ⟨rfl, trivial⟩ rfl rfl rfl lend0 ⟨rfl, trivial⟩ rfl, ?_⟩
    conv => whnf
    obtain ⟨c_1, hc_1, hF⟩ := fin_some hF
    refine sw_loop tab_ok follows_ok (fun y : Nat × (List Int) × Int × (List Ruling) × Int => law26_AuthorityRulings_L1 y.1 y.2.1 y.2.2.1 y.2.2.2.1 y.2.2.2.2 = some c_1) (fun y => ⟨eL [(0, .lst 6 (x_0.map encRuling)), (5, .ptr 0 0), (7, .ptr 1 0), (8, .osl 2), (9, .int .i64 y.2.2.2.2)], hL [(0, .box [.int .i64 x_2.Lead, .int .i64 x_2.Airline, .int .i64 x_2.Serial]), (1, .box [.lst 1 (y.2.1.map iA), .int .i64 y.2.2.1]), (2, .row 6 (y.2.2.2.1.map encRuling))], 3⟩) (fun y => y.1) (9223372036854775807, r_2.2.L, r_2.2.At, ([] : List Ruling), r_2.1) hc_1 (wk_mk [0, 1] [2] [] rfl ⟨argE (by (conv => lhs; whnf); all_goals rfl) rfl, argP (id := 0) (by (conv => lhs; whnf); all_goals rfl) rfl, argP (id := 1) (by (conv => lhs; whnf); all_goals rfl) rfl, argZ (by (conv => lhs; whnf); all_goals rfl) rfl, argE (by (conv => lhs; whnf); all_goals rfl) rfl, trivial⟩ ⟨boxL rfl rfl rfl ⟨(.ni _ rfl), (.ni _ rfl), (.ni _ rfl), trivial⟩, boxL rfl rfl rfl ⟨(.ni _ rfl), (.ni _ rfl), trivial⟩, blkZ rfl, trivial⟩) ?_
    rintro ⟨q_11, a_3, i_4, a_5, i_6⟩ hL1
    try dsimp only at hL1
    rcases q_11 with _ | q_11
    · rw [law26_AuthorityRulings_L1.eq_1] at hL1
      cases hL1
    rw [law26_AuthorityRulings_L1.eq_2] at hL1
    show awp _ _ _ _ _ _ ⟨eL [(0, .lst 6 (x_0.map encRuling)), (5, .ptr 0 0), (7, .ptr 1 0), (8, .osl 2), (9, .int .i64 i_6)], hL [(0, .box [.int .i64 x_2.Lead, .int .i64 x_2.Airline, .int .i64 x_2.Serial]), (1, .box [.lst 1 (a_3.map iA), .int .i64 i_4]), (2, .row 6 (a_5.map encRuling))], 3⟩
    conv => whnf
    refine ⟨fun hb_36 => ?_, fun hb_36 => ?_⟩
    · replace hL1 := cond_t hb_36 hL1
      conv => whnf
      obtain ⟨r_7, h_r_7, hL1⟩ := bind_some hL1
      refine ⟨_, _, _, _, _, _, _, _, _, callX false [1] [] 0 Tryd.func29 (by decide) rfl (keep_Src_Plate_ac (⟨a_3, i_4⟩ : Src) (6 : Int) r_7 h_r_7) rfl ⟨(argP (id := 1) (by (conv => lhs; whnf); all_goals rfl) rfl), (argE (by (conv => lhs; whnf); all_goals rfl) rfl), trivial⟩ rfl ⟨rfl, trivial⟩ rfl rfl rfl lend0 ⟨rfl, trivial⟩ rfl, ?_⟩
      conv => whnf
      obtain ⟨r_8, h_r_8, hL1⟩ := bind_some hL1
      refine ⟨_, _, _, _, _, _, _, _, _, callX false [1] [] 0 Tryd.func15 (by decide) rfl (keep_Src_N_ac r_7.2 (2 : Int) r_8 h_r_8) rfl ⟨(argP (id := 1) (by (conv => lhs; whnf); all_goals rfl) rfl), (argE (by (conv => lhs; whnf); all_goals rfl) rfl), trivial⟩ rfl ⟨rfl, trivial⟩ rfl rfl rfl lend0 ⟨rfl, trivial⟩ rfl, ?_⟩
      conv => whnf
      obtain ⟨r_9, h_r_9, hL1⟩ := bind_some hL1
      refine ⟨_, _, _, _, _, _, _, _, _, callX false [1] [] 0 Tryd.func15 (by decide) rfl (keep_Src_N_ac r_8.2 (2 : Int) r_9 h_r_9) rfl ⟨(argP (id := 1) (by (conv => lhs; whnf); all_goals rfl) rfl), (argE (by (conv => lhs; whnf); all_goals rfl) rfl), trivial⟩ rfl ⟨rfl, trivial⟩ rfl rfl rfl lend0 ⟨rfl, trivial⟩ rfl, ?_⟩
      conv => whnf
      obtain ⟨l_10, h_l_10, hL1⟩ := bind_some hL1
      refine ap_q (enc := encRuling) (l := a_5) (y := ([(⟨r_7.1, (⟨(r_8.1 == (1 : Int)), (1 : Int), r_9.1⟩ : Decision)⟩ : Ruling)] : List Ruling)) h_l_10 rfl rfl (by decide) ?_
      conv => whnf
      refine ⟨_, rfl, ?_⟩
      conv => whnf
      exact ⟨(q_11, r_9.2.L, r_9.2.At, l_10, (w64 (i_6 - (1 : Int)))), [0, 1, 7], [], [], hL1, Nat.lt_succ_self _, wk_mk [0, 1, 7] [] [] rfl ⟨argE (by (conv => lhs; whnf); all_goals rfl) rfl, argP (id := 0) (by (conv => lhs; whnf); all_goals rfl) rfl, argP (id := 1) (by (conv => lhs; whnf); all_goals rfl) rfl, argO (id := 7) (by (conv => lhs; whnf); all_goals rfl) rfl, argE (by (conv => lhs; whnf); all_goals rfl) rfl, trivial⟩ ⟨boxL rfl rfl rfl ⟨(.ni _ rfl), (.ni _ rfl), (.ni _ rfl), trivial⟩, boxL rfl rfl rfl ⟨(.ni _ rfl), (.ni _ rfl), trivial⟩, blkR (fun _ => ⟨rfl, rfl⟩) rfl rfl, trivial⟩⟩
    · replace hL1 := cond_f hb_36 hL1
      conv => whnf
      obtain rfl := Option.some.inj hL1
      replace hF := fin_brk hF
      try dsimp only at hF
      refine ⟨(2 : Int), rfl, ?_⟩
      conv => whnf
      obtain ⟨c_2, hc_2, hF⟩ := fin_some hF
      refine sw_loop tab_ok follows_ok (fun y : Nat × (List Int) × Int × Int => law26_AuthorityRulings_L2 x_0 x_2 (a_3, i_4, a_5) y.1 y.2.1 y.2.2.1 y.2.2.2 = some c_2) (fun y => ⟨eL [(5, .ptr 0 0), (7, .ptr 1 0), (41, .osl 2), (42, .int .i64 (2 : Int)), (43, .int .i64 y.2.2.2)], hL [(0, .box [.int .i64 x_2.Lead, .int .i64 x_2.Airline, .int .i64 x_2.Serial]), (1, .box [.lst 1 (y.2.1.map iA), .int .i64 y.2.2.1]), (2, .row 1 (([x_0, a_5] : List (List Ruling)).map (lA 6 encRuling)))], 3⟩) (fun y => y.1) (9223372036854775807, a_3, i_4, (0 : Int)) hc_2 (wk_mk [0, 1, 3] [] [2] rfl ⟨argP (id := 0) (by (conv => lhs; whnf); all_goals rfl) rfl, argP (id := 1) (by (conv => lhs; whnf); all_goals rfl) rfl, argO (id := 3) (by (conv => lhs; whnf); all_goals rfl) rfl, argE (by (conv => lhs; whnf); all_goals rfl) rfl, argE (by (conv => lhs; whnf); all_goals rfl) rfl, trivial⟩ ⟨boxL rfl rfl rfl ⟨(.ni _ rfl), (.ni _ rfl), (.ni _ rfl), trivial⟩, boxL rfl rfl rfl ⟨(.ni _ rfl), (.ni _ rfl), trivial⟩, blk_rowsE rfl rfl (RowsA.cons (cellsL (c' := [.lst 6 (x_0.map encRuling)]) rfl rfl ⟨(.ni _ rfl), trivial⟩) (RowsA.cons (cellsL (c' := [.lst 6 (a_5.map encRuling)]) rfl rfl ⟨(.osl 2 6 _ (by simp) rfl (map_ni (fun _ => ⟨rfl, rfl⟩) _)), trivial⟩) RowsA.nil)) (by rfl), trivial⟩) ?_
      rintro ⟨q_33, a_13, i_14, i_15⟩ hL1
      try dsimp only at hL1
      rcases q_33 with _ | q_33
      · rw [law26_AuthorityRulings_L2.eq_1] at hL1
        cases hL1
      rw [law26_AuthorityRulings_L2.eq_2] at hL1
      show awp _ _ _ _ _ _ ⟨eL [(5, .ptr 0 0), (7, .ptr 1 0), (41, .osl 2), (42, .int .i64 (2 : Int)), (43, .int .i64 i_15)], hL [(0, .box [.int .i64 x_2.Lead, .int .i64 x_2.Airline, .int .i64 x_2.Serial]), (1, .box [.lst 1 (a_13.map iA), .int .i64 i_14]), (2, .row 1 (([x_0, a_5] : List (List Ruling)).map (lA 6 encRuling)))], 3⟩
      conv => whnf
      refine ⟨fun hb_37 => ?_, fun hb_37 => ?_⟩
      · replace hL1 := cond_t hb_37 hL1
        conv => whnf
        obtain ⟨e_16, h_e_16, hL1⟩ := bind_some hL1
        refine ixo_q (enc := (lA 6 encRuling)) (l := ([x_0, a_5] : List (List Ruling))) h_e_16 rfl (fun m_e_16 hm_e_16 hx_e_16 => ?_)
        conv => whnf
        refine ⟨_, ix_map (enc := (lA 6 encRuling)) hx_e_16, ?_⟩
        conv => whnf
        obtain ⟨r_17, h_r_17, hL1⟩ := bind_some hL1
        refine ⟨_, _, _, _, _, _, _, _, _, callX false [1] [] 0 Tryd.func29 (by decide) rfl (keep_Src_Plate_ac (⟨a_13, i_14⟩ : Src) (6 : Int) r_17 h_r_17) rfl ⟨(argP (id := 1) (by (conv => lhs; whnf); all_goals rfl) rfl), (argE (by (conv => lhs; whnf); all_goals rfl) rfl), trivial⟩ rfl ⟨rfl, trivial⟩ rfl rfl rfl lend0 ⟨rfl, trivial⟩ rfl, ?_⟩
        conv => whnf
        obtain ⟨r_18, h_r_18, hL1⟩ := bind_some hL1
        refine ⟨_, _, _, _, _, _, _, _, _, callX false [1] [] 0 Tryd.func29 (by decide) rfl (keep_Src_Plate_ac r_17.2 (6 : Int) r_18 h_r_18) rfl ⟨(argP (id := 1) (by (conv => lhs; whnf); all_goals rfl) rfl), (argE (by (conv => lhs; whnf); all_goals rfl) rfl), trivial⟩ rfl ⟨rfl, trivial⟩ rfl rfl rfl lend0 ⟨rfl, trivial⟩ rfl, ?_⟩
        conv => whnf
        refine ⟨by kernel_rfl, ?_⟩
        conv => whnf
        refine len_q (enc := encRuling) (l := e_16) rfl ?_
        conv => whnf
        obtain ⟨c_3, hc_3, hL1⟩ := sub_some hL1
        refine sw_bv 11 (v := .lst 6 (e_16.map encRuling)) (by (conv => lhs; whnf); all_goals rfl) (fun hb => ?_)
        have hbd_k_21 : e_16.length ≤ 9223372036854775807 := bnd_len (enc := encRuling) (hb)
        refine sw_loop tab_ok follows_ok (fun y : Nat × (List Plate) => y.1 ≤ e_16.length ∧ law26_AuthorityRulings_L3 (e_16.drop y.1) y.1 y.2 = some c_3) (fun y => ⟨eL [(5, .ptr 0 0), (7, .ptr 1 0), (11, .lst 6 (e_16.map encRuling)), (12, .osl 2), (41, .osl 3), (42, .int .i64 (2 : Int)), (43, .int .i64 i_15), (54, .int .i64 (e_16.length : Int)), (55, .int .i64 (y.1 : Int))], hL [(0, .box [.int .i64 x_2.Lead, .int .i64 x_2.Airline, .int .i64 x_2.Serial]), (1, .box [.lst 1 (r_18.2.L.map iA), .int .i64 r_18.2.At]), (2, .row 3 (y.2.map encPlate)), (3, .row 1 (([x_0, a_5] : List (List Ruling)).map (lA 6 encRuling)))], 4⟩) (fun y => e_16.length - y.1) (0, ([x_2, r_17.1, r_18.1] : List Plate)) ⟨Nat.zero_le _, hc_3⟩ (wk_mk [0, 1, 5, 2] [] [] rfl ⟨argP (id := 0) (by (conv => lhs; whnf); all_goals rfl) rfl, argP (id := 1) (by (conv => lhs; whnf); all_goals rfl) rfl, argE (by (conv => lhs; whnf); all_goals rfl) rfl, argO (id := 5) (by (conv => lhs; whnf); all_goals rfl) rfl, argO (id := 2) (by (conv => lhs; whnf); all_goals rfl) rfl, argE (by (conv => lhs; whnf); all_goals rfl) rfl, argE (by (conv => lhs; whnf); all_goals rfl) rfl, argE (by (conv => lhs; whnf); all_goals rfl) rfl, argE (by (conv => lhs; whnf); all_goals rfl) rfl, trivial⟩ ⟨boxL rfl rfl rfl ⟨(.ni _ rfl), (.ni _ rfl), (.ni _ rfl), trivial⟩, boxL rfl rfl rfl ⟨(.ni _ rfl), (.ni _ rfl), trivial⟩, blkR (fun _ => ⟨rfl, rfl⟩) rfl rfl, blkR (fun _ => ⟨rfl, rfl⟩) rfl rfl, trivial⟩) ?_
        rintro ⟨k_21, a_19⟩ ⟨hk_k_21, hL2⟩
        try dsimp only at hk_k_21 hL2
        show awp _ _ _ _ _ _ ⟨eL [(5, .ptr 0 0), (7, .ptr 1 0), (11, .lst 6 (e_16.map encRuling)), (12, .osl 2), (41, .osl 3), (42, .int .i64 (2 : Int)), (43, .int .i64 i_15), (54, .int .i64 (e_16.length : Int)), (55, .int .i64 (k_21 : Int))], hL [(0, .box [.int .i64 x_2.Lead, .int .i64 x_2.Airline, .int .i64 x_2.Serial]), (1, .box [.lst 1 (r_18.2.L.map iA), .int .i64 r_18.2.At]), (2, .row 3 (a_19.map encPlate)), (3, .row 1 (([x_0, a_5] : List (List Ruling)).map (lA 6 encRuling)))], 4⟩
        conv => whnf
        refine ⟨fun h => ?_, fun h => ?_⟩
        · have hlt_k_21 : k_21 < e_16.length := by have h := of_decide_eq_true h; omega
          obtain ⟨e_22, h_e_22⟩ : ∃ y, e_16[k_21]? = some y := ⟨_, List.getElem?_eq_getElem hlt_k_21⟩
          rw [drop_cons h_e_22, law26_AuthorityRulings_L3.eq_2] at hL2
          conv => whnf
          refine ⟨k_21, _, rfl, ix_map h_e_22, ?_⟩
          conv => whnf
          obtain ⟨l_23, h_l_23, hL2⟩ := bind_some hL2
          refine ap_q (enc := encPlate) (l := a_19) (y := ([e_22.Plate] : List Plate)) h_l_23 rfl rfl (by decide) ?_
          conv => whnf
          refine ⟨((k_21 + 1 : Nat) : Int), wrapE (by omega) (by omega) (by omega), ?_⟩
          conv => whnf
          exact ⟨(k_21 + 1, l_23), [0, 1, 5, 3], [], [], ⟨hlt_k_21, hL2⟩, by show e_16.length - (k_21 + 1) < e_16.length - k_21; omega, wk_mk [0, 1, 5, 3] [] [] rfl ⟨argP (id := 0) (by (conv => lhs; whnf); all_goals rfl) rfl, argP (id := 1) (by (conv => lhs; whnf); all_goals rfl) rfl, argE (by (conv => lhs; whnf); all_goals rfl) rfl, argO (id := 5) (by (conv => lhs; whnf); all_goals rfl) rfl, argO (id := 3) (by (conv => lhs; whnf); all_goals rfl) rfl, argE (by (conv => lhs; whnf); all_goals rfl) rfl, argE (by (conv => lhs; whnf); all_goals rfl) rfl, argE (by (conv => lhs; whnf); all_goals rfl) rfl, argE (by (conv => lhs; whnf); all_goals rfl) rfl, trivial⟩ ⟨boxL rfl rfl rfl ⟨(.ni _ rfl), (.ni _ rfl), (.ni _ rfl), trivial⟩, boxL rfl rfl rfl ⟨(.ni _ rfl), (.ni _ rfl), trivial⟩, blkR (fun _ => ⟨rfl, rfl⟩) rfl rfl, blkR (fun _ => ⟨rfl, rfl⟩) rfl rfl, trivial⟩⟩
        · rw [drop_nil (show e_16.length ≤ k_21 by have h := of_decide_eq_false h; omega), law26_AuthorityRulings_L3.eq_1] at hL2
          conv => whnf
          obtain rfl := Option.some.inj hL2
          replace hL1 := sub_brk hL1
          try dsimp only at hL1
          refine len_q (enc := encPlate) (l := a_19) rfl ?_
          conv => whnf
          obtain ⟨c_4, hc_4, hL1⟩ := sub_some hL1
          refine sw_br 2 (sz := 3) (xs := a_19.map encPlate) (by (conv => lhs; whnf); all_goals rfl) (fun hb => ?_)
          have hbd_k_27 : a_19.length ≤ 9223372036854775807 := bnd_len (enc := encPlate) (hb)
          refine sw_loop tab_ok follows_ok (fun y : Nat => y ≤ a_19.length ∧ law26_AuthorityRulings_L4 e_16 (a_19.drop y) y = some c_4) (fun y => ⟨eL [(5, .ptr 0 0), (7, .ptr 1 0), (11, .lst 6 (e_16.map encRuling)), (41, .osl 2), (42, .int .i64 (2 : Int)), (43, .int .i64 i_15), (67, .osl 3), (68, .int .i64 (a_19.length : Int)), (69, .int .i64 (y : Int))], hL [(0, .box [.int .i64 x_2.Lead, .int .i64 x_2.Airline, .int .i64 x_2.Serial]), (1, .box [.lst 1 (r_18.2.L.map iA), .int .i64 r_18.2.At]), (2, .row 1 (([x_0, a_5] : List (List Ruling)).map (lA 6 encRuling))), (3, .row 3 (a_19.map encPlate))], 4⟩) (fun y => a_19.length - y) 0 ⟨Nat.zero_le _, hc_4⟩ (wk_mk [0, 1, 3, 2] [] [] rfl ⟨argP (id := 0) (by (conv => lhs; whnf); all_goals rfl) rfl, argP (id := 1) (by (conv => lhs; whnf); all_goals rfl) rfl, argE (by (conv => lhs; whnf); all_goals rfl) rfl, argO (id := 3) (by (conv => lhs; whnf); all_goals rfl) rfl, argE (by (conv => lhs; whnf); all_goals rfl) rfl, argE (by (conv => lhs; whnf); all_goals rfl) rfl, argO (id := 2) (by (conv => lhs; whnf); all_goals rfl) rfl, argE (by (conv => lhs; whnf); all_goals rfl) rfl, argE (by (conv => lhs; whnf); all_goals rfl) rfl, trivial⟩ ⟨boxL rfl rfl rfl ⟨(.ni _ rfl), (.ni _ rfl), (.ni _ rfl), trivial⟩, boxL rfl rfl rfl ⟨(.ni _ rfl), (.ni _ rfl), trivial⟩, blkR (fun _ => ⟨rfl, rfl⟩) rfl rfl, blkR (fun _ => ⟨rfl, rfl⟩) rfl rfl, trivial⟩) ?_
          rintro k_27 ⟨hk_k_27, hL2⟩
          try dsimp only at hk_k_27 hL2
          show awp _ _ _ _ _ _ ⟨eL [(5, .ptr 0 0), (7, .ptr 1 0), (11, .lst 6 (e_16.map encRuling)), (41, .osl 2), (42, .int .i64 (2 : Int)), (43, .int .i64 i_15), (67, .osl 3), (68, .int .i64 (a_19.length : Int)), (69, .int .i64 (k_27 : Int))], hL [(0, .box [.int .i64 x_2.Lead, .int .i64 x_2.Airline, .int .i64 x_2.Serial]), (1, .box [.lst 1 (r_18.2.L.map iA), .int .i64 r_18.2.At]), (2, .row 1 (([x_0, a_5] : List (List Ruling)).map (lA 6 encRuling))), (3, .row 3 (a_19.map encPlate))], 4⟩
          conv => whnf
          refine ⟨fun h => ?_, fun h => ?_⟩
          · have hlt_k_27 : k_27 < a_19.length := by have h := of_decide_eq_true h; omega
            obtain ⟨e_28, h_e_28⟩ : ∃ y, a_19[k_27]? = some y := ⟨_, List.getElem?_eq_getElem hlt_k_27⟩
            rw [drop_cons h_e_28, law26_AuthorityRulings_L4.eq_2] at hL2
            conv => whnf
            refine ⟨k_27, rfl, by rw [List.length_map]; exact hlt_k_27, ?_⟩
            conv => whnf
            refine ⟨_, ix_map (enc := encPlate) h_e_28, ?_⟩
            conv => whnf
            obtain ⟨r_29, h_r_29, hL2⟩ := bind_some hL2
            refine ⟨_, _, _, _, _, _, _, _, _, callX false [] [] 0 Tryd.func30 (by decide) rfl (authority_May_ac e_16 e_28 r_29 h_r_29) rfl ⟨(argE (by (conv => lhs; whnf); all_goals rfl) rfl), (argE (by (conv => lhs; whnf); all_goals rfl) rfl), trivial⟩ rfl trivial rfl rfl rfl lend0 trivial rfl, ?_⟩
            conv => whnf
            obtain ⟨r_30, h_r_30, hL2⟩ := bind_some hL2
            refine ⟨_, _, _, _, _, _, _, _, _, callX false [] [] 0 Tryd.func31 (by decide) rfl (ref26_May_ac e_16 e_28 r_30 h_r_30) rfl ⟨(argE (by (conv => lhs; whnf); all_goals rfl) rfl), (argE (by (conv => lhs; whnf); all_goals rfl) rfl), trivial⟩ rfl trivial rfl rfl rfl lend0 trivial rfl, ?_⟩
            conv => whnf
            refine ⟨by kernel_rfl, ?_⟩
            conv => whnf
            refine ⟨fun hb_38 => ?_, fun hb_38 => ?_⟩
            · replace hL2 := cond_t hb_38 hL2
              conv => whnf
              obtain rfl := Option.some.inj hL2
              replace hL1 := sub_ret hL1
              obtain rfl := Option.some.inj hL1
              replace hF := fin_ret hF
              obtain rfl := Option.some.inj hF
              exact ret_gz [] [] [] rfl (argFl (by (conv => lhs; whnf); all_goals rfl)) trivial
            · replace hL2 := cond_f hb_38 hL2
              conv => whnf
              refine ⟨((k_27 + 1 : Nat) : Int), wrapE (by omega) (by omega) (by omega), ?_⟩
              conv => whnf
              exact ⟨k_27 + 1, [0, 1, 2, 3], [], [], ⟨hlt_k_27, hL2⟩, by show a_19.length - (k_27 + 1) < a_19.length - k_27; omega, wk_mk [0, 1, 2, 3] [] [] rfl ⟨argP (id := 0) (by (conv => lhs; whnf); all_goals rfl) rfl, argP (id := 1) (by (conv => lhs; whnf); all_goals rfl) rfl, argE (by (conv => lhs; whnf); all_goals rfl) rfl, argO (id := 2) (by (conv => lhs; whnf); all_goals rfl) rfl, argE (by (conv => lhs; whnf); all_goals rfl) rfl, argE (by (conv => lhs; whnf); all_goals rfl) rfl, argO (id := 3) (by (conv => lhs; whnf); all_goals rfl) rfl, argE (by (conv => lhs; whnf); all_goals rfl) rfl, argE (by (conv => lhs; whnf); all_goals rfl) rfl, trivial⟩ ⟨boxL rfl rfl rfl ⟨(.ni _ rfl), (.ni _ rfl), (.ni _ rfl), trivial⟩, boxL rfl rfl rfl ⟨(.ni _ rfl), (.ni _ rfl), trivial⟩, blkR (fun _ => ⟨rfl, rfl⟩) rfl rfl, blkR (fun _ => ⟨rfl, rfl⟩) rfl rfl, trivial⟩⟩
          · rw [drop_nil (show a_19.length ≤ k_27 by have h := of_decide_eq_false h; omega), law26_AuthorityRulings_L4.eq_1] at hL2
            conv => whnf
            obtain rfl := Option.some.inj hL2
            replace hL1 := sub_brk hL1
            try dsimp only at hL1
            refine ⟨_, rfl, ?_⟩
            conv => whnf
            exact ⟨(q_33, r_18.2.L, r_18.2.At, (w64 (i_15 + (1 : Int)))), [0, 1, 2], [], [], hL1, Nat.lt_succ_self _, wk_mk [0, 1, 2] [] [] rfl ⟨argP (id := 0) (by (conv => lhs; whnf); all_goals rfl) rfl, argP (id := 1) (by (conv => lhs; whnf); all_goals rfl) rfl, argO (id := 2) (by (conv => lhs; whnf); all_goals rfl) rfl, argE (by (conv => lhs; whnf); all_goals rfl) rfl, argE (by (conv => lhs; whnf); all_goals rfl) rfl, trivial⟩ ⟨boxL rfl rfl rfl ⟨(.ni _ rfl), (.ni _ rfl), (.ni _ rfl), trivial⟩, boxL rfl rfl rfl ⟨(.ni _ rfl), (.ni _ rfl), trivial⟩, blkR (fun _ => ⟨rfl, rfl⟩) rfl rfl, trivial⟩⟩
      · replace hL1 := cond_f hb_37 hL1
        conv => whnf
        obtain rfl := Option.some.inj hL1
        replace hF := fin_brk hF
        try dsimp only at hF
        obtain ⟨r_35, h_r_35, hF⟩ := bind_some hF
        refine ⟨_, _, _, _, _, _, _, _, _, callX false [] [] 0 Tryd.func21 (by decide) rfl (law26_awake_ac r_35 h_r_35) rfl trivial rfl trivial rfl rfl rfl lend0 trivial rfl, ?_⟩
        conv => whnf
        obtain rfl := Option.some.inj hF
        exact ret_gz [] [] [] rfl (argE (by (conv => lhs; whnf); all_goals rfl) rfl) trivial
end Go.Proofs.YtbiofbmjonmglaaDoor.Ex
