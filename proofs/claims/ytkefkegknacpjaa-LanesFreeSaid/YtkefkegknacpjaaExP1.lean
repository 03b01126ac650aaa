/- The functions of the program compute what was printed; walks printed by a program. -/
import Derived.Test.YtkefkegknacpjaaExF
import Derived.Test.YtkefkegknacpjaaGroStored
namespace Go.Proofs.Ytkefkegknacpjaa.Ex
open Go.RowKit Go.Proofs.Ytkefkegknacpjaa.Ax
set_option linter.unusedVariables false
set_option linter.unusedSimpArgs false
set_option maxRecDepth 100000 in
set_option maxHeartbeats 40000000 in
theorem keep_New_ac (x_0 : (List Int)) (r : Src) (hF : keep_New x_0 = some r) : AC Try.prog 21 [.lst 1 (x_0.map iA)] [] (.ptr 0 0) [.box (encSrc r)] := by
  refine ac_of tab_ok follows_ok Try.func21 rfl Try.ntmps21 rfl ?_
  unfold keep_New at hF
  conv => whnf
  refine len_q (enc := iA) (l := x_0) rfl ?_
  conv => whnf
  refine ⟨fun hb_2 => ?_, fun hb_2 => ?_⟩
  · replace hF := cond_t hb_2 hF
    conv => whnf
    obtain ⟨l_1, h_l_1, hF⟩ := bind_some hF
    refine sl_q0 (enc := iA) (l := x_0) h_l_1 rfl ?_
    conv => whnf
    obtain rfl := Option.some.inj hF
    exact ret_gz [0] [] [] rfl (argP (id := 0) (by (conv => lhs; whnf); all_goals rfl) rfl) ⟨boxL rfl rfl rfl ⟨(.ni _ rfl), (.ni _ rfl), trivial⟩, trivial⟩
  · replace hF := cond_f hb_2 hF
    conv => whnf
    obtain rfl := Option.some.inj hF
    exact ret_gz [0] [] [] rfl (argP (id := 0) (by (conv => lhs; whnf); all_goals rfl) rfl) ⟨boxL rfl rfl rfl ⟨(.ni _ rfl), (.ni _ rfl), trivial⟩, trivial⟩

set_option maxRecDepth 100000 in
set_option maxHeartbeats 40000000 in
theorem lanes_New_aco (x_0 : Int) (x_1 : Int) (r : Lanes × Int) (hF : lanes_New x_0 x_1 = some r) : AC Try.prog 23 [.int .i64 x_0, .int .i64 x_1] [] (.tup [.agg [.int .i64 r.1.Depth, .osl 0], .int .i64 r.2]) [.row 1 (r.1.L.map (lA 2 encStored))] := by
  refine ac_of tab_ok follows_ok Try.func23 rfl Try.ntmps23 rfl ?_
  unfold lanes_New at hF
  conv => whnf
  refine ⟨fun hb_5 => ?_, fun hb_5 => ?_⟩
  · replace hF := cond_f hb_5 hF
    conv => whnf
    refine ⟨fun hb_6 => ?_, fun hb_6 => ?_⟩
    · replace hF := cond_f hb_6 hF
      conv => whnf
      refine ⟨fun hb_7 => ?_, fun hb_7 => ?_⟩
      · replace hF := cond_f hb_7 hF
        conv => whnf
        refine ⟨fun hb_8 => ?_, fun hb_8 => ?_⟩
        · replace hF := cond_t hb_8 hF
          conv => whnf
          obtain rfl := Option.some.inj hF
          exact ret_gz [] [0] [] rfl (tupL rfl ⟨(argA (c := [.int .i64 (0 : Int), .nils]) (by (conv => lhs; whnf); all_goals rfl) rfl ⟨(.ni _ rfl), (.nilz 0 (by simp)), trivial⟩), (argE (by (conv => lhs; whnf); all_goals rfl) rfl), trivial⟩) ⟨blkZ rfl, trivial⟩
        · replace hF := cond_f hb_8 hF
          conv => whnf
          obtain ⟨l_1, h_l_1, hF⟩ := bind_some hF
          refine mk_r h_l_1 (by decide) ?_
          conv => whnf
          obtain rfl := Option.some.inj hF
          exact ret_gz [1] [] [] rfl (tupL rfl ⟨(argA (c := [.int .i64 x_1, .osl 1]) (by (conv => lhs; whnf); all_goals rfl) rfl ⟨(.ni _ rfl), (.oslg 1 0 rfl), trivial⟩), (argE (by (conv => lhs; whnf); all_goals rfl) rfl), trivial⟩) ⟨blk_rowsE rfl rfl (RowsA.rep _ (cellsL (c' := [.lst 2 (([] : List Stored).map encStored)]) rfl rfl ⟨(.nils _), trivial⟩)) (by rw [mkL_val h_l_1, List.map_replicate]; rfl), trivial⟩
      · replace hF := cond_t hb_7 hF
        conv => whnf
        obtain rfl := Option.some.inj hF
        exact ret_gz [] [0] [] rfl (tupL rfl ⟨(argA (c := [.int .i64 (0 : Int), .nils]) (by (conv => lhs; whnf); all_goals rfl) rfl ⟨(.ni _ rfl), (.nilz 0 (by simp)), trivial⟩), (argE (by (conv => lhs; whnf); all_goals rfl) rfl), trivial⟩) ⟨blkZ rfl, trivial⟩
    · replace hF := cond_t hb_6 hF
      conv => whnf
      obtain rfl := Option.some.inj hF
      exact ret_gz [] [0] [] rfl (tupL rfl ⟨(argA (c := [.int .i64 (0 : Int), .nils]) (by (conv => lhs; whnf); all_goals rfl) rfl ⟨(.ni _ rfl), (.nilz 0 (by simp)), trivial⟩), (argE (by (conv => lhs; whnf); all_goals rfl) rfl), trivial⟩) ⟨blkZ rfl, trivial⟩
  · replace hF := cond_t hb_5 hF
    conv => whnf
    obtain rfl := Option.some.inj hF
    exact ret_gz [] [0] [] rfl (tupL rfl ⟨(argA (c := [.int .i64 (0 : Int), .nils]) (by (conv => lhs; whnf); all_goals rfl) rfl ⟨(.ni _ rfl), (.nilz 0 (by simp)), trivial⟩), (argE (by (conv => lhs; whnf); all_goals rfl) rfl), trivial⟩) ⟨blkZ rfl, trivial⟩

set_option maxRecDepth 100000 in
set_option maxHeartbeats 40000000 in
theorem lanes_New_ac (x_0 : Int) (x_1 : Int) (r : Lanes × Int) (hF : lanes_New x_0 x_1 = some r) : AC Try.prog 23 [.int .i64 x_0, .int .i64 x_1] [] (.tup [.agg (encLanes r.1), .int .i64 r.2]) [] :=
  ac_weak (lanes_New_aco x_0 x_1 r hF) [] [] [0] rfl (tupL rfl ⟨(aggL rfl ⟨(.ni _ rfl), (.osl 0 1 _ (by simp) rfl (map_ni (fun _ => ⟨rfl, rfl⟩) _)), trivial⟩), (.ni _ rfl), trivial⟩) trivial

set_option maxRecDepth 100000 in
set_option maxHeartbeats 40000000 in
theorem ref17_New_aco (x_0 : Int) (x_1 : Int) (r : Lanes × Int) (hF : ref17_New x_0 x_1 = some r) : AC Try.prog 24 [.int .i64 x_0, .int .i64 x_1] [] (.tup [.agg [.int .i64 r.1.Depth, .osl 0], .int .i64 r.2]) [.row 1 (r.1.L.map (lA 2 encStored))] := by
  refine ac_of tab_ok follows_ok Try.func24 rfl Try.ntmps24 rfl ?_
  unfold ref17_New at hF
  conv => whnf
  refine ⟨fun hb_5 => ?_, fun hb_5 => ?_⟩
  · replace hF := cond_f hb_5 hF
    conv => whnf
    refine ⟨fun hb_6 => ?_, fun hb_6 => ?_⟩
    · replace hF := cond_f hb_6 hF
      conv => whnf
      refine ⟨fun hb_7 => ?_, fun hb_7 => ?_⟩
      · replace hF := cond_f hb_7 hF
        conv => whnf
        refine ⟨fun hb_8 => ?_, fun hb_8 => ?_⟩
        · replace hF := cond_t hb_8 hF
          conv => whnf
          obtain rfl := Option.some.inj hF
          exact ret_gz [] [0] [] rfl (tupL rfl ⟨(argA (c := [.int .i64 (0 : Int), .nils]) (by (conv => lhs; whnf); all_goals rfl) rfl ⟨(.ni _ rfl), (.nilz 0 (by simp)), trivial⟩), (argE (by (conv => lhs; whnf); all_goals rfl) rfl), trivial⟩) ⟨blkZ rfl, trivial⟩
        · replace hF := cond_f hb_8 hF
          conv => whnf
          obtain ⟨l_1, h_l_1, hF⟩ := bind_some hF
          refine mk_r h_l_1 (by decide) ?_
          conv => whnf
          obtain rfl := Option.some.inj hF
          exact ret_gz [1] [] [] rfl (tupL rfl ⟨(argA (c := [.int .i64 x_1, .osl 1]) (by (conv => lhs; whnf); all_goals rfl) rfl ⟨(.ni _ rfl), (.oslg 1 0 rfl), trivial⟩), (argE (by (conv => lhs; whnf); all_goals rfl) rfl), trivial⟩) ⟨blk_rowsE rfl rfl (RowsA.rep _ (cellsL (c' := [.lst 2 (([] : List Stored).map encStored)]) rfl rfl ⟨(.nils _), trivial⟩)) (by rw [mkL_val h_l_1, List.map_replicate]; rfl), trivial⟩
      · replace hF := cond_t hb_7 hF
        conv => whnf
        obtain rfl := Option.some.inj hF
        exact ret_gz [] [0] [] rfl (tupL rfl ⟨(argA (c := [.int .i64 (0 : Int), .nils]) (by (conv => lhs; whnf); all_goals rfl) rfl ⟨(.ni _ rfl), (.nilz 0 (by simp)), trivial⟩), (argE (by (conv => lhs; whnf); all_goals rfl) rfl), trivial⟩) ⟨blkZ rfl, trivial⟩
    · replace hF := cond_t hb_6 hF
      conv => whnf
      obtain rfl := Option.some.inj hF
      exact ret_gz [] [0] [] rfl (tupL rfl ⟨(argA (c := [.int .i64 (0 : Int), .nils]) (by (conv => lhs; whnf); all_goals rfl) rfl ⟨(.ni _ rfl), (.nilz 0 (by simp)), trivial⟩), (argE (by (conv => lhs; whnf); all_goals rfl) rfl), trivial⟩) ⟨blkZ rfl, trivial⟩
  · replace hF := cond_t hb_5 hF
    conv => whnf
    obtain rfl := Option.some.inj hF
    exact ret_gz [] [0] [] rfl (tupL rfl ⟨(argA (c := [.int .i64 (0 : Int), .nils]) (by (conv => lhs; whnf); all_goals rfl) rfl ⟨(.ni _ rfl), (.nilz 0 (by simp)), trivial⟩), (argE (by (conv => lhs; whnf); all_goals rfl) rfl), trivial⟩) ⟨blkZ rfl, trivial⟩

set_option maxRecDepth 100000 in
set_option maxHeartbeats 40000000 in
theorem ref17_New_ac (x_0 : Int) (x_1 : Int) (r : Lanes × Int) (hF : ref17_New x_0 x_1 = some r) : AC Try.prog 24 [.int .i64 x_0, .int .i64 x_1] [] (.tup [.agg (encLanes r.1), .int .i64 r.2]) [] :=
  ac_weak (ref17_New_aco x_0 x_1 r hF) [] [] [0] rfl (tupL rfl ⟨(aggL rfl ⟨(.ni _ rfl), (.osl 0 1 _ (by simp) rfl (map_ni (fun _ => ⟨rfl, rfl⟩) _)), trivial⟩), (.ni _ rfl), trivial⟩) trivial

set_option maxRecDepth 100000 in
set_option maxHeartbeats 40000000 in
theorem ref17_Same_ac (x_0 : Lanes) (x_1 : Lanes) (r : Bool) (hF : ref17_Same x_0 x_1 = some r) : AC Try.prog 25 [.agg (encLanes x_0), .agg (encLanes x_1)] [] (.bool r) [] := by
  refine ac_of tab_ok follows_ok Try.func25 rfl Try.ntmps25 rfl ?_
  unfold ref17_Same at hF
  conv => whnf
  refine ⟨fun hb_33 => ?_, fun hb_33 => ?_⟩
  · replace hF := cond_f hb_33 hF
    conv => whnf
    refine len_q (enc := (lA 2 encStored)) (l := x_0.L) rfl ?_
    conv => whnf
    refine len_q (enc := (lA 2 encStored)) (l := x_1.L) rfl ?_
    conv => whnf
    refine ⟨fun hb_34 => ?_, fun hb_34 => ?_⟩
    · replace hF := cond_t hb_34 hF
      conv => whnf
      obtain rfl := Option.some.inj hF
      exact ret_gz [] [] [] rfl (argFl (by (conv => lhs; whnf); all_goals rfl)) trivial
    · replace hF := cond_f hb_34 hF
      conv => whnf
      obtain ⟨c_1, hc_1, hF⟩ := fin_some hF
      refine sw_bv 0 (v := .agg [.int .i64 x_0.Depth, .lst 1 (x_0.L.map (lA 2 encStored))]) (by (conv => lhs; whnf); all_goals rfl) (fun hb => ?_)
      have hbd_k_2 : x_0.L.length ≤ 9223372036854775807 := bnd_len (enc := (lA 2 encStored)) ((bnd_at hb.cell 1 rfl))
      refine sw_loop tab_ok follows_ok (fun y : Nat => y ≤ x_0.L.length ∧ ref17_Same_L1 x_1 (x_0.L.drop y) y = some c_1) (fun y => ⟨eL [(2, .ptr 0 0), (3, .ptr 1 0), (5, .int .i64 (y : Int))], hL [(0, .box [.int .i64 x_0.Depth, .lst 1 (x_0.L.map (lA 2 encStored))]), (1, .box [.int .i64 x_1.Depth, .lst 1 (x_1.L.map (lA 2 encStored))])], 2⟩) (fun y => x_0.L.length - y) 0 ⟨Nat.zero_le _, hc_1⟩ (wk_mk [0, 1] [] [] rfl ⟨argP (id := 0) (by (conv => lhs; whnf); all_goals rfl) rfl, argP (id := 1) (by (conv => lhs; whnf); all_goals rfl) rfl, argE (by (conv => lhs; whnf); all_goals rfl) rfl, trivial⟩ ⟨boxL rfl rfl rfl ⟨(.ni _ rfl), (.ni _ rfl), trivial⟩, boxL rfl rfl rfl ⟨(.ni _ rfl), (.ni _ rfl), trivial⟩, trivial⟩) ?_
      rintro k_2 ⟨hk_k_2, hL1⟩
      try dsimp only at hk_k_2 hL1
      show awp _ _ _ _ _ _ ⟨eL [(2, .ptr 0 0), (3, .ptr 1 0), (5, .int .i64 (k_2 : Int))], hL [(0, .box [.int .i64 x_0.Depth, .lst 1 (x_0.L.map (lA 2 encStored))]), (1, .box [.int .i64 x_1.Depth, .lst 1 (x_1.L.map (lA 2 encStored))])], 2⟩
      conv => whnf
      refine len_q (enc := (lA 2 encStored)) (l := x_0.L) rfl ?_
      conv => whnf
      refine ⟨fun h => ?_, fun h => ?_⟩
      · have hlt_k_2 : k_2 < x_0.L.length := by have h := of_decide_eq_true h; omega
        obtain ⟨e_3, h_e_3⟩ : ∃ y, x_0.L[k_2]? = some y := ⟨_, List.getElem?_eq_getElem hlt_k_2⟩
        rw [drop_cons h_e_3, ref17_Same_L1.eq_2] at hL1
        conv => whnf
        refine ⟨k_2, _, rfl, ix_map h_e_3, ?_⟩
        conv => whnf
        refine len_q (enc := encStored) (l := e_3) rfl ?_
        conv => whnf
        obtain ⟨e_4, h_e_4, hL1⟩ := bind_some hL1
        refine ix_q (enc := (lA 2 encStored)) (l := x_1.L) h_e_4 rfl (fun m_e_4 hm_e_4 hx_e_4 => ?_)
        conv => whnf
        refine len_q (enc := encStored) (l := e_4) rfl ?_
        conv => whnf
        refine ⟨by kernel_rfl, ?_⟩
        conv => whnf
        refine ⟨fun hb_35 => ?_, fun hb_35 => ?_⟩
        · replace hL1 := cond_t hb_35 hL1
          conv => whnf
          obtain rfl := Option.some.inj hL1
          replace hF := fin_ret hF
          obtain rfl := Option.some.inj hF
          exact ret_gz [] [] [] rfl (argFl (by (conv => lhs; whnf); all_goals rfl)) trivial
        · replace hL1 := cond_f hb_35 hL1
          conv => whnf
          obtain ⟨c_2, hc_2, hL1⟩ := sub_some hL1
          refine sw_bv 31 (v := .iptr [.lst 2 (e_3.map encStored)]) (by (conv => lhs; whnf); all_goals rfl) (fun hb => ?_)
          have hbd_k_6 : e_3.length ≤ 9223372036854775807 := bnd_len (enc := encStored) ((bnd_at hb.icell 0 rfl))
          refine sw_loop tab_ok follows_ok (fun y : Nat => y ≤ e_3.length ∧ ref17_Same_L2 x_1 k_2 (e_3.drop y) y = some c_2) (fun y => ⟨eL [(2, .ptr 0 0), (3, .ptr 1 0), (5, .int .i64 (k_2 : Int)), (6, .int .i64 (y : Int))], hL [(0, .box [.int .i64 x_0.Depth, .lst 1 (x_0.L.map (lA 2 encStored))]), (1, .box [.int .i64 x_1.Depth, .lst 1 (x_1.L.map (lA 2 encStored))])], 2⟩) (fun y => e_3.length - y) 0 ⟨Nat.zero_le _, hc_2⟩ (wk_mk [0, 1] [] [] rfl ⟨argP (id := 0) (by (conv => lhs; whnf); all_goals rfl) rfl, argP (id := 1) (by (conv => lhs; whnf); all_goals rfl) rfl, argE (by (conv => lhs; whnf); all_goals rfl) rfl, argE (by (conv => lhs; whnf); all_goals rfl) rfl, trivial⟩ ⟨boxL rfl rfl rfl ⟨(.ni _ rfl), (.ni _ rfl), trivial⟩, boxL rfl rfl rfl ⟨(.ni _ rfl), (.ni _ rfl), trivial⟩, trivial⟩) ?_
          rintro k_6 ⟨hk_k_6, hL2⟩
          try dsimp only at hk_k_6 hL2
          show awp _ _ _ _ _ _ ⟨eL [(2, .ptr 0 0), (3, .ptr 1 0), (5, .int .i64 (k_2 : Int)), (6, .int .i64 (k_6 : Int))], hL [(0, .box [.int .i64 x_0.Depth, .lst 1 (x_0.L.map (lA 2 encStored))]), (1, .box [.int .i64 x_1.Depth, .lst 1 (x_1.L.map (lA 2 encStored))])], 2⟩
          conv => whnf
          refine ⟨k_2, _, rfl, ix_map h_e_3, ?_⟩
          conv => whnf
          refine len_q (enc := encStored) (l := e_3) rfl ?_
          conv => whnf
          refine ⟨fun h => ?_, fun h => ?_⟩
          · have hlt_k_6 : k_6 < e_3.length := by have h := of_decide_eq_true h; omega
            obtain ⟨e_7, h_e_7⟩ : ∃ y, e_3[k_6]? = some y := ⟨_, List.getElem?_eq_getElem hlt_k_6⟩
            rw [drop_cons h_e_7, ref17_Same_L2.eq_2] at hL2
            conv => whnf
            refine ⟨k_2, _, rfl, ix_map h_e_3, ?_⟩
            conv => whnf
            refine ⟨k_6, _, rfl, ix_map h_e_7, ?_⟩
            conv => whnf
            obtain ⟨e_8, h_e_8, hL2⟩ := bind_some hL2
            refine ix_q (enc := (lA 2 encStored)) (l := x_1.L) h_e_8 rfl (fun m_e_8 hm_e_8 hx_e_8 => ?_)
            conv => whnf
            obtain ⟨e_9, h_e_9, hL2⟩ := bind_some hL2
            refine ix_q (enc := encStored) (l := e_8) h_e_9 rfl (fun m_e_9 hm_e_9 hx_e_9 => ?_)
            conv => whnf
            refine ⟨by kernel_rfl, ?_⟩
            conv => whnf
            refine ⟨fun hb_36 => ?_, fun hb_36 => ?_⟩
            · replace hL2 := cond_t hb_36 hL2
              conv => whnf
              obtain rfl := Option.some.inj hL2
              replace hL1 := sub_ret hL1
              obtain rfl := Option.some.inj hL1
              replace hF := fin_ret hF
              obtain rfl := Option.some.inj hF
              exact ret_gz [] [] [] rfl (argFl (by (conv => lhs; whnf); all_goals rfl)) trivial
            · replace hL2 := cond_f hb_36 hL2
              conv => whnf
              refine ⟨((k_6 + 1 : Nat) : Int), wrapE (by omega) (by omega) (by omega), ?_⟩
              conv => whnf
              exact ⟨k_6 + 1, [0, 1], [], [], ⟨hlt_k_6, hL2⟩, by show e_3.length - (k_6 + 1) < e_3.length - k_6; omega, wk_mk [0, 1] [] [] rfl ⟨argP (id := 0) (by (conv => lhs; whnf); all_goals rfl) rfl, argP (id := 1) (by (conv => lhs; whnf); all_goals rfl) rfl, argE (by (conv => lhs; whnf); all_goals rfl) rfl, argE (by (conv => lhs; whnf); all_goals rfl) rfl, trivial⟩ ⟨boxL rfl rfl rfl ⟨(.ni _ rfl), (.ni _ rfl), trivial⟩, boxL rfl rfl rfl ⟨(.ni _ rfl), (.ni _ rfl), trivial⟩, trivial⟩⟩
          · rw [drop_nil (show e_3.length ≤ k_6 by have h := of_decide_eq_false h; omega), ref17_Same_L2.eq_1] at hL2
            conv => whnf
            obtain rfl := Option.some.inj hL2
            replace hL1 := sub_brk hL1
            try dsimp only at hL1
            refine ⟨((k_2 + 1 : Nat) : Int), wrapE (by omega) (by omega) (by omega), ?_⟩
            conv => whnf
            exact ⟨k_2 + 1, [0, 1], [], [], ⟨hlt_k_2, hL1⟩, by show x_0.L.length - (k_2 + 1) < x_0.L.length - k_2; omega, wk_mk [0, 1] [] [] rfl ⟨argP (id := 0) (by (conv => lhs; whnf); all_goals rfl) rfl, argP (id := 1) (by (conv => lhs; whnf); all_goals rfl) rfl, argE (by (conv => lhs; whnf); all_goals rfl) rfl, trivial⟩ ⟨boxL rfl rfl rfl ⟨(.ni _ rfl), (.ni _ rfl), trivial⟩, boxL rfl rfl rfl ⟨(.ni _ rfl), (.ni _ rfl), trivial⟩, trivial⟩⟩
      · rw [drop_nil (show x_0.L.length ≤ k_2 by have h := of_decide_eq_false h; omega), ref17_Same_L1.eq_1] at hL1
        conv => whnf
        obtain rfl := Option.some.inj hL1
        replace hF := fin_brk hF
        try dsimp only at hF
        obtain rfl := Option.some.inj hF
        exact ret_gz [] [] [] rfl (argT (by (conv => lhs; whnf); all_goals rfl)) trivial
  · replace hF := cond_t hb_33 hF
    conv => whnf
    obtain rfl := Option.some.inj hF
    exact ret_gz [] [] [] rfl (argFl (by (conv => lhs; whnf); all_goals rfl)) trivial

set_option maxRecDepth 100000 in
set_option maxHeartbeats 40000000 in
theorem keep_Src_Raw_ac (x_0 : Src) (r : Int × Src) (hF : keep_Src_Raw x_0 = some r) : AC Try.prog 42 [.ptr 0 0] [.box (encSrc x_0)] (.int .i64 r.1) [.box (encSrc r.2)] := by
  refine ac_of tab_ok follows_ok Try.func42 rfl Try.ntmps42 rfl ?_
  unfold keep_Src_Raw at hF
  conv => whnf
  refine len_q (enc := iA) (l := x_0.L) rfl ?_
  conv => whnf
  refine ⟨by kernel_rfl, ?_⟩
  conv => whnf
  refine ⟨fun hb_2 => ?_, fun hb_2 => ?_⟩
  · replace hF := cond_t hb_2 hF
    conv => whnf
    obtain rfl := Option.some.inj hF
    exact ret_gz [0] [] [] rfl (argE (by (conv => lhs; whnf); all_goals rfl) rfl) ⟨boxL rfl rfl rfl ⟨(.ni _ rfl), (.ni _ rfl), trivial⟩, trivial⟩
  · replace hF := cond_f hb_2 hF
    conv => whnf
    refine ⟨_, rfl, ?_⟩
    conv => whnf
    refine ⟨_, rfl, ?_⟩
    conv => whnf
    obtain ⟨e_1, h_e_1, hF⟩ := bind_some hF
    refine ix_q (enc := iA) (l := x_0.L) h_e_1 rfl (fun m_e_1 hm_e_1 hx_e_1 => ?_)
    conv => whnf
    refine ⟨by kernel_rfl, ?_⟩
    conv => whnf
    obtain rfl := Option.some.inj hF
    exact ret_gz [0] [] [] rfl (argE (by (conv => lhs; whnf); all_goals rfl) rfl) ⟨boxL rfl rfl rfl ⟨(.ni _ rfl), (.ni _ rfl), trivial⟩, trivial⟩

set_option maxRecDepth 100000 in
set_option maxHeartbeats 40000000 in
theorem keep_Mod_ac (x_0 : Int) (x_1 : Int) (r : Int) (hF : keep_Mod x_0 x_1 = some r) : AC Try.prog 20 [.int .i64 x_0, .int .i64 x_1] [] (.int .i64 r) [] := by
  refine ac_of tab_ok follows_ok Try.func20 rfl Try.ntmps20 rfl ?_
  unfold keep_Mod at hF
  conv => whnf
  refine ⟨fun hb_3 => ?_, fun hb_3 => ?_⟩
  · replace hF := cond_t hb_3 hF
    conv => whnf
    obtain rfl := Option.some.inj hF
    exact ret_gz [] [] [] rfl (argE (by (conv => lhs; whnf); all_goals rfl) rfl) trivial
  · replace hF := cond_f hb_3 hF
    conv => whnf
    obtain ⟨u_1, h_u_1, hF⟩ := bind_some hF
    refine ⟨nz_some h_u_1, _, rfl, ?_⟩
    conv => whnf
    refine ⟨fun hb_4 => ?_, fun hb_4 => ?_⟩
    · replace hF := cond_t hb_4 hF
      conv => whnf
      refine ⟨_, rfl, ?_⟩
      conv => whnf
      obtain rfl := Option.some.inj hF
      exact ret_gz [] [] [] rfl (argE (by (conv => lhs; whnf); all_goals rfl) rfl) trivial
    · replace hF := cond_f hb_4 hF
      conv => whnf
      obtain rfl := Option.some.inj hF
      exact ret_gz [] [] [] rfl (argE (by (conv => lhs; whnf); all_goals rfl) rfl) trivial

set_option maxRecDepth 100000 in
set_option maxHeartbeats 40000000 in
theorem keep_Src_N_ac (x_0 : Src) (x_1 : Int) (r : Int × Src) (hF : keep_Src_N x_0 x_1 = some r) : AC Try.prog 22 [.ptr 0 0, .int .i64 x_1] [.box (encSrc x_0)] (.int .i64 r.1) [.box (encSrc r.2)] := by
  refine ac_of tab_ok follows_ok Try.func22 rfl Try.ntmps22 rfl ?_
  unfold keep_Src_N at hF
  conv => whnf
  obtain ⟨r_1, h_r_1, hF⟩ := bind_some hF
  refine ⟨_, _, _, _, _, _, _, _, _, callX false [0] [] 0 Try.func42 (by decide) rfl (keep_Src_Raw_ac x_0 r_1 h_r_1) rfl ⟨(argP (id := 0) (by (conv => lhs; whnf); all_goals rfl) rfl), trivial⟩ rfl ⟨rfl, trivial⟩ rfl rfl rfl lend0 ⟨rfl, trivial⟩ rfl, ?_⟩
  conv => whnf
  obtain ⟨r_2, h_r_2, hF⟩ := bind_some hF
  refine ⟨_, _, _, _, _, _, _, _, _, callX false [] [] 0 Try.func20 (by decide) rfl (keep_Mod_ac r_1.1 x_1 r_2 h_r_2) rfl ⟨(argE (by (conv => lhs; whnf); all_goals rfl) rfl), (argE (by (conv => lhs; whnf); all_goals rfl) rfl), trivial⟩ rfl trivial rfl rfl rfl lend0 trivial rfl, ?_⟩
  conv => whnf
  obtain rfl := Option.some.inj hF
  exact ret_gz [0] [] [] rfl (argE (by (conv => lhs; whnf); all_goals rfl) rfl) ⟨boxL rfl rfl rfl ⟨(.ni _ rfl), (.ni _ rfl), trivial⟩, trivial⟩

set_option maxRecDepth 100000 in
set_option maxHeartbeats 40000000 in
theorem keep_Src_Range_ac (x_0 : Src) (x_1 : Int) (x_2 : Int) (r : Int × Src) (hF : keep_Src_Range x_0 x_1 x_2 = some r) : AC Try.prog 26 [.ptr 0 0, .int .i64 x_1, .int .i64 x_2] [.box (encSrc x_0)] (.int .i64 r.1) [.box (encSrc r.2)] := by
  refine ac_of tab_ok follows_ok Try.func26 rfl Try.ntmps26 rfl ?_
  unfold keep_Src_Range at hF
  conv => whnf
  refine ⟨_, rfl, ?_⟩
  conv => whnf
  refine ⟨_, rfl, ?_⟩
  conv => whnf
  obtain ⟨r_1, h_r_1, hF⟩ := bind_some hF
  refine ⟨_, _, _, _, _, _, _, _, _, callX false [0] [] 0 Try.func22 (by decide) rfl (keep_Src_N_ac x_0 (w64 ((w64 (x_2 - x_1)) + (1 : Int))) r_1 h_r_1) rfl ⟨(argP (id := 0) (by (conv => lhs; whnf); all_goals rfl) rfl), (argE (by (conv => lhs; whnf); all_goals rfl) rfl), trivial⟩ rfl ⟨rfl, trivial⟩ rfl rfl rfl lend0 ⟨rfl, trivial⟩ rfl, ?_⟩
  conv => whnf
  refine ⟨_, rfl, ?_⟩
  conv => whnf
  obtain rfl := Option.some.inj hF
  exact ret_gz [0] [] [] rfl (argE (by (conv => lhs; whnf); all_goals rfl) rfl) ⟨boxL rfl rfl rfl ⟨(.ni _ rfl), (.ni _ rfl), trivial⟩, trivial⟩

set_option maxRecDepth 100000 in
set_option maxHeartbeats 40000000 in
theorem lanes_find_f1_ac (x_0 : Stored) (x_1 : Int) (r : Bool) (hF : lanes_find_f1 x_0 x_1 = some r) : AC Try.prog 53 [.agg (encStored x_0), .iptr [.int .i64 x_1]] [] (.bool r) [] := by
  refine ac_of tab_ok follows_ok Try.func53 rfl Try.ntmps53 rfl ?_
  unfold lanes_find_f1 at hF
  conv => whnf
  obtain rfl := Option.some.inj hF
  exact ret_gz [] [] [] rfl (argE (by (conv => lhs; whnf); all_goals rfl) rfl) trivial

set_option maxRecDepth 100000 in
set_option maxHeartbeats 40000000 in
theorem slices_IndexFunc_Stored_ac (x_0 : (List Stored)) (x_1 : Int) (r : Int) (hF : slices_IndexFunc_Stored x_0 x_1 = some r) : AC Try.prog 52 [.lst 2 (x_0.map encStored), .fn 53 [.iptr [.int .i64 x_1]]] [] (.int .i64 r) [] := by
  refine ac_of tab_ok follows_ok Try.func52 rfl Try.ntmps52 rfl ?_
  unfold slices_IndexFunc_Stored at hF
  conv => whnf
  refine len_q (enc := encStored) (l := x_0) rfl ?_
  conv => whnf
  obtain ⟨c_1, hc_1, hF⟩ := fin_some hF
  refine sw_bv 0 (v := .lst 2 (x_0.map encStored)) (by (conv => lhs; whnf); all_goals rfl) (fun hb => ?_)
  have hbd_k_2 : x_0.length ≤ 9223372036854775807 := bnd_len (enc := encStored) (hb)
  refine sw_loop tab_ok follows_ok (fun y : Nat => y ≤ x_0.length ∧ slices_IndexFunc_Stored_L1 x_1 (x_0.drop y) y = some c_1) (fun y => ⟨eL [(0, .lst 2 (x_0.map encStored)), (1, .fn 53 [.iptr [.int .i64 x_1]]), (7, .int .i64 (x_0.length : Int)), (8, .int .i64 (y : Int))], hL [], 0⟩) (fun y => x_0.length - y) 0 ⟨Nat.zero_le _, hc_1⟩ (wk_mk [] [] [] rfl ⟨argE (by (conv => lhs; whnf); all_goals rfl) rfl, argE (by (conv => lhs; whnf); all_goals rfl) rfl, argE (by (conv => lhs; whnf); all_goals rfl) rfl, argE (by (conv => lhs; whnf); all_goals rfl) rfl, trivial⟩ trivial) ?_
  rintro k_2 ⟨hk_k_2, hL1⟩
  try dsimp only at hk_k_2 hL1
  show awp _ _ _ _ _ _ ⟨eL [(0, .lst 2 (x_0.map encStored)), (1, .fn 53 [.iptr [.int .i64 x_1]]), (7, .int .i64 (x_0.length : Int)), (8, .int .i64 (k_2 : Int))], hL [], 0⟩
  conv => whnf
  refine ⟨fun h => ?_, fun h => ?_⟩
  · have hlt_k_2 : k_2 < x_0.length := by have h := of_decide_eq_true h; omega
    obtain ⟨e_3, h_e_3⟩ : ∃ y, x_0[k_2]? = some y := ⟨_, List.getElem?_eq_getElem hlt_k_2⟩
    rw [drop_cons h_e_3, slices_IndexFunc_Stored_L1.eq_2] at hL1
    conv => whnf
    refine ⟨k_2, _, rfl, ix_map h_e_3, ?_⟩
    conv => whnf
    obtain ⟨r_4, h_r_4, hL1⟩ := bind_some hL1
    refine ⟨_, _, _, _, _, _, _, _, _, callX false [] [] 0 Try.func53 (by decide) rfl (lanes_find_f1_ac e_3 x_1 r_4 h_r_4) rfl ⟨(argE (by (conv => lhs; whnf); all_goals rfl) rfl), (argE (by (conv => lhs; whnf); all_goals rfl) rfl), trivial⟩ rfl trivial rfl rfl rfl lend0 trivial rfl, ?_⟩
    conv => whnf
    refine ⟨fun hb_7 => ?_, fun hb_7 => ?_⟩
    · replace hL1 := cond_t hb_7 hL1
      conv => whnf
      obtain rfl := Option.some.inj hL1
      replace hF := fin_ret hF
      obtain rfl := Option.some.inj hF
      exact ret_gz [] [] [] rfl (argE (by (conv => lhs; whnf); all_goals rfl) rfl) trivial
    · replace hL1 := cond_f hb_7 hL1
      conv => whnf
      refine ⟨((k_2 + 1 : Nat) : Int), wrapE (by omega) (by omega) (by omega), ?_⟩
      conv => whnf
      exact ⟨k_2 + 1, [], [], [], ⟨hlt_k_2, hL1⟩, by show x_0.length - (k_2 + 1) < x_0.length - k_2; omega, wk_mk [] [] [] rfl ⟨argE (by (conv => lhs; whnf); all_goals rfl) rfl, argE (by (conv => lhs; whnf); all_goals rfl) rfl, argE (by (conv => lhs; whnf); all_goals rfl) rfl, argE (by (conv => lhs; whnf); all_goals rfl) rfl, trivial⟩ trivial⟩
  · rw [drop_nil (show x_0.length ≤ k_2 by have h := of_decide_eq_false h; omega), slices_IndexFunc_Stored_L1.eq_1] at hL1
    conv => whnf
    obtain rfl := Option.some.inj hL1
    replace hF := fin_brk hF
    try dsimp only at hF
    obtain rfl := Option.some.inj hF
    exact ret_gz [] [] [] rfl (argE (by (conv => lhs; whnf); all_goals rfl) rfl) trivial

set_option maxRecDepth 100000 in
set_option maxHeartbeats 40000000 in
theorem lanes_find_ac (x_0 : Lanes) (x_1 : Int) (r : Int × Int) (hF : lanes_find x_0 x_1 = some r) : AC Try.prog 43 [.agg (encLanes x_0), .int .i64 x_1] [] (.tup [.int .i64 r.1, .int .i64 r.2]) [] := by
  refine ac_of tab_ok follows_ok Try.func43 rfl Try.ntmps43 rfl ?_
  unfold lanes_find at hF
  conv => whnf
  refine len_q (enc := (lA 2 encStored)) (l := x_0.L) rfl ?_
  conv => whnf
  obtain ⟨c_1, hc_1, hF⟩ := fin_some hF
  refine sw_bv 0 (v := .agg [.int .i64 x_0.Depth, .lst 1 (x_0.L.map (lA 2 encStored))]) (by (conv => lhs; whnf); all_goals rfl) (fun hb => ?_)
  have hbd_k_2 : x_0.L.length ≤ 9223372036854775807 := bnd_len (enc := (lA 2 encStored)) ((bnd_at hb.cell 1 rfl))
  refine sw_loop tab_ok follows_ok (fun y : Nat => y ≤ x_0.L.length ∧ lanes_find_L1 x_1 (x_0.L.drop y) y = some c_1) (fun y => ⟨eL [(3, .ptr 0 0), (10, .lst 1 (x_0.L.map (lA 2 encStored))), (11, .int .i64 (x_0.L.length : Int)), (12, .int .i64 (y : Int))], hL [(0, .box [.int .i64 x_1])], 1⟩) (fun y => x_0.L.length - y) 0 ⟨Nat.zero_le _, hc_1⟩ (wk_mk [1] [] [] rfl ⟨argP (id := 1) (by (conv => lhs; whnf); all_goals rfl) rfl, argE (by (conv => lhs; whnf); all_goals rfl) rfl, argE (by (conv => lhs; whnf); all_goals rfl) rfl, argE (by (conv => lhs; whnf); all_goals rfl) rfl, trivial⟩ ⟨boxL rfl rfl rfl ⟨(.ni _ rfl), trivial⟩, trivial⟩) ?_
  rintro k_2 ⟨hk_k_2, hL1⟩
  try dsimp only at hk_k_2 hL1
  show awp _ _ _ _ _ _ ⟨eL [(3, .ptr 0 0), (10, .lst 1 (x_0.L.map (lA 2 encStored))), (11, .int .i64 (x_0.L.length : Int)), (12, .int .i64 (k_2 : Int))], hL [(0, .box [.int .i64 x_1])], 1⟩
  conv => whnf
  refine ⟨fun h => ?_, fun h => ?_⟩
  · have hlt_k_2 : k_2 < x_0.L.length := by have h := of_decide_eq_true h; omega
    obtain ⟨e_3, h_e_3⟩ : ∃ y, x_0.L[k_2]? = some y := ⟨_, List.getElem?_eq_getElem hlt_k_2⟩
    rw [drop_cons h_e_3, lanes_find_L1.eq_2] at hL1
    conv => whnf
    refine ⟨k_2, _, rfl, ix_map h_e_3, ?_⟩
    conv => whnf
    obtain ⟨r_4, h_r_4, hL1⟩ := bind_some hL1
    refine ⟨_, _, _, _, _, _, _, _, _, callX false [] [0] 0 Try.func52 (by decide) rfl (slices_IndexFunc_Stored_ac e_3 x_1 r_4 h_r_4) rfl ⟨(argE (by (conv => lhs; whnf); all_goals rfl) rfl), (argFn (c := [.ptr 0 0]) (by (conv => lhs; whnf); all_goals rfl) rfl ⟨(argIb 0 _ rfl rfl rfl rfl rfl), trivial⟩), trivial⟩ rfl trivial rfl rfl rfl (lendF rfl) trivial rfl, ?_⟩
    conv => whnf
    refine ⟨fun hb_7 => ?_, fun hb_7 => ?_⟩
    · replace hL1 := cond_t hb_7 hL1
      conv => whnf
      obtain rfl := Option.some.inj hL1
      replace hF := fin_ret hF
      obtain rfl := Option.some.inj hF
      exact ret_gz [] [] [] rfl (tupL rfl ⟨(argE (by (conv => lhs; whnf); all_goals rfl) rfl), (argE (by (conv => lhs; whnf); all_goals rfl) rfl), trivial⟩) trivial
    · replace hL1 := cond_f hb_7 hL1
      conv => whnf
      refine ⟨((k_2 + 1 : Nat) : Int), wrapE (by omega) (by omega) (by omega), ?_⟩
      conv => whnf
      exact ⟨k_2 + 1, [0], [], [], ⟨hlt_k_2, hL1⟩, by show x_0.L.length - (k_2 + 1) < x_0.L.length - k_2; omega, wk_mk [0] [] [] rfl ⟨argP (id := 0) (by (conv => lhs; whnf); all_goals rfl) rfl, argE (by (conv => lhs; whnf); all_goals rfl) rfl, argE (by (conv => lhs; whnf); all_goals rfl) rfl, argE (by (conv => lhs; whnf); all_goals rfl) rfl, trivial⟩ ⟨boxL rfl rfl rfl ⟨(.ni _ rfl), trivial⟩, trivial⟩⟩
  · rw [drop_nil (show x_0.L.length ≤ k_2 by have h := of_decide_eq_false h; omega), lanes_find_L1.eq_1] at hL1
    conv => whnf
    obtain rfl := Option.some.inj hL1
    replace hF := fin_brk hF
    try dsimp only at hF
    obtain rfl := Option.some.inj hF
    exact ret_gz [] [] [] rfl (tupL rfl ⟨(argE (by (conv => lhs; whnf); all_goals rfl) rfl), (argE (by (conv => lhs; whnf); all_goals rfl) rfl), trivial⟩) trivial

set_option maxRecDepth 100000 in
set_option maxHeartbeats 40000000 in
theorem slices_Clone_Stored_ac (x_0 : (List Stored)) (r : (List Stored)) (hF : slices_Clone_Stored x_0 = some r) : AC Try.prog 54 [.lst 2 (x_0.map encStored)] [] (.osl 0) [.row 2 (r.map encStored)] := by
  refine ac_of tab_ok follows_ok Try.func54 rfl Try.ntmps54 rfl ?_
  unfold slices_Clone_Stored at hF
  conv => whnf
  intro b hb
  conv => whnf
  refine ⟨fun h => ?_, fun h => ?_⟩
  · have hx : x_0 = [] := List.map_eq_nil_iff.1 (hb h)
    subst hx
    obtain ⟨h1, rfl⟩ := apL_some hF
    conv => whnf
    exact ret_gz [] [0] [] rfl (argZ (by (conv => lhs; whnf); all_goals rfl) rfl) ⟨blkZ rfl, trivial⟩
  · conv => whnf
    refine ap_q (enc := encStored) (l := ([] : List Stored)) (y := x_0) hF rfl rfl (by decide) ?_
    conv => whnf
    exact ret_gz [1] [] [] rfl (argO (id := 1) (by (conv => lhs; whnf); all_goals rfl) rfl) ⟨blkR (fun _ => ⟨rfl, rfl⟩) rfl rfl, trivial⟩

set_option maxRecDepth 100000 in
set_option maxHeartbeats 40000000 in
theorem lanes_clone_ac (x_0 : Lanes) (r : Lanes) (hF : lanes_clone x_0 = some r) : AC Try.prog 44 [.agg (encLanes x_0)] [] (.agg [.int .i64 r.Depth, .osl 0]) [.row 1 (r.L.map (lA 2 encStored))] := by
  refine ac_of tab_ok follows_ok Try.func44 rfl Try.ntmps44 rfl ?_
  unfold lanes_clone at hF
  conv => whnf
  refine len_q (enc := (lA 2 encStored)) (l := x_0.L) rfl ?_
  conv => whnf
  obtain ⟨c_1, hc_1, hF⟩ := fin_some hF
  refine sw_bv 0 (v := .agg [.int .i64 x_0.Depth, .lst 1 (x_0.L.map (lA 2 encStored))]) (by (conv => lhs; whnf); all_goals rfl) (fun hb => ?_)
  have hbd_k_3 : x_0.L.length ≤ 9223372036854775807 := bnd_len (enc := (lA 2 encStored)) ((bnd_at hb.cell 1 rfl))
  refine sw_loop tab_ok follows_ok (fun y : Nat × (List (List Stored)) => y.1 ≤ x_0.L.length ∧ lanes_clone_L1 (x_0.L.drop y.1) y.1 y.2 = some c_1) (fun y => ⟨eL [(2, .ptr 0 0), (3, .ptr 1 0), (10, .lst 1 (x_0.L.map (lA 2 encStored))), (11, .int .i64 (x_0.L.length : Int)), (12, .int .i64 (y.1 : Int))], hL [(0, .box [.int .i64 (0 : Int), .nils]), (1, .box [.int .i64 x_0.Depth, .osl 2]), (2, .row 1 (y.2.map (lA 2 encStored)))], 3⟩) (fun y => x_0.L.length - y.1) (0, ([] : List (List Stored))) ⟨Nat.zero_le _, hc_1⟩ (wk_mk [1, 2] [2] [] rfl ⟨argP (id := 1) (by (conv => lhs; whnf); all_goals rfl) rfl, argP (id := 2) (by (conv => lhs; whnf); all_goals rfl) rfl, argE (by (conv => lhs; whnf); all_goals rfl) rfl, argE (by (conv => lhs; whnf); all_goals rfl) rfl, argE (by (conv => lhs; whnf); all_goals rfl) rfl, trivial⟩ ⟨boxL rfl rfl rfl ⟨(.ni _ rfl), (.ni _ rfl), trivial⟩, boxL rfl rfl rfl ⟨(.ni _ rfl), (.nilz 2 (by simp)), trivial⟩, blkZ rfl, trivial⟩) ?_
  rintro ⟨k_3, a_1⟩ ⟨hk_k_3, hL1⟩
  try dsimp only at hk_k_3 hL1
  show awp _ _ _ _ _ _ ⟨eL [(2, .ptr 0 0), (3, .ptr 1 0), (10, .lst 1 (x_0.L.map (lA 2 encStored))), (11, .int .i64 (x_0.L.length : Int)), (12, .int .i64 (k_3 : Int))], hL [(0, .box [.int .i64 (0 : Int), .nils]), (1, .box [.int .i64 x_0.Depth, .osl 2]), (2, .row 1 (a_1.map (lA 2 encStored)))], 3⟩
  conv => whnf
  refine ⟨fun h => ?_, fun h => ?_⟩
  · have hlt_k_3 : k_3 < x_0.L.length := by have h := of_decide_eq_true h; omega
    obtain ⟨e_4, h_e_4⟩ : ∃ y, x_0.L[k_3]? = some y := ⟨_, List.getElem?_eq_getElem hlt_k_3⟩
    rw [drop_cons h_e_4, lanes_clone_L1.eq_2] at hL1
    conv => whnf
    refine ⟨k_3, _, rfl, ix_map h_e_4, ?_⟩
    conv => whnf
    obtain ⟨r_5, h_r_5, hL1⟩ := bind_some hL1
    refine ⟨_, _, _, _, _, _, _, _, _, callX false [] [] 1 Try.func54 (by decide) rfl (slices_Clone_Stored_ac e_4 r_5 h_r_5) rfl ⟨(argE (by (conv => lhs; whnf); all_goals rfl) rfl), trivial⟩ rfl trivial rfl rfl rfl lend0 ⟨renR (fun _ => ⟨rfl, rfl⟩), trivial⟩ rfl, ?_⟩
    conv => whnf
    obtain ⟨l_6, h_l_6, hL1⟩ := bind_some hL1
    refine ap_raw h_l_6 (by simp) (by simp [chunkA]) (by decide) ?_
    conv => whnf
    refine ⟨by kernel_rfl, ?_⟩
    conv => whnf
    refine ⟨((k_3 + 1 : Nat) : Int), wrapE (by omega) (by omega) (by omega), ?_⟩
    conv => whnf
    exact ⟨(k_3 + 1, l_6), [0, 1, 6], [], [3], ⟨hlt_k_3, hL1⟩, by show x_0.L.length - (k_3 + 1) < x_0.L.length - k_3; omega, wk_mk [0, 1, 6] [] [3] rfl ⟨argP (id := 0) (by (conv => lhs; whnf); all_goals rfl) rfl, argP (id := 1) (by (conv => lhs; whnf); all_goals rfl) rfl, argE (by (conv => lhs; whnf); all_goals rfl) rfl, argE (by (conv => lhs; whnf); all_goals rfl) rfl, argE (by (conv => lhs; whnf); all_goals rfl) rfl, trivial⟩ ⟨boxL rfl rfl rfl ⟨(.ni _ rfl), (.ni _ rfl), trivial⟩, boxL rfl rfl rfl ⟨(.ni _ rfl), (.oslg 6 2 rfl), trivial⟩, blk_rowsE rfl rfl (RowsA.app (RowsA.ni (map_ok (fun _ => ⟨rfl, rfl⟩) _)) (cellsL (c' := [.lst 2 (r_5.map encStored)]) rfl rfl ⟨(.osl 3 2 _ (by simp) rfl (map_ni (fun _ => ⟨rfl, rfl⟩) _)), trivial⟩)) (by rw [(apL_some h_l_6).2, List.map_append]; rfl), trivial⟩⟩
  · rw [drop_nil (show x_0.L.length ≤ k_3 by have h := of_decide_eq_false h; omega), lanes_clone_L1.eq_1] at hL1
    conv => whnf
    obtain rfl := Option.some.inj hL1
    replace hF := fin_brk hF
    try dsimp only at hF
    obtain rfl := Option.some.inj hF
    exact ret_gz [2] [] [] rfl (argA (c := [.int .i64 x_0.Depth, .osl 2]) (by (conv => lhs; whnf); all_goals rfl) rfl ⟨(.ni _ rfl), (.oslg 2 0 rfl), trivial⟩) ⟨blkR (fun _ => ⟨rfl, rfl⟩) rfl rfl, trivial⟩

set_option maxRecDepth 100000 in
set_option maxHeartbeats 40000000 in
theorem lanes_clone_foc0 (x_0 : Lanes) (r : Lanes) (P_0 : List (List Stored)) (e_0 : (List Stored)) (Q_0 : List (List Stored)) (hE_ : r.L = P_0 ++ e_0 :: Q_0) (hF : lanes_clone x_0 = some r) : AC Try.prog 44 [.agg (encLanes x_0)] [] (.agg [.int .i64 r.Depth, .osl 0]) [.row 1 (focR (lA 2 encStored) P_0 [.osl 1] Q_0), .row 2 (e_0.map encStored)] := by
  refine ac_of tab_ok follows_ok Try.func44 rfl Try.ntmps44 rfl ?_
  unfold lanes_clone at hF
  conv => whnf
  refine len_q (enc := (lA 2 encStored)) (l := x_0.L) rfl ?_
  conv => whnf
  obtain ⟨c_1, hc_1, hF⟩ := fin_some hF
  have hfn_ : ∀ z, c_1 = Ctl.brk z → P_0.length < z.length := by intro z hz; subst hz; have h2 := fin_brk hF; (try dsimp only at h2); obtain rfl := Option.some.inj h2; have h3 := congrArg List.length hE_; simp at h3; omega
  refine sw_bv 0 (v := .agg [.int .i64 x_0.Depth, .lst 1 (x_0.L.map (lA 2 encStored))]) (by (conv => lhs; whnf); all_goals rfl) (fun hb => ?_)
  have hbd_k_3 : x_0.L.length ≤ 9223372036854775807 := bnd_len (enc := (lA 2 encStored)) ((bnd_at hb.cell 1 rfl))
  refine sw_loop tab_ok follows_ok (fun y : (Nat × (List (List Stored))) ⊕ (Nat × (List (List Stored)) × (List Stored) × (List (List Stored))) => match y with | .inl y => (y.1 ≤ x_0.L.length ∧ lanes_clone_L1 (x_0.L.drop y.1) y.1 y.2 = some c_1) ∧ y.2.length ≤ P_0.length | .inr y => (y.1 ≤ x_0.L.length ∧ lanes_clone_L1 (x_0.L.drop y.1) y.1 (y.2.1 ++ y.2.2.1 :: y.2.2.2) = some c_1) ∧ y.2.1.length = P_0.length) (fun y : (Nat × (List (List Stored))) ⊕ (Nat × (List (List Stored)) × (List Stored) × (List (List Stored))) => match y with | .inl y => ⟨eL [(2, .ptr 0 0), (3, .ptr 1 0), (10, .lst 1 (x_0.L.map (lA 2 encStored))), (11, .int .i64 (x_0.L.length : Int)), (12, .int .i64 (y.1 : Int))], hL [(0, .box [.int .i64 (0 : Int), .nils]), (1, .box [.int .i64 x_0.Depth, .osl 2]), (2, .row 1 (y.2.map (lA 2 encStored)))], 3⟩ | .inr y => ⟨eL [(2, .ptr 0 0), (3, .ptr 1 0), (10, .lst 1 (x_0.L.map (lA 2 encStored))), (11, .int .i64 (x_0.L.length : Int)), (12, .int .i64 (y.1 : Int))], hL [(0, .box [.int .i64 (0 : Int), .nils]), (1, .box [.int .i64 x_0.Depth, .osl 2]), (2, .row 1 (focR (lA 2 encStored) y.2.1 [.osl 3] y.2.2.2)), (3, .row 2 (y.2.2.1.map encStored))], 4⟩) (fun y : (Nat × (List (List Stored))) ⊕ (Nat × (List (List Stored)) × (List Stored) × (List (List Stored))) => match y with | .inl y => x_0.L.length - y.1 | .inr y => x_0.L.length - y.1) (.inl (0, ([] : List (List Stored)))) ⟨⟨Nat.zero_le _, hc_1⟩, Nat.zero_le _⟩ (wkS (σ1 := ⟨eL [(2, .ptr 0 0), (3, .ptr 1 0), (10, .lst 1 (x_0.L.map (lA 2 encStored))), (11, .int .i64 (x_0.L.length : Int)), (12, .int .i64 (0 : Int))], hL [(0, .box [.int .i64 (0 : Int), .nils]), (1, .box [.int .i64 x_0.Depth, .osl 2]), (2, .row 1 (([] : List (List Stored)).map (lA 2 encStored)))], 3⟩) rfl (wk_mk [1, 2] [2] [] rfl ⟨argP (id := 1) (by (conv => lhs; whnf); all_goals rfl) rfl, argP (id := 2) (by (conv => lhs; whnf); all_goals rfl) rfl, argE (by (conv => lhs; whnf); all_goals rfl) rfl, argE (by (conv => lhs; whnf); all_goals rfl) rfl, argE (by (conv => lhs; whnf); all_goals rfl) rfl, trivial⟩ ⟨boxL rfl rfl rfl ⟨(.ni _ rfl), (.ni _ rfl), trivial⟩, boxL rfl rfl rfl ⟨(.ni _ rfl), (.nilz 2 (by simp)), trivial⟩, blkZ rfl, trivial⟩)) ?_
  rintro (⟨k_3, a_1⟩ | ⟨k_3, p_9, g_10, q_11⟩) ⟨⟨hk_k_3, hL1⟩, hp_p_9⟩
  · try dsimp only at hk_k_3 hL1 hp_p_9
    show awp _ _ _ _ _ _ ⟨eL [(2, .ptr 0 0), (3, .ptr 1 0), (10, .lst 1 (x_0.L.map (lA 2 encStored))), (11, .int .i64 (x_0.L.length : Int)), (12, .int .i64 (k_3 : Int))], hL [(0, .box [.int .i64 (0 : Int), .nils]), (1, .box [.int .i64 x_0.Depth, .osl 2]), (2, .row 1 (a_1.map (lA 2 encStored)))], 3⟩
    conv => whnf
    refine ⟨fun h => ?_, fun h => ?_⟩
    · have hlt_k_3 : k_3 < x_0.L.length := by have h := of_decide_eq_true h; omega
      obtain ⟨e_4, h_e_4⟩ : ∃ y, x_0.L[k_3]? = some y := ⟨_, List.getElem?_eq_getElem hlt_k_3⟩
      rw [drop_cons h_e_4, lanes_clone_L1.eq_2] at hL1
      conv => whnf
      refine ⟨k_3, _, rfl, ix_map h_e_4, ?_⟩
      conv => whnf
      obtain ⟨r_5, h_r_5, hL1⟩ := bind_some hL1
      refine ⟨_, _, _, _, _, _, _, _, _, callX false [] [] 1 Try.func54 (by decide) rfl (slices_Clone_Stored_ac e_4 r_5 h_r_5) rfl ⟨(argE (by (conv => lhs; whnf); all_goals rfl) rfl), trivial⟩ rfl trivial rfl rfl rfl lend0 ⟨renR (fun _ => ⟨rfl, rfl⟩), trivial⟩ rfl, ?_⟩
      conv => whnf
      obtain ⟨l_6, h_l_6, hL1⟩ := bind_some hL1
      refine ap_raw h_l_6 (by simp) (by simp [chunkA]) (by decide) ?_
      conv => whnf
      refine ⟨by kernel_rfl, ?_⟩
      conv => whnf
      refine ⟨((k_3 + 1 : Nat) : Int), wrapE (by omega) (by omega) (by omega), ?_⟩
      conv => whnf
      rcases Nat.lt_or_ge a_1.length P_0.length with hlt_ | hge_
      · exact ⟨.inl (k_3 + 1, l_6), [0, 1, 6], [], [3], ⟨⟨hlt_k_3, hL1⟩, foc_ap1 h_l_6 hlt_⟩, by show x_0.L.length - (k_3 + 1) < x_0.L.length - k_3; omega, wkS (σ1 := ⟨eL [(2, .ptr 0 0), (3, .ptr 1 0), (10, .lst 1 (x_0.L.map (lA 2 encStored))), (11, .int .i64 (x_0.L.length : Int)), (12, .int .i64 ((k_3 + 1) : Int))], hL [(0, .box [.int .i64 (0 : Int), .nils]), (1, .box [.int .i64 x_0.Depth, .osl 2]), (2, .row 1 (l_6.map (lA 2 encStored)))], 3⟩) rfl (wk_mk [0, 1, 6] [] [3] rfl ⟨argP (id := 0) (by (conv => lhs; whnf); all_goals rfl) rfl, argP (id := 1) (by (conv => lhs; whnf); all_goals rfl) rfl, argE (by (conv => lhs; whnf); all_goals rfl) rfl, argE (by (conv => lhs; whnf); all_goals rfl) rfl, argE (by (conv => lhs; whnf); all_goals rfl) rfl, trivial⟩ ⟨boxL rfl rfl rfl ⟨(.ni _ rfl), (.ni _ rfl), trivial⟩, boxL rfl rfl rfl ⟨(.ni _ rfl), (.oslg 6 2 rfl), trivial⟩, blk_rowsE rfl rfl (RowsA.app (RowsA.ni (map_ok (fun _ => ⟨rfl, rfl⟩) _)) (cellsL (c' := [.lst 2 (r_5.map encStored)]) rfl rfl ⟨(.osl 3 2 _ (by simp) rfl (map_ni (fun _ => ⟨rfl, rfl⟩) _)), trivial⟩)) (by rw [(apL_some h_l_6).2, List.map_append]; rfl), trivial⟩)⟩
      · have he_ := foc_ap2 h_l_6
        subst he_
        exact ⟨.inr (k_3 + 1, a_1, r_5, []), [0, 1, 6, 3], [], [], ⟨⟨hlt_k_3, hL1⟩, by show a_1.length = P_0.length; omega⟩, by show x_0.L.length - (k_3 + 1) < x_0.L.length - k_3; omega, wkS (σ1 := ⟨eL [(2, .ptr 0 0), (3, .ptr 1 0), (10, .lst 1 (x_0.L.map (lA 2 encStored))), (11, .int .i64 (x_0.L.length : Int)), (12, .int .i64 ((k_3 + 1) : Int))], hL [(0, .box [.int .i64 (0 : Int), .nils]), (1, .box [.int .i64 x_0.Depth, .osl 2]), (2, .row 1 (focR (lA 2 encStored) a_1 [.osl 3] [])), (3, .row 2 (r_5.map encStored))], 4⟩) rfl (wk_mk [0, 1, 6, 3] [] [] rfl ⟨argP (id := 0) (by (conv => lhs; whnf); all_goals rfl) rfl, argP (id := 1) (by (conv => lhs; whnf); all_goals rfl) rfl, argE (by (conv => lhs; whnf); all_goals rfl) rfl, argE (by (conv => lhs; whnf); all_goals rfl) rfl, argE (by (conv => lhs; whnf); all_goals rfl) rfl, trivial⟩ ⟨boxL rfl rfl rfl ⟨(.ni _ rfl), (.ni _ rfl), trivial⟩, boxL rfl rfl rfl ⟨(.ni _ rfl), (.oslg 6 2 rfl), trivial⟩, blk_rowsE rfl rfl (focM (enc := (lA 2 encStored)) (fun _ => ⟨rfl, rfl⟩) (cellsL (c' := [.osl 3]) rfl rfl ⟨(.oslg 3 3 rfl), trivial⟩)) rfl, blkR (fun _ => ⟨rfl, rfl⟩) rfl rfl, trivial⟩)⟩
    · rw [drop_nil (show x_0.L.length ≤ k_3 by have h := of_decide_eq_false h; omega), lanes_clone_L1.eq_1] at hL1
      conv => whnf
      obtain rfl := Option.some.inj hL1
      exact (Nat.lt_irrefl _ (Nat.lt_of_lt_of_le (hfn_ _ rfl) hp_p_9)).elim
  · try dsimp only at hk_k_3 hL1 hp_p_9
    show awp _ _ _ _ _ _ ⟨eL [(2, .ptr 0 0), (3, .ptr 1 0), (10, .lst 1 (x_0.L.map (lA 2 encStored))), (11, .int .i64 (x_0.L.length : Int)), (12, .int .i64 (k_3 : Int))], hL [(0, .box [.int .i64 (0 : Int), .nils]), (1, .box [.int .i64 x_0.Depth, .osl 2]), (2, .row 1 (focR (lA 2 encStored) p_9 [.osl 3] q_11)), (3, .row 2 (g_10.map encStored))], 4⟩
    conv => whnf
    refine ⟨fun h => ?_, fun h => ?_⟩
    · have hlt_k_3 : k_3 < x_0.L.length := by have h := of_decide_eq_true h; omega
      obtain ⟨e_4, h_e_4⟩ : ∃ y, x_0.L[k_3]? = some y := ⟨_, List.getElem?_eq_getElem hlt_k_3⟩
      rw [drop_cons h_e_4, lanes_clone_L1.eq_2] at hL1
      conv => whnf
      refine ⟨k_3, _, rfl, ix_map h_e_4, ?_⟩
      conv => whnf
      obtain ⟨r_5, h_r_5, hL1⟩ := bind_some hL1
      refine ⟨_, _, _, _, _, _, _, _, _, callX false [] [] 1 Try.func54 (by decide) rfl (slices_Clone_Stored_ac e_4 r_5 h_r_5) rfl ⟨(argE (by (conv => lhs; whnf); all_goals rfl) rfl), trivial⟩ rfl trivial rfl rfl rfl lend0 ⟨renR (fun _ => ⟨rfl, rfl⟩), trivial⟩ rfl, ?_⟩
      conv => whnf
      obtain ⟨l_6, h_l_6, hL1⟩ := bind_some hL1
      refine ap_raw h_l_6 (by rw [foc_len]; simp; omega) (by simp [chunkA]) (by decide) ?_
      conv => whnf
      refine ⟨by kernel_rfl, ?_⟩
      conv => whnf
      refine ⟨((k_3 + 1 : Nat) : Int), wrapE (by omega) (by omega) (by omega), ?_⟩
      conv => whnf
      have he_ := foc_ap3 h_l_6
      subst he_
      exact ⟨.inr (k_3 + 1, p_9, g_10, (q_11 ++ [r_5])), [0, 1, 7, 3], [], [4], ⟨⟨hlt_k_3, hL1⟩, hp_p_9⟩, by show x_0.L.length - (k_3 + 1) < x_0.L.length - k_3; omega, wkS (σ1 := ⟨eL [(2, .ptr 0 0), (3, .ptr 1 0), (10, .lst 1 (x_0.L.map (lA 2 encStored))), (11, .int .i64 (x_0.L.length : Int)), (12, .int .i64 ((k_3 + 1) : Int))], hL [(0, .box [.int .i64 (0 : Int), .nils]), (1, .box [.int .i64 x_0.Depth, .osl 2]), (2, .row 1 (focR (lA 2 encStored) p_9 [.osl 3] (q_11 ++ [r_5]))), (3, .row 2 (g_10.map encStored))], 4⟩) rfl (wk_mk [0, 1, 7, 3] [] [4] rfl ⟨argP (id := 0) (by (conv => lhs; whnf); all_goals rfl) rfl, argP (id := 1) (by (conv => lhs; whnf); all_goals rfl) rfl, argE (by (conv => lhs; whnf); all_goals rfl) rfl, argE (by (conv => lhs; whnf); all_goals rfl) rfl, argE (by (conv => lhs; whnf); all_goals rfl) rfl, trivial⟩ ⟨boxL rfl rfl rfl ⟨(.ni _ rfl), (.ni _ rfl), trivial⟩, boxL rfl rfl rfl ⟨(.ni _ rfl), (.oslg 7 2 rfl), trivial⟩, blk_rowsE rfl rfl (focN (enc := (lA 2 encStored)) (fun _ => ⟨rfl, rfl⟩) (cellsL (c' := [.osl 3]) rfl rfl ⟨(.oslg 3 3 rfl), trivial⟩) (cellsL (c' := [.lst 2 (r_5.map encStored)]) rfl rfl ⟨(.osl 4 2 _ (by simp) rfl (map_ni (fun _ => ⟨rfl, rfl⟩) _)), trivial⟩) rfl) rfl, blkR (fun _ => ⟨rfl, rfl⟩) rfl rfl, trivial⟩)⟩
    · rw [drop_nil (show x_0.L.length ≤ k_3 by have h := of_decide_eq_false h; omega), lanes_clone_L1.eq_1] at hL1
      conv => whnf
      obtain rfl := Option.some.inj hL1
      replace hF := fin_brk hF
      try dsimp only at hF
      obtain rfl := Option.some.inj hF
      obtain ⟨h1_, h2_, h3_⟩ := foc_inj hE_ hp_p_9
      subst h1_ h2_ h3_
      exact ret_gz [2, 3] [] [] rfl (argA (c := [.int .i64 x_0.Depth, .osl 2]) (by (conv => lhs; whnf); all_goals rfl) rfl ⟨(.ni _ rfl), (.oslg 2 0 rfl), trivial⟩) ⟨blk_rowsE rfl rfl (focA (enc := (lA 2 encStored)) (fun _ => ⟨rfl, rfl⟩) (cellsL (c' := [.osl 1]) rfl rfl ⟨(.oslg 3 1 rfl), trivial⟩)) rfl, blkR (fun _ => ⟨rfl, rfl⟩) rfl rfl, trivial⟩

set_option maxRecDepth 100000 in
set_option maxHeartbeats 40000000 in
theorem slices_Grow_Stored_ac (x_0 : Int) (r : (List Stored)) (hF : slices_Grow_Stored x_0 = some r) : AC Try.prog 55 [.nils, .int .i64 x_0] [] (.osl 0) [.row 2 (r.map encStored)] := by
  exact Gro.grow_ac encStored x_0 r hF

set_option maxRecDepth 100000 in
set_option maxHeartbeats 40000000 in
theorem slices_Concat_Stored_ac (x_0 : (List (List Stored))) (r : (List Stored)) (hF : slices_Concat_Stored x_0 = some r) : AC Try.prog 45 [.lst 1 (x_0.map (lA 2 encStored))] [] (.lst 2 (r.map encStored)) [] := by
  refine ac_of tab_ok follows_ok Try.func45 rfl Try.ntmps45 rfl ?_
  unfold slices_Concat_Stored at hF
  conv => whnf
  refine len_q (enc := (lA 2 encStored)) (l := x_0) rfl ?_
  conv => whnf
  obtain ⟨c_1, hc_1, hF⟩ := fin_some hF
  refine sw_bv 0 (v := .lst 1 (x_0.map (lA 2 encStored))) (by (conv => lhs; whnf); all_goals rfl) (fun hb => ?_)
  have hbd_k_3 : x_0.length ≤ 9223372036854775807 := bnd_len (enc := (lA 2 encStored)) (hb)
  refine sw_loop tab_ok follows_ok (fun y : Nat × Int => y.1 ≤ x_0.length ∧ slices_Concat_Stored_L1 (x_0.drop y.1) y.1 y.2 = some c_1) (fun y => ⟨eL [(0, .lst 1 (x_0.map (lA 2 encStored))), (3, .int .i64 y.2), (9, .lst 1 (x_0.map (lA 2 encStored))), (10, .int .i64 (x_0.length : Int)), (11, .int .i64 (y.1 : Int))], hL [], 0⟩) (fun y => x_0.length - y.1) (0, (0 : Int)) ⟨Nat.zero_le _, hc_1⟩ (wk_mk [] [] [] rfl ⟨argE (by (conv => lhs; whnf); all_goals rfl) rfl, argE (by (conv => lhs; whnf); all_goals rfl) rfl, argE (by (conv => lhs; whnf); all_goals rfl) rfl, argE (by (conv => lhs; whnf); all_goals rfl) rfl, argE (by (conv => lhs; whnf); all_goals rfl) rfl, trivial⟩ trivial) ?_
  rintro ⟨k_3, i_1⟩ ⟨hk_k_3, hL1⟩
  try dsimp only at hk_k_3 hL1
  show awp _ _ _ _ _ _ ⟨eL [(0, .lst 1 (x_0.map (lA 2 encStored))), (3, .int .i64 i_1), (9, .lst 1 (x_0.map (lA 2 encStored))), (10, .int .i64 (x_0.length : Int)), (11, .int .i64 (k_3 : Int))], hL [], 0⟩
  conv => whnf
  refine ⟨fun h => ?_, fun h => ?_⟩
  · have hlt_k_3 : k_3 < x_0.length := by have h := of_decide_eq_true h; omega
    obtain ⟨e_4, h_e_4⟩ : ∃ y, x_0[k_3]? = some y := ⟨_, List.getElem?_eq_getElem hlt_k_3⟩
    rw [drop_cons h_e_4, slices_Concat_Stored_L1.eq_2] at hL1
    conv => whnf
    refine ⟨k_3, _, rfl, ix_map h_e_4, ?_⟩
    conv => whnf
    refine len_q (enc := encStored) (l := e_4) rfl ?_
    conv => whnf
    refine ⟨_, rfl, ?_⟩
    conv => whnf
    refine ⟨fun hb_9 => ?_, fun hb_9 => ?_⟩
    · replace hL1 := cond_t hb_9 hL1
      conv => whnf
      cases hL1
    · replace hL1 := cond_f hb_9 hL1
      conv => whnf
      refine ⟨((k_3 + 1 : Nat) : Int), wrapE (by omega) (by omega) (by omega), ?_⟩
      conv => whnf
      exact ⟨(k_3 + 1, (w64 (i_1 + (e_4.length : Int)))), [], [], [], ⟨hlt_k_3, hL1⟩, by show x_0.length - (k_3 + 1) < x_0.length - k_3; omega, wk_mk [] [] [] rfl ⟨argE (by (conv => lhs; whnf); all_goals rfl) rfl, argE (by (conv => lhs; whnf); all_goals rfl) rfl, argE (by (conv => lhs; whnf); all_goals rfl) rfl, argE (by (conv => lhs; whnf); all_goals rfl) rfl, argE (by (conv => lhs; whnf); all_goals rfl) rfl, trivial⟩ trivial⟩
  · rw [drop_nil (show x_0.length ≤ k_3 by have h := of_decide_eq_false h; omega), slices_Concat_Stored_L1.eq_1] at hL1
    conv => whnf
    obtain rfl := Option.some.inj hL1
    replace hF := fin_brk hF
    try dsimp only at hF
    obtain ⟨r_7, h_r_7, hF⟩ := bind_some hF
    refine ⟨_, _, _, _, _, _, _, _, _, callX false [] [] 1 Try.func55 (by decide) rfl (slices_Grow_Stored_ac i_1 r_7 h_r_7) rfl ⟨(argE (by (conv => lhs; whnf); all_goals rfl) rfl), (argE (by (conv => lhs; whnf); all_goals rfl) rfl), trivial⟩ rfl trivial rfl rfl rfl lend0 ⟨renR (fun _ => ⟨rfl, rfl⟩), trivial⟩ rfl, ?_⟩
    conv => whnf
    refine len_q (enc := (lA 2 encStored)) (l := x_0) rfl ?_
    conv => whnf
    obtain ⟨c_2, hc_2, hF⟩ := fin_some hF
    refine sw_bv 0 (v := .lst 1 (x_0.map (lA 2 encStored))) (by (conv => lhs; whnf); all_goals rfl) (fun hb => ?_)
    have hbd_k_10 : x_0.length ≤ 9223372036854775807 := bnd_len (enc := (lA 2 encStored)) (hb)
    refine sw_loop tab_ok follows_ok (fun y : Nat × (List Stored) => y.1 ≤ x_0.length ∧ slices_Concat_Stored_L2 (x_0.drop y.1) y.1 y.2 = some c_2) (fun y => ⟨eL [(6, .osl 0), (25, .lst 1 (x_0.map (lA 2 encStored))), (26, .int .i64 (x_0.length : Int)), (27, .int .i64 (y.1 : Int))], hL [(0, .row 2 (y.2.map encStored))], 1⟩) (fun y => x_0.length - y.1) (0, r_7) ⟨Nat.zero_le _, hc_2⟩ (wk_mk [0] [] [] rfl ⟨argO (id := 0) (by (conv => lhs; whnf); all_goals rfl) rfl, argE (by (conv => lhs; whnf); all_goals rfl) rfl, argE (by (conv => lhs; whnf); all_goals rfl) rfl, argE (by (conv => lhs; whnf); all_goals rfl) rfl, trivial⟩ ⟨blkR (fun _ => ⟨rfl, rfl⟩) rfl rfl, trivial⟩) ?_
    rintro ⟨k_10, a_8⟩ ⟨hk_k_10, hL1⟩
    try dsimp only at hk_k_10 hL1
    show awp _ _ _ _ _ _ ⟨eL [(6, .osl 0), (25, .lst 1 (x_0.map (lA 2 encStored))), (26, .int .i64 (x_0.length : Int)), (27, .int .i64 (k_10 : Int))], hL [(0, .row 2 (a_8.map encStored))], 1⟩
    conv => whnf
    refine ⟨fun h => ?_, fun h => ?_⟩
    · have hlt_k_10 : k_10 < x_0.length := by have h := of_decide_eq_true h; omega
      obtain ⟨e_11, h_e_11⟩ : ∃ y, x_0[k_10]? = some y := ⟨_, List.getElem?_eq_getElem hlt_k_10⟩
      rw [drop_cons h_e_11, slices_Concat_Stored_L2.eq_2] at hL1
      conv => whnf
      refine ⟨k_10, _, rfl, ix_map h_e_11, ?_⟩
      conv => whnf
      obtain ⟨l_12, h_l_12, hL1⟩ := bind_some hL1
      refine ap_q (enc := encStored) (l := a_8) (y := e_11) h_l_12 rfl rfl (by decide) ?_
      conv => whnf
      refine ⟨((k_10 + 1 : Nat) : Int), wrapE (by omega) (by omega) (by omega), ?_⟩
      conv => whnf
      exact ⟨(k_10 + 1, l_12), [1], [], [], ⟨hlt_k_10, hL1⟩, by show x_0.length - (k_10 + 1) < x_0.length - k_10; omega, wk_mk [1] [] [] rfl ⟨argO (id := 1) (by (conv => lhs; whnf); all_goals rfl) rfl, argE (by (conv => lhs; whnf); all_goals rfl) rfl, argE (by (conv => lhs; whnf); all_goals rfl) rfl, argE (by (conv => lhs; whnf); all_goals rfl) rfl, trivial⟩ ⟨blkR (fun _ => ⟨rfl, rfl⟩) rfl rfl, trivial⟩⟩
    · rw [drop_nil (show x_0.length ≤ k_10 by have h := of_decide_eq_false h; omega), slices_Concat_Stored_L2.eq_1] at hL1
      conv => whnf
      obtain rfl := Option.some.inj hL1
      replace hF := fin_brk hF
      try dsimp only at hF
      obtain rfl := Option.some.inj hF
      exact ret_gz [] [] [0] rfl (argOL 0 (by (conv => lhs; whnf); all_goals rfl) rfl rfl (map_ni (fun _ => ⟨rfl, rfl⟩) _)) trivial

set_option maxRecDepth 100000 in
set_option maxHeartbeats 40000000 in
theorem lanes_Take_ac (x_0 : Lanes) (x_1 : Int) (r : Lanes × (List Int) × Int) (hF : lanes_Take x_0 x_1 = some r) : AC Try.prog 28 [.agg (encLanes x_0), .int .i64 x_1] [] (.tup [.agg (encLanes r.1), .lst 1 (r.2.1.map iA), .int .i64 r.2.2]) [] := by
  refine ac_of tab_ok follows_ok Try.func28 rfl Try.ntmps28 rfl ?_
  unfold lanes_Take at hF
  conv => whnf
  obtain ⟨r_1, h_r_1, hF⟩ := bind_some hF
  refine ⟨_, _, _, _, _, _, _, _, _, callX false [] [] 0 Try.func43 (by decide) rfl (lanes_find_ac x_0 x_1 r_1 h_r_1) rfl ⟨(argE (by (conv => lhs; whnf); all_goals rfl) rfl), (argE (by (conv => lhs; whnf); all_goals rfl) rfl), trivial⟩ rfl trivial rfl rfl rfl lend0 trivial rfl, ?_⟩
  conv => whnf
  refine ⟨fun hb_4 => ?_, fun hb_4 => ?_⟩
  · replace hF := cond_t hb_4 hF
    conv => whnf
    obtain rfl := Option.some.inj hF
    exact ret_gz [] [] [] rfl (tupL rfl ⟨(argA (c := [.int .i64 (0 : Int), .nils]) (by (conv => lhs; whnf); all_goals rfl) rfl ⟨(.ni _ rfl), (.nils _), trivial⟩), (argN (by (conv => lhs; whnf); all_goals rfl)), (argE (by (conv => lhs; whnf); all_goals rfl) rfl), trivial⟩) trivial
  · replace hF := cond_f hb_4 hF
    conv => whnf
    obtain ⟨r_2, h_r_2, hF⟩ := bind_some hF
    refine ⟨_, _, _, _, _, _, _, _, _, callX false [] [] 1 Try.func44 (by decide) rfl (lanes_clone_ac x_0 r_2 h_r_2) rfl ⟨(argE (by (conv => lhs; whnf); all_goals rfl) rfl), trivial⟩ rfl trivial rfl rfl rfl lend0 ⟨renR (fun _ => ⟨rfl, rfl⟩), trivial⟩ rfl, ?_⟩
    conv => whnf
    obtain ⟨e_3, h_e_3, hF⟩ := bind_some hF
    refine ix_q (enc := (lA 2 encStored)) (l := x_0.L) h_e_3 rfl (fun m_e_3 hm_e_3 hx_e_3 => ?_)
    conv => whnf
    obtain ⟨l_4, h_l_4, hF⟩ := bind_some hF
    refine sl_q0 (enc := encStored) (l := e_3) h_l_4 rfl ?_
    conv => whnf
    refine len_q (enc := encStored) (l := l_4) rfl ?_
    conv => whnf
    obtain ⟨c_1, hc_1, hF⟩ := fin_some hF
    refine sw_bv 30 (v := .lst 2 (l_4.map encStored)) (by (conv => lhs; whnf); all_goals rfl) (fun hb => ?_)
    have hbd_k_7 : l_4.length ≤ 9223372036854775807 := bnd_len (enc := encStored) (hb)
    refine sw_loop tab_ok follows_ok (fun y : Nat × (List Int) => y.1 ≤ l_4.length ∧ lanes_Take_L1 (l_4.drop y.1) y.1 y.2 = some c_1) (fun y => ⟨eL [(2, .ptr 0 0), (4, .ptr 1 0), (7, .int .i64 r_1.1), (8, .int .i64 r_1.2), (9, .ptr 2 0), (10, .osl 4), (30, .lst 2 (l_4.map encStored)), (31, .int .i64 (l_4.length : Int)), (32, .int .i64 (y.1 : Int))], hL [(0, .box [.int .i64 x_0.Depth, .lst 1 (x_0.L.map (lA 2 encStored))]), (1, .box [.int .i64 (0 : Int), .nils]), (2, .box [.int .i64 r_2.Depth, .osl 3]), (3, .row 1 (r_2.L.map (lA 2 encStored))), (4, .row 1 (y.2.map iA))], 5⟩) (fun y => l_4.length - y.1) (0, ([] : List Int)) ⟨Nat.zero_le _, hc_1⟩ (wk_mk [0, 1, 5, 3] [4] [] rfl ⟨argP (id := 0) (by (conv => lhs; whnf); all_goals rfl) rfl, argP (id := 1) (by (conv => lhs; whnf); all_goals rfl) rfl, argE (by (conv => lhs; whnf); all_goals rfl) rfl, argE (by (conv => lhs; whnf); all_goals rfl) rfl, argP (id := 5) (by (conv => lhs; whnf); all_goals rfl) rfl, argZ (by (conv => lhs; whnf); all_goals rfl) rfl, argE (by (conv => lhs; whnf); all_goals rfl) rfl, argE (by (conv => lhs; whnf); all_goals rfl) rfl, argE (by (conv => lhs; whnf); all_goals rfl) rfl, trivial⟩ ⟨boxL rfl rfl rfl ⟨(.ni _ rfl), (.ni _ rfl), trivial⟩, boxL rfl rfl rfl ⟨(.ni _ rfl), (.ni _ rfl), trivial⟩, boxL rfl rfl rfl ⟨(.ni _ rfl), (.oslg 3 3 rfl), trivial⟩, blkR (fun _ => ⟨rfl, rfl⟩) rfl rfl, blkZ rfl, trivial⟩) ?_
    rintro ⟨k_7, a_5⟩ ⟨hk_k_7, hL1⟩
    try dsimp only at hk_k_7 hL1
    show awp _ _ _ _ _ _ ⟨eL [(2, .ptr 0 0), (4, .ptr 1 0), (7, .int .i64 r_1.1), (8, .int .i64 r_1.2), (9, .ptr 2 0), (10, .osl 4), (30, .lst 2 (l_4.map encStored)), (31, .int .i64 (l_4.length : Int)), (32, .int .i64 (k_7 : Int))], hL [(0, .box [.int .i64 x_0.Depth, .lst 1 (x_0.L.map (lA 2 encStored))]), (1, .box [.int .i64 (0 : Int), .nils]), (2, .box [.int .i64 r_2.Depth, .osl 3]), (3, .row 1 (r_2.L.map (lA 2 encStored))), (4, .row 1 (a_5.map iA))], 5⟩
    conv => whnf
    refine ⟨fun h => ?_, fun h => ?_⟩
    · have hlt_k_7 : k_7 < l_4.length := by have h := of_decide_eq_true h; omega
      obtain ⟨e_8, h_e_8⟩ : ∃ y, l_4[k_7]? = some y := ⟨_, List.getElem?_eq_getElem hlt_k_7⟩
      rw [drop_cons h_e_8, lanes_Take_L1.eq_2] at hL1
      conv => whnf
      refine ⟨k_7, _, rfl, ix_map h_e_8, ?_⟩
      conv => whnf
      obtain ⟨l_9, h_l_9, hL1⟩ := bind_some hL1
      refine ap_q (enc := iA) (l := a_5) (y := ([e_8.Bag] : List Int)) h_l_9 rfl rfl (by decide) ?_
      conv => whnf
      refine ⟨((k_7 + 1 : Nat) : Int), wrapE (by omega) (by omega) (by omega), ?_⟩
      conv => whnf
      exact ⟨(k_7 + 1, l_9), [0, 1, 2, 3, 7], [], [], ⟨hlt_k_7, hL1⟩, by show l_4.length - (k_7 + 1) < l_4.length - k_7; omega, wk_mk [0, 1, 2, 3, 7] [] [] rfl ⟨argP (id := 0) (by (conv => lhs; whnf); all_goals rfl) rfl, argP (id := 1) (by (conv => lhs; whnf); all_goals rfl) rfl, argE (by (conv => lhs; whnf); all_goals rfl) rfl, argE (by (conv => lhs; whnf); all_goals rfl) rfl, argP (id := 2) (by (conv => lhs; whnf); all_goals rfl) rfl, argO (id := 7) (by (conv => lhs; whnf); all_goals rfl) rfl, argE (by (conv => lhs; whnf); all_goals rfl) rfl, argE (by (conv => lhs; whnf); all_goals rfl) rfl, argE (by (conv => lhs; whnf); all_goals rfl) rfl, trivial⟩ ⟨boxL rfl rfl rfl ⟨(.ni _ rfl), (.ni _ rfl), trivial⟩, boxL rfl rfl rfl ⟨(.ni _ rfl), (.ni _ rfl), trivial⟩, boxL rfl rfl rfl ⟨(.ni _ rfl), (.oslg 3 3 rfl), trivial⟩, blkR (fun _ => ⟨rfl, rfl⟩) rfl rfl, blkR (fun _ => ⟨rfl, rfl⟩) rfl rfl, trivial⟩⟩
    · rw [drop_nil (show l_4.length ≤ k_7 by have h := of_decide_eq_false h; omega), lanes_Take_L1.eq_1] at hL1
      conv => whnf
      obtain rfl := Option.some.inj hL1
      replace hF := fin_brk hF
      try dsimp only at hF
      obtain ⟨e_12, h_e_12, hF⟩ := bind_some hF
      refine ix_q (enc := (lA 2 encStored)) (l := x_0.L) h_e_12 rfl (fun m_e_12 hm_e_12 hx_e_12 => ?_)
      conv => whnf
      refine ⟨_, rfl, ?_⟩
      conv => whnf
      obtain ⟨l_13, h_l_13, hF⟩ := bind_some hF
      refine sl_q1 (enc := encStored) (l := e_12) h_l_13 rfl ?_
      conv => whnf
      obtain ⟨e_14, h_e_14, hF⟩ := bind_some hF
      refine ix_q (enc := (lA 2 encStored)) (l := x_0.L) h_e_14 rfl (fun m_e_14 hm_e_14 hx_e_14 => ?_)
      conv => whnf
      obtain ⟨l_15, h_l_15, hF⟩ := bind_some hF
      refine sl_q0 (enc := encStored) (l := e_14) h_l_15 rfl ?_
      conv => whnf
      obtain ⟨r_16, h_r_16, hF⟩ := bind_some hF
      refine ⟨_, _, _, _, _, _, _, _, _, callX true [] [5] 0 Try.func45 (by decide) rfl (slices_Concat_Stored_ac ([l_13, l_15] : List (List Stored)) r_16 h_r_16) rfl ⟨(argOL 5 (by (conv => lhs; whnf); all_goals rfl) rfl rfl (map_ni (fun _ => ⟨rfl, rfl⟩) _)), trivial⟩ rfl trivial rfl rfl rfl giveU trivial rfl, ?_⟩
      conv => whnf
      obtain ⟨e_17, h_e_17, hF⟩ := bind_some hF
      refine ixo_q (enc := (lA 2 encStored)) (l := r_2.L) h_e_17 rfl (fun m_e_17 hm_e_17 hx_e_17 => ?_)
      conv => whnf
      refine st_q (enc := (lA 2 encStored)) (l := r_2.L) (x' := r_16) (i := r_1.1) hm_e_17 hx_e_17 rfl (Nat.le_of_ble_eq_true rfl) rfl ?_
      conv => whnf
      refine ⟨by kernel_rfl, ?_⟩
      conv => whnf
      obtain rfl := Option.some.inj hF
      exact ret_gz [] [] [3, 4] rfl (tupL rfl ⟨(argA (c := [.int .i64 r_2.Depth, .osl 3]) (by (conv => lhs; whnf); all_goals rfl) rfl ⟨(.ni _ rfl), (.osl 3 1 _ (by simp) rfl (map_ni (fun _ => ⟨rfl, rfl⟩) _)), trivial⟩), (argOL 4 (by (conv => lhs; whnf); all_goals rfl) rfl rfl (map_ni (fun _ => ⟨rfl, rfl⟩) _)), (argE (by (conv => lhs; whnf); all_goals rfl) rfl), trivial⟩) trivial

set_option maxRecDepth 100000 in
set_option maxHeartbeats 40000000 in
theorem ref17_find_ac (x_0 : Lanes) (x_1 : Int) (r : Int × Int) (hF : ref17_find x_0 x_1 = some r) : AC Try.prog 46 [.agg (encLanes x_0), .int .i64 x_1] [] (.tup [.int .i64 r.1, .int .i64 r.2]) [] := by
  refine ac_of tab_ok follows_ok Try.func46 rfl Try.ntmps46 rfl ?_
  unfold ref17_find at hF
  conv => whnf
  obtain ⟨c_1, hc_1, hF⟩ := fin_some hF
  refine sw_bv 0 (v := .agg [.int .i64 x_0.Depth, .lst 1 (x_0.L.map (lA 2 encStored))]) (by (conv => lhs; whnf); all_goals rfl) (fun hb => ?_)
  have hbd_k_2 : x_0.L.length ≤ 9223372036854775807 := bnd_len (enc := (lA 2 encStored)) ((bnd_at hb.cell 1 rfl))
  refine sw_loop tab_ok follows_ok (fun y : Nat => y ≤ x_0.L.length ∧ ref17_find_L1 x_1 (x_0.L.drop y) y = some c_1) (fun y => ⟨eL [(1, .int .i64 x_1), (2, .ptr 0 0), (6, .int .i64 (y : Int))], hL [(0, .box [.int .i64 x_0.Depth, .lst 1 (x_0.L.map (lA 2 encStored))])], 1⟩) (fun y => x_0.L.length - y) 0 ⟨Nat.zero_le _, hc_1⟩ (wk_mk [0] [] [] rfl ⟨argE (by (conv => lhs; whnf); all_goals rfl) rfl, argP (id := 0) (by (conv => lhs; whnf); all_goals rfl) rfl, argE (by (conv => lhs; whnf); all_goals rfl) rfl, trivial⟩ ⟨boxL rfl rfl rfl ⟨(.ni _ rfl), (.ni _ rfl), trivial⟩, trivial⟩) ?_
  rintro k_2 ⟨hk_k_2, hL1⟩
  try dsimp only at hk_k_2 hL1
  show awp _ _ _ _ _ _ ⟨eL [(1, .int .i64 x_1), (2, .ptr 0 0), (6, .int .i64 (k_2 : Int))], hL [(0, .box [.int .i64 x_0.Depth, .lst 1 (x_0.L.map (lA 2 encStored))])], 1⟩
  conv => whnf
  refine len_q (enc := (lA 2 encStored)) (l := x_0.L) rfl ?_
  conv => whnf
  refine ⟨fun h => ?_, fun h => ?_⟩
  · have hlt_k_2 : k_2 < x_0.L.length := by have h := of_decide_eq_true h; omega
    obtain ⟨e_3, h_e_3⟩ : ∃ y, x_0.L[k_2]? = some y := ⟨_, List.getElem?_eq_getElem hlt_k_2⟩
    rw [drop_cons h_e_3, ref17_find_L1.eq_2] at hL1
    conv => whnf
    obtain ⟨c_2, hc_2, hL1⟩ := sub_some hL1
    refine sw_bv 10 (v := .lst 1 (x_0.L.map (lA 2 encStored))) (by (conv => lhs; whnf); all_goals rfl) (fun hb => ?_)
    have hbd_k_5 : e_3.length ≤ 9223372036854775807 := bnd_len (enc := encStored) ((bnd_at (bnd_elem (enc := (lA 2 encStored)) hb h_e_3) 0 rfl))
    refine sw_loop tab_ok follows_ok (fun y : Nat => y ≤ e_3.length ∧ ref17_find_L2 x_1 k_2 (e_3.drop y) y = some c_2) (fun y => ⟨eL [(1, .int .i64 x_1), (2, .ptr 0 0), (6, .int .i64 (k_2 : Int)), (7, .int .i64 (y : Int))], hL [(0, .box [.int .i64 x_0.Depth, .lst 1 (x_0.L.map (lA 2 encStored))])], 1⟩) (fun y => e_3.length - y) 0 ⟨Nat.zero_le _, hc_2⟩ (wk_mk [0] [] [] rfl ⟨argE (by (conv => lhs; whnf); all_goals rfl) rfl, argP (id := 0) (by (conv => lhs; whnf); all_goals rfl) rfl, argE (by (conv => lhs; whnf); all_goals rfl) rfl, argE (by (conv => lhs; whnf); all_goals rfl) rfl, trivial⟩ ⟨boxL rfl rfl rfl ⟨(.ni _ rfl), (.ni _ rfl), trivial⟩, trivial⟩) ?_
    rintro k_5 ⟨hk_k_5, hL2⟩
    try dsimp only at hk_k_5 hL2
    show awp _ _ _ _ _ _ ⟨eL [(1, .int .i64 x_1), (2, .ptr 0 0), (6, .int .i64 (k_2 : Int)), (7, .int .i64 (k_5 : Int))], hL [(0, .box [.int .i64 x_0.Depth, .lst 1 (x_0.L.map (lA 2 encStored))])], 1⟩
    conv => whnf
    refine ⟨k_2, _, rfl, ix_map h_e_3, ?_⟩
    conv => whnf
    refine len_q (enc := encStored) (l := e_3) rfl ?_
    conv => whnf
    refine ⟨fun h => ?_, fun h => ?_⟩
    · have hlt_k_5 : k_5 < e_3.length := by have h := of_decide_eq_true h; omega
      obtain ⟨e_6, h_e_6⟩ : ∃ y, e_3[k_5]? = some y := ⟨_, List.getElem?_eq_getElem hlt_k_5⟩
      rw [drop_cons h_e_6, ref17_find_L2.eq_2] at hL2
      conv => whnf
      refine ⟨k_2, _, rfl, ix_map h_e_3, ?_⟩
      conv => whnf
      refine ⟨k_5, _, rfl, ix_map h_e_6, ?_⟩
      conv => whnf
      refine ⟨fun hb_27 => ?_, fun hb_27 => ?_⟩
      · replace hL2 := cond_t hb_27 hL2
        conv => whnf
        obtain rfl := Option.some.inj hL2
        replace hL1 := sub_ret hL1
        obtain rfl := Option.some.inj hL1
        replace hF := fin_ret hF
        obtain rfl := Option.some.inj hF
        exact ret_gz [] [] [] rfl (tupL rfl ⟨(argE (by (conv => lhs; whnf); all_goals rfl) rfl), (argE (by (conv => lhs; whnf); all_goals rfl) rfl), trivial⟩) trivial
      · replace hL2 := cond_f hb_27 hL2
        conv => whnf
        refine ⟨((k_5 + 1 : Nat) : Int), wrapE (by omega) (by omega) (by omega), ?_⟩
        conv => whnf
        exact ⟨k_5 + 1, [0], [], [], ⟨hlt_k_5, hL2⟩, by show e_3.length - (k_5 + 1) < e_3.length - k_5; omega, wk_mk [0] [] [] rfl ⟨argE (by (conv => lhs; whnf); all_goals rfl) rfl, argP (id := 0) (by (conv => lhs; whnf); all_goals rfl) rfl, argE (by (conv => lhs; whnf); all_goals rfl) rfl, argE (by (conv => lhs; whnf); all_goals rfl) rfl, trivial⟩ ⟨boxL rfl rfl rfl ⟨(.ni _ rfl), (.ni _ rfl), trivial⟩, trivial⟩⟩
    · rw [drop_nil (show e_3.length ≤ k_5 by have h := of_decide_eq_false h; omega), ref17_find_L2.eq_1] at hL2
      conv => whnf
      obtain rfl := Option.some.inj hL2
      replace hL1 := sub_brk hL1
      try dsimp only at hL1
      refine ⟨((k_2 + 1 : Nat) : Int), wrapE (by omega) (by omega) (by omega), ?_⟩
      conv => whnf
      exact ⟨k_2 + 1, [0], [], [], ⟨hlt_k_2, hL1⟩, by show x_0.L.length - (k_2 + 1) < x_0.L.length - k_2; omega, wk_mk [0] [] [] rfl ⟨argE (by (conv => lhs; whnf); all_goals rfl) rfl, argP (id := 0) (by (conv => lhs; whnf); all_goals rfl) rfl, argE (by (conv => lhs; whnf); all_goals rfl) rfl, trivial⟩ ⟨boxL rfl rfl rfl ⟨(.ni _ rfl), (.ni _ rfl), trivial⟩, trivial⟩⟩
  · rw [drop_nil (show x_0.L.length ≤ k_2 by have h := of_decide_eq_false h; omega), ref17_find_L1.eq_1] at hL1
    conv => whnf
    obtain rfl := Option.some.inj hL1
    replace hF := fin_brk hF
    try dsimp only at hF
    obtain rfl := Option.some.inj hF
    exact ret_gz [] [] [] rfl (tupL rfl ⟨(argE (by (conv => lhs; whnf); all_goals rfl) rfl), (argE (by (conv => lhs; whnf); all_goals rfl) rfl), trivial⟩) trivial

set_option maxRecDepth 100000 in
set_option maxHeartbeats 40000000 in
theorem ref17_with_ac (x_0 : Lanes) (x_1 : Int) (x_2 : (List Stored)) (r : Lanes) (hF : ref17_with x_0 x_1 x_2 = some r) : AC Try.prog 47 [.agg (encLanes x_0), .int .i64 x_1, .lst 2 (x_2.map encStored)] [] (.agg (encLanes r)) [] := by
  refine ac_of tab_ok follows_ok Try.func47 rfl Try.ntmps47 rfl ?_
  unfold ref17_with at hF
  conv => whnf
  obtain ⟨c_1, hc_1, hF⟩ := fin_some hF
  refine sw_bv 0 (v := .agg [.int .i64 x_0.Depth, .lst 1 (x_0.L.map (lA 2 encStored))]) (by (conv => lhs; whnf); all_goals rfl) (fun hb => ?_)
  have hbd_k_3 : x_0.L.length ≤ 9223372036854775807 := bnd_len (enc := (lA 2 encStored)) ((bnd_at hb.cell 1 rfl))
  refine sw_loop tab_ok follows_ok (fun y : Nat × (List (List Stored)) => y.1 ≤ x_0.L.length ∧ ref17_with_L1 x_1 x_2 (x_0.L.drop y.1) y.1 y.2 = some c_1) (fun y => ⟨eL [(1, .int .i64 x_1), (2, .lst 2 (x_2.map encStored)), (3, .ptr 0 0), (6, .ptr 1 0), (7, .ptr 2 0), (8, .int .i64 (y.1 : Int))], hL [(0, .box [.int .i64 x_0.Depth, .lst 1 (x_0.L.map (lA 2 encStored))]), (1, .box [.int .i64 (0 : Int), .nils]), (2, .box [.int .i64 x_0.Depth, .osl 3]), (3, .row 1 (y.2.map (lA 2 encStored)))], 4⟩) (fun y => x_0.L.length - y.1) (0, ([] : List (List Stored))) ⟨Nat.zero_le _, hc_1⟩ (wk_mk [0, 1, 2] [3] [] rfl ⟨argE (by (conv => lhs; whnf); all_goals rfl) rfl, argE (by (conv => lhs; whnf); all_goals rfl) rfl, argP (id := 0) (by (conv => lhs; whnf); all_goals rfl) rfl, argP (id := 1) (by (conv => lhs; whnf); all_goals rfl) rfl, argP (id := 2) (by (conv => lhs; whnf); all_goals rfl) rfl, argE (by (conv => lhs; whnf); all_goals rfl) rfl, trivial⟩ ⟨boxL rfl rfl rfl ⟨(.ni _ rfl), (.ni _ rfl), trivial⟩, boxL rfl rfl rfl ⟨(.ni _ rfl), (.ni _ rfl), trivial⟩, boxL rfl rfl rfl ⟨(.ni _ rfl), (.nilz 3 (by simp)), trivial⟩, blkZ rfl, trivial⟩) ?_
  rintro ⟨k_3, a_1⟩ ⟨hk_k_3, hL1⟩
  try dsimp only at hk_k_3 hL1
  show awp _ _ _ _ _ _ ⟨eL [(1, .int .i64 x_1), (2, .lst 2 (x_2.map encStored)), (3, .ptr 0 0), (6, .ptr 1 0), (7, .ptr 2 0), (8, .int .i64 (k_3 : Int))], hL [(0, .box [.int .i64 x_0.Depth, .lst 1 (x_0.L.map (lA 2 encStored))]), (1, .box [.int .i64 (0 : Int), .nils]), (2, .box [.int .i64 x_0.Depth, .osl 3]), (3, .row 1 (a_1.map (lA 2 encStored)))], 4⟩
  conv => whnf
  refine len_q (enc := (lA 2 encStored)) (l := x_0.L) rfl ?_
  conv => whnf
  refine ⟨fun h => ?_, fun h => ?_⟩
  · have hlt_k_3 : k_3 < x_0.L.length := by have h := of_decide_eq_true h; omega
    obtain ⟨e_4, h_e_4⟩ : ∃ y, x_0.L[k_3]? = some y := ⟨_, List.getElem?_eq_getElem hlt_k_3⟩
    rw [drop_cons h_e_4, ref17_with_L1.eq_2] at hL1
    conv => whnf
    refine ⟨fun hb_7 => ?_, fun hb_7 => ?_⟩
    · replace hL1 := cond_t hb_7 hL1
      conv => whnf
      obtain ⟨l_5, h_l_5, hL1⟩ := bind_some hL1
      refine ap_q (enc := (lA 2 encStored)) (l := a_1) (y := ([x_2] : List (List Stored))) h_l_5 rfl rfl (by decide) ?_
      conv => whnf
      refine ⟨((k_3 + 1 : Nat) : Int), wrapE (by omega) (by omega) (by omega), ?_⟩
      conv => whnf
      exact ⟨(k_3 + 1, l_5), [0, 1, 2, 5], [], [], ⟨hlt_k_3, hL1⟩, by show x_0.L.length - (k_3 + 1) < x_0.L.length - k_3; omega, wk_mk [0, 1, 2, 5] [] [] rfl ⟨argE (by (conv => lhs; whnf); all_goals rfl) rfl, argE (by (conv => lhs; whnf); all_goals rfl) rfl, argP (id := 0) (by (conv => lhs; whnf); all_goals rfl) rfl, argP (id := 1) (by (conv => lhs; whnf); all_goals rfl) rfl, argP (id := 2) (by (conv => lhs; whnf); all_goals rfl) rfl, argE (by (conv => lhs; whnf); all_goals rfl) rfl, trivial⟩ ⟨boxL rfl rfl rfl ⟨(.ni _ rfl), (.ni _ rfl), trivial⟩, boxL rfl rfl rfl ⟨(.ni _ rfl), (.ni _ rfl), trivial⟩, boxL rfl rfl rfl ⟨(.ni _ rfl), (.oslg 5 3 rfl), trivial⟩, blkR (fun _ => ⟨rfl, rfl⟩) rfl rfl, trivial⟩⟩
    · replace hL1 := cond_f hb_7 hL1
      conv => whnf
      refine ⟨k_3, _, rfl, ix_map h_e_4, ?_⟩
      conv => whnf
      obtain ⟨l_6, h_l_6, hL1⟩ := bind_some hL1
      refine ap_q (enc := encStored) (l := ([] : List Stored)) (y := e_4) h_l_6 rfl rfl (by decide) ?_
      conv => whnf
      obtain ⟨l_7, h_l_7, hL1⟩ := bind_some hL1
      refine ap_raw h_l_7 (by simp) (by simp [chunkA]) (by decide) ?_
      conv => whnf
      refine ⟨by kernel_rfl, ?_⟩
      conv => whnf
      refine ⟨((k_3 + 1 : Nat) : Int), wrapE (by omega) (by omega) (by omega), ?_⟩
      conv => whnf
      exact ⟨(k_3 + 1, l_7), [0, 1, 2, 6], [], [4], ⟨hlt_k_3, hL1⟩, by show x_0.L.length - (k_3 + 1) < x_0.L.length - k_3; omega, wk_mk [0, 1, 2, 6] [] [4] rfl ⟨argE (by (conv => lhs; whnf); all_goals rfl) rfl, argE (by (conv => lhs; whnf); all_goals rfl) rfl, argP (id := 0) (by (conv => lhs; whnf); all_goals rfl) rfl, argP (id := 1) (by (conv => lhs; whnf); all_goals rfl) rfl, argP (id := 2) (by (conv => lhs; whnf); all_goals rfl) rfl, argE (by (conv => lhs; whnf); all_goals rfl) rfl, trivial⟩ ⟨boxL rfl rfl rfl ⟨(.ni _ rfl), (.ni _ rfl), trivial⟩, boxL rfl rfl rfl ⟨(.ni _ rfl), (.ni _ rfl), trivial⟩, boxL rfl rfl rfl ⟨(.ni _ rfl), (.oslg 6 3 rfl), trivial⟩, blk_rowsE rfl rfl (RowsA.app (RowsA.ni (map_ok (fun _ => ⟨rfl, rfl⟩) _)) (cellsL (c' := [.lst 2 (l_6.map encStored)]) rfl rfl ⟨(.osl 4 2 _ (by simp) rfl (map_ni (fun _ => ⟨rfl, rfl⟩) _)), trivial⟩)) (by rw [(apL_some h_l_7).2, List.map_append]; rfl), trivial⟩⟩
  · rw [drop_nil (show x_0.L.length ≤ k_3 by have h := of_decide_eq_false h; omega), ref17_with_L1.eq_1] at hL1
    conv => whnf
    obtain rfl := Option.some.inj hL1
    replace hF := fin_brk hF
    try dsimp only at hF
    obtain rfl := Option.some.inj hF
    exact ret_gz [] [] [3] rfl (argA (c := [.int .i64 x_0.Depth, .osl 3]) (by (conv => lhs; whnf); all_goals rfl) rfl ⟨(.ni _ rfl), (.osl 3 1 _ (by simp) rfl (map_ni (fun _ => ⟨rfl, rfl⟩) _)), trivial⟩) trivial

set_option maxRecDepth 100000 in
set_option maxHeartbeats 40000000 in
theorem ref17_Take_ac (x_0 : Lanes) (x_1 : Int) (r : Lanes × (List Int) × Int) (hF : ref17_Take x_0 x_1 = some r) : AC Try.prog 29 [.agg (encLanes x_0), .int .i64 x_1] [] (.tup [.agg (encLanes r.1), .lst 1 (r.2.1.map iA), .int .i64 r.2.2]) [] := by
  refine ac_of tab_ok follows_ok Try.func29 rfl Try.ntmps29 rfl ?_
  unfold ref17_Take at hF
  conv => whnf
  obtain ⟨r_1, h_r_1, hF⟩ := bind_some hF
  refine ⟨_, _, _, _, _, _, _, _, _, callX false [] [] 0 Try.func46 (by decide) rfl (ref17_find_ac x_0 x_1 r_1 h_r_1) rfl ⟨(argE (by (conv => lhs; whnf); all_goals rfl) rfl), (argE (by (conv => lhs; whnf); all_goals rfl) rfl), trivial⟩ rfl trivial rfl rfl rfl lend0 trivial rfl, ?_⟩
  conv => whnf
  refine ⟨fun hb_6 => ?_, fun hb_6 => ?_⟩
  · replace hF := cond_t hb_6 hF
    conv => whnf
    obtain rfl := Option.some.inj hF
    exact ret_gz [] [] [] rfl (tupL rfl ⟨(argA (c := [.int .i64 (0 : Int), .nils]) (by (conv => lhs; whnf); all_goals rfl) rfl ⟨(.ni _ rfl), (.nils _), trivial⟩), (argN (by (conv => lhs; whnf); all_goals rfl)), (argE (by (conv => lhs; whnf); all_goals rfl) rfl), trivial⟩) trivial
  · replace hF := cond_f hb_6 hF
    conv => whnf
    obtain ⟨e_2, h_e_2, hF⟩ := bind_some hF
    refine ix_q (enc := (lA 2 encStored)) (l := x_0.L) h_e_2 rfl (fun m_e_2 hm_e_2 hx_e_2 => ?_)
    conv => whnf
    refine ⟨_, rfl, ?_⟩
    conv => whnf
    obtain ⟨l_3, h_l_3, hF⟩ := bind_some hF
    refine sl_q1 (enc := encStored) (l := e_2) h_l_3 rfl ?_
    conv => whnf
    obtain ⟨l_4, h_l_4, hF⟩ := bind_some hF
    refine ap_q (enc := encStored) (l := ([] : List Stored)) (y := l_3) h_l_4 rfl rfl (by decide) ?_
    conv => whnf
    obtain ⟨c_1, hc_1, hF⟩ := fin_some hF
    refine sw_loop tab_ok follows_ok (fun y : Nat × (List Int) × (List Stored) × Int => ref17_Take_L1 x_0 r_1 y.1 y.2.1 y.2.2.1 y.2.2.2 = some c_1) (fun y => ⟨eL [(2, .ptr 0 0), (4, .ptr 1 0), (7, .int .i64 r_1.1), (8, .int .i64 r_1.2), (9, .osl 3), (10, .osl 2), (11, .int .i64 y.2.2.2)], hL [(0, .box [.int .i64 x_0.Depth, .lst 1 (x_0.L.map (lA 2 encStored))]), (1, .box [.int .i64 (0 : Int), .nils]), (2, .row 2 (y.2.2.1.map encStored)), (3, .row 1 (y.2.1.map iA))], 4⟩) (fun y => y.1) (9223372036854775807, ([] : List Int), l_4, (0 : Int)) hc_1 (wk_mk [0, 1, 3] [3] [] rfl ⟨argP (id := 0) (by (conv => lhs; whnf); all_goals rfl) rfl, argP (id := 1) (by (conv => lhs; whnf); all_goals rfl) rfl, argE (by (conv => lhs; whnf); all_goals rfl) rfl, argE (by (conv => lhs; whnf); all_goals rfl) rfl, argZ (by (conv => lhs; whnf); all_goals rfl) rfl, argO (id := 3) (by (conv => lhs; whnf); all_goals rfl) rfl, argE (by (conv => lhs; whnf); all_goals rfl) rfl, trivial⟩ ⟨boxL rfl rfl rfl ⟨(.ni _ rfl), (.ni _ rfl), trivial⟩, boxL rfl rfl rfl ⟨(.ni _ rfl), (.ni _ rfl), trivial⟩, blkR (fun _ => ⟨rfl, rfl⟩) rfl rfl, blkZ rfl, trivial⟩) ?_
    rintro ⟨q_14, a_6, a_5, i_7⟩ hL1
    try dsimp only at hL1
    rcases q_14 with _ | q_14
    · rw [ref17_Take_L1.eq_1] at hL1
      cases hL1
    rw [ref17_Take_L1.eq_2] at hL1
    show awp _ _ _ _ _ _ ⟨eL [(2, .ptr 0 0), (4, .ptr 1 0), (7, .int .i64 r_1.1), (8, .int .i64 r_1.2), (9, .osl 3), (10, .osl 2), (11, .int .i64 i_7)], hL [(0, .box [.int .i64 x_0.Depth, .lst 1 (x_0.L.map (lA 2 encStored))]), (1, .box [.int .i64 (0 : Int), .nils]), (2, .row 2 (a_5.map encStored)), (3, .row 1 (a_6.map iA))], 4⟩
    conv => whnf
    refine ⟨fun hb_7 => ?_, fun hb_7 => ?_⟩
    · replace hL1 := cond_t hb_7 hL1
      conv => whnf
      obtain ⟨e_8, h_e_8, hL1⟩ := bind_some hL1
      refine ix_q (enc := (lA 2 encStored)) (l := x_0.L) h_e_8 rfl (fun m_e_8 hm_e_8 hx_e_8 => ?_)
      conv => whnf
      obtain ⟨e_9, h_e_9, hL1⟩ := bind_some hL1
      refine ix_q (enc := encStored) (l := e_8) h_e_9 rfl (fun m_e_9 hm_e_9 hx_e_9 => ?_)
      conv => whnf
      obtain ⟨l_10, h_l_10, hL1⟩ := bind_some hL1
      refine ap_q (enc := iA) (l := a_6) (y := ([e_9.Bag] : List Int)) h_l_10 rfl rfl (by decide) ?_
      conv => whnf
      obtain ⟨e_11, h_e_11, hL1⟩ := bind_some hL1
      refine ix_q (enc := (lA 2 encStored)) (l := x_0.L) h_e_11 rfl (fun m_e_11 hm_e_11 hx_e_11 => ?_)
      conv => whnf
      obtain ⟨e_12, h_e_12, hL1⟩ := bind_some hL1
      refine ix_q (enc := encStored) (l := e_11) h_e_12 rfl (fun m_e_12 hm_e_12 hx_e_12 => ?_)
      conv => whnf
      obtain ⟨l_13, h_l_13, hL1⟩ := bind_some hL1
      refine ap_q (enc := encStored) (l := a_5) (y := ([e_12] : List Stored)) h_l_13 rfl rfl (by decide) ?_
      conv => whnf
      refine ⟨_, rfl, ?_⟩
      conv => whnf
      exact ⟨(q_14, l_10, l_13, (w64 (i_7 + (1 : Int)))), [0, 1, 7, 5], [], [], hL1, Nat.lt_succ_self _, wk_mk [0, 1, 7, 5] [] [] rfl ⟨argP (id := 0) (by (conv => lhs; whnf); all_goals rfl) rfl, argP (id := 1) (by (conv => lhs; whnf); all_goals rfl) rfl, argE (by (conv => lhs; whnf); all_goals rfl) rfl, argE (by (conv => lhs; whnf); all_goals rfl) rfl, argO (id := 5) (by (conv => lhs; whnf); all_goals rfl) rfl, argO (id := 7) (by (conv => lhs; whnf); all_goals rfl) rfl, argE (by (conv => lhs; whnf); all_goals rfl) rfl, trivial⟩ ⟨boxL rfl rfl rfl ⟨(.ni _ rfl), (.ni _ rfl), trivial⟩, boxL rfl rfl rfl ⟨(.ni _ rfl), (.ni _ rfl), trivial⟩, blkR (fun _ => ⟨rfl, rfl⟩) rfl rfl, blkR (fun _ => ⟨rfl, rfl⟩) rfl rfl, trivial⟩⟩
    · replace hL1 := cond_f hb_7 hL1
      conv => whnf
      obtain rfl := Option.some.inj hL1
      replace hF := fin_brk hF
      try dsimp only at hF
      obtain ⟨r_16, h_r_16, hF⟩ := bind_some hF
      refine ⟨_, _, _, _, _, _, _, _, _, callX true [] [2] 0 Try.func47 (by decide) rfl (ref17_with_ac x_0 r_1.1 a_5 r_16 h_r_16) rfl ⟨(argE (by (conv => lhs; whnf); all_goals rfl) rfl), (argE (by (conv => lhs; whnf); all_goals rfl) rfl), (argOL 2 (by (conv => lhs; whnf); all_goals rfl) rfl rfl (map_ni (fun _ => ⟨rfl, rfl⟩) _)), trivial⟩ rfl trivial rfl rfl rfl giveU trivial rfl, ?_⟩
      conv => whnf
      obtain rfl := Option.some.inj hF
      exact ret_gz [] [] [3] rfl (tupL rfl ⟨(argE (by (conv => lhs; whnf); all_goals rfl) rfl), (argOL 3 (by (conv => lhs; whnf); all_goals rfl) rfl rfl (map_ni (fun _ => ⟨rfl, rfl⟩) _)), (argE (by (conv => lhs; whnf); all_goals rfl) rfl), trivial⟩) trivial

set_option maxRecDepth 100000 in
set_option maxHeartbeats 40000000 in
theorem keep_Ints_ac (x_0 : (List Int)) (x_1 : (List Int)) (r : Bool) (hF : keep_Ints x_0 x_1 = some r) : AC Try.prog 13 [.lst 1 (x_0.map iA), .lst 1 (x_1.map iA)] [] (.bool r) [] := by
  refine ac_of tab_ok follows_ok Try.func13 rfl Try.ntmps13 rfl ?_
  unfold keep_Ints at hF
  conv => whnf
  refine len_q (enc := iA) (l := x_0) rfl ?_
  conv => whnf
  refine len_q (enc := iA) (l := x_1) rfl ?_
  conv => whnf
  refine ⟨fun hb_8 => ?_, fun hb_8 => ?_⟩
  · replace hF := cond_t hb_8 hF
    conv => whnf
    obtain rfl := Option.some.inj hF
    exact ret_gz [] [] [] rfl (argFl (by (conv => lhs; whnf); all_goals rfl)) trivial
  · replace hF := cond_f hb_8 hF
    conv => whnf
    obtain ⟨c_1, hc_1, hF⟩ := fin_some hF
    refine sw_bv 0 (v := .lst 1 (x_0.map iA)) (by (conv => lhs; whnf); all_goals rfl) (fun hb => ?_)
    have hbd_k_2 : x_0.length ≤ 9223372036854775807 := bnd_len (enc := iA) (hb)
    refine sw_loop tab_ok follows_ok (fun y : Nat => y ≤ x_0.length ∧ keep_Ints_L1 x_1 (x_0.drop y) y = some c_1) (fun y => ⟨eL [(0, .lst 1 (x_0.map iA)), (1, .lst 1 (x_1.map iA)), (5, .int .i64 (y : Int))], hL [], 0⟩) (fun y => x_0.length - y) 0 ⟨Nat.zero_le _, hc_1⟩ (wk_mk [] [] [] rfl ⟨argE (by (conv => lhs; whnf); all_goals rfl) rfl, argE (by (conv => lhs; whnf); all_goals rfl) rfl, argE (by (conv => lhs; whnf); all_goals rfl) rfl, trivial⟩ trivial) ?_
    rintro k_2 ⟨hk_k_2, hL1⟩
    try dsimp only at hk_k_2 hL1
    show awp _ _ _ _ _ _ ⟨eL [(0, .lst 1 (x_0.map iA)), (1, .lst 1 (x_1.map iA)), (5, .int .i64 (k_2 : Int))], hL [], 0⟩
    conv => whnf
    refine len_q (enc := iA) (l := x_0) rfl ?_
    conv => whnf
    refine ⟨fun h => ?_, fun h => ?_⟩
    · have hlt_k_2 : k_2 < x_0.length := by have h := of_decide_eq_true h; omega
      obtain ⟨e_3, h_e_3⟩ : ∃ y, x_0[k_2]? = some y := ⟨_, List.getElem?_eq_getElem hlt_k_2⟩
      rw [drop_cons h_e_3, keep_Ints_L1.eq_2] at hL1
      conv => whnf
      refine ⟨k_2, _, rfl, ix_map h_e_3, ?_⟩
      conv => whnf
      obtain ⟨e_4, h_e_4, hL1⟩ := bind_some hL1
      refine ix_q (enc := iA) (l := x_1) h_e_4 rfl (fun m_e_4 hm_e_4 hx_e_4 => ?_)
      conv => whnf
      refine ⟨by kernel_rfl, ?_⟩
      conv => whnf
      refine ⟨fun hb_9 => ?_, fun hb_9 => ?_⟩
      · replace hL1 := cond_t hb_9 hL1
        conv => whnf
        obtain rfl := Option.some.inj hL1
        replace hF := fin_ret hF
        obtain rfl := Option.some.inj hF
        exact ret_gz [] [] [] rfl (argFl (by (conv => lhs; whnf); all_goals rfl)) trivial
      · replace hL1 := cond_f hb_9 hL1
        conv => whnf
        refine ⟨((k_2 + 1 : Nat) : Int), wrapE (by omega) (by omega) (by omega), ?_⟩
        conv => whnf
        exact ⟨k_2 + 1, [], [], [], ⟨hlt_k_2, hL1⟩, by show x_0.length - (k_2 + 1) < x_0.length - k_2; omega, wk_mk [] [] [] rfl ⟨argE (by (conv => lhs; whnf); all_goals rfl) rfl, argE (by (conv => lhs; whnf); all_goals rfl) rfl, argE (by (conv => lhs; whnf); all_goals rfl) rfl, trivial⟩ trivial⟩
    · rw [drop_nil (show x_0.length ≤ k_2 by have h := of_decide_eq_false h; omega), keep_Ints_L1.eq_1] at hL1
      conv => whnf
      obtain rfl := Option.some.inj hL1
      replace hF := fin_brk hF
      try dsimp only at hF
      obtain rfl := Option.some.inj hF
      exact ret_gz [] [] [] rfl (argT (by (conv => lhs; whnf); all_goals rfl)) trivial

set_option maxRecDepth 100000 in
set_option maxHeartbeats 40000000 in
theorem lanes_choose_f1_ac (x_0 : Int) (x_1 : Lanes) (r : Int) (hF : lanes_choose_f1 x_0 x_1 = some r) : AC Try.prog 56 [.int .i64 x_0, .iptr [.int .i64 x_1.Depth, .lst 1 (x_1.L.map (lA 2 encStored))]] [] (.int .i64 r) [] := by
  refine ac_of tab_ok follows_ok Try.func56 rfl Try.ntmps56 rfl ?_
  unfold lanes_choose_f1 at hF
  conv => whnf
  obtain ⟨e_1, h_e_1, hF⟩ := bind_some hF
  refine ix_q (enc := (lA 2 encStored)) (l := x_1.L) h_e_1 rfl (fun m_e_1 hm_e_1 hx_e_1 => ?_)
  conv => whnf
  obtain ⟨e_2, h_e_2, hF⟩ := bind_some hF
  refine ix_q (enc := (lA 2 encStored)) (l := x_1.L) h_e_2 rfl (fun m_e_2 hm_e_2 hx_e_2 => ?_)
  conv => whnf
  refine len_q (enc := encStored) (l := e_2) rfl ?_
  conv => whnf
  refine ⟨_, rfl, ?_⟩
  conv => whnf
  obtain ⟨e_3, h_e_3, hF⟩ := bind_some hF
  refine ix_q (enc := encStored) (l := e_1) h_e_3 rfl (fun m_e_3 hm_e_3 hx_e_3 => ?_)
  conv => whnf
  refine ⟨by kernel_rfl, ?_⟩
  conv => whnf
  obtain rfl := Option.some.inj hF
  exact ret_gz [] [] [] rfl (argE (by (conv => lhs; whnf); all_goals rfl) rfl) trivial

set_option maxRecDepth 100000 in
set_option maxHeartbeats 40000000 in
theorem lanes_choose_ac (x_0 : Lanes) (x_1 : Int) (r : Int) (hF : lanes_choose x_0 x_1 = some r) : AC Try.prog 48 [.agg (encLanes x_0), .int .i64 x_1] [] (.int .i64 r) [] := by
  refine ac_of tab_ok follows_ok Try.func48 rfl Try.ntmps48 rfl ?_
  unfold lanes_choose at hF
  conv => whnf
  refine len_q (enc := (lA 2 encStored)) (l := x_0.L) rfl ?_
  conv => whnf
  obtain ⟨c_1, hc_1, hF⟩ := fin_some hF
  refine sw_bv 0 (v := .agg [.int .i64 x_0.Depth, .lst 1 (x_0.L.map (lA 2 encStored))]) (by (conv => lhs; whnf); all_goals rfl) (fun hb => ?_)
  have hbd_k_5 : x_0.L.length ≤ 9223372036854775807 := bnd_len (enc := (lA 2 encStored)) ((bnd_at hb.cell 1 rfl))
  refine sw_loop tab_ok follows_ok (fun y : Nat × Int × Int × Int => y.1 ≤ x_0.L.length ∧ lanes_choose_L1 x_0 x_1 (x_0.L.drop y.1) y.1 y.2.1 y.2.2.1 y.2.2.2 = some c_1) (fun y => ⟨eL [(1, .int .i64 x_1), (2, .ptr 0 0), (5, .int .i64 y.2.2.1), (6, .int .i64 y.2.1), (7, .int .i64 y.2.2.2), (8, .fn 56 [.ptr 0 0]), (13, .lst 1 (x_0.L.map (lA 2 encStored))), (14, .int .i64 (x_0.L.length : Int)), (15, .int .i64 (y.1 : Int))], hL [(0, .box [.int .i64 x_0.Depth, .lst 1 (x_0.L.map (lA 2 encStored))])], 1⟩) (fun y => x_0.L.length - y.1) (0, (-1 : Int), (-1 : Int), (-1 : Int)) ⟨Nat.zero_le _, hc_1⟩ (wk_mk [0] [] [] rfl ⟨argE (by (conv => lhs; whnf); all_goals rfl) rfl, argP (id := 0) (by (conv => lhs; whnf); all_goals rfl) rfl, argE (by (conv => lhs; whnf); all_goals rfl) rfl, argE (by (conv => lhs; whnf); all_goals rfl) rfl, argE (by (conv => lhs; whnf); all_goals rfl) rfl, argFn (c := [.ptr 0 0]) (by (conv => lhs; whnf); all_goals rfl) rfl ⟨(.ptr 0 0 0 rfl), trivial⟩, argE (by (conv => lhs; whnf); all_goals rfl) rfl, argE (by (conv => lhs; whnf); all_goals rfl) rfl, argE (by (conv => lhs; whnf); all_goals rfl) rfl, trivial⟩ ⟨boxL rfl rfl rfl ⟨(.ni _ rfl), (.ni _ rfl), trivial⟩, trivial⟩) ?_
  rintro ⟨k_5, i_2, i_1, i_3⟩ ⟨hk_k_5, hL1⟩
  try dsimp only at hk_k_5 hL1
  show awp _ _ _ _ _ _ ⟨eL [(1, .int .i64 x_1), (2, .ptr 0 0), (5, .int .i64 i_1), (6, .int .i64 i_2), (7, .int .i64 i_3), (8, .fn 56 [.ptr 0 0]), (13, .lst 1 (x_0.L.map (lA 2 encStored))), (14, .int .i64 (x_0.L.length : Int)), (15, .int .i64 (k_5 : Int))], hL [(0, .box [.int .i64 x_0.Depth, .lst 1 (x_0.L.map (lA 2 encStored))])], 1⟩
  conv => whnf
  refine ⟨fun h => ?_, fun h => ?_⟩
  · have hlt_k_5 : k_5 < x_0.L.length := by have h := of_decide_eq_true h; omega
    obtain ⟨e_6, h_e_6⟩ : ∃ y, x_0.L[k_5]? = some y := ⟨_, List.getElem?_eq_getElem hlt_k_5⟩
    rw [drop_cons h_e_6, lanes_choose_L1.eq_2] at hL1
    conv => whnf
    refine ⟨k_5, _, rfl, ix_map h_e_6, ?_⟩
    conv => whnf
    refine len_q (enc := encStored) (l := e_6) rfl ?_
    conv => whnf
    refine ⟨fun hb_50 => ?_, fun hb_50 => ?_⟩
    · replace hL1 := cond_t hb_50 hL1
      conv => whnf
      refine ⟨((k_5 + 1 : Nat) : Int), wrapE (by omega) (by omega) (by omega), ?_⟩
      conv => whnf
      exact ⟨(k_5 + 1, i_2, i_1, i_3), [0], [], [], ⟨hlt_k_5, hL1⟩, by show x_0.L.length - (k_5 + 1) < x_0.L.length - k_5; omega, wk_mk [0] [] [] rfl ⟨argE (by (conv => lhs; whnf); all_goals rfl) rfl, argP (id := 0) (by (conv => lhs; whnf); all_goals rfl) rfl, argE (by (conv => lhs; whnf); all_goals rfl) rfl, argE (by (conv => lhs; whnf); all_goals rfl) rfl, argE (by (conv => lhs; whnf); all_goals rfl) rfl, argFn (c := [.ptr 0 0]) (by (conv => lhs; whnf); all_goals rfl) rfl ⟨(.ptr 0 0 0 rfl), trivial⟩, argE (by (conv => lhs; whnf); all_goals rfl) rfl, argE (by (conv => lhs; whnf); all_goals rfl) rfl, argE (by (conv => lhs; whnf); all_goals rfl) rfl, trivial⟩ ⟨boxL rfl rfl rfl ⟨(.ni _ rfl), (.ni _ rfl), trivial⟩, trivial⟩⟩
    · replace hL1 := cond_f hb_50 hL1
      conv => whnf
      refine len_q (enc := encStored) (l := e_6) rfl ?_
      conv => whnf
      refine ⟨fun hb_51 => ?_, fun hb_51 => ?_⟩
      · replace hL1 := cond_t hb_51 hL1
        conv => whnf
        refine ⟨fun hb_52 => ?_, fun hb_52 => ?_⟩
        · replace hL1 := cond_t hb_52 hL1
          conv => whnf
          refine ⟨((k_5 + 1 : Nat) : Int), wrapE (by omega) (by omega) (by omega), ?_⟩
          conv => whnf
          exact ⟨(k_5 + 1, (k_5 : Int), i_1, i_3), [0], [], [], ⟨hlt_k_5, hL1⟩, by show x_0.L.length - (k_5 + 1) < x_0.L.length - k_5; omega, wk_mk [0] [] [] rfl ⟨argE (by (conv => lhs; whnf); all_goals rfl) rfl, argP (id := 0) (by (conv => lhs; whnf); all_goals rfl) rfl, argE (by (conv => lhs; whnf); all_goals rfl) rfl, argE (by (conv => lhs; whnf); all_goals rfl) rfl, argE (by (conv => lhs; whnf); all_goals rfl) rfl, argFn (c := [.ptr 0 0]) (by (conv => lhs; whnf); all_goals rfl) rfl ⟨(.ptr 0 0 0 rfl), trivial⟩, argE (by (conv => lhs; whnf); all_goals rfl) rfl, argE (by (conv => lhs; whnf); all_goals rfl) rfl, argE (by (conv => lhs; whnf); all_goals rfl) rfl, trivial⟩ ⟨boxL rfl rfl rfl ⟨(.ni _ rfl), (.ni _ rfl), trivial⟩, trivial⟩⟩
        · replace hL1 := cond_f hb_52 hL1
          conv => whnf
          refine ⟨((k_5 + 1 : Nat) : Int), wrapE (by omega) (by omega) (by omega), ?_⟩
          conv => whnf
          exact ⟨(k_5 + 1, i_2, i_1, i_3), [0], [], [], ⟨hlt_k_5, hL1⟩, by show x_0.L.length - (k_5 + 1) < x_0.L.length - k_5; omega, wk_mk [0] [] [] rfl ⟨argE (by (conv => lhs; whnf); all_goals rfl) rfl, argP (id := 0) (by (conv => lhs; whnf); all_goals rfl) rfl, argE (by (conv => lhs; whnf); all_goals rfl) rfl, argE (by (conv => lhs; whnf); all_goals rfl) rfl, argE (by (conv => lhs; whnf); all_goals rfl) rfl, argFn (c := [.ptr 0 0]) (by (conv => lhs; whnf); all_goals rfl) rfl ⟨(.ptr 0 0 0 rfl), trivial⟩, argE (by (conv => lhs; whnf); all_goals rfl) rfl, argE (by (conv => lhs; whnf); all_goals rfl) rfl, argE (by (conv => lhs; whnf); all_goals rfl) rfl, trivial⟩ ⟨boxL rfl rfl rfl ⟨(.ni _ rfl), (.ni _ rfl), trivial⟩, trivial⟩⟩
      · replace hL1 := cond_f hb_51 hL1
        conv => whnf
        obtain ⟨r_7, h_r_7, hL1⟩ := bind_some hL1
        refine ⟨_, _, _, _, _, _, _, _, _, callX false [] [0] 0 Try.func56 (by decide) rfl (lanes_choose_f1_ac (k_5 : Int) x_0 r_7 h_r_7) rfl ⟨(argE (by (conv => lhs; whnf); all_goals rfl) rfl), (argIb 0 _ (by (conv => lhs; whnf); all_goals rfl) rfl rfl rfl rfl), trivial⟩ rfl trivial rfl rfl rfl (lendF rfl) trivial rfl, ?_⟩
        conv => whnf
        refine ⟨fun hb_53 => ?_, fun hb_53 => ?_⟩
        · replace hL1 := cond_t hb_53 hL1
          conv => whnf
          refine ⟨fun hb_54 => ?_, fun hb_54 => ?_⟩
          · replace hL1 := cond_f hb_54 hL1
            conv => whnf
            obtain ⟨r_10, h_r_10, hL1⟩ := bind_some hL1
            refine ⟨_, _, _, _, _, _, _, _, _, callX false [] [0] 0 Try.func56 (by decide) rfl (lanes_choose_f1_ac (k_5 : Int) x_0 r_10 h_r_10) rfl ⟨(argE (by (conv => lhs; whnf); all_goals rfl) rfl), (argIb 0 _ (by (conv => lhs; whnf); all_goals rfl) rfl rfl rfl rfl), trivial⟩ rfl trivial rfl rfl rfl (lendF rfl) trivial rfl, ?_⟩
            conv => whnf
            obtain ⟨r_11, h_r_11, hL1⟩ := bind_some hL1
            refine ⟨_, _, _, _, _, _, _, _, _, callX false [] [0] 0 Try.func56 (by decide) rfl (lanes_choose_f1_ac i_1 x_0 r_11 h_r_11) rfl ⟨(argE (by (conv => lhs; whnf); all_goals rfl) rfl), (argIb 0 _ (by (conv => lhs; whnf); all_goals rfl) rfl rfl rfl rfl), trivial⟩ rfl trivial rfl rfl rfl (lendF rfl) trivial rfl, ?_⟩
            conv => whnf
            refine ⟨fun hb_57 => ?_, fun hb_57 => ?_⟩
            · replace hL1 := cond_t hb_57 hL1
              conv => whnf
              refine ⟨fun hb_58 => ?_, fun hb_58 => ?_⟩
              · replace hL1 := cond_f hb_58 hL1
                conv => whnf
                obtain ⟨r_12, h_r_12, hL1⟩ := bind_some hL1
                refine ⟨_, _, _, _, _, _, _, _, _, callX false [] [0] 0 Try.func56 (by decide) rfl (lanes_choose_f1_ac (k_5 : Int) x_0 r_12 h_r_12) rfl ⟨(argE (by (conv => lhs; whnf); all_goals rfl) rfl), (argIb 0 _ (by (conv => lhs; whnf); all_goals rfl) rfl rfl rfl rfl), trivial⟩ rfl trivial rfl rfl rfl (lendF rfl) trivial rfl, ?_⟩
                conv => whnf
                obtain ⟨r_13, h_r_13, hL1⟩ := bind_some hL1
                refine ⟨_, _, _, _, _, _, _, _, _, callX false [] [0] 0 Try.func56 (by decide) rfl (lanes_choose_f1_ac i_3 x_0 r_13 h_r_13) rfl ⟨(argE (by (conv => lhs; whnf); all_goals rfl) rfl), (argIb 0 _ (by (conv => lhs; whnf); all_goals rfl) rfl rfl rfl rfl), trivial⟩ rfl trivial rfl rfl rfl (lendF rfl) trivial rfl, ?_⟩
                conv => whnf
                refine ⟨fun hb_59 => ?_, fun hb_59 => ?_⟩
                · replace hL1 := cond_t hb_59 hL1
                  conv => whnf
                  refine ⟨((k_5 + 1 : Nat) : Int), wrapE (by omega) (by omega) (by omega), ?_⟩
                  conv => whnf
                  exact ⟨(k_5 + 1, i_2, (k_5 : Int), (k_5 : Int)), [0], [], [], ⟨hlt_k_5, hL1⟩, by show x_0.L.length - (k_5 + 1) < x_0.L.length - k_5; omega, wk_mk [0] [] [] rfl ⟨argE (by (conv => lhs; whnf); all_goals rfl) rfl, argP (id := 0) (by (conv => lhs; whnf); all_goals rfl) rfl, argE (by (conv => lhs; whnf); all_goals rfl) rfl, argE (by (conv => lhs; whnf); all_goals rfl) rfl, argE (by (conv => lhs; whnf); all_goals rfl) rfl, argFn (c := [.ptr 0 0]) (by (conv => lhs; whnf); all_goals rfl) rfl ⟨(.ptr 0 0 0 rfl), trivial⟩, argE (by (conv => lhs; whnf); all_goals rfl) rfl, argE (by (conv => lhs; whnf); all_goals rfl) rfl, argE (by (conv => lhs; whnf); all_goals rfl) rfl, trivial⟩ ⟨boxL rfl rfl rfl ⟨(.ni _ rfl), (.ni _ rfl), trivial⟩, trivial⟩⟩
                · replace hL1 := cond_f hb_59 hL1
                  conv => whnf
                  refine ⟨((k_5 + 1 : Nat) : Int), wrapE (by omega) (by omega) (by omega), ?_⟩
                  conv => whnf
                  exact ⟨(k_5 + 1, i_2, (k_5 : Int), i_3), [0], [], [], ⟨hlt_k_5, hL1⟩, by show x_0.L.length - (k_5 + 1) < x_0.L.length - k_5; omega, wk_mk [0] [] [] rfl ⟨argE (by (conv => lhs; whnf); all_goals rfl) rfl, argP (id := 0) (by (conv => lhs; whnf); all_goals rfl) rfl, argE (by (conv => lhs; whnf); all_goals rfl) rfl, argE (by (conv => lhs; whnf); all_goals rfl) rfl, argE (by (conv => lhs; whnf); all_goals rfl) rfl, argFn (c := [.ptr 0 0]) (by (conv => lhs; whnf); all_goals rfl) rfl ⟨(.ptr 0 0 0 rfl), trivial⟩, argE (by (conv => lhs; whnf); all_goals rfl) rfl, argE (by (conv => lhs; whnf); all_goals rfl) rfl, argE (by (conv => lhs; whnf); all_goals rfl) rfl, trivial⟩ ⟨boxL rfl rfl rfl ⟨(.ni _ rfl), (.ni _ rfl), trivial⟩, trivial⟩⟩
              · replace hL1 := cond_t hb_58 hL1
                conv => whnf
                refine ⟨((k_5 + 1 : Nat) : Int), wrapE (by omega) (by omega) (by omega), ?_⟩
                conv => whnf
                exact ⟨(k_5 + 1, i_2, (k_5 : Int), (k_5 : Int)), [0], [], [], ⟨hlt_k_5, hL1⟩, by show x_0.L.length - (k_5 + 1) < x_0.L.length - k_5; omega, wk_mk [0] [] [] rfl ⟨argE (by (conv => lhs; whnf); all_goals rfl) rfl, argP (id := 0) (by (conv => lhs; whnf); all_goals rfl) rfl, argE (by (conv => lhs; whnf); all_goals rfl) rfl, argE (by (conv => lhs; whnf); all_goals rfl) rfl, argE (by (conv => lhs; whnf); all_goals rfl) rfl, argFn (c := [.ptr 0 0]) (by (conv => lhs; whnf); all_goals rfl) rfl ⟨(.ptr 0 0 0 rfl), trivial⟩, argE (by (conv => lhs; whnf); all_goals rfl) rfl, argE (by (conv => lhs; whnf); all_goals rfl) rfl, argE (by (conv => lhs; whnf); all_goals rfl) rfl, trivial⟩ ⟨boxL rfl rfl rfl ⟨(.ni _ rfl), (.ni _ rfl), trivial⟩, trivial⟩⟩
            · replace hL1 := cond_f hb_57 hL1
              conv => whnf
              refine ⟨fun hb_60 => ?_, fun hb_60 => ?_⟩
              · replace hL1 := cond_f hb_60 hL1
                conv => whnf
                obtain ⟨r_14, h_r_14, hL1⟩ := bind_some hL1
                refine ⟨_, _, _, _, _, _, _, _, _, callX false [] [0] 0 Try.func56 (by decide) rfl (lanes_choose_f1_ac (k_5 : Int) x_0 r_14 h_r_14) rfl ⟨(argE (by (conv => lhs; whnf); all_goals rfl) rfl), (argIb 0 _ (by (conv => lhs; whnf); all_goals rfl) rfl rfl rfl rfl), trivial⟩ rfl trivial rfl rfl rfl (lendF rfl) trivial rfl, ?_⟩
                conv => whnf
                obtain ⟨r_15, h_r_15, hL1⟩ := bind_some hL1
                refine ⟨_, _, _, _, _, _, _, _, _, callX false [] [0] 0 Try.func56 (by decide) rfl (lanes_choose_f1_ac i_3 x_0 r_15 h_r_15) rfl ⟨(argE (by (conv => lhs; whnf); all_goals rfl) rfl), (argIb 0 _ (by (conv => lhs; whnf); all_goals rfl) rfl rfl rfl rfl), trivial⟩ rfl trivial rfl rfl rfl (lendF rfl) trivial rfl, ?_⟩
                conv => whnf
                refine ⟨fun hb_61 => ?_, fun hb_61 => ?_⟩
                · replace hL1 := cond_t hb_61 hL1
                  conv => whnf
                  refine ⟨((k_5 + 1 : Nat) : Int), wrapE (by omega) (by omega) (by omega), ?_⟩
                  conv => whnf
                  exact ⟨(k_5 + 1, i_2, i_1, (k_5 : Int)), [0], [], [], ⟨hlt_k_5, hL1⟩, by show x_0.L.length - (k_5 + 1) < x_0.L.length - k_5; omega, wk_mk [0] [] [] rfl ⟨argE (by (conv => lhs; whnf); all_goals rfl) rfl, argP (id := 0) (by (conv => lhs; whnf); all_goals rfl) rfl, argE (by (conv => lhs; whnf); all_goals rfl) rfl, argE (by (conv => lhs; whnf); all_goals rfl) rfl, argE (by (conv => lhs; whnf); all_goals rfl) rfl, argFn (c := [.ptr 0 0]) (by (conv => lhs; whnf); all_goals rfl) rfl ⟨(.ptr 0 0 0 rfl), trivial⟩, argE (by (conv => lhs; whnf); all_goals rfl) rfl, argE (by (conv => lhs; whnf); all_goals rfl) rfl, argE (by (conv => lhs; whnf); all_goals rfl) rfl, trivial⟩ ⟨boxL rfl rfl rfl ⟨(.ni _ rfl), (.ni _ rfl), trivial⟩, trivial⟩⟩
                · replace hL1 := cond_f hb_61 hL1
                  conv => whnf
                  refine ⟨((k_5 + 1 : Nat) : Int), wrapE (by omega) (by omega) (by omega), ?_⟩
                  conv => whnf
                  exact ⟨(k_5 + 1, i_2, i_1, i_3), [0], [], [], ⟨hlt_k_5, hL1⟩, by show x_0.L.length - (k_5 + 1) < x_0.L.length - k_5; omega, wk_mk [0] [] [] rfl ⟨argE (by (conv => lhs; whnf); all_goals rfl) rfl, argP (id := 0) (by (conv => lhs; whnf); all_goals rfl) rfl, argE (by (conv => lhs; whnf); all_goals rfl) rfl, argE (by (conv => lhs; whnf); all_goals rfl) rfl, argE (by (conv => lhs; whnf); all_goals rfl) rfl, argFn (c := [.ptr 0 0]) (by (conv => lhs; whnf); all_goals rfl) rfl ⟨(.ptr 0 0 0 rfl), trivial⟩, argE (by (conv => lhs; whnf); all_goals rfl) rfl, argE (by (conv => lhs; whnf); all_goals rfl) rfl, argE (by (conv => lhs; whnf); all_goals rfl) rfl, trivial⟩ ⟨boxL rfl rfl rfl ⟨(.ni _ rfl), (.ni _ rfl), trivial⟩, trivial⟩⟩
              · replace hL1 := cond_t hb_60 hL1
                conv => whnf
                refine ⟨((k_5 + 1 : Nat) : Int), wrapE (by omega) (by omega) (by omega), ?_⟩
                conv => whnf
                exact ⟨(k_5 + 1, i_2, i_1, (k_5 : Int)), [0], [], [], ⟨hlt_k_5, hL1⟩, by show x_0.L.length - (k_5 + 1) < x_0.L.length - k_5; omega, wk_mk [0] [] [] rfl ⟨argE (by (conv => lhs; whnf); all_goals rfl) rfl, argP (id := 0) (by (conv => lhs; whnf); all_goals rfl) rfl, argE (by (conv => lhs; whnf); all_goals rfl) rfl, argE (by (conv => lhs; whnf); all_goals rfl) rfl, argE (by (conv => lhs; whnf); all_goals rfl) rfl, argFn (c := [.ptr 0 0]) (by (conv => lhs; whnf); all_goals rfl) rfl ⟨(.ptr 0 0 0 rfl), trivial⟩, argE (by (conv => lhs; whnf); all_goals rfl) rfl, argE (by (conv => lhs; whnf); all_goals rfl) rfl, argE (by (conv => lhs; whnf); all_goals rfl) rfl, trivial⟩ ⟨boxL rfl rfl rfl ⟨(.ni _ rfl), (.ni _ rfl), trivial⟩, trivial⟩⟩
          · replace hL1 := cond_t hb_54 hL1
            conv => whnf
            refine ⟨fun hb_55 => ?_, fun hb_55 => ?_⟩
            · replace hL1 := cond_f hb_55 hL1
              conv => whnf
              obtain ⟨r_8, h_r_8, hL1⟩ := bind_some hL1
              refine ⟨_, _, _, _, _, _, _, _, _, callX false [] [0] 0 Try.func56 (by decide) rfl (lanes_choose_f1_ac (k_5 : Int) x_0 r_8 h_r_8) rfl ⟨(argE (by (conv => lhs; whnf); all_goals rfl) rfl), (argIb 0 _ (by (conv => lhs; whnf); all_goals rfl) rfl rfl rfl rfl), trivial⟩ rfl trivial rfl rfl rfl (lendF rfl) trivial rfl, ?_⟩
              conv => whnf
              obtain ⟨r_9, h_r_9, hL1⟩ := bind_some hL1
              refine ⟨_, _, _, _, _, _, _, _, _, callX false [] [0] 0 Try.func56 (by decide) rfl (lanes_choose_f1_ac i_3 x_0 r_9 h_r_9) rfl ⟨(argE (by (conv => lhs; whnf); all_goals rfl) rfl), (argIb 0 _ (by (conv => lhs; whnf); all_goals rfl) rfl rfl rfl rfl), trivial⟩ rfl trivial rfl rfl rfl (lendF rfl) trivial rfl, ?_⟩
              conv => whnf
              refine ⟨fun hb_56 => ?_, fun hb_56 => ?_⟩
              · replace hL1 := cond_t hb_56 hL1
                conv => whnf
                refine ⟨((k_5 + 1 : Nat) : Int), wrapE (by omega) (by omega) (by omega), ?_⟩
                conv => whnf
                exact ⟨(k_5 + 1, i_2, (k_5 : Int), (k_5 : Int)), [0], [], [], ⟨hlt_k_5, hL1⟩, by show x_0.L.length - (k_5 + 1) < x_0.L.length - k_5; omega, wk_mk [0] [] [] rfl ⟨argE (by (conv => lhs; whnf); all_goals rfl) rfl, argP (id := 0) (by (conv => lhs; whnf); all_goals rfl) rfl, argE (by (conv => lhs; whnf); all_goals rfl) rfl, argE (by (conv => lhs; whnf); all_goals rfl) rfl, argE (by (conv => lhs; whnf); all_goals rfl) rfl, argFn (c := [.ptr 0 0]) (by (conv => lhs; whnf); all_goals rfl) rfl ⟨(.ptr 0 0 0 rfl), trivial⟩, argE (by (conv => lhs; whnf); all_goals rfl) rfl, argE (by (conv => lhs; whnf); all_goals rfl) rfl, argE (by (conv => lhs; whnf); all_goals rfl) rfl, trivial⟩ ⟨boxL rfl rfl rfl ⟨(.ni _ rfl), (.ni _ rfl), trivial⟩, trivial⟩⟩
              · replace hL1 := cond_f hb_56 hL1
                conv => whnf
                refine ⟨((k_5 + 1 : Nat) : Int), wrapE (by omega) (by omega) (by omega), ?_⟩
                conv => whnf
                exact ⟨(k_5 + 1, i_2, (k_5 : Int), i_3), [0], [], [], ⟨hlt_k_5, hL1⟩, by show x_0.L.length - (k_5 + 1) < x_0.L.length - k_5; omega, wk_mk [0] [] [] rfl ⟨argE (by (conv => lhs; whnf); all_goals rfl) rfl, argP (id := 0) (by (conv => lhs; whnf); all_goals rfl) rfl, argE (by (conv => lhs; whnf); all_goals rfl) rfl, argE (by (conv => lhs; whnf); all_goals rfl) rfl, argE (by (conv => lhs; whnf); all_goals rfl) rfl, argFn (c := [.ptr 0 0]) (by (conv => lhs; whnf); all_goals rfl) rfl ⟨(.ptr 0 0 0 rfl), trivial⟩, argE (by (conv => lhs; whnf); all_goals rfl) rfl, argE (by (conv => lhs; whnf); all_goals rfl) rfl, argE (by (conv => lhs; whnf); all_goals rfl) rfl, trivial⟩ ⟨boxL rfl rfl rfl ⟨(.ni _ rfl), (.ni _ rfl), trivial⟩, trivial⟩⟩
            · replace hL1 := cond_t hb_55 hL1
              conv => whnf
              refine ⟨((k_5 + 1 : Nat) : Int), wrapE (by omega) (by omega) (by omega), ?_⟩
              conv => whnf
              exact ⟨(k_5 + 1, i_2, (k_5 : Int), (k_5 : Int)), [0], [], [], ⟨hlt_k_5, hL1⟩, by show x_0.L.length - (k_5 + 1) < x_0.L.length - k_5; omega, wk_mk [0] [] [] rfl ⟨argE (by (conv => lhs; whnf); all_goals rfl) rfl, argP (id := 0) (by (conv => lhs; whnf); all_goals rfl) rfl, argE (by (conv => lhs; whnf); all_goals rfl) rfl, argE (by (conv => lhs; whnf); all_goals rfl) rfl, argE (by (conv => lhs; whnf); all_goals rfl) rfl, argFn (c := [.ptr 0 0]) (by (conv => lhs; whnf); all_goals rfl) rfl ⟨(.ptr 0 0 0 rfl), trivial⟩, argE (by (conv => lhs; whnf); all_goals rfl) rfl, argE (by (conv => lhs; whnf); all_goals rfl) rfl, argE (by (conv => lhs; whnf); all_goals rfl) rfl, trivial⟩ ⟨boxL rfl rfl rfl ⟨(.ni _ rfl), (.ni _ rfl), trivial⟩, trivial⟩⟩
        · replace hL1 := cond_f hb_53 hL1
          conv => whnf
          refine ⟨fun hb_62 => ?_, fun hb_62 => ?_⟩
          · replace hL1 := cond_f hb_62 hL1
            conv => whnf
            obtain ⟨r_16, h_r_16, hL1⟩ := bind_some hL1
            refine ⟨_, _, _, _, _, _, _, _, _, callX false [] [0] 0 Try.func56 (by decide) rfl (lanes_choose_f1_ac (k_5 : Int) x_0 r_16 h_r_16) rfl ⟨(argE (by (conv => lhs; whnf); all_goals rfl) rfl), (argIb 0 _ (by (conv => lhs; whnf); all_goals rfl) rfl rfl rfl rfl), trivial⟩ rfl trivial rfl rfl rfl (lendF rfl) trivial rfl, ?_⟩
            conv => whnf
            obtain ⟨r_17, h_r_17, hL1⟩ := bind_some hL1
            refine ⟨_, _, _, _, _, _, _, _, _, callX false [] [0] 0 Try.func56 (by decide) rfl (lanes_choose_f1_ac i_3 x_0 r_17 h_r_17) rfl ⟨(argE (by (conv => lhs; whnf); all_goals rfl) rfl), (argIb 0 _ (by (conv => lhs; whnf); all_goals rfl) rfl rfl rfl rfl), trivial⟩ rfl trivial rfl rfl rfl (lendF rfl) trivial rfl, ?_⟩
            conv => whnf
            refine ⟨fun hb_63 => ?_, fun hb_63 => ?_⟩
            · replace hL1 := cond_t hb_63 hL1
              conv => whnf
              refine ⟨((k_5 + 1 : Nat) : Int), wrapE (by omega) (by omega) (by omega), ?_⟩
              conv => whnf
              exact ⟨(k_5 + 1, i_2, i_1, (k_5 : Int)), [0], [], [], ⟨hlt_k_5, hL1⟩, by show x_0.L.length - (k_5 + 1) < x_0.L.length - k_5; omega, wk_mk [0] [] [] rfl ⟨argE (by (conv => lhs; whnf); all_goals rfl) rfl, argP (id := 0) (by (conv => lhs; whnf); all_goals rfl) rfl, argE (by (conv => lhs; whnf); all_goals rfl) rfl, argE (by (conv => lhs; whnf); all_goals rfl) rfl, argE (by (conv => lhs; whnf); all_goals rfl) rfl, argFn (c := [.ptr 0 0]) (by (conv => lhs; whnf); all_goals rfl) rfl ⟨(.ptr 0 0 0 rfl), trivial⟩, argE (by (conv => lhs; whnf); all_goals rfl) rfl, argE (by (conv => lhs; whnf); all_goals rfl) rfl, argE (by (conv => lhs; whnf); all_goals rfl) rfl, trivial⟩ ⟨boxL rfl rfl rfl ⟨(.ni _ rfl), (.ni _ rfl), trivial⟩, trivial⟩⟩
            · replace hL1 := cond_f hb_63 hL1
              conv => whnf
              refine ⟨((k_5 + 1 : Nat) : Int), wrapE (by omega) (by omega) (by omega), ?_⟩
              conv => whnf
              exact ⟨(k_5 + 1, i_2, i_1, i_3), [0], [], [], ⟨hlt_k_5, hL1⟩, by show x_0.L.length - (k_5 + 1) < x_0.L.length - k_5; omega, wk_mk [0] [] [] rfl ⟨argE (by (conv => lhs; whnf); all_goals rfl) rfl, argP (id := 0) (by (conv => lhs; whnf); all_goals rfl) rfl, argE (by (conv => lhs; whnf); all_goals rfl) rfl, argE (by (conv => lhs; whnf); all_goals rfl) rfl, argE (by (conv => lhs; whnf); all_goals rfl) rfl, argFn (c := [.ptr 0 0]) (by (conv => lhs; whnf); all_goals rfl) rfl ⟨(.ptr 0 0 0 rfl), trivial⟩, argE (by (conv => lhs; whnf); all_goals rfl) rfl, argE (by (conv => lhs; whnf); all_goals rfl) rfl, argE (by (conv => lhs; whnf); all_goals rfl) rfl, trivial⟩ ⟨boxL rfl rfl rfl ⟨(.ni _ rfl), (.ni _ rfl), trivial⟩, trivial⟩⟩
          · replace hL1 := cond_t hb_62 hL1
            conv => whnf
            refine ⟨((k_5 + 1 : Nat) : Int), wrapE (by omega) (by omega) (by omega), ?_⟩
            conv => whnf
            exact ⟨(k_5 + 1, i_2, i_1, (k_5 : Int)), [0], [], [], ⟨hlt_k_5, hL1⟩, by show x_0.L.length - (k_5 + 1) < x_0.L.length - k_5; omega, wk_mk [0] [] [] rfl ⟨argE (by (conv => lhs; whnf); all_goals rfl) rfl, argP (id := 0) (by (conv => lhs; whnf); all_goals rfl) rfl, argE (by (conv => lhs; whnf); all_goals rfl) rfl, argE (by (conv => lhs; whnf); all_goals rfl) rfl, argE (by (conv => lhs; whnf); all_goals rfl) rfl, argFn (c := [.ptr 0 0]) (by (conv => lhs; whnf); all_goals rfl) rfl ⟨(.ptr 0 0 0 rfl), trivial⟩, argE (by (conv => lhs; whnf); all_goals rfl) rfl, argE (by (conv => lhs; whnf); all_goals rfl) rfl, argE (by (conv => lhs; whnf); all_goals rfl) rfl, trivial⟩ ⟨boxL rfl rfl rfl ⟨(.ni _ rfl), (.ni _ rfl), trivial⟩, trivial⟩⟩
  · rw [drop_nil (show x_0.L.length ≤ k_5 by have h := of_decide_eq_false h; omega), lanes_choose_L1.eq_1] at hL1
    conv => whnf
    obtain rfl := Option.some.inj hL1
    replace hF := fin_brk hF
    try dsimp only at hF
    refine ⟨fun hb_64 => ?_, fun hb_64 => ?_⟩
    · replace hF := cond_t hb_64 hF
      conv => whnf
      obtain rfl := Option.some.inj hF
      exact ret_gz [] [] [] rfl (argE (by (conv => lhs; whnf); all_goals rfl) rfl) trivial
    · replace hF := cond_f hb_64 hF
      conv => whnf
      refine ⟨fun hb_65 => ?_, fun hb_65 => ?_⟩
      · replace hF := cond_t hb_65 hF
        conv => whnf
        obtain rfl := Option.some.inj hF
        exact ret_gz [] [] [] rfl (argE (by (conv => lhs; whnf); all_goals rfl) rfl) trivial
      · replace hF := cond_f hb_65 hF
        conv => whnf
        obtain rfl := Option.some.inj hF
        exact ret_gz [] [] [] rfl (argE (by (conv => lhs; whnf); all_goals rfl) rfl) trivial

set_option maxRecDepth 100000 in
set_option maxHeartbeats 40000000 in
theorem lanes_Put_ac (x_0 : Lanes) (x_1 : Stored) (r : Lanes × Int × Int) (hF : lanes_Put x_0 x_1 = some r) : AC Try.prog 30 [.agg (encLanes x_0), .agg (encStored x_1)] [] (.tup [.agg (encLanes r.1), .int .i64 r.2.1, .int .i64 r.2.2]) [] := by
  refine ac_of tab_ok follows_ok Try.func30 rfl Try.ntmps30 rfl ?_
  unfold lanes_Put at hF
  conv => whnf
  refine ⟨fun hb_7 => ?_, fun hb_7 => ?_⟩
  · replace hF := cond_f hb_7 hF
    conv => whnf
    refine ⟨fun hb_8 => ?_, fun hb_8 => ?_⟩
    · replace hF := cond_f hb_8 hF
      conv => whnf
      refine ⟨fun hb_9 => ?_, fun hb_9 => ?_⟩
      · replace hF := cond_f hb_9 hF
        conv => whnf
        refine ⟨fun hb_10 => ?_, fun hb_10 => ?_⟩
        · replace hF := cond_t hb_10 hF
          conv => whnf
          obtain rfl := Option.some.inj hF
          exact ret_gz [] [] [] rfl (tupL rfl ⟨(argA (c := [.int .i64 (0 : Int), .nils]) (by (conv => lhs; whnf); all_goals rfl) rfl ⟨(.ni _ rfl), (.nils _), trivial⟩), (argE (by (conv => lhs; whnf); all_goals rfl) rfl), (argE (by (conv => lhs; whnf); all_goals rfl) rfl), trivial⟩) trivial
        · replace hF := cond_f hb_10 hF
          conv => whnf
          obtain ⟨r_1, h_r_1, hF⟩ := bind_some hF
          refine ⟨_, _, _, _, _, _, _, _, _, callX false [] [] 0 Try.func43 (by decide) rfl (lanes_find_ac x_0 x_1.Bag r_1 h_r_1) rfl ⟨(argE (by (conv => lhs; whnf); all_goals rfl) rfl), (argE (by (conv => lhs; whnf); all_goals rfl) rfl), trivial⟩ rfl trivial rfl rfl rfl lend0 trivial rfl, ?_⟩
          conv => whnf
          refine ⟨fun hb_11 => ?_, fun hb_11 => ?_⟩
          · replace hF := cond_t hb_11 hF
            conv => whnf
            obtain rfl := Option.some.inj hF
            exact ret_gz [] [] [] rfl (tupL rfl ⟨(argA (c := [.int .i64 (0 : Int), .nils]) (by (conv => lhs; whnf); all_goals rfl) rfl ⟨(.ni _ rfl), (.nils _), trivial⟩), (argE (by (conv => lhs; whnf); all_goals rfl) rfl), (argE (by (conv => lhs; whnf); all_goals rfl) rfl), trivial⟩) trivial
          · replace hF := cond_f hb_11 hF
            conv => whnf
            obtain ⟨r_2, h_r_2, hF⟩ := bind_some hF
            refine ⟨_, _, _, _, _, _, _, _, _, callX false [] [] 0 Try.func48 (by decide) rfl (lanes_choose_ac x_0 x_1.Due r_2 h_r_2) rfl ⟨(argE (by (conv => lhs; whnf); all_goals rfl) rfl), (argE (by (conv => lhs; whnf); all_goals rfl) rfl), trivial⟩ rfl trivial rfl rfl rfl lend0 trivial rfl, ?_⟩
            conv => whnf
            refine ⟨fun hb_12 => ?_, fun hb_12 => ?_⟩
            · replace hF := cond_t hb_12 hF
              conv => whnf
              obtain rfl := Option.some.inj hF
              exact ret_gz [] [] [] rfl (tupL rfl ⟨(argA (c := [.int .i64 (0 : Int), .nils]) (by (conv => lhs; whnf); all_goals rfl) rfl ⟨(.ni _ rfl), (.nils _), trivial⟩), (argE (by (conv => lhs; whnf); all_goals rfl) rfl), (argE (by (conv => lhs; whnf); all_goals rfl) rfl), trivial⟩) trivial
            · replace hF := cond_f hb_12 hF
              conv => whnf
              obtain ⟨r_3, h_r_3, hF⟩ := bind_some hF
              obtain ⟨h_r_3, p_fr_3, q_fr_3, n_fr_3, hi_fr_3, hE_fr_3, hp_fr_3⟩ := focE_some h_r_3
              refine ⟨_, _, _, _, _, _, _, _, _, callY false [.row 1 (focR (lA 2 encStored) p_fr_3 [.osl 6] q_fr_3), .row 2 (r_3.2.map encStored)] [] [] 2 Try.func44 (by decide) rfl (lanes_clone_foc0 x_0 r_3.1 p_fr_3 r_3.2 q_fr_3 hE_fr_3 h_r_3) rfl ⟨(argE (by (conv => lhs; whnf); all_goals rfl) rfl), trivial⟩ rfl trivial rfl rfl rfl lend0 rfl ⟨renF (fun _ => ⟨rfl, rfl⟩) rfl, renR (fun _ => ⟨rfl, rfl⟩), trivial⟩ rfl, ?_⟩
              conv => whnf
              refine fix_q (enc := (lA 2 encStored)) hp_fr_3 hi_fr_3 rfl ?_
              conv => whnf
              refine fld_q (enc := (lA 2 encStored)) hp_fr_3 rfl ?_
              conv => whnf
              obtain ⟨l_4, h_l_4, hF⟩ := bind_some hF
              refine ap_q (enc := encStored) (l := r_3.2) (y := ([x_1] : List Stored)) h_l_4 rfl rfl (by decide) ?_
              conv => whnf
              refine fix_q (enc := (lA 2 encStored)) hp_fr_3 hi_fr_3 rfl ?_
              conv => whnf
              refine ⟨map_ni (fun _ => ⟨rfl, rfl⟩) _, ?_⟩
              conv => whnf
              refine fst_q (enc := (lA 2 encStored)) (l := r_3.1.L) (x' := l_4) hE_fr_3 hp_fr_3 hi_fr_3 rfl (Nat.le_of_ble_eq_true rfl) rfl ?_
              conv => whnf
              refine ⟨by kernel_rfl, ?_⟩
              conv => whnf
              obtain rfl := Option.some.inj hF
              exact ret_gz [] [] [5] rfl (tupL rfl ⟨(argA (c := [.int .i64 r_3.1.Depth, .osl 5]) (by (conv => lhs; whnf); all_goals rfl) rfl ⟨(.ni _ rfl), (.osl 5 1 _ (by simp) rfl (map_ni (fun _ => ⟨rfl, rfl⟩) _)), trivial⟩), (argE (by (conv => lhs; whnf); all_goals rfl) rfl), (argE (by (conv => lhs; whnf); all_goals rfl) rfl), trivial⟩) trivial
      · replace hF := cond_t hb_9 hF
        conv => whnf
        obtain rfl := Option.some.inj hF
        exact ret_gz [] [] [] rfl (tupL rfl ⟨(argA (c := [.int .i64 (0 : Int), .nils]) (by (conv => lhs; whnf); all_goals rfl) rfl ⟨(.ni _ rfl), (.nils _), trivial⟩), (argE (by (conv => lhs; whnf); all_goals rfl) rfl), (argE (by (conv => lhs; whnf); all_goals rfl) rfl), trivial⟩) trivial
    · replace hF := cond_t hb_8 hF
      conv => whnf
      obtain rfl := Option.some.inj hF
      exact ret_gz [] [] [] rfl (tupL rfl ⟨(argA (c := [.int .i64 (0 : Int), .nils]) (by (conv => lhs; whnf); all_goals rfl) rfl ⟨(.ni _ rfl), (.nils _), trivial⟩), (argE (by (conv => lhs; whnf); all_goals rfl) rfl), (argE (by (conv => lhs; whnf); all_goals rfl) rfl), trivial⟩) trivial
  · replace hF := cond_t hb_7 hF
    conv => whnf
    obtain rfl := Option.some.inj hF
    exact ret_gz [] [] [] rfl (tupL rfl ⟨(argA (c := [.int .i64 (0 : Int), .nils]) (by (conv => lhs; whnf); all_goals rfl) rfl ⟨(.ni _ rfl), (.nils _), trivial⟩), (argE (by (conv => lhs; whnf); all_goals rfl) rfl), (argE (by (conv => lhs; whnf); all_goals rfl) rfl), trivial⟩) trivial

set_option maxRecDepth 100000 in
set_option maxHeartbeats 40000000 in
theorem ref17_rank_ac (x_0 : (List Stored)) (x_1 : Int) (r : Int) (hF : ref17_rank x_0 x_1 = some r) : AC Try.prog 57 [.lst 2 (x_0.map encStored), .int .i64 x_1] [] (.int .i64 r) [] := by
  refine ac_of tab_ok follows_ok Try.func57 rfl Try.ntmps57 rfl ?_
  unfold ref17_rank at hF
  conv => whnf
  refine len_q (enc := encStored) (l := x_0) rfl ?_
  conv => whnf
  refine ⟨fun hb_3 => ?_, fun hb_3 => ?_⟩
  · replace hF := cond_t hb_3 hF
    conv => whnf
    obtain rfl := Option.some.inj hF
    exact ret_gz [] [] [] rfl (argE (by (conv => lhs; whnf); all_goals rfl) rfl) trivial
  · replace hF := cond_f hb_3 hF
    conv => whnf
    refine len_q (enc := encStored) (l := x_0) rfl ?_
    conv => whnf
    refine ⟨_, rfl, ?_⟩
    conv => whnf
    obtain ⟨e_1, h_e_1, hF⟩ := bind_some hF
    refine ix_q (enc := encStored) (l := x_0) h_e_1 rfl (fun m_e_1 hm_e_1 hx_e_1 => ?_)
    conv => whnf
    refine ⟨fun hb_4 => ?_, fun hb_4 => ?_⟩
    · replace hF := cond_t hb_4 hF
      conv => whnf
      obtain rfl := Option.some.inj hF
      exact ret_gz [] [] [] rfl (argE (by (conv => lhs; whnf); all_goals rfl) rfl) trivial
    · replace hF := cond_f hb_4 hF
      conv => whnf
      obtain rfl := Option.some.inj hF
      exact ret_gz [] [] [] rfl (argE (by (conv => lhs; whnf); all_goals rfl) rfl) trivial

set_option maxRecDepth 100000 in
set_option maxHeartbeats 40000000 in
theorem ref17_better_ac (x_0 : (List Stored)) (x_1 : (List Stored)) (x_2 : Int) (r : Bool) (hF : ref17_better x_0 x_1 x_2 = some r) : AC Try.prog 49 [.lst 2 (x_0.map encStored), .lst 2 (x_1.map encStored), .int .i64 x_2] [] (.bool r) [] := by
  refine ac_of tab_ok follows_ok Try.func49 rfl Try.ntmps49 rfl ?_
  unfold ref17_better at hF
  conv => whnf
  obtain ⟨r_1, h_r_1, hF⟩ := bind_some hF
  refine ⟨_, _, _, _, _, _, _, _, _, callX false [] [] 0 Try.func57 (by decide) rfl (ref17_rank_ac x_0 x_2 r_1 h_r_1) rfl ⟨(argE (by (conv => lhs; whnf); all_goals rfl) rfl), (argE (by (conv => lhs; whnf); all_goals rfl) rfl), trivial⟩ rfl trivial rfl rfl rfl lend0 trivial rfl, ?_⟩
  conv => whnf
  obtain ⟨r_2, h_r_2, hF⟩ := bind_some hF
  refine ⟨_, _, _, _, _, _, _, _, _, callX false [] [] 0 Try.func57 (by decide) rfl (ref17_rank_ac x_1 x_2 r_2 h_r_2) rfl ⟨(argE (by (conv => lhs; whnf); all_goals rfl) rfl), (argE (by (conv => lhs; whnf); all_goals rfl) rfl), trivial⟩ rfl trivial rfl rfl rfl lend0 trivial rfl, ?_⟩
  conv => whnf
  refine ⟨fun hb_4 => ?_, fun hb_4 => ?_⟩
  · replace hF := cond_f hb_4 hF
    conv => whnf
    refine ⟨fun hb_5 => ?_, fun hb_5 => ?_⟩
    · replace hF := cond_t hb_5 hF
      conv => whnf
      obtain rfl := Option.some.inj hF
      exact ret_gz [] [] [] rfl (argE (by (conv => lhs; whnf); all_goals rfl) rfl) trivial
    · replace hF := cond_f hb_5 hF
      conv => whnf
      refine ⟨fun hb_6 => ?_, fun hb_6 => ?_⟩
      · replace hF := cond_t hb_6 hF
        conv => whnf
        refine len_q (enc := encStored) (l := x_0) rfl ?_
        conv => whnf
        refine ⟨_, rfl, ?_⟩
        conv => whnf
        obtain ⟨e_3, h_e_3, hF⟩ := bind_some hF
        refine ix_q (enc := encStored) (l := x_0) h_e_3 rfl (fun m_e_3 hm_e_3 hx_e_3 => ?_)
        conv => whnf
        refine len_q (enc := encStored) (l := x_1) rfl ?_
        conv => whnf
        refine ⟨_, rfl, ?_⟩
        conv => whnf
        obtain ⟨e_4, h_e_4, hF⟩ := bind_some hF
        refine ix_q (enc := encStored) (l := x_1) h_e_4 rfl (fun m_e_4 hm_e_4 hx_e_4 => ?_)
        conv => whnf
        refine ⟨by kernel_rfl, ?_⟩
        conv => whnf
        obtain rfl := Option.some.inj hF
        exact ret_gz [] [] [] rfl (argE (by (conv => lhs; whnf); all_goals rfl) rfl) trivial
      · replace hF := cond_f hb_6 hF
        conv => whnf
        refine len_q (enc := encStored) (l := x_0) rfl ?_
        conv => whnf
        refine ⟨_, rfl, ?_⟩
        conv => whnf
        obtain ⟨e_5, h_e_5, hF⟩ := bind_some hF
        refine ix_q (enc := encStored) (l := x_0) h_e_5 rfl (fun m_e_5 hm_e_5 hx_e_5 => ?_)
        conv => whnf
        refine len_q (enc := encStored) (l := x_1) rfl ?_
        conv => whnf
        refine ⟨_, rfl, ?_⟩
        conv => whnf
        obtain ⟨e_6, h_e_6, hF⟩ := bind_some hF
        refine ix_q (enc := encStored) (l := x_1) h_e_6 rfl (fun m_e_6 hm_e_6 hx_e_6 => ?_)
        conv => whnf
        refine ⟨by kernel_rfl, ?_⟩
        conv => whnf
        obtain rfl := Option.some.inj hF
        exact ret_gz [] [] [] rfl (argE (by (conv => lhs; whnf); all_goals rfl) rfl) trivial
  · replace hF := cond_t hb_4 hF
    conv => whnf
    obtain rfl := Option.some.inj hF
    exact ret_gz [] [] [] rfl (argE (by (conv => lhs; whnf); all_goals rfl) rfl) trivial

set_option maxRecDepth 100000 in
set_option maxHeartbeats 40000000 in
theorem ref17_Put_ac (x_0 : Lanes) (x_1 : Stored) (r : Lanes × Int × Int) (hF : ref17_Put x_0 x_1 = some r) : AC Try.prog 31 [.agg (encLanes x_0), .agg (encStored x_1)] [] (.tup [.agg (encLanes r.1), .int .i64 r.2.1, .int .i64 r.2.2]) [] := by
  refine ac_of tab_ok follows_ok Try.func31 rfl Try.ntmps31 rfl ?_
  unfold ref17_Put at hF
  conv => whnf
  refine ⟨fun hb_19 => ?_, fun hb_19 => ?_⟩
  · replace hF := cond_f hb_19 hF
    conv => whnf
    refine ⟨fun hb_20 => ?_, fun hb_20 => ?_⟩
    · replace hF := cond_f hb_20 hF
      conv => whnf
      refine ⟨fun hb_21 => ?_, fun hb_21 => ?_⟩
      · replace hF := cond_f hb_21 hF
        conv => whnf
        refine ⟨fun hb_22 => ?_, fun hb_22 => ?_⟩
        · replace hF := cond_t hb_22 hF
          conv => whnf
          obtain rfl := Option.some.inj hF
          exact ret_gz [] [] [] rfl (tupL rfl ⟨(argA (c := [.int .i64 (0 : Int), .nils]) (by (conv => lhs; whnf); all_goals rfl) rfl ⟨(.ni _ rfl), (.nils _), trivial⟩), (argE (by (conv => lhs; whnf); all_goals rfl) rfl), (argE (by (conv => lhs; whnf); all_goals rfl) rfl), trivial⟩) trivial
        · replace hF := cond_f hb_22 hF
          conv => whnf
          obtain ⟨r_1, h_r_1, hF⟩ := bind_some hF
          refine ⟨_, _, _, _, _, _, _, _, _, callX false [] [] 0 Try.func46 (by decide) rfl (ref17_find_ac x_0 x_1.Bag r_1 h_r_1) rfl ⟨(argE (by (conv => lhs; whnf); all_goals rfl) rfl), (argE (by (conv => lhs; whnf); all_goals rfl) rfl), trivial⟩ rfl trivial rfl rfl rfl lend0 trivial rfl, ?_⟩
          conv => whnf
          refine ⟨fun hb_23 => ?_, fun hb_23 => ?_⟩
          · replace hF := cond_t hb_23 hF
            conv => whnf
            obtain rfl := Option.some.inj hF
            exact ret_gz [] [] [] rfl (tupL rfl ⟨(argA (c := [.int .i64 (0 : Int), .nils]) (by (conv => lhs; whnf); all_goals rfl) rfl ⟨(.ni _ rfl), (.nils _), trivial⟩), (argE (by (conv => lhs; whnf); all_goals rfl) rfl), (argE (by (conv => lhs; whnf); all_goals rfl) rfl), trivial⟩) trivial
          · replace hF := cond_f hb_23 hF
            conv => whnf
            obtain ⟨c_1, hc_1, hF⟩ := fin_some hF
            refine sw_bv 0 (v := .agg [.int .i64 x_0.Depth, .lst 1 (x_0.L.map (lA 2 encStored))]) (by (conv => lhs; whnf); all_goals rfl) (fun hb => ?_)
            have hbd_k_4 : x_0.L.length ≤ 9223372036854775807 := bnd_len (enc := (lA 2 encStored)) ((bnd_at hb.cell 1 rfl))
            refine sw_loop tab_ok follows_ok (fun y : Nat × Int => y.1 ≤ x_0.L.length ∧ ref17_Put_L1 x_0 x_1 (x_0.L.drop y.1) y.1 y.2 = some c_1) (fun y => ⟨eL [(2, .ptr 0 0), (3, .ptr 1 0), (4, .ptr 2 0), (9, .int .i64 y.2), (10, .int .i64 (y.1 : Int))], hL [(0, .box [.int .i64 x_0.Depth, .lst 1 (x_0.L.map (lA 2 encStored))]), (1, .box [.int .i64 x_1.Bag, .int .i64 x_1.Due]), (2, .box [.int .i64 (0 : Int), .nils])], 3⟩) (fun y => x_0.L.length - y.1) (0, (-1 : Int)) ⟨Nat.zero_le _, hc_1⟩ (wk_mk [0, 1, 2] [] [] rfl ⟨argP (id := 0) (by (conv => lhs; whnf); all_goals rfl) rfl, argP (id := 1) (by (conv => lhs; whnf); all_goals rfl) rfl, argP (id := 2) (by (conv => lhs; whnf); all_goals rfl) rfl, argE (by (conv => lhs; whnf); all_goals rfl) rfl, argE (by (conv => lhs; whnf); all_goals rfl) rfl, trivial⟩ ⟨boxL rfl rfl rfl ⟨(.ni _ rfl), (.ni _ rfl), trivial⟩, boxL rfl rfl rfl ⟨(.ni _ rfl), (.ni _ rfl), trivial⟩, boxL rfl rfl rfl ⟨(.ni _ rfl), (.ni _ rfl), trivial⟩, trivial⟩) ?_
            rintro ⟨k_4, i_2⟩ ⟨hk_k_4, hL1⟩
            try dsimp only at hk_k_4 hL1
            show awp _ _ _ _ _ _ ⟨eL [(2, .ptr 0 0), (3, .ptr 1 0), (4, .ptr 2 0), (9, .int .i64 i_2), (10, .int .i64 (k_4 : Int))], hL [(0, .box [.int .i64 x_0.Depth, .lst 1 (x_0.L.map (lA 2 encStored))]), (1, .box [.int .i64 x_1.Bag, .int .i64 x_1.Due]), (2, .box [.int .i64 (0 : Int), .nils])], 3⟩
            conv => whnf
            refine len_q (enc := (lA 2 encStored)) (l := x_0.L) rfl ?_
            conv => whnf
            refine ⟨fun h => ?_, fun h => ?_⟩
            · have hlt_k_4 : k_4 < x_0.L.length := by have h := of_decide_eq_true h; omega
              obtain ⟨e_5, h_e_5⟩ : ∃ y, x_0.L[k_4]? = some y := ⟨_, List.getElem?_eq_getElem hlt_k_4⟩
              rw [drop_cons h_e_5, ref17_Put_L1.eq_2] at hL1
              conv => whnf
              refine ⟨k_4, _, rfl, ix_map h_e_5, ?_⟩
              conv => whnf
              refine len_q (enc := encStored) (l := e_5) rfl ?_
              conv => whnf
              refine ⟨fun hb_24 => ?_, fun hb_24 => ?_⟩
              · replace hL1 := cond_t hb_24 hL1
                conv => whnf
                refine ⟨fun hb_25 => ?_, fun hb_25 => ?_⟩
                · replace hL1 := cond_f hb_25 hL1
                  conv => whnf
                  refine ⟨k_4, _, rfl, ix_map h_e_5, ?_⟩
                  conv => whnf
                  obtain ⟨e_6, h_e_6, hL1⟩ := bind_some hL1
                  refine ix_q (enc := (lA 2 encStored)) (l := x_0.L) h_e_6 rfl (fun m_e_6 hm_e_6 hx_e_6 => ?_)
                  conv => whnf
                  obtain ⟨r_7, h_r_7, hL1⟩ := bind_some hL1
                  refine ⟨_, _, _, _, _, _, _, _, _, callX false [] [] 0 Try.func49 (by decide) rfl (ref17_better_ac e_5 e_6 x_1.Due r_7 h_r_7) rfl ⟨(argE (by (conv => lhs; whnf); all_goals rfl) rfl), (argE (by (conv => lhs; whnf); all_goals rfl) rfl), (argE (by (conv => lhs; whnf); all_goals rfl) rfl), trivial⟩ rfl trivial rfl rfl rfl lend0 trivial rfl, ?_⟩
                  conv => whnf
                  refine ⟨by kernel_rfl, ?_⟩
                  conv => whnf
                  refine ⟨fun hb_26 => ?_, fun hb_26 => ?_⟩
                  · replace hL1 := cond_t hb_26 hL1
                    conv => whnf
                    refine ⟨((k_4 + 1 : Nat) : Int), wrapE (by omega) (by omega) (by omega), ?_⟩
                    conv => whnf
                    exact ⟨(k_4 + 1, (k_4 : Int)), [0, 1, 2], [], [], ⟨hlt_k_4, hL1⟩, by show x_0.L.length - (k_4 + 1) < x_0.L.length - k_4; omega, wk_mk [0, 1, 2] [] [] rfl ⟨argP (id := 0) (by (conv => lhs; whnf); all_goals rfl) rfl, argP (id := 1) (by (conv => lhs; whnf); all_goals rfl) rfl, argP (id := 2) (by (conv => lhs; whnf); all_goals rfl) rfl, argE (by (conv => lhs; whnf); all_goals rfl) rfl, argE (by (conv => lhs; whnf); all_goals rfl) rfl, trivial⟩ ⟨boxL rfl rfl rfl ⟨(.ni _ rfl), (.ni _ rfl), trivial⟩, boxL rfl rfl rfl ⟨(.ni _ rfl), (.ni _ rfl), trivial⟩, boxL rfl rfl rfl ⟨(.ni _ rfl), (.ni _ rfl), trivial⟩, trivial⟩⟩
                  · replace hL1 := cond_f hb_26 hL1
                    conv => whnf
                    refine ⟨((k_4 + 1 : Nat) : Int), wrapE (by omega) (by omega) (by omega), ?_⟩
                    conv => whnf
                    exact ⟨(k_4 + 1, i_2), [0, 1, 2], [], [], ⟨hlt_k_4, hL1⟩, by show x_0.L.length - (k_4 + 1) < x_0.L.length - k_4; omega, wk_mk [0, 1, 2] [] [] rfl ⟨argP (id := 0) (by (conv => lhs; whnf); all_goals rfl) rfl, argP (id := 1) (by (conv => lhs; whnf); all_goals rfl) rfl, argP (id := 2) (by (conv => lhs; whnf); all_goals rfl) rfl, argE (by (conv => lhs; whnf); all_goals rfl) rfl, argE (by (conv => lhs; whnf); all_goals rfl) rfl, trivial⟩ ⟨boxL rfl rfl rfl ⟨(.ni _ rfl), (.ni _ rfl), trivial⟩, boxL rfl rfl rfl ⟨(.ni _ rfl), (.ni _ rfl), trivial⟩, boxL rfl rfl rfl ⟨(.ni _ rfl), (.ni _ rfl), trivial⟩, trivial⟩⟩
                · replace hL1 := cond_t hb_25 hL1
                  conv => whnf
                  refine ⟨by kernel_rfl, ?_⟩
                  conv => whnf
                  refine ⟨((k_4 + 1 : Nat) : Int), wrapE (by omega) (by omega) (by omega), ?_⟩
                  conv => whnf
                  exact ⟨(k_4 + 1, (k_4 : Int)), [0, 1, 2], [], [], ⟨hlt_k_4, hL1⟩, by show x_0.L.length - (k_4 + 1) < x_0.L.length - k_4; omega, wk_mk [0, 1, 2] [] [] rfl ⟨argP (id := 0) (by (conv => lhs; whnf); all_goals rfl) rfl, argP (id := 1) (by (conv => lhs; whnf); all_goals rfl) rfl, argP (id := 2) (by (conv => lhs; whnf); all_goals rfl) rfl, argE (by (conv => lhs; whnf); all_goals rfl) rfl, argE (by (conv => lhs; whnf); all_goals rfl) rfl, trivial⟩ ⟨boxL rfl rfl rfl ⟨(.ni _ rfl), (.ni _ rfl), trivial⟩, boxL rfl rfl rfl ⟨(.ni _ rfl), (.ni _ rfl), trivial⟩, boxL rfl rfl rfl ⟨(.ni _ rfl), (.ni _ rfl), trivial⟩, trivial⟩⟩
              · replace hL1 := cond_f hb_24 hL1
                conv => whnf
                refine ⟨by kernel_rfl, ?_⟩
                conv => whnf
                refine ⟨((k_4 + 1 : Nat) : Int), wrapE (by omega) (by omega) (by omega), ?_⟩
                conv => whnf
                exact ⟨(k_4 + 1, i_2), [0, 1, 2], [], [], ⟨hlt_k_4, hL1⟩, by show x_0.L.length - (k_4 + 1) < x_0.L.length - k_4; omega, wk_mk [0, 1, 2] [] [] rfl ⟨argP (id := 0) (by (conv => lhs; whnf); all_goals rfl) rfl, argP (id := 1) (by (conv => lhs; whnf); all_goals rfl) rfl, argP (id := 2) (by (conv => lhs; whnf); all_goals rfl) rfl, argE (by (conv => lhs; whnf); all_goals rfl) rfl, argE (by (conv => lhs; whnf); all_goals rfl) rfl, trivial⟩ ⟨boxL rfl rfl rfl ⟨(.ni _ rfl), (.ni _ rfl), trivial⟩, boxL rfl rfl rfl ⟨(.ni _ rfl), (.ni _ rfl), trivial⟩, boxL rfl rfl rfl ⟨(.ni _ rfl), (.ni _ rfl), trivial⟩, trivial⟩⟩
            · rw [drop_nil (show x_0.L.length ≤ k_4 by have h := of_decide_eq_false h; omega), ref17_Put_L1.eq_1] at hL1
              conv => whnf
              obtain rfl := Option.some.inj hL1
              replace hF := fin_brk hF
              try dsimp only at hF
              refine ⟨fun hb_27 => ?_, fun hb_27 => ?_⟩
              · replace hF := cond_t hb_27 hF
                conv => whnf
                obtain rfl := Option.some.inj hF
                exact ret_gz [] [] [] rfl (tupL rfl ⟨(argA (c := [.int .i64 (0 : Int), .nils]) (by (conv => lhs; whnf); all_goals rfl) rfl ⟨(.ni _ rfl), (.nils _), trivial⟩), (argE (by (conv => lhs; whnf); all_goals rfl) rfl), (argE (by (conv => lhs; whnf); all_goals rfl) rfl), trivial⟩) trivial
              · replace hF := cond_f hb_27 hF
                conv => whnf
                obtain ⟨e_10, h_e_10, hF⟩ := bind_some hF
                refine ix_q (enc := (lA 2 encStored)) (l := x_0.L) h_e_10 rfl (fun m_e_10 hm_e_10 hx_e_10 => ?_)
                conv => whnf
                obtain ⟨l_11, h_l_11, hF⟩ := bind_some hF
                refine ap_q (enc := encStored) (l := ([] : List Stored)) (y := e_10) h_l_11 rfl rfl (by decide) ?_
                conv => whnf
                obtain ⟨l_12, h_l_12, hF⟩ := bind_some hF
                refine ap_q (enc := encStored) (l := l_11) (y := ([x_1] : List Stored)) h_l_12 rfl rfl (by decide) ?_
                conv => whnf
                obtain ⟨r_13, h_r_13, hF⟩ := bind_some hF
                refine ⟨_, _, _, _, _, _, _, _, _, callX true [] [5] 0 Try.func47 (by decide) rfl (ref17_with_ac x_0 i_2 l_12 r_13 h_r_13) rfl ⟨(argE (by (conv => lhs; whnf); all_goals rfl) rfl), (argE (by (conv => lhs; whnf); all_goals rfl) rfl), (argOL 5 (by (conv => lhs; whnf); all_goals rfl) rfl rfl (map_ni (fun _ => ⟨rfl, rfl⟩) _)), trivial⟩ rfl trivial rfl rfl rfl giveU trivial rfl, ?_⟩
                conv => whnf
                refine ⟨by kernel_rfl, ?_⟩
                conv => whnf
                obtain rfl := Option.some.inj hF
                exact ret_gz [] [] [] rfl (tupL rfl ⟨(argE (by (conv => lhs; whnf); all_goals rfl) rfl), (argE (by (conv => lhs; whnf); all_goals rfl) rfl), (argE (by (conv => lhs; whnf); all_goals rfl) rfl), trivial⟩) trivial
      · replace hF := cond_t hb_21 hF
        conv => whnf
        obtain rfl := Option.some.inj hF
        exact ret_gz [] [] [] rfl (tupL rfl ⟨(argA (c := [.int .i64 (0 : Int), .nils]) (by (conv => lhs; whnf); all_goals rfl) rfl ⟨(.ni _ rfl), (.nils _), trivial⟩), (argE (by (conv => lhs; whnf); all_goals rfl) rfl), (argE (by (conv => lhs; whnf); all_goals rfl) rfl), trivial⟩) trivial
    · replace hF := cond_t hb_20 hF
      conv => whnf
      obtain rfl := Option.some.inj hF
      exact ret_gz [] [] [] rfl (tupL rfl ⟨(argA (c := [.int .i64 (0 : Int), .nils]) (by (conv => lhs; whnf); all_goals rfl) rfl ⟨(.ni _ rfl), (.nils _), trivial⟩), (argE (by (conv => lhs; whnf); all_goals rfl) rfl), (argE (by (conv => lhs; whnf); all_goals rfl) rfl), trivial⟩) trivial
  · replace hF := cond_t hb_19 hF
    conv => whnf
    obtain rfl := Option.some.inj hF
    exact ret_gz [] [] [] rfl (tupL rfl ⟨(argA (c := [.int .i64 (0 : Int), .nils]) (by (conv => lhs; whnf); all_goals rfl) rfl ⟨(.ni _ rfl), (.nils _), trivial⟩), (argE (by (conv => lhs; whnf); all_goals rfl) rfl), (argE (by (conv => lhs; whnf); all_goals rfl) rfl), trivial⟩) trivial

set_option maxRecDepth 100000 in
set_option maxHeartbeats 40000000 in
theorem keep_Src_More_ac (x_0 : Src) (r : Bool) (hF : keep_Src_More x_0 = some r) : AC Try.prog 27 [.iptr [.lst 1 (x_0.L.map iA), .int .i64 x_0.At]] [] (.bool r) [] := by
  refine ac_of tab_ok follows_ok Try.func27 rfl Try.ntmps27 rfl ?_
  unfold keep_Src_More at hF
  conv => whnf
  refine len_q (enc := iA) (l := x_0.L) rfl ?_
  conv => whnf
  refine ⟨by kernel_rfl, ?_⟩
  conv => whnf
  obtain rfl := Option.some.inj hF
  exact ret_gz [] [] [] rfl (argE (by (conv => lhs; whnf); all_goals rfl) rfl) trivial

set_option maxRecDepth 100000 in
set_option maxHeartbeats 40000000 in
theorem lanes_checked_ac (x_0 : (List Int)) (r : Int) (hF : lanes_checked x_0 = some r) : AC Try.prog 34 [.lst 1 (x_0.map iA)] [] (.int .i64 r) [] := by
  refine ac_of tab_ok follows_ok Try.func34 rfl Try.ntmps34 rfl ?_
  unfold lanes_checked at hF
  conv => whnf
  refine len_q (enc := iA) (l := x_0) rfl ?_
  conv => whnf
  refine ⟨fun hb_12 => ?_, fun hb_12 => ?_⟩
  · replace hF := cond_t hb_12 hF
    conv => whnf
    obtain rfl := Option.some.inj hF
    exact ret_gz [] [] [] rfl (argE (by (conv => lhs; whnf); all_goals rfl) rfl) trivial
  · replace hF := cond_f hb_12 hF
    conv => whnf
    refine len_q (enc := iA) (l := x_0) rfl ?_
    conv => whnf
    obtain ⟨c_1, hc_1, hF⟩ := fin_some hF
    refine sw_bv 0 (v := .lst 1 (x_0.map iA)) (by (conv => lhs; whnf); all_goals rfl) (fun hb => ?_)
    have hbd_k_2 : x_0.length ≤ 9223372036854775807 := bnd_len (enc := iA) (hb)
    refine sw_loop tab_ok follows_ok (fun y : Nat => y ≤ x_0.length ∧ lanes_checked_L1 (x_0.drop y) y = some c_1) (fun y => ⟨eL [(8, .lst 1 (x_0.map iA)), (9, .int .i64 (x_0.length : Int)), (10, .int .i64 (y : Int))], hL [], 0⟩) (fun y => x_0.length - y) 0 ⟨Nat.zero_le _, hc_1⟩ (wk_mk [] [] [] rfl ⟨argE (by (conv => lhs; whnf); all_goals rfl) rfl, argE (by (conv => lhs; whnf); all_goals rfl) rfl, argE (by (conv => lhs; whnf); all_goals rfl) rfl, trivial⟩ trivial) ?_
    rintro k_2 ⟨hk_k_2, hL1⟩
    try dsimp only at hk_k_2 hL1
    show awp _ _ _ _ _ _ ⟨eL [(8, .lst 1 (x_0.map iA)), (9, .int .i64 (x_0.length : Int)), (10, .int .i64 (k_2 : Int))], hL [], 0⟩
    conv => whnf
    refine ⟨fun h => ?_, fun h => ?_⟩
    · have hlt_k_2 : k_2 < x_0.length := by have h := of_decide_eq_true h; omega
      obtain ⟨e_3, h_e_3⟩ : ∃ y, x_0[k_2]? = some y := ⟨_, List.getElem?_eq_getElem hlt_k_2⟩
      rw [drop_cons h_e_3, lanes_checked_L1.eq_2] at hL1
      conv => whnf
      refine ⟨k_2, _, rfl, ix_map h_e_3, ?_⟩
      conv => whnf
      refine ⟨fun hb_13 => ?_, fun hb_13 => ?_⟩
      · replace hL1 := cond_f hb_13 hL1
        conv => whnf
        refine ⟨fun hb_14 => ?_, fun hb_14 => ?_⟩
        · replace hL1 := cond_t hb_14 hL1
          conv => whnf
          obtain rfl := Option.some.inj hL1
          replace hF := fin_ret hF
          obtain rfl := Option.some.inj hF
          exact ret_gz [] [] [] rfl (argE (by (conv => lhs; whnf); all_goals rfl) rfl) trivial
        · replace hL1 := cond_f hb_14 hL1
          conv => whnf
          refine ⟨((k_2 + 1 : Nat) : Int), wrapE (by omega) (by omega) (by omega), ?_⟩
          conv => whnf
          exact ⟨k_2 + 1, [], [], [], ⟨hlt_k_2, hL1⟩, by show x_0.length - (k_2 + 1) < x_0.length - k_2; omega, wk_mk [] [] [] rfl ⟨argE (by (conv => lhs; whnf); all_goals rfl) rfl, argE (by (conv => lhs; whnf); all_goals rfl) rfl, argE (by (conv => lhs; whnf); all_goals rfl) rfl, trivial⟩ trivial⟩
      · replace hL1 := cond_t hb_13 hL1
        conv => whnf
        obtain rfl := Option.some.inj hL1
        replace hF := fin_ret hF
        obtain rfl := Option.some.inj hF
        exact ret_gz [] [] [] rfl (argE (by (conv => lhs; whnf); all_goals rfl) rfl) trivial
    · rw [drop_nil (show x_0.length ≤ k_2 by have h := of_decide_eq_false h; omega), lanes_checked_L1.eq_1] at hL1
      conv => whnf
      obtain rfl := Option.some.inj hL1
      replace hF := fin_brk hF
      try dsimp only at hF
      obtain rfl := Option.some.inj hF
      exact ret_gz [] [] [] rfl (argE (by (conv => lhs; whnf); all_goals rfl) rfl) trivial

set_option maxRecDepth 100000 in
set_option maxHeartbeats 40000000 in
theorem lanes_assigned_f1_ac (x_0 : Int) (x_1 : (List Int)) (x_2 : (List Int)) (x_3 : Int) (x_4 : Int) (r : (List Int) × (List Int) × Int × Int) (hF : lanes_assigned_f1 x_0 x_1 x_2 x_3 x_4 = some r) : AC Try.prog 50 [.int .i64 x_0, .ptr 0 0, .ptr 1 0, .ptr 3 0, .ptr 4 0] [.box ([.lst 1 (x_1.map iA)]), .box [.osl 2], .row 1 (x_2.map iA), .box ([.int .i64 x_3]), .box ([.int .i64 x_4])] (.tup []) [.box ([.lst 1 (r.1.map iA)]), .box [.osl 5], .dead, .box ([.int .i64 r.2.2.1]), .box ([.int .i64 r.2.2.2]), .row 1 (r.2.1.map iA)] := by
  refine ac_of tab_ok follows_ok Try.func50 rfl Try.ntmps50 rfl ?_
  unfold lanes_assigned_f1 at hF
  conv => whnf
  obtain ⟨e_1, h_e_1, hF⟩ := bind_some hF
  refine ixo_q (enc := iA) (l := x_2) h_e_1 rfl (fun m_e_1 hm_e_1 hx_e_1 => ?_)
  conv => whnf
  refine ⟨_, ix_map (enc := iA) hx_e_1, ?_⟩
  conv => whnf
  obtain ⟨e_2, h_e_2, hF⟩ := bind_some hF
  refine ix_q (enc := iA) (l := x_1) h_e_2 rfl (fun m_e_2 hm_e_2 hx_e_2 => ?_)
  conv => whnf
  refine ⟨fun hb_4 => ?_, fun hb_4 => ?_⟩
  · replace hF := cond_t hb_4 hF
    conv => whnf
    refine ⟨fun hb_5 => ?_, fun hb_5 => ?_⟩
    · replace hF := cond_f hb_5 hF
      conv => whnf
      obtain ⟨e_3, h_e_3, hF⟩ := bind_some hF
      refine ixo_q (enc := iA) (l := x_2) h_e_3 rfl (fun m_e_3 hm_e_3 hx_e_3 => ?_)
      conv => whnf
      refine ⟨_, ix_map (enc := iA) hx_e_3, ?_⟩
      conv => whnf
      obtain ⟨e_4, h_e_4, hF⟩ := bind_some hF
      refine ix_q (enc := iA) (l := x_1) h_e_4 rfl (fun m_e_4 hm_e_4 hx_e_4 => ?_)
      conv => whnf
      obtain ⟨e_5, h_e_5, hF⟩ := bind_some hF
      refine ixo_q (enc := iA) (l := x_2) h_e_5 rfl (fun m_e_5 hm_e_5 hx_e_5 => ?_)
      conv => whnf
      refine ⟨_, ix_map (enc := iA) hx_e_5, ?_⟩
      conv => whnf
      obtain ⟨e_6, h_e_6, hF⟩ := bind_some hF
      refine ix_q (enc := iA) (l := x_1) h_e_6 rfl (fun m_e_6 hm_e_6 hx_e_6 => ?_)
      conv => whnf
      refine ⟨by kernel_rfl, ?_⟩
      conv => whnf
      refine ⟨fun hb_6 => ?_, fun hb_6 => ?_⟩
      · replace hF := cond_t hb_6 hF
        conv => whnf
        obtain rfl := Option.some.inj hF
        exact ret_gz [0, 1, 2, 3, 4, 2] [] [] rfl (.ni _ rfl) ⟨boxL rfl rfl rfl ⟨(.ni _ rfl), trivial⟩, boxL rfl rfl rfl ⟨(.oslg 2 5 rfl), trivial⟩, trivial, boxL rfl rfl rfl ⟨(.ni _ rfl), trivial⟩, boxL rfl rfl rfl ⟨(.ni _ rfl), trivial⟩, blkR (fun _ => ⟨rfl, rfl⟩) rfl rfl, trivial⟩
      · replace hF := cond_f hb_6 hF
        conv => whnf
        obtain rfl := Option.some.inj hF
        exact ret_gz [0, 1, 2, 3, 4, 2] [] [] rfl (.ni _ rfl) ⟨boxL rfl rfl rfl ⟨(.ni _ rfl), trivial⟩, boxL rfl rfl rfl ⟨(.oslg 2 5 rfl), trivial⟩, trivial, boxL rfl rfl rfl ⟨(.ni _ rfl), trivial⟩, boxL rfl rfl rfl ⟨(.ni _ rfl), trivial⟩, blkR (fun _ => ⟨rfl, rfl⟩) rfl rfl, trivial⟩
    · replace hF := cond_t hb_5 hF
      conv => whnf
      refine ⟨by kernel_rfl, ?_⟩
      conv => whnf
      obtain rfl := Option.some.inj hF
      exact ret_gz [0, 1, 2, 3, 4, 2] [] [] rfl (.ni _ rfl) ⟨boxL rfl rfl rfl ⟨(.ni _ rfl), trivial⟩, boxL rfl rfl rfl ⟨(.oslg 2 5 rfl), trivial⟩, trivial, boxL rfl rfl rfl ⟨(.ni _ rfl), trivial⟩, boxL rfl rfl rfl ⟨(.ni _ rfl), trivial⟩, blkR (fun _ => ⟨rfl, rfl⟩) rfl rfl, trivial⟩
  · replace hF := cond_f hb_4 hF
    conv => whnf
    refine ⟨by kernel_rfl, ?_⟩
    conv => whnf
    obtain rfl := Option.some.inj hF
    exact ret_gz [0, 1, 2, 3, 4, 2] [] [] rfl (.ni _ rfl) ⟨boxL rfl rfl rfl ⟨(.ni _ rfl), trivial⟩, boxL rfl rfl rfl ⟨(.oslg 2 5 rfl), trivial⟩, trivial, boxL rfl rfl rfl ⟨(.ni _ rfl), trivial⟩, boxL rfl rfl rfl ⟨(.ni _ rfl), trivial⟩, blkR (fun _ => ⟨rfl, rfl⟩) rfl rfl, trivial⟩
end Go.Proofs.Ytkefkegknacpjaa.Ex
