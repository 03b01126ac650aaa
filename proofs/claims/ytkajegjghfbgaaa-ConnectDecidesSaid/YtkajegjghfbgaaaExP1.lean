/- The functions of the program compute what was printed; walks printed by a program. -/
import Derived.Test.YtkajegjghfbgaaaExF
namespace Go.Proofs.Ytkajegjghfbgaaa.Ex
open Go.RowKit Go.Proofs.Ytkajegjghfbgaaa.Ax
set_option linter.unusedVariables false
set_option linter.unusedSimpArgs false
set_option maxRecDepth 100000 in
set_option maxHeartbeats 40000000 in
theorem keep_New_ac (x_0 : (List Int)) (r : Src) (hF : keep_New x_0 = some r) : AC Try.prog 11 [.lst 1 (x_0.map iA)] [] (.ptr 0 0) [.box (encSrc r)] := by
  refine ac_of tab_ok follows_ok Try.func11 rfl Try.ntmps11 rfl ?_
  unfold keep_New at hF
  conv => whnf
  refine len_q (enc := iA) (l := x_0) rfl ?_
  conv => whnf
  refine ⟨fun hb_2 => ?_, fun hb_2 => ?_⟩
  · replace hF := cond_t hb_2 hF
    conv => whnf
    obtain ⟨l_1, h_l_1, hF⟩ := bind_some hF
    refine sl_q0 (enc := iA) (l := x_0) h_l_1 rfl ?_
    conv => whnf
    obtain rfl := Option.some.inj hF
    exact ret_gz [0] [] [] rfl (argP (id := 0) (by (conv => lhs; whnf); all_goals rfl) rfl) ⟨boxL rfl rfl rfl ⟨(.ni _ rfl), (.ni _ rfl), trivial⟩, trivial⟩
  · replace hF := cond_f hb_2 hF
    conv => whnf
    obtain rfl := Option.some.inj hF
    exact ret_gz [0] [] [] rfl (argP (id := 0) (by (conv => lhs; whnf); all_goals rfl) rfl) ⟨boxL rfl rfl rfl ⟨(.ni _ rfl), (.ni _ rfl), trivial⟩, trivial⟩

set_option maxRecDepth 100000 in
set_option maxHeartbeats 40000000 in
theorem keep_Src_Raw_ac (x_0 : Src) (r : Int × Src) (hF : keep_Src_Raw x_0 = some r) : AC Try.prog 31 [.ptr 0 0] [.box (encSrc x_0)] (.int .i64 r.1) [.box (encSrc r.2)] := by
  refine ac_of tab_ok follows_ok Try.func31 rfl Try.ntmps31 rfl ?_
  unfold keep_Src_Raw at hF
  conv => whnf
  refine len_q (enc := iA) (l := x_0.L) rfl ?_
  conv => whnf
  refine ⟨by kernel_rfl, ?_⟩
  conv => whnf
  refine ⟨fun hb_2 => ?_, fun hb_2 => ?_⟩
  · replace hF := cond_t hb_2 hF
    conv => whnf
    obtain rfl := Option.some.inj hF
    exact ret_gz [0] [] [] rfl (argE (by (conv => lhs; whnf); all_goals rfl) rfl) ⟨boxL rfl rfl rfl ⟨(.ni _ rfl), (.ni _ rfl), trivial⟩, trivial⟩
  · replace hF := cond_f hb_2 hF
    conv => whnf
    refine ⟨_, rfl, ?_⟩
    conv => whnf
    refine ⟨_, rfl, ?_⟩
    conv => whnf
    obtain ⟨e_1, h_e_1, hF⟩ := bind_some hF
    refine ix_q (enc := iA) (l := x_0.L) h_e_1 rfl (fun m_e_1 hm_e_1 hx_e_1 => ?_)
    conv => whnf
    refine ⟨by kernel_rfl, ?_⟩
    conv => whnf
    obtain rfl := Option.some.inj hF
    exact ret_gz [0] [] [] rfl (argE (by (conv => lhs; whnf); all_goals rfl) rfl) ⟨boxL rfl rfl rfl ⟨(.ni _ rfl), (.ni _ rfl), trivial⟩, trivial⟩

set_option maxRecDepth 100000 in
set_option maxHeartbeats 40000000 in
theorem keep_Mod_ac (x_0 : Int) (x_1 : Int) (r : Int) (hF : keep_Mod x_0 x_1 = some r) : AC Try.prog 19 [.int .i64 x_0, .int .i64 x_1] [] (.int .i64 r) [] := by
  refine ac_of tab_ok follows_ok Try.func19 rfl Try.ntmps19 rfl ?_
  unfold keep_Mod at hF
  conv => whnf
  refine ⟨fun hb_3 => ?_, fun hb_3 => ?_⟩
  · replace hF := cond_t hb_3 hF
    conv => whnf
    obtain rfl := Option.some.inj hF
    exact ret_gz [] [] [] rfl (argE (by (conv => lhs; whnf); all_goals rfl) rfl) trivial
  · replace hF := cond_f hb_3 hF
    conv => whnf
    obtain ⟨u_1, h_u_1, hF⟩ := bind_some hF
    refine ⟨nz_some h_u_1, _, rfl, ?_⟩
    conv => whnf
    refine ⟨fun hb_4 => ?_, fun hb_4 => ?_⟩
    · replace hF := cond_t hb_4 hF
      conv => whnf
      refine ⟨_, rfl, ?_⟩
      conv => whnf
      obtain rfl := Option.some.inj hF
      exact ret_gz [] [] [] rfl (argE (by (conv => lhs; whnf); all_goals rfl) rfl) trivial
    · replace hF := cond_f hb_4 hF
      conv => whnf
      obtain rfl := Option.some.inj hF
      exact ret_gz [] [] [] rfl (argE (by (conv => lhs; whnf); all_goals rfl) rfl) trivial

set_option maxRecDepth 100000 in
set_option maxHeartbeats 40000000 in
theorem keep_Src_N_ac (x_0 : Src) (x_1 : Int) (r : Int × Src) (hF : keep_Src_N x_0 x_1 = some r) : AC Try.prog 22 [.ptr 0 0, .int .i64 x_1] [.box (encSrc x_0)] (.int .i64 r.1) [.box (encSrc r.2)] := by
  refine ac_of tab_ok follows_ok Try.func22 rfl Try.ntmps22 rfl ?_
  unfold keep_Src_N at hF
  conv => whnf
  obtain ⟨r_1, h_r_1, hF⟩ := bind_some hF
  refine ⟨_, _, _, _, _, _, _, _, _, callX false [0] [] 0 Try.func31 (by decide) rfl (keep_Src_Raw_ac x_0 r_1 h_r_1) rfl ⟨(argP (id := 0) (by (conv => lhs; whnf); all_goals rfl) rfl), trivial⟩ rfl ⟨rfl, trivial⟩ rfl rfl rfl lend0 ⟨rfl, trivial⟩ rfl, ?_⟩
  conv => whnf
  obtain ⟨r_2, h_r_2, hF⟩ := bind_some hF
  refine ⟨_, _, _, _, _, _, _, _, _, callX false [] [] 0 Try.func19 (by decide) rfl (keep_Mod_ac r_1.1 x_1 r_2 h_r_2) rfl ⟨(argE (by (conv => lhs; whnf); all_goals rfl) rfl), (argE (by (conv => lhs; whnf); all_goals rfl) rfl), trivial⟩ rfl trivial rfl rfl rfl lend0 trivial rfl, ?_⟩
  conv => whnf
  obtain rfl := Option.some.inj hF
  exact ret_gz [0] [] [] rfl (argE (by (conv => lhs; whnf); all_goals rfl) rfl) ⟨boxL rfl rfl rfl ⟨(.ni _ rfl), (.ni _ rfl), trivial⟩, trivial⟩

set_option maxRecDepth 100000 in
set_option maxHeartbeats 40000000 in
theorem keep_Src_Minimums_ac (x_0 : Src) (r : (List Minimum) × Src) (hF : keep_Src_Minimums x_0 = some r) : AC Try.prog 12 [.ptr 0 0] [.box (encSrc x_0)] (.lst 3 (r.1.map encMinimum)) [.box (encSrc r.2)] := by
  refine ac_of tab_ok follows_ok Try.func12 rfl Try.ntmps12 rfl ?_
  unfold keep_Src_Minimums at hF
  conv => whnf
  obtain ⟨c_1, hc_1, hF⟩ := fin_some hF
  refine sw_loop tab_ok follows_ok (fun y : Nat × (List Int) × Int × (List Minimum) × Int => keep_Src_Minimums_L1 y.1 y.2.1 y.2.2.1 y.2.2.2.1 y.2.2.2.2 = some c_1) (fun y => ⟨eL [(0, .ptr 0 0), (3, .osl 1), (4, .int .i64 y.2.2.2.2)], hL [(0, .box [.lst 1 (y.2.1.map iA), .int .i64 y.2.2.1]), (1, .row 3 (y.2.2.2.1.map encMinimum))], 2⟩) (fun y => y.1) (9223372036854775807, x_0.L, x_0.At, ([] : List Minimum), (0 : Int)) hc_1 (wk_mk [0] [1] [] rfl ⟨argP (id := 0) (by (conv => lhs; whnf); all_goals rfl) rfl, argZ (by (conv => lhs; whnf); all_goals rfl) rfl, argE (by (conv => lhs; whnf); all_goals rfl) rfl, trivial⟩ ⟨boxL rfl rfl rfl ⟨(.ni _ rfl), (.ni _ rfl), trivial⟩, blkZ rfl, trivial⟩) ?_
  rintro ⟨q_14, a_1, i_2, a_3, i_4⟩ hL1
  try dsimp only at hL1
  rcases q_14 with _ | q_14
  · rw [keep_Src_Minimums_L1.eq_1] at hL1
    cases hL1
  rw [keep_Src_Minimums_L1.eq_2] at hL1
  show awp _ _ _ _ _ _ ⟨eL [(0, .ptr 0 0), (3, .osl 1), (4, .int .i64 i_4)], hL [(0, .box [.lst 1 (a_1.map iA), .int .i64 i_2]), (1, .row 3 (a_3.map encMinimum))], 2⟩
  conv => whnf
  refine ⟨fun hb_29 => ?_, fun hb_29 => ?_⟩
  · replace hL1 := cond_t hb_29 hL1
    conv => whnf
    obtain ⟨c_2, hc_2, hL1⟩ := sub_some hL1
    refine sw_loop tab_ok follows_ok (fun y : Nat × (List Int) × Int × (List Minimum) × Int => keep_Src_Minimums_L2 i_4 y.1 y.2.1 y.2.2.1 y.2.2.2.1 y.2.2.2.2 = some c_2) (fun y => ⟨eL [(0, .ptr 0 0), (3, .osl 1), (4, .int .i64 i_4), (5, .int .i64 y.2.2.2.2)], hL [(0, .box [.lst 1 (y.2.1.map iA), .int .i64 y.2.2.1]), (1, .row 3 (y.2.2.2.1.map encMinimum))], 2⟩) (fun y => y.1) (9223372036854775807, a_1, i_2, a_3, (0 : Int)) hc_2 (wk_mk [0, 1] [] [] rfl ⟨argP (id := 0) (by (conv => lhs; whnf); all_goals rfl) rfl, argO (id := 1) (by (conv => lhs; whnf); all_goals rfl) rfl, argE (by (conv => lhs; whnf); all_goals rfl) rfl, argE (by (conv => lhs; whnf); all_goals rfl) rfl, trivial⟩ ⟨boxL rfl rfl rfl ⟨(.ni _ rfl), (.ni _ rfl), trivial⟩, blkR (fun _ => ⟨rfl, rfl⟩) rfl rfl, trivial⟩) ?_
    rintro ⟨q_12, a_5, i_6, a_7, i_8⟩ hL2
    try dsimp only at hL2
    rcases q_12 with _ | q_12
    · rw [keep_Src_Minimums_L2.eq_1] at hL2
      cases hL2
    rw [keep_Src_Minimums_L2.eq_2] at hL2
    show awp _ _ _ _ _ _ ⟨eL [(0, .ptr 0 0), (3, .osl 1), (4, .int .i64 i_4), (5, .int .i64 i_8)], hL [(0, .box [.lst 1 (a_5.map iA), .int .i64 i_6]), (1, .row 3 (a_7.map encMinimum))], 2⟩
    conv => whnf
    refine ⟨fun hb_30 => ?_, fun hb_30 => ?_⟩
    · replace hL2 := cond_t hb_30 hL2
      conv => whnf
      obtain ⟨r_9, h_r_9, hL2⟩ := bind_some hL2
      refine ⟨_, _, _, _, _, _, _, _, _, callX false [0] [] 0 Try.func22 (by decide) rfl (keep_Src_N_ac (⟨a_5, i_6⟩ : Src) (3 : Int) r_9 h_r_9) rfl ⟨(argP (id := 0) (by (conv => lhs; whnf); all_goals rfl) rfl), (argE (by (conv => lhs; whnf); all_goals rfl) rfl), trivial⟩ rfl ⟨rfl, trivial⟩ rfl rfl rfl lend0 ⟨rfl, trivial⟩ rfl, ?_⟩
      conv => whnf
      refine ⟨fun hb_31 => ?_, fun hb_31 => ?_⟩
      · replace hL2 := cond_t hb_31 hL2
        conv => whnf
        obtain ⟨r_10, h_r_10, hL2⟩ := bind_some hL2
        refine ⟨_, _, _, _, _, _, _, _, _, callX false [0] [] 0 Try.func22 (by decide) rfl (keep_Src_N_ac r_9.2 (12 : Int) r_10 h_r_10) rfl ⟨(argP (id := 0) (by (conv => lhs; whnf); all_goals rfl) rfl), (argE (by (conv => lhs; whnf); all_goals rfl) rfl), trivial⟩ rfl ⟨rfl, trivial⟩ rfl rfl rfl lend0 ⟨rfl, trivial⟩ rfl, ?_⟩
        conv => whnf
        obtain ⟨l_11, h_l_11, hL2⟩ := bind_some hL2
        refine ap_q (enc := encMinimum) (l := a_7) (y := ([(⟨i_4, i_8, r_10.1⟩ : Minimum)] : List Minimum)) h_l_11 rfl rfl (by decide) ?_
        conv => whnf
        refine ⟨_, rfl, ?_⟩
        conv => whnf
        exact ⟨(q_12, r_10.2.L, r_10.2.At, l_11, (w64 (i_8 + (1 : Int)))), [0, 5], [], [], hL2, Nat.lt_succ_self _, wk_mk [0, 5] [] [] rfl ⟨argP (id := 0) (by (conv => lhs; whnf); all_goals rfl) rfl, argO (id := 5) (by (conv => lhs; whnf); all_goals rfl) rfl, argE (by (conv => lhs; whnf); all_goals rfl) rfl, argE (by (conv => lhs; whnf); all_goals rfl) rfl, trivial⟩ ⟨boxL rfl rfl rfl ⟨(.ni _ rfl), (.ni _ rfl), trivial⟩, blkR (fun _ => ⟨rfl, rfl⟩) rfl rfl, trivial⟩⟩
      · replace hL2 := cond_f hb_31 hL2
        conv => whnf
        refine ⟨_, rfl, ?_⟩
        conv => whnf
        exact ⟨(q_12, r_9.2.L, r_9.2.At, a_7, (w64 (i_8 + (1 : Int)))), [0, 1], [], [], hL2, Nat.lt_succ_self _, wk_mk [0, 1] [] [] rfl ⟨argP (id := 0) (by (conv => lhs; whnf); all_goals rfl) rfl, argO (id := 1) (by (conv => lhs; whnf); all_goals rfl) rfl, argE (by (conv => lhs; whnf); all_goals rfl) rfl, argE (by (conv => lhs; whnf); all_goals rfl) rfl, trivial⟩ ⟨boxL rfl rfl rfl ⟨(.ni _ rfl), (.ni _ rfl), trivial⟩, blkR (fun _ => ⟨rfl, rfl⟩) rfl rfl, trivial⟩⟩
    · replace hL2 := cond_f hb_30 hL2
      conv => whnf
      obtain rfl := Option.some.inj hL2
      replace hL1 := sub_brk hL1
      try dsimp only at hL1
      refine ⟨_, rfl, ?_⟩
      conv => whnf
      exact ⟨(q_14, a_5, i_6, a_7, (w64 (i_4 + (1 : Int)))), [0, 1], [], [], hL1, Nat.lt_succ_self _, wk_mk [0, 1] [] [] rfl ⟨argP (id := 0) (by (conv => lhs; whnf); all_goals rfl) rfl, argO (id := 1) (by (conv => lhs; whnf); all_goals rfl) rfl, argE (by (conv => lhs; whnf); all_goals rfl) rfl, trivial⟩ ⟨boxL rfl rfl rfl ⟨(.ni _ rfl), (.ni _ rfl), trivial⟩, blkR (fun _ => ⟨rfl, rfl⟩) rfl rfl, trivial⟩⟩
  · replace hL1 := cond_f hb_29 hL1
    conv => whnf
    obtain rfl := Option.some.inj hL1
    replace hF := fin_brk hF
    try dsimp only at hF
    obtain rfl := Option.some.inj hF
    exact ret_gz [0] [] [1] rfl (argOL 1 (by (conv => lhs; whnf); all_goals rfl) rfl rfl (map_ni (fun _ => ⟨rfl, rfl⟩) _)) ⟨boxL rfl rfl rfl ⟨(.ni _ rfl), (.ni _ rfl), trivial⟩, trivial⟩

set_option maxRecDepth 100000 in
set_option maxHeartbeats 40000000 in
theorem keep_Src_Pick_ac (x_0 : Src) (x_1 : (List Int)) (r : Int × Src) (hF : keep_Src_Pick x_0 x_1 = some r) : AC Try.prog 32 [.ptr 0 0, .lst 1 (x_1.map iA)] [.box (encSrc x_0)] (.int .i64 r.1) [.box (encSrc r.2)] := by
  refine ac_of tab_ok follows_ok Try.func32 rfl Try.ntmps32 rfl ?_
  unfold keep_Src_Pick at hF
  conv => whnf
  refine len_q (enc := iA) (l := x_1) rfl ?_
  conv => whnf
  obtain ⟨r_1, h_r_1, hF⟩ := bind_some hF
  refine ⟨_, _, _, _, _, _, _, _, _, callX false [0] [] 0 Try.func22 (by decide) rfl (keep_Src_N_ac x_0 (x_1.length : Int) r_1 h_r_1) rfl ⟨(argP (id := 0) (by (conv => lhs; whnf); all_goals rfl) rfl), (argE (by (conv => lhs; whnf); all_goals rfl) rfl), trivial⟩ rfl ⟨rfl, trivial⟩ rfl rfl rfl lend0 ⟨rfl, trivial⟩ rfl, ?_⟩
  conv => whnf
  obtain ⟨e_2, h_e_2, hF⟩ := bind_some hF
  refine ix_q (enc := iA) (l := x_1) h_e_2 rfl (fun m_e_2 hm_e_2 hx_e_2 => ?_)
  conv => whnf
  obtain rfl := Option.some.inj hF
  exact ret_gz [0] [] [] rfl (argE (by (conv => lhs; whnf); all_goals rfl) rfl) ⟨boxL rfl rfl rfl ⟨(.ni _ rfl), (.ni _ rfl), trivial⟩, trivial⟩

set_option maxRecDepth 100000 in
set_option maxHeartbeats 40000000 in
theorem law24_spoilt_ac (x_0 : Src) (x_1 : (List Minimum)) (r : (List Minimum) × Src) (hF : law24_spoilt x_0 x_1 = some r) : AC Try.prog 13 [.ptr 0 0, .lst 3 (x_1.map encMinimum)] [.box (encSrc x_0)] (.lst 3 (r.1.map encMinimum)) [.box (encSrc r.2)] := by
  refine ac_of tab_ok follows_ok Try.func13 rfl Try.ntmps13 rfl ?_
  unfold law24_spoilt at hF
  conv => whnf
  obtain ⟨l_1, h_l_1, hF⟩ := bind_some hF
  refine ap_q (enc := encMinimum) (l := ([] : List Minimum)) (y := x_1) h_l_1 rfl rfl (by decide) ?_
  conv => whnf
  refine len_q (enc := encMinimum) (l := l_1) rfl ?_
  conv => whnf
  refine ⟨fun hb_5 => ?_, fun hb_5 => ?_⟩
  · replace hF := cond_t hb_5 hF
    conv => whnf
    obtain ⟨r_2, h_r_2, hF⟩ := bind_some hF
    refine ⟨_, _, _, _, _, _, _, _, _, callX false [0] [] 0 Try.func31 (by decide) rfl (keep_Src_Raw_ac x_0 r_2 h_r_2) rfl ⟨(argP (id := 0) (by (conv => lhs; whnf); all_goals rfl) rfl), trivial⟩ rfl ⟨rfl, trivial⟩ rfl rfl rfl lend0 ⟨rfl, trivial⟩ rfl, ?_⟩
    conv => whnf
    obtain ⟨l_3, h_l_3, hF⟩ := bind_some hF
    refine ap_q (enc := encMinimum) (l := l_1) (y := ([(⟨(0 : Int), (0 : Int), r_2.1⟩ : Minimum)] : List Minimum)) h_l_3 rfl rfl (by decide) ?_
    conv => whnf
    obtain rfl := Option.some.inj hF
    exact ret_gz [0] [] [5] rfl (argOL 5 (by (conv => lhs; whnf); all_goals rfl) rfl rfl (map_ni (fun _ => ⟨rfl, rfl⟩) _)) ⟨boxL rfl rfl rfl ⟨(.ni _ rfl), (.ni _ rfl), trivial⟩, trivial⟩
  · replace hF := cond_f hb_5 hF
    conv => whnf
    refine len_q (enc := encMinimum) (l := l_1) rfl ?_
    conv => whnf
    obtain ⟨r_4, h_r_4, hF⟩ := bind_some hF
    refine ⟨_, _, _, _, _, _, _, _, _, callX false [0] [] 0 Try.func22 (by decide) rfl (keep_Src_N_ac x_0 (l_1.length : Int) r_4 h_r_4) rfl ⟨(argP (id := 0) (by (conv => lhs; whnf); all_goals rfl) rfl), (argE (by (conv => lhs; whnf); all_goals rfl) rfl), trivial⟩ rfl ⟨rfl, trivial⟩ rfl rfl rfl lend0 ⟨rfl, trivial⟩ rfl, ?_⟩
    conv => whnf
    obtain ⟨r_5, h_r_5, hF⟩ := bind_some hF
    refine ⟨_, _, _, _, _, _, _, _, _, callX false [0] [] 0 Try.func22 (by decide) rfl (keep_Src_N_ac r_4.2 (4 : Int) r_5 h_r_5) rfl ⟨(argP (id := 0) (by (conv => lhs; whnf); all_goals rfl) rfl), (argE (by (conv => lhs; whnf); all_goals rfl) rfl), trivial⟩ rfl ⟨rfl, trivial⟩ rfl rfl rfl lend0 ⟨rfl, trivial⟩ rfl, ?_⟩
    conv => whnf
    refine ⟨fun hb_6 => ?_, fun hb_6 => ?_⟩
    · replace hF := cond_t hb_6 hF
      conv => whnf
      obtain ⟨r_6, h_r_6, hF⟩ := bind_some hF
      refine ⟨_, _, _, _, _, _, _, _, _, callX true [0] [5] 0 Try.func32 (by decide) rfl (keep_Src_Pick_ac r_5.2 ([(-1 : Int), (1048576 : Int), (1048577 : Int)] : List Int) r_6 h_r_6) rfl ⟨(argP (id := 0) (by (conv => lhs; whnf); all_goals rfl) rfl), (argOL 5 (by (conv => lhs; whnf); all_goals rfl) rfl rfl (map_ni (fun _ => ⟨rfl, rfl⟩) _)), trivial⟩ rfl ⟨rfl, trivial⟩ rfl rfl rfl giveU ⟨rfl, trivial⟩ rfl, ?_⟩
      conv => whnf
      obtain ⟨e_7, h_e_7, hF⟩ := bind_some hF
      refine ixo_q (enc := encMinimum) (l := l_1) h_e_7 rfl (fun m_e_7 hm_e_7 hx_e_7 => ?_)
      conv => whnf
      refine st_q (enc := encMinimum) (l := l_1) (x' := (⟨e_7.From, e_7.To, r_6.1⟩ : Minimum)) (i := r_4.1) hm_e_7 hx_e_7 rfl (Nat.le_of_ble_eq_true rfl) rfl ?_
      conv => whnf
      obtain rfl := Option.some.inj hF
      exact ret_gz [0] [] [2] rfl (argOL 2 (by (conv => lhs; whnf); all_goals rfl) rfl rfl (map_ni (fun _ => ⟨rfl, rfl⟩) _)) ⟨boxL rfl rfl rfl ⟨(.ni _ rfl), (.ni _ rfl), trivial⟩, trivial⟩
    · replace hF := cond_f hb_6 hF
      conv => whnf
      refine ⟨fun hb_7 => ?_, fun hb_7 => ?_⟩
      · replace hF := cond_t hb_7 hF
        conv => whnf
        obtain ⟨r_8, h_r_8, hF⟩ := bind_some hF
        refine ⟨_, _, _, _, _, _, _, _, _, callX true [0] [5] 0 Try.func32 (by decide) rfl (keep_Src_Pick_ac r_5.2 ([(-1 : Int), (5 : Int), (6 : Int)] : List Int) r_8 h_r_8) rfl ⟨(argP (id := 0) (by (conv => lhs; whnf); all_goals rfl) rfl), (argOL 5 (by (conv => lhs; whnf); all_goals rfl) rfl rfl (map_ni (fun _ => ⟨rfl, rfl⟩) _)), trivial⟩ rfl ⟨rfl, trivial⟩ rfl rfl rfl giveU ⟨rfl, trivial⟩ rfl, ?_⟩
        conv => whnf
        obtain ⟨e_9, h_e_9, hF⟩ := bind_some hF
        refine ixo_q (enc := encMinimum) (l := l_1) h_e_9 rfl (fun m_e_9 hm_e_9 hx_e_9 => ?_)
        conv => whnf
        refine st_q (enc := encMinimum) (l := l_1) (x' := (⟨e_9.From, r_8.1, e_9.Ticks⟩ : Minimum)) (i := r_4.1) hm_e_9 hx_e_9 rfl (Nat.le_of_ble_eq_true rfl) rfl ?_
        conv => whnf
        obtain rfl := Option.some.inj hF
        exact ret_gz [0] [] [2] rfl (argOL 2 (by (conv => lhs; whnf); all_goals rfl) rfl rfl (map_ni (fun _ => ⟨rfl, rfl⟩) _)) ⟨boxL rfl rfl rfl ⟨(.ni _ rfl), (.ni _ rfl), trivial⟩, trivial⟩
      · replace hF := cond_f hb_7 hF
        conv => whnf
        refine ⟨fun hb_8 => ?_, fun hb_8 => ?_⟩
        · replace hF := cond_t hb_8 hF
          conv => whnf
          obtain ⟨e_10, h_e_10, hF⟩ := bind_some hF
          refine ixo_q (enc := encMinimum) (l := l_1) h_e_10 rfl (fun m_e_10 hm_e_10 hx_e_10 => ?_)
          conv => whnf
          refine ⟨_, ix_map (enc := encMinimum) hx_e_10, ?_⟩
          conv => whnf
          obtain ⟨e_11, h_e_11, hF⟩ := bind_some hF
          refine ixo_q (enc := encMinimum) (l := l_1) h_e_11 rfl (fun m_e_11 hm_e_11 hx_e_11 => ?_)
          conv => whnf
          refine st_q (enc := encMinimum) (l := l_1) (x' := e_10) (i := r_4.1) hm_e_11 hx_e_11 rfl (Nat.le_of_ble_eq_true rfl) rfl ?_
          conv => whnf
          obtain rfl := Option.some.inj hF
          exact ret_gz [0] [] [2] rfl (argOL 2 (by (conv => lhs; whnf); all_goals rfl) rfl rfl (map_ni (fun _ => ⟨rfl, rfl⟩) _)) ⟨boxL rfl rfl rfl ⟨(.ni _ rfl), (.ni _ rfl), trivial⟩, trivial⟩
        · replace hF := cond_f hb_8 hF
          conv => whnf
          obtain ⟨e_12, h_e_12, hF⟩ := bind_some hF
          refine ixo_q (enc := encMinimum) (l := l_1) h_e_12 rfl (fun m_e_12 hm_e_12 hx_e_12 => ?_)
          conv => whnf
          refine ⟨_, ix_map (enc := encMinimum) hx_e_12, ?_⟩
          conv => whnf
          obtain ⟨e_13, h_e_13, hF⟩ := bind_some hF
          refine ixo_q (enc := encMinimum) (l := l_1) h_e_13 rfl (fun m_e_13 hm_e_13 hx_e_13 => ?_)
          conv => whnf
          refine ⟨_, ix_map (enc := encMinimum) hx_e_13, ?_⟩
          conv => whnf
          obtain ⟨e_14, h_e_14, hF⟩ := bind_some hF
          refine ixo_q (enc := encMinimum) (l := l_1) h_e_14 rfl (fun m_e_14 hm_e_14 hx_e_14 => ?_)
          conv => whnf
          refine st_q (enc := encMinimum) (l := l_1) (x' := e_12) (i := r_4.1) hm_e_14 hx_e_14 rfl (Nat.le_of_ble_eq_true rfl) rfl ?_
          conv => whnf
          obtain ⟨e_15, h_e_15, hF⟩ := bind_some hF
          refine ixo_q (enc := encMinimum) (l := (l_1.set r_4.1.toNat e_12)) h_e_15 rfl (fun m_e_15 hm_e_15 hx_e_15 => ?_)
          conv => whnf
          refine st_q (enc := encMinimum) (l := (l_1.set r_4.1.toNat e_12)) (x' := e_13) (i := (0 : Int)) hm_e_15 hx_e_15 rfl (Nat.le_of_ble_eq_true rfl) rfl ?_
          conv => whnf
          refine ⟨by kernel_rfl, ?_⟩
          conv => whnf
          obtain rfl := Option.some.inj hF
          exact ret_gz [0] [] [2] rfl (argOL 2 (by (conv => lhs; whnf); all_goals rfl) rfl rfl (map_ni (fun _ => ⟨rfl, rfl⟩) _)) ⟨boxL rfl rfl rfl ⟨(.ni _ rfl), (.ni _ rfl), trivial⟩, trivial⟩

set_option maxRecDepth 100000 in
set_option maxHeartbeats 40000000 in
theorem connect_in_ac (x_0 : Int) (x_1 : Int) (x_2 : Int) (r : Bool) (hF : connect_in x_0 x_1 x_2 = some r) : AC Try.prog 33 [.int .i64 x_0, .int .i64 x_1, .int .i64 x_2] [] (.bool r) [] := by
  refine ac_of tab_ok follows_ok Try.func33 rfl Try.ntmps33 rfl ?_
  unfold connect_in at hF
  conv => whnf
  refine ⟨fun hb_2 => ?_, fun hb_2 => ?_⟩
  · replace hF := cond_t hb_2 hF
    conv => whnf
    obtain rfl := Option.some.inj hF
    exact ret_gz [] [] [] rfl (argE (by (conv => lhs; whnf); all_goals rfl) rfl) trivial
  · replace hF := cond_f hb_2 hF
    conv => whnf
    obtain rfl := Option.some.inj hF
    exact ret_gz [] [] [] rfl (argFl (by (conv => lhs; whnf); all_goals rfl)) trivial

set_option maxRecDepth 100000 in
set_option maxHeartbeats 40000000 in
theorem connect_Validate_ac (x_0 : (List Minimum)) (r : Int) (hF : connect_Validate x_0 = some r) : AC Try.prog 14 [.lst 3 (x_0.map encMinimum)] [] (.int .i64 r) [] := by
  refine ac_of tab_ok follows_ok Try.func14 rfl Try.ntmps14 rfl ?_
  unfold connect_Validate at hF
  conv => whnf
  refine len_q (enc := encMinimum) (l := x_0) rfl ?_
  conv => whnf
  obtain ⟨c_1, hc_1, hF⟩ := fin_some hF
  refine sw_bv 0 (v := .lst 3 (x_0.map encMinimum)) (by (conv => lhs; whnf); all_goals rfl) (fun hb => ?_)
  have hbd_k_2 : x_0.length ≤ 9223372036854775807 := bnd_len (enc := encMinimum) (hb)
  refine sw_loop tab_ok follows_ok (fun y : Nat => y ≤ x_0.length ∧ connect_Validate_L1 x_0 (x_0.drop y) y = some c_1) (fun y => ⟨eL [(0, .lst 3 (x_0.map encMinimum)), (6, .lst 3 (x_0.map encMinimum)), (7, .int .i64 (x_0.length : Int)), (8, .int .i64 (y : Int))], hL [], 0⟩) (fun y => x_0.length - y) 0 ⟨Nat.zero_le _, hc_1⟩ (wk_mk [] [] [] rfl ⟨argE (by (conv => lhs; whnf); all_goals rfl) rfl, argE (by (conv => lhs; whnf); all_goals rfl) rfl, argE (by (conv => lhs; whnf); all_goals rfl) rfl, argE (by (conv => lhs; whnf); all_goals rfl) rfl, trivial⟩ trivial) ?_
  rintro k_2 ⟨hk_k_2, hL1⟩
  try dsimp only at hk_k_2 hL1
  show awp _ _ _ _ _ _ ⟨eL [(0, .lst 3 (x_0.map encMinimum)), (6, .lst 3 (x_0.map encMinimum)), (7, .int .i64 (x_0.length : Int)), (8, .int .i64 (k_2 : Int))], hL [], 0⟩
  conv => whnf
  refine ⟨fun h => ?_, fun h => ?_⟩
  · have hlt_k_2 : k_2 < x_0.length := by have h := of_decide_eq_true h; omega
    obtain ⟨e_3, h_e_3⟩ : ∃ y, x_0[k_2]? = some y := ⟨_, List.getElem?_eq_getElem hlt_k_2⟩
    rw [drop_cons h_e_3, connect_Validate_L1.eq_2] at hL1
    conv => whnf
    refine ⟨k_2, _, rfl, ix_map h_e_3, ?_⟩
    conv => whnf
    obtain ⟨r_4, h_r_4, hL1⟩ := bind_some hL1
    refine ⟨_, _, _, _, _, _, _, _, _, callX false [] [] 0 Try.func33 (by decide) rfl (connect_in_ac e_3.From (0 : Int) (5 : Int) r_4 h_r_4) rfl ⟨(argE (by (conv => lhs; whnf); all_goals rfl) rfl), (argE (by (conv => lhs; whnf); all_goals rfl) rfl), (argE (by (conv => lhs; whnf); all_goals rfl) rfl), trivial⟩ rfl trivial rfl rfl rfl lend0 trivial rfl, ?_⟩
    conv => whnf
    refine ⟨fun hb_33 => ?_, fun hb_33 => ?_⟩
    · replace hL1 := cond_f hb_33 hL1
      conv => whnf
      obtain ⟨r_5, h_r_5, hL1⟩ := bind_some hL1
      refine ⟨_, _, _, _, _, _, _, _, _, callX false [] [] 0 Try.func33 (by decide) rfl (connect_in_ac e_3.To (0 : Int) (5 : Int) r_5 h_r_5) rfl ⟨(argE (by (conv => lhs; whnf); all_goals rfl) rfl), (argE (by (conv => lhs; whnf); all_goals rfl) rfl), (argE (by (conv => lhs; whnf); all_goals rfl) rfl), trivial⟩ rfl trivial rfl rfl rfl lend0 trivial rfl, ?_⟩
      conv => whnf
      refine ⟨fun hb_34 => ?_, fun hb_34 => ?_⟩
      · replace hL1 := cond_f hb_34 hL1
        conv => whnf
        obtain ⟨r_6, h_r_6, hL1⟩ := bind_some hL1
        refine ⟨_, _, _, _, _, _, _, _, _, callX false [] [] 0 Try.func33 (by decide) rfl (connect_in_ac e_3.Ticks (0 : Int) (1048576 : Int) r_6 h_r_6) rfl ⟨(argE (by (conv => lhs; whnf); all_goals rfl) rfl), (argE (by (conv => lhs; whnf); all_goals rfl) rfl), (argE (by (conv => lhs; whnf); all_goals rfl) rfl), trivial⟩ rfl trivial rfl rfl rfl lend0 trivial rfl, ?_⟩
        conv => whnf
        refine ⟨fun hb_35 => ?_, fun hb_35 => ?_⟩
        · replace hL1 := cond_t hb_35 hL1
          conv => whnf
          obtain rfl := Option.some.inj hL1
          replace hF := fin_ret hF
          obtain rfl := Option.some.inj hF
          exact ret_gz [] [] [] rfl (argE (by (conv => lhs; whnf); all_goals rfl) rfl) trivial
        · replace hL1 := cond_f hb_35 hL1
          conv => whnf
          refine ⟨fun hb_36 => ?_, fun hb_36 => ?_⟩
          · replace hL1 := cond_t hb_36 hL1
            conv => whnf
            refine ⟨((k_2 + 1 : Nat) : Int), wrapE (by omega) (by omega) (by omega), ?_⟩
            conv => whnf
            exact ⟨k_2 + 1, [], [], [], ⟨hlt_k_2, hL1⟩, by show x_0.length - (k_2 + 1) < x_0.length - k_2; omega, wk_mk [] [] [] rfl ⟨argE (by (conv => lhs; whnf); all_goals rfl) rfl, argE (by (conv => lhs; whnf); all_goals rfl) rfl, argE (by (conv => lhs; whnf); all_goals rfl) rfl, argE (by (conv => lhs; whnf); all_goals rfl) rfl, trivial⟩ trivial⟩
          · replace hL1 := cond_f hb_36 hL1
            conv => whnf
            refine ⟨_, rfl, ?_⟩
            conv => whnf
            obtain ⟨e_7, h_e_7, hL1⟩ := bind_some hL1
            refine ix_q (enc := encMinimum) (l := x_0) h_e_7 rfl (fun m_e_7 hm_e_7 hx_e_7 => ?_)
            conv => whnf
            refine ⟨fun hb_37 => ?_, fun hb_37 => ?_⟩
            · replace hL1 := cond_t hb_37 hL1
              conv => whnf
              refine ⟨fun hb_38 => ?_, fun hb_38 => ?_⟩
              · replace hL1 := cond_t hb_38 hL1
                conv => whnf
                obtain rfl := Option.some.inj hL1
                replace hF := fin_ret hF
                obtain rfl := Option.some.inj hF
                exact ret_gz [] [] [] rfl (argE (by (conv => lhs; whnf); all_goals rfl) rfl) trivial
              · replace hL1 := cond_f hb_38 hL1
                conv => whnf
                refine ⟨fun hb_39 => ?_, fun hb_39 => ?_⟩
                · replace hL1 := cond_f hb_39 hL1
                  conv => whnf
                  refine ⟨fun h => ?_, fun h => ?_⟩
                  · conv => whnf
                    refine ⟨fun hb_40 => ?_, fun hb_40 => ?_⟩
                    · replace hL1 := cond_t hb_40 hL1
                      conv => whnf
                      obtain rfl := Option.some.inj hL1
                      replace hF := fin_ret hF
                      obtain rfl := Option.some.inj hF
                      exact ret_gz [] [] [] rfl (argE (by (conv => lhs; whnf); all_goals rfl) rfl) trivial
                    · replace hL1 := cond_f hb_40 hL1
                      conv => whnf
                      refine ⟨((k_2 + 1 : Nat) : Int), wrapE (by omega) (by omega) (by omega), ?_⟩
                      conv => whnf
                      exact ⟨k_2 + 1, [], [], [], ⟨hlt_k_2, hL1⟩, by show x_0.length - (k_2 + 1) < x_0.length - k_2; omega, wk_mk [] [] [] rfl ⟨argE (by (conv => lhs; whnf); all_goals rfl) rfl, argE (by (conv => lhs; whnf); all_goals rfl) rfl, argE (by (conv => lhs; whnf); all_goals rfl) rfl, argE (by (conv => lhs; whnf); all_goals rfl) rfl, trivial⟩ trivial⟩
                  · cases (hb_37).symm.trans h
                · replace hL1 := cond_t hb_39 hL1
                  conv => whnf
                  obtain rfl := Option.some.inj hL1
                  replace hF := fin_ret hF
                  obtain rfl := Option.some.inj hF
                  exact ret_gz [] [] [] rfl (argE (by (conv => lhs; whnf); all_goals rfl) rfl) trivial
            · replace hL1 := cond_f hb_37 hL1
              conv => whnf
              refine ⟨fun hb_41 => ?_, fun hb_41 => ?_⟩
              · replace hL1 := cond_f hb_41 hL1
                conv => whnf
                refine ⟨fun h => ?_, fun h => ?_⟩
                · cases (hb_37).symm.trans h
                · conv => whnf
                  refine ⟨((k_2 + 1 : Nat) : Int), wrapE (by omega) (by omega) (by omega), ?_⟩
                  conv => whnf
                  exact ⟨k_2 + 1, [], [], [], ⟨hlt_k_2, hL1⟩, by show x_0.length - (k_2 + 1) < x_0.length - k_2; omega, wk_mk [] [] [] rfl ⟨argE (by (conv => lhs; whnf); all_goals rfl) rfl, argE (by (conv => lhs; whnf); all_goals rfl) rfl, argE (by (conv => lhs; whnf); all_goals rfl) rfl, argE (by (conv => lhs; whnf); all_goals rfl) rfl, trivial⟩ trivial⟩
              · replace hL1 := cond_t hb_41 hL1
                conv => whnf
                obtain rfl := Option.some.inj hL1
                replace hF := fin_ret hF
                obtain rfl := Option.some.inj hF
                exact ret_gz [] [] [] rfl (argE (by (conv => lhs; whnf); all_goals rfl) rfl) trivial
      · replace hL1 := cond_t hb_34 hL1
        conv => whnf
        obtain rfl := Option.some.inj hL1
        replace hF := fin_ret hF
        obtain rfl := Option.some.inj hF
        exact ret_gz [] [] [] rfl (argE (by (conv => lhs; whnf); all_goals rfl) rfl) trivial
    · replace hL1 := cond_t hb_33 hL1
      conv => whnf
      obtain rfl := Option.some.inj hL1
      replace hF := fin_ret hF
      obtain rfl := Option.some.inj hF
      exact ret_gz [] [] [] rfl (argE (by (conv => lhs; whnf); all_goals rfl) rfl) trivial
  · rw [drop_nil (show x_0.length ≤ k_2 by have h := of_decide_eq_false h; omega), connect_Validate_L1.eq_1] at hL1
    conv => whnf
    obtain rfl := Option.some.inj hL1
    replace hF := fin_brk hF
    try dsimp only at hF
    obtain rfl := Option.some.inj hF
    exact ret_gz [] [] [] rfl (argE (by (conv => lhs; whnf); all_goals rfl) rfl) trivial

set_option maxRecDepth 100000 in
set_option maxHeartbeats 40000000 in
theorem ref24_terminal_ac (x_0 : Int) (r : Bool) (hF : ref24_terminal x_0 = some r) : AC Try.prog 34 [.int .i64 x_0] [] (.bool r) [] := by
  refine ac_of tab_ok follows_ok Try.func34 rfl Try.ntmps34 rfl ?_
  unfold ref24_terminal at hF
  conv => whnf
  refine ⟨fun hb_2 => ?_, fun hb_2 => ?_⟩
  · replace hF := cond_t hb_2 hF
    conv => whnf
    obtain rfl := Option.some.inj hF
    exact ret_gz [] [] [] rfl (argE (by (conv => lhs; whnf); all_goals rfl) rfl) trivial
  · replace hF := cond_f hb_2 hF
    conv => whnf
    obtain rfl := Option.some.inj hF
    exact ret_gz [] [] [] rfl (argFl (by (conv => lhs; whnf); all_goals rfl)) trivial

set_option maxRecDepth 100000 in
set_option maxHeartbeats 40000000 in
theorem ref24_Validate_ac (x_0 : (List Minimum)) (r : Int) (hF : ref24_Validate x_0 = some r) : AC Try.prog 15 [.lst 3 (x_0.map encMinimum)] [] (.int .i64 r) [] := by
  refine ac_of tab_ok follows_ok Try.func15 rfl Try.ntmps15 rfl ?_
  unfold ref24_Validate at hF
  conv => whnf
  obtain ⟨c_1, hc_1, hF⟩ := fin_some hF
  refine sw_bv 0 (v := .lst 3 (x_0.map encMinimum)) (by (conv => lhs; whnf); all_goals rfl) (fun hb => ?_)
  have hbd_k_2 : x_0.length ≤ 9223372036854775807 := bnd_len (enc := encMinimum) (hb)
  refine sw_loop tab_ok follows_ok (fun y : Nat => y ≤ x_0.length ∧ ref24_Validate_L1 x_0 (x_0.drop y) y = some c_1) (fun y => ⟨eL [(0, .lst 3 (x_0.map encMinimum)), (3, .int .i64 (y : Int))], hL [], 0⟩) (fun y => x_0.length - y) 0 ⟨Nat.zero_le _, hc_1⟩ (wk_mk [] [] [] rfl ⟨argE (by (conv => lhs; whnf); all_goals rfl) rfl, argE (by (conv => lhs; whnf); all_goals rfl) rfl, trivial⟩ trivial) ?_
  rintro k_2 ⟨hk_k_2, hL1⟩
  try dsimp only at hk_k_2 hL1
  show awp _ _ _ _ _ _ ⟨eL [(0, .lst 3 (x_0.map encMinimum)), (3, .int .i64 (k_2 : Int))], hL [], 0⟩
  conv => whnf
  refine len_q (enc := encMinimum) (l := x_0) rfl ?_
  conv => whnf
  refine ⟨fun h => ?_, fun h => ?_⟩
  · have hlt_k_2 : k_2 < x_0.length := by have h := of_decide_eq_true h; omega
    obtain ⟨e_3, h_e_3⟩ : ∃ y, x_0[k_2]? = some y := ⟨_, List.getElem?_eq_getElem hlt_k_2⟩
    rw [drop_cons h_e_3, ref24_Validate_L1.eq_2] at hL1
    conv => whnf
    refine ⟨k_2, _, rfl, ix_map h_e_3, ?_⟩
    conv => whnf
    obtain ⟨r_4, h_r_4, hL1⟩ := bind_some hL1
    refine ⟨_, _, _, _, _, _, _, _, _, callX false [] [] 0 Try.func34 (by decide) rfl (ref24_terminal_ac e_3.From r_4 h_r_4) rfl ⟨(argE (by (conv => lhs; whnf); all_goals rfl) rfl), trivial⟩ rfl trivial rfl rfl rfl lend0 trivial rfl, ?_⟩
    conv => whnf
    refine ⟨fun hb_37 => ?_, fun hb_37 => ?_⟩
    · replace hL1 := cond_f hb_37 hL1
      conv => whnf
      obtain ⟨r_5, h_r_5, hL1⟩ := bind_some hL1
      refine ⟨_, _, _, _, _, _, _, _, _, callX false [] [] 0 Try.func34 (by decide) rfl (ref24_terminal_ac e_3.To r_5 h_r_5) rfl ⟨(argE (by (conv => lhs; whnf); all_goals rfl) rfl), trivial⟩ rfl trivial rfl rfl rfl lend0 trivial rfl, ?_⟩
      conv => whnf
      refine ⟨fun hb_38 => ?_, fun hb_38 => ?_⟩
      · replace hL1 := cond_f hb_38 hL1
        conv => whnf
        refine ⟨fun hb_39 => ?_, fun hb_39 => ?_⟩
        · replace hL1 := cond_f hb_39 hL1
          conv => whnf
          refine ⟨fun hb_40 => ?_, fun hb_40 => ?_⟩
          · replace hL1 := cond_t hb_40 hL1
            conv => whnf
            obtain rfl := Option.some.inj hL1
            replace hF := fin_ret hF
            obtain rfl := Option.some.inj hF
            exact ret_gz [] [] [] rfl (argE (by (conv => lhs; whnf); all_goals rfl) rfl) trivial
          · replace hL1 := cond_f hb_40 hL1
            conv => whnf
            refine ⟨fun hb_41 => ?_, fun hb_41 => ?_⟩
            · replace hL1 := cond_t hb_41 hL1
              conv => whnf
              refine ⟨((k_2 + 1 : Nat) : Int), wrapE (by omega) (by omega) (by omega), ?_⟩
              conv => whnf
              exact ⟨k_2 + 1, [], [], [], ⟨hlt_k_2, hL1⟩, by show x_0.length - (k_2 + 1) < x_0.length - k_2; omega, wk_mk [] [] [] rfl ⟨argE (by (conv => lhs; whnf); all_goals rfl) rfl, argE (by (conv => lhs; whnf); all_goals rfl) rfl, trivial⟩ trivial⟩
            · replace hL1 := cond_f hb_41 hL1
              conv => whnf
              refine ⟨_, rfl, ?_⟩
              conv => whnf
              obtain ⟨e_6, h_e_6, hL1⟩ := bind_some hL1
              refine ix_q (enc := encMinimum) (l := x_0) h_e_6 rfl (fun m_e_6 hm_e_6 hx_e_6 => ?_)
              conv => whnf
              refine ⟨fun hb_42 => ?_, fun hb_42 => ?_⟩
              · replace hL1 := cond_t hb_42 hL1
                conv => whnf
                refine ⟨fun hb_43 => ?_, fun hb_43 => ?_⟩
                · replace hL1 := cond_t hb_43 hL1
                  conv => whnf
                  obtain rfl := Option.some.inj hL1
                  replace hF := fin_ret hF
                  obtain rfl := Option.some.inj hF
                  exact ret_gz [] [] [] rfl (argE (by (conv => lhs; whnf); all_goals rfl) rfl) trivial
                · replace hL1 := cond_f hb_43 hL1
                  conv => whnf
                  refine ⟨fun hb_44 => ?_, fun hb_44 => ?_⟩
                  · replace hL1 := cond_f hb_44 hL1
                    conv => whnf
                    refine ⟨fun h => ?_, fun h => ?_⟩
                    · conv => whnf
                      refine ⟨fun hb_45 => ?_, fun hb_45 => ?_⟩
                      · replace hL1 := cond_t hb_45 hL1
                        conv => whnf
                        obtain rfl := Option.some.inj hL1
                        replace hF := fin_ret hF
                        obtain rfl := Option.some.inj hF
                        exact ret_gz [] [] [] rfl (argE (by (conv => lhs; whnf); all_goals rfl) rfl) trivial
                      · replace hL1 := cond_f hb_45 hL1
                        conv => whnf
                        refine ⟨((k_2 + 1 : Nat) : Int), wrapE (by omega) (by omega) (by omega), ?_⟩
                        conv => whnf
                        exact ⟨k_2 + 1, [], [], [], ⟨hlt_k_2, hL1⟩, by show x_0.length - (k_2 + 1) < x_0.length - k_2; omega, wk_mk [] [] [] rfl ⟨argE (by (conv => lhs; whnf); all_goals rfl) rfl, argE (by (conv => lhs; whnf); all_goals rfl) rfl, trivial⟩ trivial⟩
                    · cases (hb_42).symm.trans h
                  · replace hL1 := cond_t hb_44 hL1
                    conv => whnf
                    obtain rfl := Option.some.inj hL1
                    replace hF := fin_ret hF
                    obtain rfl := Option.some.inj hF
                    exact ret_gz [] [] [] rfl (argE (by (conv => lhs; whnf); all_goals rfl) rfl) trivial
              · replace hL1 := cond_f hb_42 hL1
                conv => whnf
                refine ⟨fun hb_46 => ?_, fun hb_46 => ?_⟩
                · replace hL1 := cond_f hb_46 hL1
                  conv => whnf
                  refine ⟨fun h => ?_, fun h => ?_⟩
                  · cases (hb_42).symm.trans h
                  · conv => whnf
                    refine ⟨((k_2 + 1 : Nat) : Int), wrapE (by omega) (by omega) (by omega), ?_⟩
                    conv => whnf
                    exact ⟨k_2 + 1, [], [], [], ⟨hlt_k_2, hL1⟩, by show x_0.length - (k_2 + 1) < x_0.length - k_2; omega, wk_mk [] [] [] rfl ⟨argE (by (conv => lhs; whnf); all_goals rfl) rfl, argE (by (conv => lhs; whnf); all_goals rfl) rfl, trivial⟩ trivial⟩
                · replace hL1 := cond_t hb_46 hL1
                  conv => whnf
                  obtain rfl := Option.some.inj hL1
                  replace hF := fin_ret hF
                  obtain rfl := Option.some.inj hF
                  exact ret_gz [] [] [] rfl (argE (by (conv => lhs; whnf); all_goals rfl) rfl) trivial
        · replace hL1 := cond_t hb_39 hL1
          conv => whnf
          obtain rfl := Option.some.inj hL1
          replace hF := fin_ret hF
          obtain rfl := Option.some.inj hF
          exact ret_gz [] [] [] rfl (argE (by (conv => lhs; whnf); all_goals rfl) rfl) trivial
      · replace hL1 := cond_t hb_38 hL1
        conv => whnf
        obtain rfl := Option.some.inj hL1
        replace hF := fin_ret hF
        obtain rfl := Option.some.inj hF
        exact ret_gz [] [] [] rfl (argE (by (conv => lhs; whnf); all_goals rfl) rfl) trivial
    · replace hL1 := cond_t hb_37 hL1
      conv => whnf
      obtain rfl := Option.some.inj hL1
      replace hF := fin_ret hF
      obtain rfl := Option.some.inj hF
      exact ret_gz [] [] [] rfl (argE (by (conv => lhs; whnf); all_goals rfl) rfl) trivial
  · rw [drop_nil (show x_0.length ≤ k_2 by have h := of_decide_eq_false h; omega), ref24_Validate_L1.eq_1] at hL1
    conv => whnf
    obtain rfl := Option.some.inj hL1
    replace hF := fin_brk hF
    try dsimp only at hF
    obtain rfl := Option.some.inj hF
    exact ret_gz [] [] [] rfl (argE (by (conv => lhs; whnf); all_goals rfl) rfl) trivial

set_option maxRecDepth 100000 in
set_option maxHeartbeats 40000000 in
theorem connect_ways_ac (x_0 : (List Minimum)) (r : A6_A6_Int) (hF : connect_ways x_0 = some r) : AC Try.prog 35 [.lst 3 (x_0.map encMinimum)] [] (.agg (encA6_A6_Int r)) [] := by
  refine ac_of tab_ok follows_ok Try.func35 rfl Try.ntmps35 rfl ?_
  unfold connect_ways at hF
  conv => whnf
  refine .inr ?_
  conv => whnf
  obtain ⟨l_1, h_l_1, hF⟩ := bind_some hF
  refine .inl (al_q (enc := iA) h_l_1 rfl rfl (by decide) (Nat.le_of_ble_eq_true rfl) (by kernel_rfl) ?_)
  conv => whnf
  obtain ⟨c_1, hc_1, hF⟩ := fin_some hF
  refine sw_loop tab_ok follows_ok (fun y : Nat × (List Int) × Int => connect_ways_L1 y.1 y.2.1 y.2.2 = some c_1) (fun y => ⟨eL [(0, .lst 3 (x_0.map encMinimum)), (2, .ptr 0 0), (3, .ptr 1 0), (11, .int .i64 y.2.2)], hL [(0, .box [.int .i64 (0 : Int), .int .i64 (0 : Int), .int .i64 (0 : Int), .int .i64 (0 : Int), .int .i64 (0 : Int), .int .i64 (0 : Int), .int .i64 (0 : Int), .int .i64 (0 : Int), .int .i64 (0 : Int), .int .i64 (0 : Int), .int .i64 (0 : Int), .int .i64 (0 : Int), .int .i64 (0 : Int), .int .i64 (0 : Int), .int .i64 (0 : Int), .int .i64 (0 : Int), .int .i64 (0 : Int), .int .i64 (0 : Int), .int .i64 (0 : Int), .int .i64 (0 : Int), .int .i64 (0 : Int), .int .i64 (0 : Int), .int .i64 (0 : Int), .int .i64 (0 : Int), .int .i64 (0 : Int), .int .i64 (0 : Int), .int .i64 (0 : Int), .int .i64 (0 : Int), .int .i64 (0 : Int), .int .i64 (0 : Int), .int .i64 (0 : Int), .int .i64 (0 : Int), .int .i64 (0 : Int), .int .i64 (0 : Int), .int .i64 (0 : Int), .int .i64 (0 : Int)]), (1, .row 1 (y.2.1.map iA))], 2⟩) (fun y => y.1) (9223372036854775807, l_1, (0 : Int)) hc_1 (wk_mk [0, 1] [] [] rfl ⟨argE (by (conv => lhs; whnf); all_goals rfl) rfl, argP (id := 0) (by (conv => lhs; whnf); all_goals rfl) rfl, argP (id := 1) (by (conv => lhs; whnf); all_goals rfl) rfl, argE (by (conv => lhs; whnf); all_goals rfl) rfl, trivial⟩ ⟨boxL rfl rfl rfl ⟨(.ni _ rfl), (.ni _ rfl), (.ni _ rfl), (.ni _ rfl), (.ni _ rfl), (.ni _ rfl), (.ni _ rfl), (.ni _ rfl), (.ni _ rfl), (.ni _ rfl), (.ni _ rfl), (.ni _ rfl), (.ni _ rfl), (.ni _ rfl), (.ni _ rfl), (.ni _ rfl), (.ni _ rfl), (.ni _ rfl), (.ni _ rfl), (.ni _ rfl), (.ni _ rfl), (.ni _ rfl), (.ni _ rfl), (.ni _ rfl), (.ni _ rfl), (.ni _ rfl), (.ni _ rfl), (.ni _ rfl), (.ni _ rfl), (.ni _ rfl), (.ni _ rfl), (.ni _ rfl), (.ni _ rfl), (.ni _ rfl), (.ni _ rfl), (.ni _ rfl), trivial⟩, blkR (fun _ => ⟨rfl, rfl⟩) rfl rfl, trivial⟩) ?_
  rintro ⟨q_11, a_2, i_3⟩ hL1
  try dsimp only at hL1
  rcases q_11 with _ | q_11
  · rw [connect_ways_L1.eq_1] at hL1
    cases hL1
  rw [connect_ways_L1.eq_2] at hL1
  show awp _ _ _ _ _ _ ⟨eL [(0, .lst 3 (x_0.map encMinimum)), (2, .ptr 0 0), (3, .ptr 1 0), (11, .int .i64 i_3)], hL [(0, .box [.int .i64 (0 : Int), .int .i64 (0 : Int), .int .i64 (0 : Int), .int .i64 (0 : Int), .int .i64 (0 : Int), .int .i64 (0 : Int), .int .i64 (0 : Int), .int .i64 (0 : Int), .int .i64 (0 : Int), .int .i64 (0 : Int), .int .i64 (0 : Int), .int .i64 (0 : Int), .int .i64 (0 : Int), .int .i64 (0 : Int), .int .i64 (0 : Int), .int .i64 (0 : Int), .int .i64 (0 : Int), .int .i64 (0 : Int), .int .i64 (0 : Int), .int .i64 (0 : Int), .int .i64 (0 : Int), .int .i64 (0 : Int), .int .i64 (0 : Int), .int .i64 (0 : Int), .int .i64 (0 : Int), .int .i64 (0 : Int), .int .i64 (0 : Int), .int .i64 (0 : Int), .int .i64 (0 : Int), .int .i64 (0 : Int), .int .i64 (0 : Int), .int .i64 (0 : Int), .int .i64 (0 : Int), .int .i64 (0 : Int), .int .i64 (0 : Int), .int .i64 (0 : Int)]), (1, .row 1 (a_2.map iA))], 2⟩
  conv => whnf
  refine ⟨fun hb_68 => ?_, fun hb_68 => ?_⟩
  · replace hL1 := cond_t hb_68 hL1
    conv => whnf
    obtain ⟨c_2, hc_2, hL1⟩ := sub_some hL1
    refine sw_loop tab_ok follows_ok (fun y : Nat × (List Int) × Int => connect_ways_L2 i_3 y.1 y.2.1 y.2.2 = some c_2) (fun y => ⟨eL [(0, .lst 3 (x_0.map encMinimum)), (2, .ptr 0 0), (3, .ptr 1 0), (4, .int .i64 i_3), (11, .int .i64 i_3), (14, .int .i64 y.2.2)], hL [(0, .box [.int .i64 (0 : Int), .int .i64 (0 : Int), .int .i64 (0 : Int), .int .i64 (0 : Int), .int .i64 (0 : Int), .int .i64 (0 : Int), .int .i64 (0 : Int), .int .i64 (0 : Int), .int .i64 (0 : Int), .int .i64 (0 : Int), .int .i64 (0 : Int), .int .i64 (0 : Int), .int .i64 (0 : Int), .int .i64 (0 : Int), .int .i64 (0 : Int), .int .i64 (0 : Int), .int .i64 (0 : Int), .int .i64 (0 : Int), .int .i64 (0 : Int), .int .i64 (0 : Int), .int .i64 (0 : Int), .int .i64 (0 : Int), .int .i64 (0 : Int), .int .i64 (0 : Int), .int .i64 (0 : Int), .int .i64 (0 : Int), .int .i64 (0 : Int), .int .i64 (0 : Int), .int .i64 (0 : Int), .int .i64 (0 : Int), .int .i64 (0 : Int), .int .i64 (0 : Int), .int .i64 (0 : Int), .int .i64 (0 : Int), .int .i64 (0 : Int), .int .i64 (0 : Int)]), (1, .row 1 (y.2.1.map iA))], 2⟩) (fun y => y.1) (9223372036854775807, a_2, (0 : Int)) hc_2 (wk_mk [0, 1] [] [] rfl ⟨argE (by (conv => lhs; whnf); all_goals rfl) rfl, argP (id := 0) (by (conv => lhs; whnf); all_goals rfl) rfl, argP (id := 1) (by (conv => lhs; whnf); all_goals rfl) rfl, argE (by (conv => lhs; whnf); all_goals rfl) rfl, argE (by (conv => lhs; whnf); all_goals rfl) rfl, argE (by (conv => lhs; whnf); all_goals rfl) rfl, trivial⟩ ⟨boxL rfl rfl rfl ⟨(.ni _ rfl), (.ni _ rfl), (.ni _ rfl), (.ni _ rfl), (.ni _ rfl), (.ni _ rfl), (.ni _ rfl), (.ni _ rfl), (.ni _ rfl), (.ni _ rfl), (.ni _ rfl), (.ni _ rfl), (.ni _ rfl), (.ni _ rfl), (.ni _ rfl), (.ni _ rfl), (.ni _ rfl), (.ni _ rfl), (.ni _ rfl), (.ni _ rfl), (.ni _ rfl), (.ni _ rfl), (.ni _ rfl), (.ni _ rfl), (.ni _ rfl), (.ni _ rfl), (.ni _ rfl), (.ni _ rfl), (.ni _ rfl), (.ni _ rfl), (.ni _ rfl), (.ni _ rfl), (.ni _ rfl), (.ni _ rfl), (.ni _ rfl), (.ni _ rfl), trivial⟩, blkR (fun _ => ⟨rfl, rfl⟩) rfl rfl, trivial⟩) ?_
    rintro ⟨q_9, a_4, i_5⟩ hL2
    try dsimp only at hL2
    rcases q_9 with _ | q_9
    · rw [connect_ways_L2.eq_1] at hL2
      cases hL2
    rw [connect_ways_L2.eq_2] at hL2
    show awp _ _ _ _ _ _ ⟨eL [(0, .lst 3 (x_0.map encMinimum)), (2, .ptr 0 0), (3, .ptr 1 0), (4, .int .i64 i_3), (11, .int .i64 i_3), (14, .int .i64 i_5)], hL [(0, .box [.int .i64 (0 : Int), .int .i64 (0 : Int), .int .i64 (0 : Int), .int .i64 (0 : Int), .int .i64 (0 : Int), .int .i64 (0 : Int), .int .i64 (0 : Int), .int .i64 (0 : Int), .int .i64 (0 : Int), .int .i64 (0 : Int), .int .i64 (0 : Int), .int .i64 (0 : Int), .int .i64 (0 : Int), .int .i64 (0 : Int), .int .i64 (0 : Int), .int .i64 (0 : Int), .int .i64 (0 : Int), .int .i64 (0 : Int), .int .i64 (0 : Int), .int .i64 (0 : Int), .int .i64 (0 : Int), .int .i64 (0 : Int), .int .i64 (0 : Int), .int .i64 (0 : Int), .int .i64 (0 : Int), .int .i64 (0 : Int), .int .i64 (0 : Int), .int .i64 (0 : Int), .int .i64 (0 : Int), .int .i64 (0 : Int), .int .i64 (0 : Int), .int .i64 (0 : Int), .int .i64 (0 : Int), .int .i64 (0 : Int), .int .i64 (0 : Int), .int .i64 (0 : Int)]), (1, .row 1 (a_4.map iA))], 2⟩
    conv => whnf
    refine ⟨fun hb_69 => ?_, fun hb_69 => ?_⟩
    · replace hL2 := cond_t hb_69 hL2
      conv => whnf
      obtain ⟨u_6, h_u_6, hL2⟩ := bind_some hL2
      refine ixa_q 6 h_u_6 rfl (fun m_u_6 hm_u_6 => ?_)
      conv => whnf
      obtain ⟨u_7, h_u_7, hL2⟩ := bind_some hL2
      refine ixb_q h_u_7 (fun m_u_7 hm_u_7 => ?_)
      conv => whnf
      obtain ⟨v_8, h_v_8, hL2⟩ := bind_some hL2
      refine st_q (enc := iA) (l := a_4) (x' := (38797349 : Int)) (i := ((i_3 * (6 : Int)) + i_5)) (ixad (ixm 6 hm_u_6) hm_u_7) (ixL_at h_v_8 (ixad (ixm 6 hm_u_6) hm_u_7)) rfl (Nat.le_of_ble_eq_true rfl) rfl ?_
      conv => whnf
      refine ⟨_, rfl, ?_⟩
      conv => whnf
      exact ⟨(q_9, (a_4.set ((i_3 * (6 : Int)) + i_5).toNat (38797349 : Int)), (w64 (i_5 + (1 : Int)))), [0, 1], [], [], hL2, Nat.lt_succ_self _, wk_mk [0, 1] [] [] rfl ⟨argE (by (conv => lhs; whnf); all_goals rfl) rfl, argP (id := 0) (by (conv => lhs; whnf); all_goals rfl) rfl, argP (id := 1) (by (conv => lhs; whnf); all_goals rfl) rfl, argE (by (conv => lhs; whnf); all_goals rfl) rfl, argE (by (conv => lhs; whnf); all_goals rfl) rfl, argE (by (conv => lhs; whnf); all_goals rfl) rfl, trivial⟩ ⟨boxL rfl rfl rfl ⟨(.ni _ rfl), (.ni _ rfl), (.ni _ rfl), (.ni _ rfl), (.ni _ rfl), (.ni _ rfl), (.ni _ rfl), (.ni _ rfl), (.ni _ rfl), (.ni _ rfl), (.ni _ rfl), (.ni _ rfl), (.ni _ rfl), (.ni _ rfl), (.ni _ rfl), (.ni _ rfl), (.ni _ rfl), (.ni _ rfl), (.ni _ rfl), (.ni _ rfl), (.ni _ rfl), (.ni _ rfl), (.ni _ rfl), (.ni _ rfl), (.ni _ rfl), (.ni _ rfl), (.ni _ rfl), (.ni _ rfl), (.ni _ rfl), (.ni _ rfl), (.ni _ rfl), (.ni _ rfl), (.ni _ rfl), (.ni _ rfl), (.ni _ rfl), (.ni _ rfl), trivial⟩, blkR (fun _ => ⟨rfl, rfl⟩) rfl rfl, trivial⟩⟩
    · replace hL2 := cond_f hb_69 hL2
      conv => whnf
      obtain rfl := Option.some.inj hL2
      replace hL1 := sub_brk hL1
      try dsimp only at hL1
      refine ⟨_, rfl, ?_⟩
      conv => whnf
      exact ⟨(q_11, a_4, (w64 (i_3 + (1 : Int)))), [0, 1], [], [], hL1, Nat.lt_succ_self _, wk_mk [0, 1] [] [] rfl ⟨argE (by (conv => lhs; whnf); all_goals rfl) rfl, argP (id := 0) (by (conv => lhs; whnf); all_goals rfl) rfl, argP (id := 1) (by (conv => lhs; whnf); all_goals rfl) rfl, argE (by (conv => lhs; whnf); all_goals rfl) rfl, trivial⟩ ⟨boxL rfl rfl rfl ⟨(.ni _ rfl), (.ni _ rfl), (.ni _ rfl), (.ni _ rfl), (.ni _ rfl), (.ni _ rfl), (.ni _ rfl), (.ni _ rfl), (.ni _ rfl), (.ni _ rfl), (.ni _ rfl), (.ni _ rfl), (.ni _ rfl), (.ni _ rfl), (.ni _ rfl), (.ni _ rfl), (.ni _ rfl), (.ni _ rfl), (.ni _ rfl), (.ni _ rfl), (.ni _ rfl), (.ni _ rfl), (.ni _ rfl), (.ni _ rfl), (.ni _ rfl), (.ni _ rfl), (.ni _ rfl), (.ni _ rfl), (.ni _ rfl), (.ni _ rfl), (.ni _ rfl), (.ni _ rfl), (.ni _ rfl), (.ni _ rfl), (.ni _ rfl), (.ni _ rfl), trivial⟩, blkR (fun _ => ⟨rfl, rfl⟩) rfl rfl, trivial⟩⟩
  · replace hL1 := cond_f hb_68 hL1
    conv => whnf
    obtain rfl := Option.some.inj hL1
    replace hF := fin_brk hF
    try dsimp only at hF
    refine len_q (enc := encMinimum) (l := x_0) rfl ?_
    conv => whnf
    obtain ⟨c_3, hc_3, hF⟩ := fin_some hF
    refine sw_bv 0 (v := .lst 3 (x_0.map encMinimum)) (by (conv => lhs; whnf); all_goals rfl) (fun hb => ?_)
    have hbd_k_15 : x_0.length ≤ 9223372036854775807 := bnd_len (enc := encMinimum) (hb)
    refine sw_loop tab_ok follows_ok (fun y : Nat × (List Int) => y.1 ≤ x_0.length ∧ connect_ways_L3 (x_0.drop y.1) y.1 y.2 = some c_3) (fun y => ⟨eL [(2, .ptr 0 0), (3, .ptr 1 0), (23, .lst 3 (x_0.map encMinimum)), (24, .int .i64 (x_0.length : Int)), (25, .int .i64 (y.1 : Int))], hL [(0, .box [.int .i64 (0 : Int), .int .i64 (0 : Int), .int .i64 (0 : Int), .int .i64 (0 : Int), .int .i64 (0 : Int), .int .i64 (0 : Int), .int .i64 (0 : Int), .int .i64 (0 : Int), .int .i64 (0 : Int), .int .i64 (0 : Int), .int .i64 (0 : Int), .int .i64 (0 : Int), .int .i64 (0 : Int), .int .i64 (0 : Int), .int .i64 (0 : Int), .int .i64 (0 : Int), .int .i64 (0 : Int), .int .i64 (0 : Int), .int .i64 (0 : Int), .int .i64 (0 : Int), .int .i64 (0 : Int), .int .i64 (0 : Int), .int .i64 (0 : Int), .int .i64 (0 : Int), .int .i64 (0 : Int), .int .i64 (0 : Int), .int .i64 (0 : Int), .int .i64 (0 : Int), .int .i64 (0 : Int), .int .i64 (0 : Int), .int .i64 (0 : Int), .int .i64 (0 : Int), .int .i64 (0 : Int), .int .i64 (0 : Int), .int .i64 (0 : Int), .int .i64 (0 : Int)]), (1, .row 1 (y.2.map iA))], 2⟩) (fun y => x_0.length - y.1) (0, a_2) ⟨Nat.zero_le _, hc_3⟩ (wk_mk [0, 1] [] [] rfl ⟨argP (id := 0) (by (conv => lhs; whnf); all_goals rfl) rfl, argP (id := 1) (by (conv => lhs; whnf); all_goals rfl) rfl, argE (by (conv => lhs; whnf); all_goals rfl) rfl, argE (by (conv => lhs; whnf); all_goals rfl) rfl, argE (by (conv => lhs; whnf); all_goals rfl) rfl, trivial⟩ ⟨boxL rfl rfl rfl ⟨(.ni _ rfl), (.ni _ rfl), (.ni _ rfl), (.ni _ rfl), (.ni _ rfl), (.ni _ rfl), (.ni _ rfl), (.ni _ rfl), (.ni _ rfl), (.ni _ rfl), (.ni _ rfl), (.ni _ rfl), (.ni _ rfl), (.ni _ rfl), (.ni _ rfl), (.ni _ rfl), (.ni _ rfl), (.ni _ rfl), (.ni _ rfl), (.ni _ rfl), (.ni _ rfl), (.ni _ rfl), (.ni _ rfl), (.ni _ rfl), (.ni _ rfl), (.ni _ rfl), (.ni _ rfl), (.ni _ rfl), (.ni _ rfl), (.ni _ rfl), (.ni _ rfl), (.ni _ rfl), (.ni _ rfl), (.ni _ rfl), (.ni _ rfl), (.ni _ rfl), trivial⟩, blkR (fun _ => ⟨rfl, rfl⟩) rfl rfl, trivial⟩) ?_
    rintro ⟨k_15, a_13⟩ ⟨hk_k_15, hL1⟩
    try dsimp only at hk_k_15 hL1
    show awp _ _ _ _ _ _ ⟨eL [(2, .ptr 0 0), (3, .ptr 1 0), (23, .lst 3 (x_0.map encMinimum)), (24, .int .i64 (x_0.length : Int)), (25, .int .i64 (k_15 : Int))], hL [(0, .box [.int .i64 (0 : Int), .int .i64 (0 : Int), .int .i64 (0 : Int), .int .i64 (0 : Int), .int .i64 (0 : Int), .int .i64 (0 : Int), .int .i64 (0 : Int), .int .i64 (0 : Int), .int .i64 (0 : Int), .int .i64 (0 : Int), .int .i64 (0 : Int), .int .i64 (0 : Int), .int .i64 (0 : Int), .int .i64 (0 : Int), .int .i64 (0 : Int), .int .i64 (0 : Int), .int .i64 (0 : Int), .int .i64 (0 : Int), .int .i64 (0 : Int), .int .i64 (0 : Int), .int .i64 (0 : Int), .int .i64 (0 : Int), .int .i64 (0 : Int), .int .i64 (0 : Int), .int .i64 (0 : Int), .int .i64 (0 : Int), .int .i64 (0 : Int), .int .i64 (0 : Int), .int .i64 (0 : Int), .int .i64 (0 : Int), .int .i64 (0 : Int), .int .i64 (0 : Int), .int .i64 (0 : Int), .int .i64 (0 : Int), .int .i64 (0 : Int), .int .i64 (0 : Int)]), (1, .row 1 (a_13.map iA))], 2⟩
    conv => whnf
    refine ⟨fun h => ?_, fun h => ?_⟩
    · have hlt_k_15 : k_15 < x_0.length := by have h := of_decide_eq_true h; omega
      obtain ⟨e_16, h_e_16⟩ : ∃ y, x_0[k_15]? = some y := ⟨_, List.getElem?_eq_getElem hlt_k_15⟩
      rw [drop_cons h_e_16, connect_ways_L3.eq_2] at hL1
      conv => whnf
      refine ⟨k_15, _, rfl, ix_map h_e_16, ?_⟩
      conv => whnf
      obtain ⟨u_17, h_u_17, hL1⟩ := bind_some hL1
      refine ixa_q 6 h_u_17 rfl (fun m_u_17 hm_u_17 => ?_)
      conv => whnf
      obtain ⟨u_18, h_u_18, hL1⟩ := bind_some hL1
      refine ixb_q h_u_18 (fun m_u_18 hm_u_18 => ?_)
      conv => whnf
      obtain ⟨v_19, h_v_19, hL1⟩ := bind_some hL1
      refine st_q (enc := iA) (l := a_13) (x' := e_16.Ticks) (i := ((e_16.From * (6 : Int)) + e_16.To)) (ixad (ixm 6 hm_u_17) hm_u_18) (ixL_at h_v_19 (ixad (ixm 6 hm_u_17) hm_u_18)) rfl (Nat.le_of_ble_eq_true rfl) rfl ?_
      conv => whnf
      refine ⟨by kernel_rfl, ?_⟩
      conv => whnf
      refine ⟨((k_15 + 1 : Nat) : Int), wrapE (by omega) (by omega) (by omega), ?_⟩
      conv => whnf
      exact ⟨(k_15 + 1, (a_13.set ((e_16.From * (6 : Int)) + e_16.To).toNat e_16.Ticks)), [0, 1], [], [], ⟨hlt_k_15, hL1⟩, by show x_0.length - (k_15 + 1) < x_0.length - k_15; omega, wk_mk [0, 1] [] [] rfl ⟨argP (id := 0) (by (conv => lhs; whnf); all_goals rfl) rfl, argP (id := 1) (by (conv => lhs; whnf); all_goals rfl) rfl, argE (by (conv => lhs; whnf); all_goals rfl) rfl, argE (by (conv => lhs; whnf); all_goals rfl) rfl, argE (by (conv => lhs; whnf); all_goals rfl) rfl, trivial⟩ ⟨boxL rfl rfl rfl ⟨(.ni _ rfl), (.ni _ rfl), (.ni _ rfl), (.ni _ rfl), (.ni _ rfl), (.ni _ rfl), (.ni _ rfl), (.ni _ rfl), (.ni _ rfl), (.ni _ rfl), (.ni _ rfl), (.ni _ rfl), (.ni _ rfl), (.ni _ rfl), (.ni _ rfl), (.ni _ rfl), (.ni _ rfl), (.ni _ rfl), (.ni _ rfl), (.ni _ rfl), (.ni _ rfl), (.ni _ rfl), (.ni _ rfl), (.ni _ rfl), (.ni _ rfl), (.ni _ rfl), (.ni _ rfl), (.ni _ rfl), (.ni _ rfl), (.ni _ rfl), (.ni _ rfl), (.ni _ rfl), (.ni _ rfl), (.ni _ rfl), (.ni _ rfl), (.ni _ rfl), trivial⟩, blkR (fun _ => ⟨rfl, rfl⟩) rfl rfl, trivial⟩⟩
    · rw [drop_nil (show x_0.length ≤ k_15 by have h := of_decide_eq_false h; omega), connect_ways_L3.eq_1] at hL1
      conv => whnf
      obtain rfl := Option.some.inj hL1
      replace hF := fin_brk hF
      try dsimp only at hF
      obtain ⟨c_4, hc_4, hF⟩ := fin_some hF
      refine sw_loop tab_ok follows_ok (fun y : Nat × (List Int) × Int => connect_ways_L4 y.1 y.2.1 y.2.2 = some c_4) (fun y => ⟨eL [(2, .ptr 0 0), (3, .ptr 1 0), (38, .int .i64 y.2.2)], hL [(0, .box [.int .i64 (0 : Int), .int .i64 (0 : Int), .int .i64 (0 : Int), .int .i64 (0 : Int), .int .i64 (0 : Int), .int .i64 (0 : Int), .int .i64 (0 : Int), .int .i64 (0 : Int), .int .i64 (0 : Int), .int .i64 (0 : Int), .int .i64 (0 : Int), .int .i64 (0 : Int), .int .i64 (0 : Int), .int .i64 (0 : Int), .int .i64 (0 : Int), .int .i64 (0 : Int), .int .i64 (0 : Int), .int .i64 (0 : Int), .int .i64 (0 : Int), .int .i64 (0 : Int), .int .i64 (0 : Int), .int .i64 (0 : Int), .int .i64 (0 : Int), .int .i64 (0 : Int), .int .i64 (0 : Int), .int .i64 (0 : Int), .int .i64 (0 : Int), .int .i64 (0 : Int), .int .i64 (0 : Int), .int .i64 (0 : Int), .int .i64 (0 : Int), .int .i64 (0 : Int), .int .i64 (0 : Int), .int .i64 (0 : Int), .int .i64 (0 : Int), .int .i64 (0 : Int)]), (1, .row 1 (y.2.1.map iA))], 2⟩) (fun y => y.1) (9223372036854775807, a_13, (0 : Int)) hc_4 (wk_mk [0, 1] [] [] rfl ⟨argP (id := 0) (by (conv => lhs; whnf); all_goals rfl) rfl, argP (id := 1) (by (conv => lhs; whnf); all_goals rfl) rfl, argE (by (conv => lhs; whnf); all_goals rfl) rfl, trivial⟩ ⟨boxL rfl rfl rfl ⟨(.ni _ rfl), (.ni _ rfl), (.ni _ rfl), (.ni _ rfl), (.ni _ rfl), (.ni _ rfl), (.ni _ rfl), (.ni _ rfl), (.ni _ rfl), (.ni _ rfl), (.ni _ rfl), (.ni _ rfl), (.ni _ rfl), (.ni _ rfl), (.ni _ rfl), (.ni _ rfl), (.ni _ rfl), (.ni _ rfl), (.ni _ rfl), (.ni _ rfl), (.ni _ rfl), (.ni _ rfl), (.ni _ rfl), (.ni _ rfl), (.ni _ rfl), (.ni _ rfl), (.ni _ rfl), (.ni _ rfl), (.ni _ rfl), (.ni _ rfl), (.ni _ rfl), (.ni _ rfl), (.ni _ rfl), (.ni _ rfl), (.ni _ rfl), (.ni _ rfl), trivial⟩, blkR (fun _ => ⟨rfl, rfl⟩) rfl rfl, trivial⟩) ?_
      rintro ⟨q_44, a_22, i_23⟩ hL1
      try dsimp only at hL1
      rcases q_44 with _ | q_44
      · rw [connect_ways_L4.eq_1] at hL1
        cases hL1
      rw [connect_ways_L4.eq_2] at hL1
      show awp _ _ _ _ _ _ ⟨eL [(2, .ptr 0 0), (3, .ptr 1 0), (38, .int .i64 i_23)], hL [(0, .box [.int .i64 (0 : Int), .int .i64 (0 : Int), .int .i64 (0 : Int), .int .i64 (0 : Int), .int .i64 (0 : Int), .int .i64 (0 : Int), .int .i64 (0 : Int), .int .i64 (0 : Int), .int .i64 (0 : Int), .int .i64 (0 : Int), .int .i64 (0 : Int), .int .i64 (0 : Int), .int .i64 (0 : Int), .int .i64 (0 : Int), .int .i64 (0 : Int), .int .i64 (0 : Int), .int .i64 (0 : Int), .int .i64 (0 : Int), .int .i64 (0 : Int), .int .i64 (0 : Int), .int .i64 (0 : Int), .int .i64 (0 : Int), .int .i64 (0 : Int), .int .i64 (0 : Int), .int .i64 (0 : Int), .int .i64 (0 : Int), .int .i64 (0 : Int), .int .i64 (0 : Int), .int .i64 (0 : Int), .int .i64 (0 : Int), .int .i64 (0 : Int), .int .i64 (0 : Int), .int .i64 (0 : Int), .int .i64 (0 : Int), .int .i64 (0 : Int), .int .i64 (0 : Int)]), (1, .row 1 (a_22.map iA))], 2⟩
      conv => whnf
      refine ⟨fun hb_70 => ?_, fun hb_70 => ?_⟩
      · replace hL1 := cond_t hb_70 hL1
        conv => whnf
        obtain ⟨c_5, hc_5, hL1⟩ := sub_some hL1
        refine sw_loop tab_ok follows_ok (fun y : Nat × (List Int) × Int => connect_ways_L5 i_23 y.1 y.2.1 y.2.2 = some c_5) (fun y => ⟨eL [(2, .ptr 0 0), (3, .ptr 1 0), (8, .int .i64 i_23), (38, .int .i64 i_23), (41, .int .i64 y.2.2)], hL [(0, .box [.int .i64 (0 : Int), .int .i64 (0 : Int), .int .i64 (0 : Int), .int .i64 (0 : Int), .int .i64 (0 : Int), .int .i64 (0 : Int), .int .i64 (0 : Int), .int .i64 (0 : Int), .int .i64 (0 : Int), .int .i64 (0 : Int), .int .i64 (0 : Int), .int .i64 (0 : Int), .int .i64 (0 : Int), .int .i64 (0 : Int), .int .i64 (0 : Int), .int .i64 (0 : Int), .int .i64 (0 : Int), .int .i64 (0 : Int), .int .i64 (0 : Int), .int .i64 (0 : Int), .int .i64 (0 : Int), .int .i64 (0 : Int), .int .i64 (0 : Int), .int .i64 (0 : Int), .int .i64 (0 : Int), .int .i64 (0 : Int), .int .i64 (0 : Int), .int .i64 (0 : Int), .int .i64 (0 : Int), .int .i64 (0 : Int), .int .i64 (0 : Int), .int .i64 (0 : Int), .int .i64 (0 : Int), .int .i64 (0 : Int), .int .i64 (0 : Int), .int .i64 (0 : Int)]), (1, .row 1 (y.2.1.map iA))], 2⟩) (fun y => y.1) (9223372036854775807, a_22, (0 : Int)) hc_5 (wk_mk [0, 1] [] [] rfl ⟨argP (id := 0) (by (conv => lhs; whnf); all_goals rfl) rfl, argP (id := 1) (by (conv => lhs; whnf); all_goals rfl) rfl, argE (by (conv => lhs; whnf); all_goals rfl) rfl, argE (by (conv => lhs; whnf); all_goals rfl) rfl, argE (by (conv => lhs; whnf); all_goals rfl) rfl, trivial⟩ ⟨boxL rfl rfl rfl ⟨(.ni _ rfl), (.ni _ rfl), (.ni _ rfl), (.ni _ rfl), (.ni _ rfl), (.ni _ rfl), (.ni _ rfl), (.ni _ rfl), (.ni _ rfl), (.ni _ rfl), (.ni _ rfl), (.ni _ rfl), (.ni _ rfl), (.ni _ rfl), (.ni _ rfl), (.ni _ rfl), (.ni _ rfl), (.ni _ rfl), (.ni _ rfl), (.ni _ rfl), (.ni _ rfl), (.ni _ rfl), (.ni _ rfl), (.ni _ rfl), (.ni _ rfl), (.ni _ rfl), (.ni _ rfl), (.ni _ rfl), (.ni _ rfl), (.ni _ rfl), (.ni _ rfl), (.ni _ rfl), (.ni _ rfl), (.ni _ rfl), (.ni _ rfl), (.ni _ rfl), trivial⟩, blkR (fun _ => ⟨rfl, rfl⟩) rfl rfl, trivial⟩) ?_
        rintro ⟨q_42, a_24, i_25⟩ hL2
        try dsimp only at hL2
        rcases q_42 with _ | q_42
        · rw [connect_ways_L5.eq_1] at hL2
          cases hL2
        rw [connect_ways_L5.eq_2] at hL2
        show awp _ _ _ _ _ _ ⟨eL [(2, .ptr 0 0), (3, .ptr 1 0), (8, .int .i64 i_23), (38, .int .i64 i_23), (41, .int .i64 i_25)], hL [(0, .box [.int .i64 (0 : Int), .int .i64 (0 : Int), .int .i64 (0 : Int), .int .i64 (0 : Int), .int .i64 (0 : Int), .int .i64 (0 : Int), .int .i64 (0 : Int), .int .i64 (0 : Int), .int .i64 (0 : Int), .int .i64 (0 : Int), .int .i64 (0 : Int), .int .i64 (0 : Int), .int .i64 (0 : Int), .int .i64 (0 : Int), .int .i64 (0 : Int), .int .i64 (0 : Int), .int .i64 (0 : Int), .int .i64 (0 : Int), .int .i64 (0 : Int), .int .i64 (0 : Int), .int .i64 (0 : Int), .int .i64 (0 : Int), .int .i64 (0 : Int), .int .i64 (0 : Int), .int .i64 (0 : Int), .int .i64 (0 : Int), .int .i64 (0 : Int), .int .i64 (0 : Int), .int .i64 (0 : Int), .int .i64 (0 : Int), .int .i64 (0 : Int), .int .i64 (0 : Int), .int .i64 (0 : Int), .int .i64 (0 : Int), .int .i64 (0 : Int), .int .i64 (0 : Int)]), (1, .row 1 (a_24.map iA))], 2⟩
        conv => whnf
        refine ⟨fun hb_71 => ?_, fun hb_71 => ?_⟩
        · replace hL2 := cond_t hb_71 hL2
          conv => whnf
          obtain ⟨c_6, hc_6, hL2⟩ := sub_some hL2
          refine sw_loop tab_ok follows_ok (fun y : Nat × (List Int) × Int => connect_ways_L6 i_23 i_25 y.1 y.2.1 y.2.2 = some c_6) (fun y => ⟨eL [(2, .ptr 0 0), (3, .ptr 1 0), (8, .int .i64 i_23), (9, .int .i64 i_25), (38, .int .i64 i_23), (41, .int .i64 i_25), (44, .int .i64 y.2.2)], hL [(0, .box [.int .i64 (0 : Int), .int .i64 (0 : Int), .int .i64 (0 : Int), .int .i64 (0 : Int), .int .i64 (0 : Int), .int .i64 (0 : Int), .int .i64 (0 : Int), .int .i64 (0 : Int), .int .i64 (0 : Int), .int .i64 (0 : Int), .int .i64 (0 : Int), .int .i64 (0 : Int), .int .i64 (0 : Int), .int .i64 (0 : Int), .int .i64 (0 : Int), .int .i64 (0 : Int), .int .i64 (0 : Int), .int .i64 (0 : Int), .int .i64 (0 : Int), .int .i64 (0 : Int), .int .i64 (0 : Int), .int .i64 (0 : Int), .int .i64 (0 : Int), .int .i64 (0 : Int), .int .i64 (0 : Int), .int .i64 (0 : Int), .int .i64 (0 : Int), .int .i64 (0 : Int), .int .i64 (0 : Int), .int .i64 (0 : Int), .int .i64 (0 : Int), .int .i64 (0 : Int), .int .i64 (0 : Int), .int .i64 (0 : Int), .int .i64 (0 : Int), .int .i64 (0 : Int)]), (1, .row 1 (y.2.1.map iA))], 2⟩) (fun y => y.1) (9223372036854775807, a_24, (0 : Int)) hc_6 (wk_mk [0, 1] [] [] rfl ⟨argP (id := 0) (by (conv => lhs; whnf); all_goals rfl) rfl, argP (id := 1) (by (conv => lhs; whnf); all_goals rfl) rfl, argE (by (conv => lhs; whnf); all_goals rfl) rfl, argE (by (conv => lhs; whnf); all_goals rfl) rfl, argE (by (conv => lhs; whnf); all_goals rfl) rfl, argE (by (conv => lhs; whnf); all_goals rfl) rfl, argE (by (conv => lhs; whnf); all_goals rfl) rfl, trivial⟩ ⟨boxL rfl rfl rfl ⟨(.ni _ rfl), (.ni _ rfl), (.ni _ rfl), (.ni _ rfl), (.ni _ rfl), (.ni _ rfl), (.ni _ rfl), (.ni _ rfl), (.ni _ rfl), (.ni _ rfl), (.ni _ rfl), (.ni _ rfl), (.ni _ rfl), (.ni _ rfl), (.ni _ rfl), (.ni _ rfl), (.ni _ rfl), (.ni _ rfl), (.ni _ rfl), (.ni _ rfl), (.ni _ rfl), (.ni _ rfl), (.ni _ rfl), (.ni _ rfl), (.ni _ rfl), (.ni _ rfl), (.ni _ rfl), (.ni _ rfl), (.ni _ rfl), (.ni _ rfl), (.ni _ rfl), (.ni _ rfl), (.ni _ rfl), (.ni _ rfl), (.ni _ rfl), (.ni _ rfl), trivial⟩, blkR (fun _ => ⟨rfl, rfl⟩) rfl rfl, trivial⟩) ?_
          rintro ⟨q_40, a_26, i_27⟩ hL3
          try dsimp only at hL3
          rcases q_40 with _ | q_40
          · rw [connect_ways_L6.eq_1] at hL3
            cases hL3
          rw [connect_ways_L6.eq_2] at hL3
          show awp _ _ _ _ _ _ ⟨eL [(2, .ptr 0 0), (3, .ptr 1 0), (8, .int .i64 i_23), (9, .int .i64 i_25), (38, .int .i64 i_23), (41, .int .i64 i_25), (44, .int .i64 i_27)], hL [(0, .box [.int .i64 (0 : Int), .int .i64 (0 : Int), .int .i64 (0 : Int), .int .i64 (0 : Int), .int .i64 (0 : Int), .int .i64 (0 : Int), .int .i64 (0 : Int), .int .i64 (0 : Int), .int .i64 (0 : Int), .int .i64 (0 : Int), .int .i64 (0 : Int), .int .i64 (0 : Int), .int .i64 (0 : Int), .int .i64 (0 : Int), .int .i64 (0 : Int), .int .i64 (0 : Int), .int .i64 (0 : Int), .int .i64 (0 : Int), .int .i64 (0 : Int), .int .i64 (0 : Int), .int .i64 (0 : Int), .int .i64 (0 : Int), .int .i64 (0 : Int), .int .i64 (0 : Int), .int .i64 (0 : Int), .int .i64 (0 : Int), .int .i64 (0 : Int), .int .i64 (0 : Int), .int .i64 (0 : Int), .int .i64 (0 : Int), .int .i64 (0 : Int), .int .i64 (0 : Int), .int .i64 (0 : Int), .int .i64 (0 : Int), .int .i64 (0 : Int), .int .i64 (0 : Int)]), (1, .row 1 (a_26.map iA))], 2⟩
          conv => whnf
          refine ⟨fun hb_72 => ?_, fun hb_72 => ?_⟩
          · replace hL3 := cond_t hb_72 hL3
            conv => whnf
            obtain ⟨u_28, h_u_28, hL3⟩ := bind_some hL3
            refine ixa_q 6 h_u_28 rfl (fun m_u_28 hm_u_28 => ?_)
            conv => whnf
            obtain ⟨u_29, h_u_29, hL3⟩ := bind_some hL3
            refine ixb_q h_u_29 (fun m_u_29 hm_u_29 => ?_)
            conv => whnf
            obtain ⟨v_30, h_v_30, hL3⟩ := bind_some hL3
            refine ⟨_, ix_map (enc := iA) (ixL_at h_v_30 (ixad (ixm 6 hm_u_28) hm_u_29)), ?_⟩
            conv => whnf
            obtain ⟨u_31, h_u_31, hL3⟩ := bind_some hL3
            refine ixa_q 6 h_u_31 rfl (fun m_u_31 hm_u_31 => ?_)
            conv => whnf
            obtain ⟨u_32, h_u_32, hL3⟩ := bind_some hL3
            refine ixb_q h_u_32 (fun m_u_32 hm_u_32 => ?_)
            conv => whnf
            obtain ⟨v_33, h_v_33, hL3⟩ := bind_some hL3
            refine ⟨_, ix_map (enc := iA) (ixL_at h_v_33 (ixad (ixm 6 hm_u_31) hm_u_32)), ?_⟩
            conv => whnf
            obtain ⟨u_34, h_u_34, hL3⟩ := bind_some hL3
            refine ixa_q 6 h_u_34 rfl (fun m_u_34 hm_u_34 => ?_)
            conv => whnf
            obtain ⟨u_35, h_u_35, hL3⟩ := bind_some hL3
            refine ixb_q h_u_35 (fun m_u_35 hm_u_35 => ?_)
            conv => whnf
            obtain ⟨v_36, h_v_36, hL3⟩ := bind_some hL3
            refine ⟨_, ix_map (enc := iA) (ixL_at h_v_36 (ixad (ixm 6 hm_u_34) hm_u_35)), ?_⟩
            conv => whnf
            refine ⟨_, rfl, ?_⟩
            conv => whnf
            obtain ⟨u_37, h_u_37, hL3⟩ := bind_some hL3
            refine ixa_q 6 h_u_37 rfl (fun m_u_37 hm_u_37 => ?_)
            conv => whnf
            obtain ⟨u_38, h_u_38, hL3⟩ := bind_some hL3
            refine ixb_q h_u_38 (fun m_u_38 hm_u_38 => ?_)
            conv => whnf
            obtain ⟨v_39, h_v_39, hL3⟩ := bind_some hL3
            refine st_q (enc := iA) (l := a_26) (x' := (if (w64 (v_33 + v_36)) < v_30 then (w64 (v_33 + v_36)) else v_30)) (i := ((i_25 * (6 : Int)) + i_27)) (ixad (ixm 6 hm_u_37) hm_u_38) (ixL_at h_v_39 (ixad (ixm 6 hm_u_37) hm_u_38)) rfl (Nat.le_of_ble_eq_true rfl) rfl ?_
            conv => whnf
            refine ⟨by kernel_rfl, ?_⟩
            conv => whnf
            refine ⟨_, rfl, ?_⟩
            conv => whnf
            exact ⟨(q_40, (a_26.set ((i_25 * (6 : Int)) + i_27).toNat (if (w64 (v_33 + v_36)) < v_30 then (w64 (v_33 + v_36)) else v_30)), (w64 (i_27 + (1 : Int)))), [0, 1], [], [], hL3, Nat.lt_succ_self _, wk_mk [0, 1] [] [] rfl ⟨argP (id := 0) (by (conv => lhs; whnf); all_goals rfl) rfl, argP (id := 1) (by (conv => lhs; whnf); all_goals rfl) rfl, argE (by (conv => lhs; whnf); all_goals rfl) rfl, argE (by (conv => lhs; whnf); all_goals rfl) rfl, argE (by (conv => lhs; whnf); all_goals rfl) rfl, argE (by (conv => lhs; whnf); all_goals rfl) rfl, argE (by (conv => lhs; whnf); all_goals rfl) rfl, trivial⟩ ⟨boxL rfl rfl rfl ⟨(.ni _ rfl), (.ni _ rfl), (.ni _ rfl), (.ni _ rfl), (.ni _ rfl), (.ni _ rfl), (.ni _ rfl), (.ni _ rfl), (.ni _ rfl), (.ni _ rfl), (.ni _ rfl), (.ni _ rfl), (.ni _ rfl), (.ni _ rfl), (.ni _ rfl), (.ni _ rfl), (.ni _ rfl), (.ni _ rfl), (.ni _ rfl), (.ni _ rfl), (.ni _ rfl), (.ni _ rfl), (.ni _ rfl), (.ni _ rfl), (.ni _ rfl), (.ni _ rfl), (.ni _ rfl), (.ni _ rfl), (.ni _ rfl), (.ni _ rfl), (.ni _ rfl), (.ni _ rfl), (.ni _ rfl), (.ni _ rfl), (.ni _ rfl), (.ni _ rfl), trivial⟩, blkR (fun _ => ⟨rfl, rfl⟩) rfl rfl, trivial⟩⟩
          · replace hL3 := cond_f hb_72 hL3
            conv => whnf
            obtain rfl := Option.some.inj hL3
            replace hL2 := sub_brk hL2
            try dsimp only at hL2
            refine ⟨_, rfl, ?_⟩
            conv => whnf
            exact ⟨(q_42, a_26, (w64 (i_25 + (1 : Int)))), [0, 1], [], [], hL2, Nat.lt_succ_self _, wk_mk [0, 1] [] [] rfl ⟨argP (id := 0) (by (conv => lhs; whnf); all_goals rfl) rfl, argP (id := 1) (by (conv => lhs; whnf); all_goals rfl) rfl, argE (by (conv => lhs; whnf); all_goals rfl) rfl, argE (by (conv => lhs; whnf); all_goals rfl) rfl, argE (by (conv => lhs; whnf); all_goals rfl) rfl, trivial⟩ ⟨boxL rfl rfl rfl ⟨(.ni _ rfl), (.ni _ rfl), (.ni _ rfl), (.ni _ rfl), (.ni _ rfl), (.ni _ rfl), (.ni _ rfl), (.ni _ rfl), (.ni _ rfl), (.ni _ rfl), (.ni _ rfl), (.ni _ rfl), (.ni _ rfl), (.ni _ rfl), (.ni _ rfl), (.ni _ rfl), (.ni _ rfl), (.ni _ rfl), (.ni _ rfl), (.ni _ rfl), (.ni _ rfl), (.ni _ rfl), (.ni _ rfl), (.ni _ rfl), (.ni _ rfl), (.ni _ rfl), (.ni _ rfl), (.ni _ rfl), (.ni _ rfl), (.ni _ rfl), (.ni _ rfl), (.ni _ rfl), (.ni _ rfl), (.ni _ rfl), (.ni _ rfl), (.ni _ rfl), trivial⟩, blkR (fun _ => ⟨rfl, rfl⟩) rfl rfl, trivial⟩⟩
        · replace hL2 := cond_f hb_71 hL2
          conv => whnf
          obtain rfl := Option.some.inj hL2
          replace hL1 := sub_brk hL1
          try dsimp only at hL1
          refine ⟨_, rfl, ?_⟩
          conv => whnf
          exact ⟨(q_44, a_24, (w64 (i_23 + (1 : Int)))), [0, 1], [], [], hL1, Nat.lt_succ_self _, wk_mk [0, 1] [] [] rfl ⟨argP (id := 0) (by (conv => lhs; whnf); all_goals rfl) rfl, argP (id := 1) (by (conv => lhs; whnf); all_goals rfl) rfl, argE (by (conv => lhs; whnf); all_goals rfl) rfl, trivial⟩ ⟨boxL rfl rfl rfl ⟨(.ni _ rfl), (.ni _ rfl), (.ni _ rfl), (.ni _ rfl), (.ni _ rfl), (.ni _ rfl), (.ni _ rfl), (.ni _ rfl), (.ni _ rfl), (.ni _ rfl), (.ni _ rfl), (.ni _ rfl), (.ni _ rfl), (.ni _ rfl), (.ni _ rfl), (.ni _ rfl), (.ni _ rfl), (.ni _ rfl), (.ni _ rfl), (.ni _ rfl), (.ni _ rfl), (.ni _ rfl), (.ni _ rfl), (.ni _ rfl), (.ni _ rfl), (.ni _ rfl), (.ni _ rfl), (.ni _ rfl), (.ni _ rfl), (.ni _ rfl), (.ni _ rfl), (.ni _ rfl), (.ni _ rfl), (.ni _ rfl), (.ni _ rfl), (.ni _ rfl), trivial⟩, blkR (fun _ => ⟨rfl, rfl⟩) rfl rfl, trivial⟩⟩
      · replace hL1 := cond_f hb_70 hL1
        conv => whnf
        obtain rfl := Option.some.inj hL1
        replace hF := fin_brk hF
        try dsimp only at hF
        obtain ⟨u_46, h_u_46, hF⟩ := bind_some hF
        refine ⟨[.int .i64 (a_22.getD 0 (0 : Int)), .int .i64 (a_22.getD 1 (0 : Int)), .int .i64 (a_22.getD 2 (0 : Int)), .int .i64 (a_22.getD 3 (0 : Int)), .int .i64 (a_22.getD 4 (0 : Int)), .int .i64 (a_22.getD 5 (0 : Int)), .int .i64 (a_22.getD 6 (0 : Int)), .int .i64 (a_22.getD 7 (0 : Int)), .int .i64 (a_22.getD 8 (0 : Int)), .int .i64 (a_22.getD 9 (0 : Int)), .int .i64 (a_22.getD 10 (0 : Int)), .int .i64 (a_22.getD 11 (0 : Int)), .int .i64 (a_22.getD 12 (0 : Int)), .int .i64 (a_22.getD 13 (0 : Int)), .int .i64 (a_22.getD 14 (0 : Int)), .int .i64 (a_22.getD 15 (0 : Int)), .int .i64 (a_22.getD 16 (0 : Int)), .int .i64 (a_22.getD 17 (0 : Int)), .int .i64 (a_22.getD 18 (0 : Int)), .int .i64 (a_22.getD 19 (0 : Int)), .int .i64 (a_22.getD 20 (0 : Int)), .int .i64 (a_22.getD 21 (0 : Int)), .int .i64 (a_22.getD 22 (0 : Int)), .int .i64 (a_22.getD 23 (0 : Int)), .int .i64 (a_22.getD 24 (0 : Int)), .int .i64 (a_22.getD 25 (0 : Int)), .int .i64 (a_22.getD 26 (0 : Int)), .int .i64 (a_22.getD 27 (0 : Int)), .int .i64 (a_22.getD 28 (0 : Int)), .int .i64 (a_22.getD 29 (0 : Int)), .int .i64 (a_22.getD 30 (0 : Int)), .int .i64 (a_22.getD 31 (0 : Int)), .int .i64 (a_22.getD 32 (0 : Int)), .int .i64 (a_22.getD 33 (0 : Int)), .int .i64 (a_22.getD 34 (0 : Int)), .int .i64 (a_22.getD 35 (0 : Int))], lda_q (enc := iA) (d := (0 : Int)) h_u_46 rfl, ?_⟩
        conv => whnf
        obtain rfl := Option.some.inj hF
        exact ret_gz [] [] [] rfl (argE (by (conv => lhs; whnf); all_goals rfl) rfl) trivial

set_option maxRecDepth 100000 in
set_option maxHeartbeats 40000000 in
theorem connect_Least_ac (x_0 : (List Minimum)) (x_1 : Int) (x_2 : Int) (r : Int × Bool) (hF : connect_Least x_0 x_1 x_2 = some r) : AC Try.prog 16 [.lst 3 (x_0.map encMinimum), .int .i64 x_1, .int .i64 x_2] [] (.tup [.int .i64 r.1, .bool r.2]) [] := by
  refine ac_of tab_ok follows_ok Try.func16 rfl Try.ntmps16 rfl ?_
  unfold connect_Least at hF
  conv => whnf
  obtain ⟨r_1, h_r_1, hF⟩ := bind_some hF
  refine ⟨_, _, _, _, _, _, _, _, _, callX false [] [] 0 Try.func14 (by decide) rfl (connect_Validate_ac x_0 r_1 h_r_1) rfl ⟨(argE (by (conv => lhs; whnf); all_goals rfl) rfl), trivial⟩ rfl trivial rfl rfl rfl lend0 trivial rfl, ?_⟩
  conv => whnf
  refine ⟨fun hb_82 => ?_, fun hb_82 => ?_⟩
  · replace hF := cond_f hb_82 hF
    conv => whnf
    obtain ⟨r_2, h_r_2, hF⟩ := bind_some hF
    refine ⟨_, _, _, _, _, _, _, _, _, callX false [] [] 0 Try.func33 (by decide) rfl (connect_in_ac x_1 (0 : Int) (5 : Int) r_2 h_r_2) rfl ⟨(argE (by (conv => lhs; whnf); all_goals rfl) rfl), (argE (by (conv => lhs; whnf); all_goals rfl) rfl), (argE (by (conv => lhs; whnf); all_goals rfl) rfl), trivial⟩ rfl trivial rfl rfl rfl lend0 trivial rfl, ?_⟩
    conv => whnf
    refine ⟨fun hb_83 => ?_, fun hb_83 => ?_⟩
    · replace hF := cond_f hb_83 hF
      conv => whnf
      obtain ⟨r_3, h_r_3, hF⟩ := bind_some hF
      refine ⟨_, _, _, _, _, _, _, _, _, callX false [] [] 0 Try.func33 (by decide) rfl (connect_in_ac x_2 (0 : Int) (5 : Int) r_3 h_r_3) rfl ⟨(argE (by (conv => lhs; whnf); all_goals rfl) rfl), (argE (by (conv => lhs; whnf); all_goals rfl) rfl), (argE (by (conv => lhs; whnf); all_goals rfl) rfl), trivial⟩ rfl trivial rfl rfl rfl lend0 trivial rfl, ?_⟩
      conv => whnf
      refine ⟨fun hb_84 => ?_, fun hb_84 => ?_⟩
      · replace hF := cond_t hb_84 hF
        conv => whnf
        obtain rfl := Option.some.inj hF
        exact ret_gz [] [] [] rfl (tupL rfl ⟨(argE (by (conv => lhs; whnf); all_goals rfl) rfl), (argFl (by (conv => lhs; whnf); all_goals rfl)), trivial⟩) trivial
      · replace hF := cond_f hb_84 hF
        conv => whnf
        obtain ⟨r_4, h_r_4, hF⟩ := bind_some hF
        refine ⟨_, _, _, _, _, _, _, _, _, callX false [] [] 0 Try.func35 (by decide) rfl (connect_ways_ac x_0 r_4 h_r_4) rfl ⟨(argE (by (conv => lhs; whnf); all_goals rfl) rfl), trivial⟩ rfl trivial rfl rfl rfl lend0 trivial rfl, ?_⟩
        conv => whnf
        refine (Bool.eq_false_or_eq_true (x_1 == (0 : Int))).elim (fun hi_85 => ?_) (fun hi_85 => ?_)
        · replace hF := cond_t hi_85 hF
          refine ⟨0, eq_of_beq hi_85, by decide, ?_⟩
          conv => whnf
          refine (Bool.eq_false_or_eq_true (x_2 == (0 : Int))).elim (fun hi_86 => ?_) (fun hi_86 => ?_)
          · replace hF := cond_t hi_86 hF
            refine ⟨0, eq_of_beq hi_86, by decide, ?_⟩
            conv => whnf
            refine ⟨fun hb_87 => ?_, fun hb_87 => ?_⟩
            · replace hF := cond_t hb_87 hF
              conv => whnf
              obtain rfl := Option.some.inj hF
              exact ret_gz [] [] [] rfl (tupL rfl ⟨(argE (by (conv => lhs; whnf); all_goals rfl) rfl), (argFl (by (conv => lhs; whnf); all_goals rfl)), trivial⟩) trivial
            · replace hF := cond_f hb_87 hF
              conv => whnf
              obtain rfl := Option.some.inj hF
              exact ret_gz [] [] [] rfl (tupL rfl ⟨(argE (by (conv => lhs; whnf); all_goals rfl) rfl), (argT (by (conv => lhs; whnf); all_goals rfl)), trivial⟩) trivial
          · replace hF := cond_f hi_86 hF
            refine (Bool.eq_false_or_eq_true (x_2 == (1 : Int))).elim (fun hi_88 => ?_) (fun hi_88 => ?_)
            · replace hF := cond_t hi_88 hF
              refine ⟨1, eq_of_beq hi_88, by decide, ?_⟩
              conv => whnf
              refine ⟨fun hb_89 => ?_, fun hb_89 => ?_⟩
              · replace hF := cond_t hb_89 hF
                conv => whnf
                obtain rfl := Option.some.inj hF
                exact ret_gz [] [] [] rfl (tupL rfl ⟨(argE (by (conv => lhs; whnf); all_goals rfl) rfl), (argFl (by (conv => lhs; whnf); all_goals rfl)), trivial⟩) trivial
              · replace hF := cond_f hb_89 hF
                conv => whnf
                obtain rfl := Option.some.inj hF
                exact ret_gz [] [] [] rfl (tupL rfl ⟨(argE (by (conv => lhs; whnf); all_goals rfl) rfl), (argT (by (conv => lhs; whnf); all_goals rfl)), trivial⟩) trivial
            · replace hF := cond_f hi_88 hF
              refine (Bool.eq_false_or_eq_true (x_2 == (2 : Int))).elim (fun hi_90 => ?_) (fun hi_90 => ?_)
              · replace hF := cond_t hi_90 hF
                refine ⟨2, eq_of_beq hi_90, by decide, ?_⟩
                conv => whnf
                refine ⟨fun hb_91 => ?_, fun hb_91 => ?_⟩
                · replace hF := cond_t hb_91 hF
                  conv => whnf
                  obtain rfl := Option.some.inj hF
                  exact ret_gz [] [] [] rfl (tupL rfl ⟨(argE (by (conv => lhs; whnf); all_goals rfl) rfl), (argFl (by (conv => lhs; whnf); all_goals rfl)), trivial⟩) trivial
                · replace hF := cond_f hb_91 hF
                  conv => whnf
                  obtain rfl := Option.some.inj hF
                  exact ret_gz [] [] [] rfl (tupL rfl ⟨(argE (by (conv => lhs; whnf); all_goals rfl) rfl), (argT (by (conv => lhs; whnf); all_goals rfl)), trivial⟩) trivial
              · replace hF := cond_f hi_90 hF
                refine (Bool.eq_false_or_eq_true (x_2 == (3 : Int))).elim (fun hi_92 => ?_) (fun hi_92 => ?_)
                · replace hF := cond_t hi_92 hF
                  refine ⟨3, eq_of_beq hi_92, by decide, ?_⟩
                  conv => whnf
                  refine ⟨fun hb_93 => ?_, fun hb_93 => ?_⟩
                  · replace hF := cond_t hb_93 hF
                    conv => whnf
                    obtain rfl := Option.some.inj hF
                    exact ret_gz [] [] [] rfl (tupL rfl ⟨(argE (by (conv => lhs; whnf); all_goals rfl) rfl), (argFl (by (conv => lhs; whnf); all_goals rfl)), trivial⟩) trivial
                  · replace hF := cond_f hb_93 hF
                    conv => whnf
                    obtain rfl := Option.some.inj hF
                    exact ret_gz [] [] [] rfl (tupL rfl ⟨(argE (by (conv => lhs; whnf); all_goals rfl) rfl), (argT (by (conv => lhs; whnf); all_goals rfl)), trivial⟩) trivial
                · replace hF := cond_f hi_92 hF
                  refine (Bool.eq_false_or_eq_true (x_2 == (4 : Int))).elim (fun hi_94 => ?_) (fun hi_94 => ?_)
                  · replace hF := cond_t hi_94 hF
                    refine ⟨4, eq_of_beq hi_94, by decide, ?_⟩
                    conv => whnf
                    refine ⟨fun hb_95 => ?_, fun hb_95 => ?_⟩
                    · replace hF := cond_t hb_95 hF
                      conv => whnf
                      obtain rfl := Option.some.inj hF
                      exact ret_gz [] [] [] rfl (tupL rfl ⟨(argE (by (conv => lhs; whnf); all_goals rfl) rfl), (argFl (by (conv => lhs; whnf); all_goals rfl)), trivial⟩) trivial
                    · replace hF := cond_f hb_95 hF
                      conv => whnf
                      obtain rfl := Option.some.inj hF
                      exact ret_gz [] [] [] rfl (tupL rfl ⟨(argE (by (conv => lhs; whnf); all_goals rfl) rfl), (argT (by (conv => lhs; whnf); all_goals rfl)), trivial⟩) trivial
                  · replace hF := cond_f hi_94 hF
                    refine (Bool.eq_false_or_eq_true (x_2 == (5 : Int))).elim (fun hi_96 => ?_) (fun hi_96 => ?_)
                    · replace hF := cond_t hi_96 hF
                      refine ⟨5, eq_of_beq hi_96, by decide, ?_⟩
                      conv => whnf
                      refine ⟨fun hb_97 => ?_, fun hb_97 => ?_⟩
                      · replace hF := cond_t hb_97 hF
                        conv => whnf
                        obtain rfl := Option.some.inj hF
                        exact ret_gz [] [] [] rfl (tupL rfl ⟨(argE (by (conv => lhs; whnf); all_goals rfl) rfl), (argFl (by (conv => lhs; whnf); all_goals rfl)), trivial⟩) trivial
                      · replace hF := cond_f hb_97 hF
                        conv => whnf
                        obtain rfl := Option.some.inj hF
                        exact ret_gz [] [] [] rfl (tupL rfl ⟨(argE (by (conv => lhs; whnf); all_goals rfl) rfl), (argT (by (conv => lhs; whnf); all_goals rfl)), trivial⟩) trivial
                    · replace hF := cond_f hi_96 hF
                      cases hF
        · replace hF := cond_f hi_85 hF
          refine (Bool.eq_false_or_eq_true (x_1 == (1 : Int))).elim (fun hi_98 => ?_) (fun hi_98 => ?_)
          · replace hF := cond_t hi_98 hF
            refine ⟨1, eq_of_beq hi_98, by decide, ?_⟩
            conv => whnf
            refine (Bool.eq_false_or_eq_true (x_2 == (0 : Int))).elim (fun hi_99 => ?_) (fun hi_99 => ?_)
            · replace hF := cond_t hi_99 hF
              refine ⟨0, eq_of_beq hi_99, by decide, ?_⟩
              conv => whnf
              refine ⟨fun hb_100 => ?_, fun hb_100 => ?_⟩
              · replace hF := cond_t hb_100 hF
                conv => whnf
                obtain rfl := Option.some.inj hF
                exact ret_gz [] [] [] rfl (tupL rfl ⟨(argE (by (conv => lhs; whnf); all_goals rfl) rfl), (argFl (by (conv => lhs; whnf); all_goals rfl)), trivial⟩) trivial
              · replace hF := cond_f hb_100 hF
                conv => whnf
                obtain rfl := Option.some.inj hF
                exact ret_gz [] [] [] rfl (tupL rfl ⟨(argE (by (conv => lhs; whnf); all_goals rfl) rfl), (argT (by (conv => lhs; whnf); all_goals rfl)), trivial⟩) trivial
            · replace hF := cond_f hi_99 hF
              refine (Bool.eq_false_or_eq_true (x_2 == (1 : Int))).elim (fun hi_101 => ?_) (fun hi_101 => ?_)
              · replace hF := cond_t hi_101 hF
                refine ⟨1, eq_of_beq hi_101, by decide, ?_⟩
                conv => whnf
                refine ⟨fun hb_102 => ?_, fun hb_102 => ?_⟩
                · replace hF := cond_t hb_102 hF
                  conv => whnf
                  obtain rfl := Option.some.inj hF
                  exact ret_gz [] [] [] rfl (tupL rfl ⟨(argE (by (conv => lhs; whnf); all_goals rfl) rfl), (argFl (by (conv => lhs; whnf); all_goals rfl)), trivial⟩) trivial
                · replace hF := cond_f hb_102 hF
                  conv => whnf
                  obtain rfl := Option.some.inj hF
                  exact ret_gz [] [] [] rfl (tupL rfl ⟨(argE (by (conv => lhs; whnf); all_goals rfl) rfl), (argT (by (conv => lhs; whnf); all_goals rfl)), trivial⟩) trivial
              · replace hF := cond_f hi_101 hF
                refine (Bool.eq_false_or_eq_true (x_2 == (2 : Int))).elim (fun hi_103 => ?_) (fun hi_103 => ?_)
                · replace hF := cond_t hi_103 hF
                  refine ⟨2, eq_of_beq hi_103, by decide, ?_⟩
                  conv => whnf
                  refine ⟨fun hb_104 => ?_, fun hb_104 => ?_⟩
                  · replace hF := cond_t hb_104 hF
                    conv => whnf
                    obtain rfl := Option.some.inj hF
                    exact ret_gz [] [] [] rfl (tupL rfl ⟨(argE (by (conv => lhs; whnf); all_goals rfl) rfl), (argFl (by (conv => lhs; whnf); all_goals rfl)), trivial⟩) trivial
                  · replace hF := cond_f hb_104 hF
                    conv => whnf
                    obtain rfl := Option.some.inj hF
                    exact ret_gz [] [] [] rfl (tupL rfl ⟨(argE (by (conv => lhs; whnf); all_goals rfl) rfl), (argT (by (conv => lhs; whnf); all_goals rfl)), trivial⟩) trivial
                · replace hF := cond_f hi_103 hF
                  refine (Bool.eq_false_or_eq_true (x_2 == (3 : Int))).elim (fun hi_105 => ?_) (fun hi_105 => ?_)
                  · replace hF := cond_t hi_105 hF
                    refine ⟨3, eq_of_beq hi_105, by decide, ?_⟩
                    conv => whnf
                    refine ⟨fun hb_106 => ?_, fun hb_106 => ?_⟩
                    · replace hF := cond_t hb_106 hF
                      conv => whnf
                      obtain rfl := Option.some.inj hF
                      exact ret_gz [] [] [] rfl (tupL rfl ⟨(argE (by (conv => lhs; whnf); all_goals rfl) rfl), (argFl (by (conv => lhs; whnf); all_goals rfl)), trivial⟩) trivial
                    · replace hF := cond_f hb_106 hF
                      conv => whnf
                      obtain rfl := Option.some.inj hF
                      exact ret_gz [] [] [] rfl (tupL rfl ⟨(argE (by (conv => lhs; whnf); all_goals rfl) rfl), (argT (by (conv => lhs; whnf); all_goals rfl)), trivial⟩) trivial
                  · replace hF := cond_f hi_105 hF
                    refine (Bool.eq_false_or_eq_true (x_2 == (4 : Int))).elim (fun hi_107 => ?_) (fun hi_107 => ?_)
                    · replace hF := cond_t hi_107 hF
                      refine ⟨4, eq_of_beq hi_107, by decide, ?_⟩
                      conv => whnf
                      refine ⟨fun hb_108 => ?_, fun hb_108 => ?_⟩
                      · replace hF := cond_t hb_108 hF
                        conv => whnf
                        obtain rfl := Option.some.inj hF
                        exact ret_gz [] [] [] rfl (tupL rfl ⟨(argE (by (conv => lhs; whnf); all_goals rfl) rfl), (argFl (by (conv => lhs; whnf); all_goals rfl)), trivial⟩) trivial
                      · replace hF := cond_f hb_108 hF
                        conv => whnf
                        obtain rfl := Option.some.inj hF
                        exact ret_gz [] [] [] rfl (tupL rfl ⟨(argE (by (conv => lhs; whnf); all_goals rfl) rfl), (argT (by (conv => lhs; whnf); all_goals rfl)), trivial⟩) trivial
                    · replace hF := cond_f hi_107 hF
                      refine (Bool.eq_false_or_eq_true (x_2 == (5 : Int))).elim (fun hi_109 => ?_) (fun hi_109 => ?_)
                      · replace hF := cond_t hi_109 hF
                        refine ⟨5, eq_of_beq hi_109, by decide, ?_⟩
                        conv => whnf
                        refine ⟨fun hb_110 => ?_, fun hb_110 => ?_⟩
                        · replace hF := cond_t hb_110 hF
                          conv => whnf
                          obtain rfl := Option.some.inj hF
                          exact ret_gz [] [] [] rfl (tupL rfl ⟨(argE (by (conv => lhs; whnf); all_goals rfl) rfl), (argFl (by (conv => lhs; whnf); all_goals rfl)), trivial⟩) trivial
                        · replace hF := cond_f hb_110 hF
                          conv => whnf
                          obtain rfl := Option.some.inj hF
                          exact ret_gz [] [] [] rfl (tupL rfl ⟨(argE (by (conv => lhs; whnf); all_goals rfl) rfl), (argT (by (conv => lhs; whnf); all_goals rfl)), trivial⟩) trivial
                      · replace hF := cond_f hi_109 hF
                        cases hF
          · replace hF := cond_f hi_98 hF
            refine (Bool.eq_false_or_eq_true (x_1 == (2 : Int))).elim (fun hi_111 => ?_) (fun hi_111 => ?_)
            · replace hF := cond_t hi_111 hF
              refine ⟨2, eq_of_beq hi_111, by decide, ?_⟩
              conv => whnf
              refine (Bool.eq_false_or_eq_true (x_2 == (0 : Int))).elim (fun hi_112 => ?_) (fun hi_112 => ?_)
              · replace hF := cond_t hi_112 hF
                refine ⟨0, eq_of_beq hi_112, by decide, ?_⟩
                conv => whnf
                refine ⟨fun hb_113 => ?_, fun hb_113 => ?_⟩
                · replace hF := cond_t hb_113 hF
                  conv => whnf
                  obtain rfl := Option.some.inj hF
                  exact ret_gz [] [] [] rfl (tupL rfl ⟨(argE (by (conv => lhs; whnf); all_goals rfl) rfl), (argFl (by (conv => lhs; whnf); all_goals rfl)), trivial⟩) trivial
                · replace hF := cond_f hb_113 hF
                  conv => whnf
                  obtain rfl := Option.some.inj hF
                  exact ret_gz [] [] [] rfl (tupL rfl ⟨(argE (by (conv => lhs; whnf); all_goals rfl) rfl), (argT (by (conv => lhs; whnf); all_goals rfl)), trivial⟩) trivial
              · replace hF := cond_f hi_112 hF
                refine (Bool.eq_false_or_eq_true (x_2 == (1 : Int))).elim (fun hi_114 => ?_) (fun hi_114 => ?_)
                · replace hF := cond_t hi_114 hF
                  refine ⟨1, eq_of_beq hi_114, by decide, ?_⟩
                  conv => whnf
                  refine ⟨fun hb_115 => ?_, fun hb_115 => ?_⟩
                  · replace hF := cond_t hb_115 hF
                    conv => whnf
                    obtain rfl := Option.some.inj hF
                    exact ret_gz [] [] [] rfl (tupL rfl ⟨(argE (by (conv => lhs; whnf); all_goals rfl) rfl), (argFl (by (conv => lhs; whnf); all_goals rfl)), trivial⟩) trivial
                  · replace hF := cond_f hb_115 hF
                    conv => whnf
                    obtain rfl := Option.some.inj hF
                    exact ret_gz [] [] [] rfl (tupL rfl ⟨(argE (by (conv => lhs; whnf); all_goals rfl) rfl), (argT (by (conv => lhs; whnf); all_goals rfl)), trivial⟩) trivial
                · replace hF := cond_f hi_114 hF
                  refine (Bool.eq_false_or_eq_true (x_2 == (2 : Int))).elim (fun hi_116 => ?_) (fun hi_116 => ?_)
                  · replace hF := cond_t hi_116 hF
                    refine ⟨2, eq_of_beq hi_116, by decide, ?_⟩
                    conv => whnf
                    refine ⟨fun hb_117 => ?_, fun hb_117 => ?_⟩
                    · replace hF := cond_t hb_117 hF
                      conv => whnf
                      obtain rfl := Option.some.inj hF
                      exact ret_gz [] [] [] rfl (tupL rfl ⟨(argE (by (conv => lhs; whnf); all_goals rfl) rfl), (argFl (by (conv => lhs; whnf); all_goals rfl)), trivial⟩) trivial
                    · replace hF := cond_f hb_117 hF
                      conv => whnf
                      obtain rfl := Option.some.inj hF
                      exact ret_gz [] [] [] rfl (tupL rfl ⟨(argE (by (conv => lhs; whnf); all_goals rfl) rfl), (argT (by (conv => lhs; whnf); all_goals rfl)), trivial⟩) trivial
                  · replace hF := cond_f hi_116 hF
                    refine (Bool.eq_false_or_eq_true (x_2 == (3 : Int))).elim (fun hi_118 => ?_) (fun hi_118 => ?_)
                    · replace hF := cond_t hi_118 hF
                      refine ⟨3, eq_of_beq hi_118, by decide, ?_⟩
                      conv => whnf
                      refine ⟨fun hb_119 => ?_, fun hb_119 => ?_⟩
                      · replace hF := cond_t hb_119 hF
                        conv => whnf
                        obtain rfl := Option.some.inj hF
                        exact ret_gz [] [] [] rfl (tupL rfl ⟨(argE (by (conv => lhs; whnf); all_goals rfl) rfl), (argFl (by (conv => lhs; whnf); all_goals rfl)), trivial⟩) trivial
                      · replace hF := cond_f hb_119 hF
                        conv => whnf
                        obtain rfl := Option.some.inj hF
                        exact ret_gz [] [] [] rfl (tupL rfl ⟨(argE (by (conv => lhs; whnf); all_goals rfl) rfl), (argT (by (conv => lhs; whnf); all_goals rfl)), trivial⟩) trivial
                    · replace hF := cond_f hi_118 hF
                      refine (Bool.eq_false_or_eq_true (x_2 == (4 : Int))).elim (fun hi_120 => ?_) (fun hi_120 => ?_)
                      · replace hF := cond_t hi_120 hF
                        refine ⟨4, eq_of_beq hi_120, by decide, ?_⟩
                        conv => whnf
                        refine ⟨fun hb_121 => ?_, fun hb_121 => ?_⟩
                        · replace hF := cond_t hb_121 hF
                          conv => whnf
                          obtain rfl := Option.some.inj hF
                          exact ret_gz [] [] [] rfl (tupL rfl ⟨(argE (by (conv => lhs; whnf); all_goals rfl) rfl), (argFl (by (conv => lhs; whnf); all_goals rfl)), trivial⟩) trivial
                        · replace hF := cond_f hb_121 hF
                          conv => whnf
                          obtain rfl := Option.some.inj hF
                          exact ret_gz [] [] [] rfl (tupL rfl ⟨(argE (by (conv => lhs; whnf); all_goals rfl) rfl), (argT (by (conv => lhs; whnf); all_goals rfl)), trivial⟩) trivial
                      · replace hF := cond_f hi_120 hF
                        refine (Bool.eq_false_or_eq_true (x_2 == (5 : Int))).elim (fun hi_122 => ?_) (fun hi_122 => ?_)
                        · replace hF := cond_t hi_122 hF
                          refine ⟨5, eq_of_beq hi_122, by decide, ?_⟩
                          conv => whnf
                          refine ⟨fun hb_123 => ?_, fun hb_123 => ?_⟩
                          · replace hF := cond_t hb_123 hF
                            conv => whnf
                            obtain rfl := Option.some.inj hF
                            exact ret_gz [] [] [] rfl (tupL rfl ⟨(argE (by (conv => lhs; whnf); all_goals rfl) rfl), (argFl (by (conv => lhs; whnf); all_goals rfl)), trivial⟩) trivial
                          · replace hF := cond_f hb_123 hF
                            conv => whnf
                            obtain rfl := Option.some.inj hF
                            exact ret_gz [] [] [] rfl (tupL rfl ⟨(argE (by (conv => lhs; whnf); all_goals rfl) rfl), (argT (by (conv => lhs; whnf); all_goals rfl)), trivial⟩) trivial
                        · replace hF := cond_f hi_122 hF
                          cases hF
            · replace hF := cond_f hi_111 hF
              refine (Bool.eq_false_or_eq_true (x_1 == (3 : Int))).elim (fun hi_124 => ?_) (fun hi_124 => ?_)
              · replace hF := cond_t hi_124 hF
                refine ⟨3, eq_of_beq hi_124, by decide, ?_⟩
                conv => whnf
                refine (Bool.eq_false_or_eq_true (x_2 == (0 : Int))).elim (fun hi_125 => ?_) (fun hi_125 => ?_)
                · replace hF := cond_t hi_125 hF
                  refine ⟨0, eq_of_beq hi_125, by decide, ?_⟩
                  conv => whnf
                  refine ⟨fun hb_126 => ?_, fun hb_126 => ?_⟩
                  · replace hF := cond_t hb_126 hF
                    conv => whnf
                    obtain rfl := Option.some.inj hF
                    exact ret_gz [] [] [] rfl (tupL rfl ⟨(argE (by (conv => lhs; whnf); all_goals rfl) rfl), (argFl (by (conv => lhs; whnf); all_goals rfl)), trivial⟩) trivial
                  · replace hF := cond_f hb_126 hF
                    conv => whnf
                    obtain rfl := Option.some.inj hF
                    exact ret_gz [] [] [] rfl (tupL rfl ⟨(argE (by (conv => lhs; whnf); all_goals rfl) rfl), (argT (by (conv => lhs; whnf); all_goals rfl)), trivial⟩) trivial
                · replace hF := cond_f hi_125 hF
                  refine (Bool.eq_false_or_eq_true (x_2 == (1 : Int))).elim (fun hi_127 => ?_) (fun hi_127 => ?_)
                  · replace hF := cond_t hi_127 hF
                    refine ⟨1, eq_of_beq hi_127, by decide, ?_⟩
                    conv => whnf
                    refine ⟨fun hb_128 => ?_, fun hb_128 => ?_⟩
                    · replace hF := cond_t hb_128 hF
                      conv => whnf
                      obtain rfl := Option.some.inj hF
                      exact ret_gz [] [] [] rfl (tupL rfl ⟨(argE (by (conv => lhs; whnf); all_goals rfl) rfl), (argFl (by (conv => lhs; whnf); all_goals rfl)), trivial⟩) trivial
                    · replace hF := cond_f hb_128 hF
                      conv => whnf
                      obtain rfl := Option.some.inj hF
                      exact ret_gz [] [] [] rfl (tupL rfl ⟨(argE (by (conv => lhs; whnf); all_goals rfl) rfl), (argT (by (conv => lhs; whnf); all_goals rfl)), trivial⟩) trivial
                  · replace hF := cond_f hi_127 hF
                    refine (Bool.eq_false_or_eq_true (x_2 == (2 : Int))).elim (fun hi_129 => ?_) (fun hi_129 => ?_)
                    · replace hF := cond_t hi_129 hF
                      refine ⟨2, eq_of_beq hi_129, by decide, ?_⟩
                      conv => whnf
                      refine ⟨fun hb_130 => ?_, fun hb_130 => ?_⟩
                      · replace hF := cond_t hb_130 hF
                        conv => whnf
                        obtain rfl := Option.some.inj hF
                        exact ret_gz [] [] [] rfl (tupL rfl ⟨(argE (by (conv => lhs; whnf); all_goals rfl) rfl), (argFl (by (conv => lhs; whnf); all_goals rfl)), trivial⟩) trivial
                      · replace hF := cond_f hb_130 hF
                        conv => whnf
                        obtain rfl := Option.some.inj hF
                        exact ret_gz [] [] [] rfl (tupL rfl ⟨(argE (by (conv => lhs; whnf); all_goals rfl) rfl), (argT (by (conv => lhs; whnf); all_goals rfl)), trivial⟩) trivial
                    · replace hF := cond_f hi_129 hF
                      refine (Bool.eq_false_or_eq_true (x_2 == (3 : Int))).elim (fun hi_131 => ?_) (fun hi_131 => ?_)
                      · replace hF := cond_t hi_131 hF
                        refine ⟨3, eq_of_beq hi_131, by decide, ?_⟩
                        conv => whnf
                        refine ⟨fun hb_132 => ?_, fun hb_132 => ?_⟩
                        · replace hF := cond_t hb_132 hF
                          conv => whnf
                          obtain rfl := Option.some.inj hF
                          exact ret_gz [] [] [] rfl (tupL rfl ⟨(argE (by (conv => lhs; whnf); all_goals rfl) rfl), (argFl (by (conv => lhs; whnf); all_goals rfl)), trivial⟩) trivial
                        · replace hF := cond_f hb_132 hF
                          conv => whnf
                          obtain rfl := Option.some.inj hF
                          exact ret_gz [] [] [] rfl (tupL rfl ⟨(argE (by (conv => lhs; whnf); all_goals rfl) rfl), (argT (by (conv => lhs; whnf); all_goals rfl)), trivial⟩) trivial
                      · replace hF := cond_f hi_131 hF
                        refine (Bool.eq_false_or_eq_true (x_2 == (4 : Int))).elim (fun hi_133 => ?_) (fun hi_133 => ?_)
                        · replace hF := cond_t hi_133 hF
                          refine ⟨4, eq_of_beq hi_133, by decide, ?_⟩
                          conv => whnf
                          refine ⟨fun hb_134 => ?_, fun hb_134 => ?_⟩
                          · replace hF := cond_t hb_134 hF
                            conv => whnf
                            obtain rfl := Option.some.inj hF
                            exact ret_gz [] [] [] rfl (tupL rfl ⟨(argE (by (conv => lhs; whnf); all_goals rfl) rfl), (argFl (by (conv => lhs; whnf); all_goals rfl)), trivial⟩) trivial
                          · replace hF := cond_f hb_134 hF
                            conv => whnf
                            obtain rfl := Option.some.inj hF
                            exact ret_gz [] [] [] rfl (tupL rfl ⟨(argE (by (conv => lhs; whnf); all_goals rfl) rfl), (argT (by (conv => lhs; whnf); all_goals rfl)), trivial⟩) trivial
                        · replace hF := cond_f hi_133 hF
                          refine (Bool.eq_false_or_eq_true (x_2 == (5 : Int))).elim (fun hi_135 => ?_) (fun hi_135 => ?_)
                          · replace hF := cond_t hi_135 hF
                            refine ⟨5, eq_of_beq hi_135, by decide, ?_⟩
                            conv => whnf
                            refine ⟨fun hb_136 => ?_, fun hb_136 => ?_⟩
                            · replace hF := cond_t hb_136 hF
                              conv => whnf
                              obtain rfl := Option.some.inj hF
                              exact ret_gz [] [] [] rfl (tupL rfl ⟨(argE (by (conv => lhs; whnf); all_goals rfl) rfl), (argFl (by (conv => lhs; whnf); all_goals rfl)), trivial⟩) trivial
                            · replace hF := cond_f hb_136 hF
                              conv => whnf
                              obtain rfl := Option.some.inj hF
                              exact ret_gz [] [] [] rfl (tupL rfl ⟨(argE (by (conv => lhs; whnf); all_goals rfl) rfl), (argT (by (conv => lhs; whnf); all_goals rfl)), trivial⟩) trivial
                          · replace hF := cond_f hi_135 hF
                            cases hF
              · replace hF := cond_f hi_124 hF
                refine (Bool.eq_false_or_eq_true (x_1 == (4 : Int))).elim (fun hi_137 => ?_) (fun hi_137 => ?_)
                · replace hF := cond_t hi_137 hF
                  refine ⟨4, eq_of_beq hi_137, by decide, ?_⟩
                  conv => whnf
                  refine (Bool.eq_false_or_eq_true (x_2 == (0 : Int))).elim (fun hi_138 => ?_) (fun hi_138 => ?_)
                  · replace hF := cond_t hi_138 hF
                    refine ⟨0, eq_of_beq hi_138, by decide, ?_⟩
                    conv => whnf
                    refine ⟨fun hb_139 => ?_, fun hb_139 => ?_⟩
                    · replace hF := cond_t hb_139 hF
                      conv => whnf
                      obtain rfl := Option.some.inj hF
                      exact ret_gz [] [] [] rfl (tupL rfl ⟨(argE (by (conv => lhs; whnf); all_goals rfl) rfl), (argFl (by (conv => lhs; whnf); all_goals rfl)), trivial⟩) trivial
                    · replace hF := cond_f hb_139 hF
                      conv => whnf
                      obtain rfl := Option.some.inj hF
                      exact ret_gz [] [] [] rfl (tupL rfl ⟨(argE (by (conv => lhs; whnf); all_goals rfl) rfl), (argT (by (conv => lhs; whnf); all_goals rfl)), trivial⟩) trivial
                  · replace hF := cond_f hi_138 hF
                    refine (Bool.eq_false_or_eq_true (x_2 == (1 : Int))).elim (fun hi_140 => ?_) (fun hi_140 => ?_)
                    · replace hF := cond_t hi_140 hF
                      refine ⟨1, eq_of_beq hi_140, by decide, ?_⟩
                      conv => whnf
                      refine ⟨fun hb_141 => ?_, fun hb_141 => ?_⟩
                      · replace hF := cond_t hb_141 hF
                        conv => whnf
                        obtain rfl := Option.some.inj hF
                        exact ret_gz [] [] [] rfl (tupL rfl ⟨(argE (by (conv => lhs; whnf); all_goals rfl) rfl), (argFl (by (conv => lhs; whnf); all_goals rfl)), trivial⟩) trivial
                      · replace hF := cond_f hb_141 hF
                        conv => whnf
                        obtain rfl := Option.some.inj hF
                        exact ret_gz [] [] [] rfl (tupL rfl ⟨(argE (by (conv => lhs; whnf); all_goals rfl) rfl), (argT (by (conv => lhs; whnf); all_goals rfl)), trivial⟩) trivial
                    · replace hF := cond_f hi_140 hF
                      refine (Bool.eq_false_or_eq_true (x_2 == (2 : Int))).elim (fun hi_142 => ?_) (fun hi_142 => ?_)
                      · replace hF := cond_t hi_142 hF
                        refine ⟨2, eq_of_beq hi_142, by decide, ?_⟩
                        conv => whnf
                        refine ⟨fun hb_143 => ?_, fun hb_143 => ?_⟩
                        · replace hF := cond_t hb_143 hF
                          conv => whnf
                          obtain rfl := Option.some.inj hF
                          exact ret_gz [] [] [] rfl (tupL rfl ⟨(argE (by (conv => lhs; whnf); all_goals rfl) rfl), (argFl (by (conv => lhs; whnf); all_goals rfl)), trivial⟩) trivial
                        · replace hF := cond_f hb_143 hF
                          conv => whnf
                          obtain rfl := Option.some.inj hF
                          exact ret_gz [] [] [] rfl (tupL rfl ⟨(argE (by (conv => lhs; whnf); all_goals rfl) rfl), (argT (by (conv => lhs; whnf); all_goals rfl)), trivial⟩) trivial
                      · replace hF := cond_f hi_142 hF
                        refine (Bool.eq_false_or_eq_true (x_2 == (3 : Int))).elim (fun hi_144 => ?_) (fun hi_144 => ?_)
                        · replace hF := cond_t hi_144 hF
                          refine ⟨3, eq_of_beq hi_144, by decide, ?_⟩
                          conv => whnf
                          refine ⟨fun hb_145 => ?_, fun hb_145 => ?_⟩
                          · replace hF := cond_t hb_145 hF
                            conv => whnf
                            obtain rfl := Option.some.inj hF
                            exact ret_gz [] [] [] rfl (tupL rfl ⟨(argE (by (conv => lhs; whnf); all_goals rfl) rfl), (argFl (by (conv => lhs; whnf); all_goals rfl)), trivial⟩) trivial
                          · replace hF := cond_f hb_145 hF
                            conv => whnf
                            obtain rfl := Option.some.inj hF
                            exact ret_gz [] [] [] rfl (tupL rfl ⟨(argE (by (conv => lhs; whnf); all_goals rfl) rfl), (argT (by (conv => lhs; whnf); all_goals rfl)), trivial⟩) trivial
                        · replace hF := cond_f hi_144 hF
                          refine (Bool.eq_false_or_eq_true (x_2 == (4 : Int))).elim (fun hi_146 => ?_) (fun hi_146 => ?_)
                          · replace hF := cond_t hi_146 hF
                            refine ⟨4, eq_of_beq hi_146, by decide, ?_⟩
                            conv => whnf
                            refine ⟨fun hb_147 => ?_, fun hb_147 => ?_⟩
                            · replace hF := cond_t hb_147 hF
                              conv => whnf
                              obtain rfl := Option.some.inj hF
                              exact ret_gz [] [] [] rfl (tupL rfl ⟨(argE (by (conv => lhs; whnf); all_goals rfl) rfl), (argFl (by (conv => lhs; whnf); all_goals rfl)), trivial⟩) trivial
                            · replace hF := cond_f hb_147 hF
                              conv => whnf
                              obtain rfl := Option.some.inj hF
                              exact ret_gz [] [] [] rfl (tupL rfl ⟨(argE (by (conv => lhs; whnf); all_goals rfl) rfl), (argT (by (conv => lhs; whnf); all_goals rfl)), trivial⟩) trivial
                          · replace hF := cond_f hi_146 hF
                            refine (Bool.eq_false_or_eq_true (x_2 == (5 : Int))).elim (fun hi_148 => ?_) (fun hi_148 => ?_)
                            · replace hF := cond_t hi_148 hF
                              refine ⟨5, eq_of_beq hi_148, by decide, ?_⟩
                              conv => whnf
                              refine ⟨fun hb_149 => ?_, fun hb_149 => ?_⟩
                              · replace hF := cond_t hb_149 hF
                                conv => whnf
                                obtain rfl := Option.some.inj hF
                                exact ret_gz [] [] [] rfl (tupL rfl ⟨(argE (by (conv => lhs; whnf); all_goals rfl) rfl), (argFl (by (conv => lhs; whnf); all_goals rfl)), trivial⟩) trivial
                              · replace hF := cond_f hb_149 hF
                                conv => whnf
                                obtain rfl := Option.some.inj hF
                                exact ret_gz [] [] [] rfl (tupL rfl ⟨(argE (by (conv => lhs; whnf); all_goals rfl) rfl), (argT (by (conv => lhs; whnf); all_goals rfl)), trivial⟩) trivial
                            · replace hF := cond_f hi_148 hF
                              cases hF
                · replace hF := cond_f hi_137 hF
                  refine (Bool.eq_false_or_eq_true (x_1 == (5 : Int))).elim (fun hi_150 => ?_) (fun hi_150 => ?_)
                  · replace hF := cond_t hi_150 hF
                    refine ⟨5, eq_of_beq hi_150, by decide, ?_⟩
                    conv => whnf
                    refine (Bool.eq_false_or_eq_true (x_2 == (0 : Int))).elim (fun hi_151 => ?_) (fun hi_151 => ?_)
                    · replace hF := cond_t hi_151 hF
                      refine ⟨0, eq_of_beq hi_151, by decide, ?_⟩
                      conv => whnf
                      refine ⟨fun hb_152 => ?_, fun hb_152 => ?_⟩
                      · replace hF := cond_t hb_152 hF
                        conv => whnf
                        obtain rfl := Option.some.inj hF
                        exact ret_gz [] [] [] rfl (tupL rfl ⟨(argE (by (conv => lhs; whnf); all_goals rfl) rfl), (argFl (by (conv => lhs; whnf); all_goals rfl)), trivial⟩) trivial
                      · replace hF := cond_f hb_152 hF
                        conv => whnf
                        obtain rfl := Option.some.inj hF
                        exact ret_gz [] [] [] rfl (tupL rfl ⟨(argE (by (conv => lhs; whnf); all_goals rfl) rfl), (argT (by (conv => lhs; whnf); all_goals rfl)), trivial⟩) trivial
                    · replace hF := cond_f hi_151 hF
                      refine (Bool.eq_false_or_eq_true (x_2 == (1 : Int))).elim (fun hi_153 => ?_) (fun hi_153 => ?_)
                      · replace hF := cond_t hi_153 hF
                        refine ⟨1, eq_of_beq hi_153, by decide, ?_⟩
                        conv => whnf
                        refine ⟨fun hb_154 => ?_, fun hb_154 => ?_⟩
                        · replace hF := cond_t hb_154 hF
                          conv => whnf
                          obtain rfl := Option.some.inj hF
                          exact ret_gz [] [] [] rfl (tupL rfl ⟨(argE (by (conv => lhs; whnf); all_goals rfl) rfl), (argFl (by (conv => lhs; whnf); all_goals rfl)), trivial⟩) trivial
                        · replace hF := cond_f hb_154 hF
                          conv => whnf
                          obtain rfl := Option.some.inj hF
                          exact ret_gz [] [] [] rfl (tupL rfl ⟨(argE (by (conv => lhs; whnf); all_goals rfl) rfl), (argT (by (conv => lhs; whnf); all_goals rfl)), trivial⟩) trivial
                      · replace hF := cond_f hi_153 hF
                        refine (Bool.eq_false_or_eq_true (x_2 == (2 : Int))).elim (fun hi_155 => ?_) (fun hi_155 => ?_)
                        · replace hF := cond_t hi_155 hF
                          refine ⟨2, eq_of_beq hi_155, by decide, ?_⟩
                          conv => whnf
                          refine ⟨fun hb_156 => ?_, fun hb_156 => ?_⟩
                          · replace hF := cond_t hb_156 hF
                            conv => whnf
                            obtain rfl := Option.some.inj hF
                            exact ret_gz [] [] [] rfl (tupL rfl ⟨(argE (by (conv => lhs; whnf); all_goals rfl) rfl), (argFl (by (conv => lhs; whnf); all_goals rfl)), trivial⟩) trivial
                          · replace hF := cond_f hb_156 hF
                            conv => whnf
                            obtain rfl := Option.some.inj hF
                            exact ret_gz [] [] [] rfl (tupL rfl ⟨(argE (by (conv => lhs; whnf); all_goals rfl) rfl), (argT (by (conv => lhs; whnf); all_goals rfl)), trivial⟩) trivial
                        · replace hF := cond_f hi_155 hF
                          refine (Bool.eq_false_or_eq_true (x_2 == (3 : Int))).elim (fun hi_157 => ?_) (fun hi_157 => ?_)
                          · replace hF := cond_t hi_157 hF
                            refine ⟨3, eq_of_beq hi_157, by decide, ?_⟩
                            conv => whnf
                            refine ⟨fun hb_158 => ?_, fun hb_158 => ?_⟩
                            · replace hF := cond_t hb_158 hF
                              conv => whnf
                              obtain rfl := Option.some.inj hF
                              exact ret_gz [] [] [] rfl (tupL rfl ⟨(argE (by (conv => lhs; whnf); all_goals rfl) rfl), (argFl (by (conv => lhs; whnf); all_goals rfl)), trivial⟩) trivial
                            · replace hF := cond_f hb_158 hF
                              conv => whnf
                              obtain rfl := Option.some.inj hF
                              exact ret_gz [] [] [] rfl (tupL rfl ⟨(argE (by (conv => lhs; whnf); all_goals rfl) rfl), (argT (by (conv => lhs; whnf); all_goals rfl)), trivial⟩) trivial
                          · replace hF := cond_f hi_157 hF
                            refine (Bool.eq_false_or_eq_true (x_2 == (4 : Int))).elim (fun hi_159 => ?_) (fun hi_159 => ?_)
                            · replace hF := cond_t hi_159 hF
                              refine ⟨4, eq_of_beq hi_159, by decide, ?_⟩
                              conv => whnf
                              refine ⟨fun hb_160 => ?_, fun hb_160 => ?_⟩
                              · replace hF := cond_t hb_160 hF
                                conv => whnf
                                obtain rfl := Option.some.inj hF
                                exact ret_gz [] [] [] rfl (tupL rfl ⟨(argE (by (conv => lhs; whnf); all_goals rfl) rfl), (argFl (by (conv => lhs; whnf); all_goals rfl)), trivial⟩) trivial
                              · replace hF := cond_f hb_160 hF
                                conv => whnf
                                obtain rfl := Option.some.inj hF
                                exact ret_gz [] [] [] rfl (tupL rfl ⟨(argE (by (conv => lhs; whnf); all_goals rfl) rfl), (argT (by (conv => lhs; whnf); all_goals rfl)), trivial⟩) trivial
                            · replace hF := cond_f hi_159 hF
                              refine (Bool.eq_false_or_eq_true (x_2 == (5 : Int))).elim (fun hi_161 => ?_) (fun hi_161 => ?_)
                              · replace hF := cond_t hi_161 hF
                                refine ⟨5, eq_of_beq hi_161, by decide, ?_⟩
                                conv => whnf
                                refine ⟨fun hb_162 => ?_, fun hb_162 => ?_⟩
                                · replace hF := cond_t hb_162 hF
                                  conv => whnf
                                  obtain rfl := Option.some.inj hF
                                  exact ret_gz [] [] [] rfl (tupL rfl ⟨(argE (by (conv => lhs; whnf); all_goals rfl) rfl), (argFl (by (conv => lhs; whnf); all_goals rfl)), trivial⟩) trivial
                                · replace hF := cond_f hb_162 hF
                                  conv => whnf
                                  obtain rfl := Option.some.inj hF
                                  exact ret_gz [] [] [] rfl (tupL rfl ⟨(argE (by (conv => lhs; whnf); all_goals rfl) rfl), (argT (by (conv => lhs; whnf); all_goals rfl)), trivial⟩) trivial
                              · replace hF := cond_f hi_161 hF
                                cases hF
                  · replace hF := cond_f hi_150 hF
                    cases hF
    · replace hF := cond_t hb_83 hF
      conv => whnf
      obtain rfl := Option.some.inj hF
      exact ret_gz [] [] [] rfl (tupL rfl ⟨(argE (by (conv => lhs; whnf); all_goals rfl) rfl), (argFl (by (conv => lhs; whnf); all_goals rfl)), trivial⟩) trivial
  · replace hF := cond_t hb_82 hF
    conv => whnf
    obtain rfl := Option.some.inj hF
    exact ret_gz [] [] [] rfl (tupL rfl ⟨(argE (by (conv => lhs; whnf); all_goals rfl) rfl), (argFl (by (conv => lhs; whnf); all_goals rfl)), trivial⟩) trivial

set_option maxRecDepth 100000 in
set_option maxHeartbeats 40000000 in
theorem ref24_Least_ac (x_0 : (List Minimum)) (x_1 : Int) (x_2 : Int) (r : Int × Bool) (hF : ref24_Least x_0 x_1 x_2 = some r) : AC Try.prog 17 [.lst 3 (x_0.map encMinimum), .int .i64 x_1, .int .i64 x_2] [] (.tup [.int .i64 r.1, .bool r.2]) [] := by
  refine ac_of tab_ok follows_ok Try.func17 rfl Try.ntmps17 rfl ?_
  unfold ref24_Least at hF
  conv => whnf
  obtain ⟨r_1, h_r_1, hF⟩ := bind_some hF
  refine ⟨_, _, _, _, _, _, _, _, _, callX false [] [] 0 Try.func15 (by decide) rfl (ref24_Validate_ac x_0 r_1 h_r_1) rfl ⟨(argE (by (conv => lhs; whnf); all_goals rfl) rfl), trivial⟩ rfl trivial rfl rfl rfl lend0 trivial rfl, ?_⟩
  conv => whnf
  refine ⟨fun hb_37 => ?_, fun hb_37 => ?_⟩
  · replace hF := cond_f hb_37 hF
    conv => whnf
    obtain ⟨r_2, h_r_2, hF⟩ := bind_some hF
    refine ⟨_, _, _, _, _, _, _, _, _, callX false [] [] 0 Try.func34 (by decide) rfl (ref24_terminal_ac x_1 r_2 h_r_2) rfl ⟨(argE (by (conv => lhs; whnf); all_goals rfl) rfl), trivial⟩ rfl trivial rfl rfl rfl lend0 trivial rfl, ?_⟩
    conv => whnf
    refine ⟨fun hb_38 => ?_, fun hb_38 => ?_⟩
    · replace hF := cond_f hb_38 hF
      conv => whnf
      obtain ⟨r_3, h_r_3, hF⟩ := bind_some hF
      refine ⟨_, _, _, _, _, _, _, _, _, callX false [] [] 0 Try.func34 (by decide) rfl (ref24_terminal_ac x_2 r_3 h_r_3) rfl ⟨(argE (by (conv => lhs; whnf); all_goals rfl) rfl), trivial⟩ rfl trivial rfl rfl rfl lend0 trivial rfl, ?_⟩
      conv => whnf
      refine ⟨fun hb_39 => ?_, fun hb_39 => ?_⟩
      · replace hF := cond_t hb_39 hF
        conv => whnf
        obtain rfl := Option.some.inj hF
        exact ret_gz [] [] [] rfl (tupL rfl ⟨(argE (by (conv => lhs; whnf); all_goals rfl) rfl), (argFl (by (conv => lhs; whnf); all_goals rfl)), trivial⟩) trivial
      · replace hF := cond_f hb_39 hF
        conv => whnf
        obtain ⟨l_4, h_l_4, hF⟩ := bind_some hF
        refine .inl (al_q (enc := iA) h_l_4 rfl rfl (by decide) (Nat.le_of_ble_eq_true rfl) (by kernel_rfl) ?_)
        conv => whnf
        obtain ⟨c_1, hc_1, hF⟩ := fin_some hF
        refine sw_loop tab_ok follows_ok (fun y : Nat × (List Int) × Int => ref24_Least_L1 y.1 y.2.1 y.2.2 = some c_1) (fun y => ⟨eL [(0, .lst 3 (x_0.map encMinimum)), (1, .int .i64 x_1), (2, .int .i64 x_2), (8, .ptr 0 0), (26, .int .i64 y.2.2)], hL [(0, .row 1 (y.2.1.map iA))], 1⟩) (fun y => y.1) (9223372036854775807, l_4, (0 : Int)) hc_1 (wk_mk [3] [] [] rfl ⟨argE (by (conv => lhs; whnf); all_goals rfl) rfl, argE (by (conv => lhs; whnf); all_goals rfl) rfl, argE (by (conv => lhs; whnf); all_goals rfl) rfl, argP (id := 3) (by (conv => lhs; whnf); all_goals rfl) rfl, argE (by (conv => lhs; whnf); all_goals rfl) rfl, trivial⟩ ⟨blkR (fun _ => ⟨rfl, rfl⟩) rfl rfl, trivial⟩) ?_
        rintro ⟨q_9, a_5, i_6⟩ hL1
        try dsimp only at hL1
        rcases q_9 with _ | q_9
        · rw [ref24_Least_L1.eq_1] at hL1
          cases hL1
        rw [ref24_Least_L1.eq_2] at hL1
        show awp _ _ _ _ _ _ ⟨eL [(0, .lst 3 (x_0.map encMinimum)), (1, .int .i64 x_1), (2, .int .i64 x_2), (8, .ptr 0 0), (26, .int .i64 i_6)], hL [(0, .row 1 (a_5.map iA))], 1⟩
        conv => whnf
        refine ⟨fun hb_40 => ?_, fun hb_40 => ?_⟩
        · replace hL1 := cond_t hb_40 hL1
          conv => whnf
          obtain ⟨u_7, h_u_7, hL1⟩ := bind_some hL1
          refine ixa_q 1 h_u_7 rfl (fun m_u_7 hm_u_7 => ?_)
          conv => whnf
          obtain ⟨v_8, h_v_8, hL1⟩ := bind_some hL1
          refine st_q (enc := iA) (l := a_5) (x' := (1099511627776 : Int)) (i := i_6) (ixm1 hm_u_7) (ixL_at h_v_8 (ixm1 hm_u_7)) rfl (Nat.le_of_ble_eq_true rfl) rfl ?_
          conv => whnf
          refine ⟨_, rfl, ?_⟩
          conv => whnf
          exact ⟨(q_9, (a_5.set i_6.toNat (1099511627776 : Int)), (w64 (i_6 + (1 : Int)))), [0], [], [], hL1, Nat.lt_succ_self _, wk_mk [0] [] [] rfl ⟨argE (by (conv => lhs; whnf); all_goals rfl) rfl, argE (by (conv => lhs; whnf); all_goals rfl) rfl, argE (by (conv => lhs; whnf); all_goals rfl) rfl, argP (id := 0) (by (conv => lhs; whnf); all_goals rfl) rfl, argE (by (conv => lhs; whnf); all_goals rfl) rfl, trivial⟩ ⟨blkR (fun _ => ⟨rfl, rfl⟩) rfl rfl, trivial⟩⟩
        · replace hL1 := cond_f hb_40 hL1
          conv => whnf
          obtain rfl := Option.some.inj hL1
          replace hF := fin_brk hF
          try dsimp only at hF
          obtain ⟨c_2, hc_2, hF⟩ := fin_some hF
          refine sw_bv 0 (v := .lst 3 (x_0.map encMinimum)) (by (conv => lhs; whnf); all_goals rfl) (fun hb => ?_)
          have hbd_k_13 : x_0.length ≤ 9223372036854775807 := bnd_len (enc := encMinimum) (hb)
          refine sw_loop tab_ok follows_ok (fun y : Nat × (List Int) => y.1 ≤ x_0.length ∧ ref24_Least_L2 x_1 (x_0.drop y.1) y.1 y.2 = some c_2) (fun y => ⟨eL [(0, .lst 3 (x_0.map encMinimum)), (1, .int .i64 x_1), (2, .int .i64 x_2), (8, .ptr 0 0), (10, .int .i64 (y.1 : Int))], hL [(0, .row 1 (y.2.map iA))], 1⟩) (fun y => x_0.length - y.1) (0, a_5) ⟨Nat.zero_le _, hc_2⟩ (wk_mk [0] [] [] rfl ⟨argE (by (conv => lhs; whnf); all_goals rfl) rfl, argE (by (conv => lhs; whnf); all_goals rfl) rfl, argE (by (conv => lhs; whnf); all_goals rfl) rfl, argP (id := 0) (by (conv => lhs; whnf); all_goals rfl) rfl, argE (by (conv => lhs; whnf); all_goals rfl) rfl, trivial⟩ ⟨blkR (fun _ => ⟨rfl, rfl⟩) rfl rfl, trivial⟩) ?_
          rintro ⟨k_13, a_11⟩ ⟨hk_k_13, hL1⟩
          try dsimp only at hk_k_13 hL1
          show awp _ _ _ _ _ _ ⟨eL [(0, .lst 3 (x_0.map encMinimum)), (1, .int .i64 x_1), (2, .int .i64 x_2), (8, .ptr 0 0), (10, .int .i64 (k_13 : Int))], hL [(0, .row 1 (a_11.map iA))], 1⟩
          conv => whnf
          refine len_q (enc := encMinimum) (l := x_0) rfl ?_
          conv => whnf
          refine ⟨fun h => ?_, fun h => ?_⟩
          · have hlt_k_13 : k_13 < x_0.length := by have h := of_decide_eq_true h; omega
            obtain ⟨e_14, h_e_14⟩ : ∃ y, x_0[k_13]? = some y := ⟨_, List.getElem?_eq_getElem hlt_k_13⟩
            rw [drop_cons h_e_14, ref24_Least_L2.eq_2] at hL1
            conv => whnf
            refine ⟨k_13, _, rfl, ix_map h_e_14, ?_⟩
            conv => whnf
            refine ⟨fun hb_41 => ?_, fun hb_41 => ?_⟩
            · replace hL1 := cond_t hb_41 hL1
              conv => whnf
              refine ⟨k_13, _, rfl, ix_map h_e_14, ?_⟩
              conv => whnf
              refine ⟨k_13, _, rfl, ix_map h_e_14, ?_⟩
              conv => whnf
              obtain ⟨u_15, h_u_15, hL1⟩ := bind_some hL1
              refine ixa_q 1 h_u_15 rfl (fun m_u_15 hm_u_15 => ?_)
              conv => whnf
              obtain ⟨v_16, h_v_16, hL1⟩ := bind_some hL1
              refine st_q (enc := iA) (l := a_11) (x' := e_14.Ticks) (i := e_14.To) (ixm1 hm_u_15) (ixL_at h_v_16 (ixm1 hm_u_15)) rfl (Nat.le_of_ble_eq_true rfl) rfl ?_
              conv => whnf
              refine ⟨by kernel_rfl, ?_⟩
              conv => whnf
              refine ⟨((k_13 + 1 : Nat) : Int), wrapE (by omega) (by omega) (by omega), ?_⟩
              conv => whnf
              exact ⟨(k_13 + 1, (a_11.set e_14.To.toNat e_14.Ticks)), [0], [], [], ⟨hlt_k_13, hL1⟩, by show x_0.length - (k_13 + 1) < x_0.length - k_13; omega, wk_mk [0] [] [] rfl ⟨argE (by (conv => lhs; whnf); all_goals rfl) rfl, argE (by (conv => lhs; whnf); all_goals rfl) rfl, argE (by (conv => lhs; whnf); all_goals rfl) rfl, argP (id := 0) (by (conv => lhs; whnf); all_goals rfl) rfl, argE (by (conv => lhs; whnf); all_goals rfl) rfl, trivial⟩ ⟨blkR (fun _ => ⟨rfl, rfl⟩) rfl rfl, trivial⟩⟩
            · replace hL1 := cond_f hb_41 hL1
              conv => whnf
              refine ⟨((k_13 + 1 : Nat) : Int), wrapE (by omega) (by omega) (by omega), ?_⟩
              conv => whnf
              exact ⟨(k_13 + 1, a_11), [0], [], [], ⟨hlt_k_13, hL1⟩, by show x_0.length - (k_13 + 1) < x_0.length - k_13; omega, wk_mk [0] [] [] rfl ⟨argE (by (conv => lhs; whnf); all_goals rfl) rfl, argE (by (conv => lhs; whnf); all_goals rfl) rfl, argE (by (conv => lhs; whnf); all_goals rfl) rfl, argP (id := 0) (by (conv => lhs; whnf); all_goals rfl) rfl, argE (by (conv => lhs; whnf); all_goals rfl) rfl, trivial⟩ ⟨blkR (fun _ => ⟨rfl, rfl⟩) rfl rfl, trivial⟩⟩
          · rw [drop_nil (show x_0.length ≤ k_13 by have h := of_decide_eq_false h; omega), ref24_Least_L2.eq_1] at hL1
            conv => whnf
            obtain rfl := Option.some.inj hL1
            replace hF := fin_brk hF
            try dsimp only at hF
            obtain ⟨c_3, hc_3, hF⟩ := fin_some hF
            refine sw_loop tab_ok follows_ok (fun y : Nat × (List Int) × Int => ref24_Least_L3 x_0 y.1 y.2.1 y.2.2 = some c_3) (fun y => ⟨eL [(0, .lst 3 (x_0.map encMinimum)), (2, .int .i64 x_2), (8, .ptr 0 0), (11, .int .i64 y.2.2)], hL [(0, .row 1 (y.2.1.map iA))], 1⟩) (fun y => y.1) (9223372036854775807, a_11, (0 : Int)) hc_3 (wk_mk [0] [] [] rfl ⟨argE (by (conv => lhs; whnf); all_goals rfl) rfl, argE (by (conv => lhs; whnf); all_goals rfl) rfl, argP (id := 0) (by (conv => lhs; whnf); all_goals rfl) rfl, argE (by (conv => lhs; whnf); all_goals rfl) rfl, trivial⟩ ⟨blkR (fun _ => ⟨rfl, rfl⟩) rfl rfl, trivial⟩) ?_
            rintro ⟨q_35, a_19, i_20⟩ hL1
            try dsimp only at hL1
            rcases q_35 with _ | q_35
            · rw [ref24_Least_L3.eq_1] at hL1
              cases hL1
            rw [ref24_Least_L3.eq_2] at hL1
            show awp _ _ _ _ _ _ ⟨eL [(0, .lst 3 (x_0.map encMinimum)), (2, .int .i64 x_2), (8, .ptr 0 0), (11, .int .i64 i_20)], hL [(0, .row 1 (a_19.map iA))], 1⟩
            conv => whnf
            refine ⟨fun hb_42 => ?_, fun hb_42 => ?_⟩
            · replace hL1 := cond_t hb_42 hL1
              conv => whnf
              obtain ⟨c_4, hc_4, hL1⟩ := sub_some hL1
              refine sw_bv 0 (v := .lst 3 (x_0.map encMinimum)) (by (conv => lhs; whnf); all_goals rfl) (fun hb => ?_)
              have hbd_k_23 : x_0.length ≤ 9223372036854775807 := bnd_len (enc := encMinimum) (hb)
              refine sw_loop tab_ok follows_ok (fun y : Nat × (List Int) => y.1 ≤ x_0.length ∧ ref24_Least_L4 (x_0.drop y.1) y.1 y.2 = some c_4) (fun y => ⟨eL [(0, .lst 3 (x_0.map encMinimum)), (2, .int .i64 x_2), (8, .ptr 0 0), (11, .int .i64 i_20), (12, .int .i64 (y.1 : Int))], hL [(0, .row 1 (y.2.map iA))], 1⟩) (fun y => x_0.length - y.1) (0, a_19) ⟨Nat.zero_le _, hc_4⟩ (wk_mk [0] [] [] rfl ⟨argE (by (conv => lhs; whnf); all_goals rfl) rfl, argE (by (conv => lhs; whnf); all_goals rfl) rfl, argP (id := 0) (by (conv => lhs; whnf); all_goals rfl) rfl, argE (by (conv => lhs; whnf); all_goals rfl) rfl, argE (by (conv => lhs; whnf); all_goals rfl) rfl, trivial⟩ ⟨blkR (fun _ => ⟨rfl, rfl⟩) rfl rfl, trivial⟩) ?_
              rintro ⟨k_23, a_21⟩ ⟨hk_k_23, hL2⟩
              try dsimp only at hk_k_23 hL2
              show awp _ _ _ _ _ _ ⟨eL [(0, .lst 3 (x_0.map encMinimum)), (2, .int .i64 x_2), (8, .ptr 0 0), (11, .int .i64 i_20), (12, .int .i64 (k_23 : Int))], hL [(0, .row 1 (a_21.map iA))], 1⟩
              conv => whnf
              refine len_q (enc := encMinimum) (l := x_0) rfl ?_
              conv => whnf
              refine ⟨fun h => ?_, fun h => ?_⟩
              · have hlt_k_23 : k_23 < x_0.length := by have h := of_decide_eq_true h; omega
                obtain ⟨e_24, h_e_24⟩ : ∃ y, x_0[k_23]? = some y := ⟨_, List.getElem?_eq_getElem hlt_k_23⟩
                rw [drop_cons h_e_24, ref24_Least_L4.eq_2] at hL2
                conv => whnf
                refine ⟨k_23, _, rfl, ix_map h_e_24, ?_⟩
                conv => whnf
                obtain ⟨u_25, h_u_25, hL2⟩ := bind_some hL2
                refine ixa_q 1 h_u_25 rfl (fun m_u_25 hm_u_25 => ?_)
                conv => whnf
                obtain ⟨v_26, h_v_26, hL2⟩ := bind_some hL2
                refine ⟨_, ix_map (enc := iA) (ixL_at h_v_26 (ixm1 hm_u_25)), ?_⟩
                conv => whnf
                refine ⟨fun hb_43 => ?_, fun hb_43 => ?_⟩
                · replace hL2 := cond_t hb_43 hL2
                  conv => whnf
                  refine ⟨k_23, _, rfl, ix_map h_e_24, ?_⟩
                  conv => whnf
                  refine ⟨k_23, _, rfl, ix_map h_e_24, ?_⟩
                  conv => whnf
                  obtain ⟨u_27, h_u_27, hL2⟩ := bind_some hL2
                  refine ixa_q 1 h_u_27 rfl (fun m_u_27 hm_u_27 => ?_)
                  conv => whnf
                  obtain ⟨v_28, h_v_28, hL2⟩ := bind_some hL2
                  refine ⟨_, ix_map (enc := iA) (ixL_at h_v_28 (ixm1 hm_u_27)), ?_⟩
                  conv => whnf
                  refine ⟨k_23, _, rfl, ix_map h_e_24, ?_⟩
                  conv => whnf
                  obtain ⟨u_29, h_u_29, hL2⟩ := bind_some hL2
                  refine ixa_q 1 h_u_29 rfl (fun m_u_29 hm_u_29 => ?_)
                  conv => whnf
                  obtain ⟨v_30, h_v_30, hL2⟩ := bind_some hL2
                  refine ⟨_, ix_map (enc := iA) (ixL_at h_v_30 (ixm1 hm_u_29)), ?_⟩
                  conv => whnf
                  refine ⟨k_23, _, rfl, ix_map h_e_24, ?_⟩
                  conv => whnf
                  refine ⟨_, rfl, ?_⟩
                  conv => whnf
                  obtain ⟨u_31, h_u_31, hL2⟩ := bind_some hL2
                  refine ixa_q 1 h_u_31 rfl (fun m_u_31 hm_u_31 => ?_)
                  conv => whnf
                  obtain ⟨v_32, h_v_32, hL2⟩ := bind_some hL2
                  refine st_q (enc := iA) (l := a_21) (x' := (if (w64 (v_30 + e_24.Ticks)) < v_28 then (w64 (v_30 + e_24.Ticks)) else v_28)) (i := e_24.To) (ixm1 hm_u_31) (ixL_at h_v_32 (ixm1 hm_u_31)) rfl (Nat.le_of_ble_eq_true rfl) rfl ?_
                  conv => whnf
                  refine ⟨by kernel_rfl, ?_⟩
                  conv => whnf
                  refine ⟨((k_23 + 1 : Nat) : Int), wrapE (by omega) (by omega) (by omega), ?_⟩
                  conv => whnf
                  exact ⟨(k_23 + 1, (a_21.set e_24.To.toNat (if (w64 (v_30 + e_24.Ticks)) < v_28 then (w64 (v_30 + e_24.Ticks)) else v_28))), [0], [], [], ⟨hlt_k_23, hL2⟩, by show x_0.length - (k_23 + 1) < x_0.length - k_23; omega, wk_mk [0] [] [] rfl ⟨argE (by (conv => lhs; whnf); all_goals rfl) rfl, argE (by (conv => lhs; whnf); all_goals rfl) rfl, argP (id := 0) (by (conv => lhs; whnf); all_goals rfl) rfl, argE (by (conv => lhs; whnf); all_goals rfl) rfl, argE (by (conv => lhs; whnf); all_goals rfl) rfl, trivial⟩ ⟨blkR (fun _ => ⟨rfl, rfl⟩) rfl rfl, trivial⟩⟩
                · replace hL2 := cond_f hb_43 hL2
                  conv => whnf
                  refine ⟨((k_23 + 1 : Nat) : Int), wrapE (by omega) (by omega) (by omega), ?_⟩
                  conv => whnf
                  exact ⟨(k_23 + 1, a_21), [0], [], [], ⟨hlt_k_23, hL2⟩, by show x_0.length - (k_23 + 1) < x_0.length - k_23; omega, wk_mk [0] [] [] rfl ⟨argE (by (conv => lhs; whnf); all_goals rfl) rfl, argE (by (conv => lhs; whnf); all_goals rfl) rfl, argP (id := 0) (by (conv => lhs; whnf); all_goals rfl) rfl, argE (by (conv => lhs; whnf); all_goals rfl) rfl, argE (by (conv => lhs; whnf); all_goals rfl) rfl, trivial⟩ ⟨blkR (fun _ => ⟨rfl, rfl⟩) rfl rfl, trivial⟩⟩
              · rw [drop_nil (show x_0.length ≤ k_23 by have h := of_decide_eq_false h; omega), ref24_Least_L4.eq_1] at hL2
                conv => whnf
                obtain rfl := Option.some.inj hL2
                replace hL1 := sub_brk hL1
                try dsimp only at hL1
                refine ⟨_, rfl, ?_⟩
                conv => whnf
                exact ⟨(q_35, a_21, (w64 (i_20 + (1 : Int)))), [0], [], [], hL1, Nat.lt_succ_self _, wk_mk [0] [] [] rfl ⟨argE (by (conv => lhs; whnf); all_goals rfl) rfl, argE (by (conv => lhs; whnf); all_goals rfl) rfl, argP (id := 0) (by (conv => lhs; whnf); all_goals rfl) rfl, argE (by (conv => lhs; whnf); all_goals rfl) rfl, trivial⟩ ⟨blkR (fun _ => ⟨rfl, rfl⟩) rfl rfl, trivial⟩⟩
            · replace hL1 := cond_f hb_42 hL1
              conv => whnf
              obtain rfl := Option.some.inj hL1
              replace hF := fin_brk hF
              try dsimp only at hF
              obtain ⟨u_37, h_u_37, hF⟩ := bind_some hF
              refine ixa_q 1 h_u_37 rfl (fun m_u_37 hm_u_37 => ?_)
              conv => whnf
              obtain ⟨v_38, h_v_38, hF⟩ := bind_some hF
              refine ⟨_, ix_map (enc := iA) (ixL_at h_v_38 (ixm1 hm_u_37)), ?_⟩
              conv => whnf
              refine ⟨fun hb_44 => ?_, fun hb_44 => ?_⟩
              · replace hF := cond_t hb_44 hF
                conv => whnf
                obtain rfl := Option.some.inj hF
                exact ret_gz [] [] [] rfl (tupL rfl ⟨(argE (by (conv => lhs; whnf); all_goals rfl) rfl), (argFl (by (conv => lhs; whnf); all_goals rfl)), trivial⟩) trivial
              · replace hF := cond_f hb_44 hF
                conv => whnf
                obtain ⟨u_39, h_u_39, hF⟩ := bind_some hF
                refine ixa_q 1 h_u_39 rfl (fun m_u_39 hm_u_39 => ?_)
                conv => whnf
                obtain ⟨v_40, h_v_40, hF⟩ := bind_some hF
                refine ⟨_, ix_map (enc := iA) (ixL_at h_v_40 (ixm1 hm_u_39)), ?_⟩
                conv => whnf
                obtain rfl := Option.some.inj hF
                exact ret_gz [] [] [] rfl (tupL rfl ⟨(argE (by (conv => lhs; whnf); all_goals rfl) rfl), (argT (by (conv => lhs; whnf); all_goals rfl)), trivial⟩) trivial
    · replace hF := cond_t hb_38 hF
      conv => whnf
      obtain rfl := Option.some.inj hF
      exact ret_gz [] [] [] rfl (tupL rfl ⟨(argE (by (conv => lhs; whnf); all_goals rfl) rfl), (argFl (by (conv => lhs; whnf); all_goals rfl)), trivial⟩) trivial
  · replace hF := cond_t hb_37 hF
    conv => whnf
    obtain rfl := Option.some.inj hF
    exact ret_gz [] [] [] rfl (tupL rfl ⟨(argE (by (conv => lhs; whnf); all_goals rfl) rfl), (argFl (by (conv => lhs; whnf); all_goals rfl)), trivial⟩) trivial

set_option maxRecDepth 100000 in
set_option maxHeartbeats 40000000 in
theorem law24_table_ac (r : (List Minimum)) (hF : law24_table = some r) : AC Try.prog 36 [] [] (.lst 3 (r.map encMinimum)) [] := by
  refine ac_of tab_ok follows_ok Try.func36 rfl Try.ntmps36 rfl ?_
  unfold law24_table at hF
  conv => whnf
  obtain rfl := Option.some.inj hF
  exact ret_gz [] [] [0] rfl (argOL 0 (by (conv => lhs; whnf); all_goals rfl) rfl rfl (map_ni (fun _ => ⟨rfl, rfl⟩) _)) trivial

set_option maxRecDepth 100000 in
set_option maxHeartbeats 40000000 in
theorem keep_Plates_ac (x_0 : Int) (r : Plate) (hF : keep_Plates x_0 = some r) : AC Try.prog 39 [.int .i64 x_0] [] (.agg (encPlate r)) [] := by
  refine ac_of tab_ok follows_ok Try.func39 rfl Try.ntmps39 rfl ?_
  unfold keep_Plates at hF
  conv => whnf
  obtain ⟨r_1, h_r_1, hF⟩ := bind_some hF
  refine ⟨_, _, _, _, _, _, _, _, _, callX false [] [] 0 Try.func19 (by decide) rfl (keep_Mod_ac x_0 (1000 : Int) r_1 h_r_1) rfl ⟨(argE (by (conv => lhs; whnf); all_goals rfl) rfl), (argE (by (conv => lhs; whnf); all_goals rfl) rfl), trivial⟩ rfl trivial rfl rfl rfl lend0 trivial rfl, ?_⟩
  conv => whnf
  refine ⟨by decide, _, rfl, ?_⟩
  conv => whnf
  refine ⟨by decide, _, rfl, ?_⟩
  conv => whnf
  refine ⟨by decide, _, rfl, ?_⟩
  conv => whnf
  refine ⟨_, rfl, ?_⟩
  conv => whnf
  refine ⟨by decide, _, rfl, ?_⟩
  conv => whnf
  refine ⟨_, rfl, ?_⟩
  conv => whnf
  obtain rfl := Option.some.inj hF
  exact ret_gz [] [] [] rfl (argE (by (conv => lhs; whnf); all_goals rfl) rfl) trivial

set_option maxRecDepth 100000 in
set_option maxHeartbeats 40000000 in
theorem law24_late_ac (r : (List Connecting)) (hF : law24_late = some r) : AC Try.prog 37 [] [] (.lst 7 (r.map encConnecting)) [] := by
  refine ac_of tab_ok follows_ok Try.func37 rfl Try.ntmps37 rfl ?_
  unfold law24_late at hF
  conv => whnf
  obtain ⟨r_1, h_r_1, hF⟩ := bind_some hF
  refine ⟨_, _, _, _, _, _, _, _, _, callX false [] [] 0 Try.func39 (by decide) rfl (keep_Plates_ac (1 : Int) r_1 h_r_1) rfl ⟨(argE (by (conv => lhs; whnf); all_goals rfl) rfl), trivial⟩ rfl trivial rfl rfl rfl lend0 trivial rfl, ?_⟩
  conv => whnf
  obtain ⟨r_2, h_r_2, hF⟩ := bind_some hF
  refine ⟨_, _, _, _, _, _, _, _, _, callX false [] [] 0 Try.func39 (by decide) rfl (keep_Plates_ac (2 : Int) r_2 h_r_2) rfl ⟨(argE (by (conv => lhs; whnf); all_goals rfl) rfl), trivial⟩ rfl trivial rfl rfl rfl lend0 trivial rfl, ?_⟩
  conv => whnf
  obtain rfl := Option.some.inj hF
  exact ret_gz [] [] [2] rfl (argOL 2 (by (conv => lhs; whnf); all_goals rfl) rfl rfl (map_ni (fun _ => ⟨rfl, rfl⟩) _)) trivial

set_option maxRecDepth 100000 in
set_option maxHeartbeats 40000000 in
theorem plate_Valid_ac (x_0 : Plate) (r : Bool) (hF : plate_Valid x_0 = some r) : AC Try.prog 55 [.agg (encPlate x_0)] [] (.bool r) [] := by
  refine ac_of tab_ok follows_ok Try.func55 rfl Try.ntmps55 rfl ?_
  unfold plate_Valid at hF
  conv => whnf
  refine ⟨fun hb_6 => ?_, fun hb_6 => ?_⟩
  · replace hF := cond_t hb_6 hF
    conv => whnf
    refine ⟨fun hb_7 => ?_, fun hb_7 => ?_⟩
    · replace hF := cond_t hb_7 hF
      conv => whnf
      refine ⟨fun hb_8 => ?_, fun hb_8 => ?_⟩
      · replace hF := cond_t hb_8 hF
        conv => whnf
        refine ⟨fun hb_9 => ?_, fun hb_9 => ?_⟩
        · replace hF := cond_t hb_9 hF
          conv => whnf
          refine ⟨fun hb_10 => ?_, fun hb_10 => ?_⟩
          · replace hF := cond_t hb_10 hF
            conv => whnf
            obtain rfl := Option.some.inj hF
            exact ret_gz [] [] [] rfl (argE (by (conv => lhs; whnf); all_goals rfl) rfl) trivial
          · replace hF := cond_f hb_10 hF
            conv => whnf
            obtain rfl := Option.some.inj hF
            exact ret_gz [] [] [] rfl (argFl (by (conv => lhs; whnf); all_goals rfl)) trivial
        · replace hF := cond_f hb_9 hF
          conv => whnf
          obtain rfl := Option.some.inj hF
          exact ret_gz [] [] [] rfl (argFl (by (conv => lhs; whnf); all_goals rfl)) trivial
      · replace hF := cond_f hb_8 hF
        conv => whnf
        obtain rfl := Option.some.inj hF
        exact ret_gz [] [] [] rfl (argFl (by (conv => lhs; whnf); all_goals rfl)) trivial
    · replace hF := cond_f hb_7 hF
      conv => whnf
      obtain rfl := Option.some.inj hF
      exact ret_gz [] [] [] rfl (argFl (by (conv => lhs; whnf); all_goals rfl)) trivial
  · replace hF := cond_f hb_6 hF
    conv => whnf
    obtain rfl := Option.some.inj hF
    exact ret_gz [] [] [] rfl (argFl (by (conv => lhs; whnf); all_goals rfl)) trivial

set_option maxRecDepth 100000 in
set_option maxHeartbeats 40000000 in
theorem connect_valid_ac (x_0 : Connecting) (r : Bool) (hF : connect_valid x_0 = some r) : AC Try.prog 47 [.agg (encConnecting x_0)] [] (.bool r) [] := by
  refine ac_of tab_ok follows_ok Try.func47 rfl Try.ntmps47 rfl ?_
  unfold connect_valid at hF
  conv => whnf
  obtain ⟨r_1, h_r_1, hF⟩ := bind_some hF
  refine ⟨_, _, _, _, _, _, _, _, _, callX false [] [] 0 Try.func55 (by decide) rfl (plate_Valid_ac x_0.Plate r_1 h_r_1) rfl ⟨(argE (by (conv => lhs; whnf); all_goals rfl) rfl), trivial⟩ rfl trivial rfl rfl rfl lend0 trivial rfl, ?_⟩
  conv => whnf
  refine ⟨fun hb_5 => ?_, fun hb_5 => ?_⟩
  · replace hF := cond_t hb_5 hF
    conv => whnf
    obtain ⟨r_2, h_r_2, hF⟩ := bind_some hF
    refine ⟨_, _, _, _, _, _, _, _, _, callX false [] [] 0 Try.func33 (by decide) rfl (connect_in_ac x_0.Ready (0 : Int) (1048576 : Int) r_2 h_r_2) rfl ⟨(argE (by (conv => lhs; whnf); all_goals rfl) rfl), (argE (by (conv => lhs; whnf); all_goals rfl) rfl), (argE (by (conv => lhs; whnf); all_goals rfl) rfl), trivial⟩ rfl trivial rfl rfl rfl lend0 trivial rfl, ?_⟩
    conv => whnf
    refine ⟨fun hb_6 => ?_, fun hb_6 => ?_⟩
    · replace hF := cond_t hb_6 hF
      conv => whnf
      obtain ⟨r_3, h_r_3, hF⟩ := bind_some hF
      refine ⟨_, _, _, _, _, _, _, _, _, callX false [] [] 0 Try.func33 (by decide) rfl (connect_in_ac x_0.From (0 : Int) (5 : Int) r_3 h_r_3) rfl ⟨(argE (by (conv => lhs; whnf); all_goals rfl) rfl), (argE (by (conv => lhs; whnf); all_goals rfl) rfl), (argE (by (conv => lhs; whnf); all_goals rfl) rfl), trivial⟩ rfl trivial rfl rfl rfl lend0 trivial rfl, ?_⟩
      conv => whnf
      refine ⟨fun hb_7 => ?_, fun hb_7 => ?_⟩
      · replace hF := cond_t hb_7 hF
        conv => whnf
        obtain ⟨r_4, h_r_4, hF⟩ := bind_some hF
        refine ⟨_, _, _, _, _, _, _, _, _, callX false [] [] 0 Try.func33 (by decide) rfl (connect_in_ac x_0.To (0 : Int) (5 : Int) r_4 h_r_4) rfl ⟨(argE (by (conv => lhs; whnf); all_goals rfl) rfl), (argE (by (conv => lhs; whnf); all_goals rfl) rfl), (argE (by (conv => lhs; whnf); all_goals rfl) rfl), trivial⟩ rfl trivial rfl rfl rfl lend0 trivial rfl, ?_⟩
        conv => whnf
        refine ⟨fun hb_8 => ?_, fun hb_8 => ?_⟩
        · replace hF := cond_t hb_8 hF
          conv => whnf
          obtain ⟨r_5, h_r_5, hF⟩ := bind_some hF
          refine ⟨_, _, _, _, _, _, _, _, _, callX false [] [] 0 Try.func33 (by decide) rfl (connect_in_ac x_0.Category (0 : Int) (4 : Int) r_5 h_r_5) rfl ⟨(argE (by (conv => lhs; whnf); all_goals rfl) rfl), (argE (by (conv => lhs; whnf); all_goals rfl) rfl), (argE (by (conv => lhs; whnf); all_goals rfl) rfl), trivial⟩ rfl trivial rfl rfl rfl lend0 trivial rfl, ?_⟩
          conv => whnf
          obtain rfl := Option.some.inj hF
          exact ret_gz [] [] [] rfl (argE (by (conv => lhs; whnf); all_goals rfl) rfl) trivial
        · replace hF := cond_f hb_8 hF
          conv => whnf
          obtain rfl := Option.some.inj hF
          exact ret_gz [] [] [] rfl (argFl (by (conv => lhs; whnf); all_goals rfl)) trivial
      · replace hF := cond_f hb_7 hF
        conv => whnf
        obtain rfl := Option.some.inj hF
        exact ret_gz [] [] [] rfl (argFl (by (conv => lhs; whnf); all_goals rfl)) trivial
    · replace hF := cond_f hb_6 hF
      conv => whnf
      obtain rfl := Option.some.inj hF
      exact ret_gz [] [] [] rfl (argFl (by (conv => lhs; whnf); all_goals rfl)) trivial
  · replace hF := cond_f hb_5 hF
    conv => whnf
    obtain rfl := Option.some.inj hF
    exact ret_gz [] [] [] rfl (argFl (by (conv => lhs; whnf); all_goals rfl)) trivial

set_option maxRecDepth 100000 in
set_option maxHeartbeats 40000000 in
theorem connect_Slack_ac (x_0 : (List Minimum)) (x_1 : Connecting) (x_2 : Int) (r : Int × Bool) (hF : connect_Slack x_0 x_1 x_2 = some r) : AC Try.prog 26 [.lst 3 (x_0.map encMinimum), .agg (encConnecting x_1), .int .i64 x_2] [] (.tup [.int .i64 r.1, .bool r.2]) [] := by
  refine ac_of tab_ok follows_ok Try.func26 rfl Try.ntmps26 rfl ?_
  unfold connect_Slack at hF
  conv => whnf
  obtain ⟨r_1, h_r_1, hF⟩ := bind_some hF
  refine ⟨_, _, _, _, _, _, _, _, _, callX false [] [] 0 Try.func47 (by decide) rfl (connect_valid_ac x_1 r_1 h_r_1) rfl ⟨(argE (by (conv => lhs; whnf); all_goals rfl) rfl), trivial⟩ rfl trivial rfl rfl rfl lend0 trivial rfl, ?_⟩
  conv => whnf
  refine ⟨fun hb_4 => ?_, fun hb_4 => ?_⟩
  · replace hF := cond_f hb_4 hF
    conv => whnf
    obtain ⟨r_2, h_r_2, hF⟩ := bind_some hF
    refine ⟨_, _, _, _, _, _, _, _, _, callX false [] [] 0 Try.func33 (by decide) rfl (connect_in_ac x_2 (0 : Int) (1048576 : Int) r_2 h_r_2) rfl ⟨(argE (by (conv => lhs; whnf); all_goals rfl) rfl), (argE (by (conv => lhs; whnf); all_goals rfl) rfl), (argE (by (conv => lhs; whnf); all_goals rfl) rfl), trivial⟩ rfl trivial rfl rfl rfl lend0 trivial rfl, ?_⟩
    conv => whnf
    refine ⟨fun hb_5 => ?_, fun hb_5 => ?_⟩
    · replace hF := cond_t hb_5 hF
      conv => whnf
      obtain rfl := Option.some.inj hF
      exact ret_gz [] [] [] rfl (tupL rfl ⟨(argE (by (conv => lhs; whnf); all_goals rfl) rfl), (argFl (by (conv => lhs; whnf); all_goals rfl)), trivial⟩) trivial
    · replace hF := cond_f hb_5 hF
      conv => whnf
      obtain ⟨r_3, h_r_3, hF⟩ := bind_some hF
      refine ⟨_, _, _, _, _, _, _, _, _, callX false [] [] 0 Try.func16 (by decide) rfl (connect_Least_ac x_0 x_1.From x_1.To r_3 h_r_3) rfl ⟨(argE (by (conv => lhs; whnf); all_goals rfl) rfl), (argE (by (conv => lhs; whnf); all_goals rfl) rfl), (argE (by (conv => lhs; whnf); all_goals rfl) rfl), trivial⟩ rfl trivial rfl rfl rfl lend0 trivial rfl, ?_⟩
      conv => whnf
      refine ⟨fun hb_6 => ?_, fun hb_6 => ?_⟩
      · replace hF := cond_t hb_6 hF
        conv => whnf
        obtain rfl := Option.some.inj hF
        exact ret_gz [] [] [] rfl (tupL rfl ⟨(argE (by (conv => lhs; whnf); all_goals rfl) rfl), (argFl (by (conv => lhs; whnf); all_goals rfl)), trivial⟩) trivial
      · replace hF := cond_f hb_6 hF
        conv => whnf
        refine ⟨_, rfl, ?_⟩
        conv => whnf
        refine ⟨_, rfl, ?_⟩
        conv => whnf
        obtain rfl := Option.some.inj hF
        exact ret_gz [] [] [] rfl (tupL rfl ⟨(argE (by (conv => lhs; whnf); all_goals rfl) rfl), (argT (by (conv => lhs; whnf); all_goals rfl)), trivial⟩) trivial
  · replace hF := cond_t hb_4 hF
    conv => whnf
    obtain rfl := Option.some.inj hF
    exact ret_gz [] [] [] rfl (tupL rfl ⟨(argE (by (conv => lhs; whnf); all_goals rfl) rfl), (argFl (by (conv => lhs; whnf); all_goals rfl)), trivial⟩) trivial

set_option maxRecDepth 100000 in
set_option maxHeartbeats 40000000 in
theorem law24_rules_ac (r : (List HoldRule)) (hF : law24_rules = some r) : AC Try.prog 38 [] [] (.lst 3 (r.map encHoldRule)) [] := by
  refine ac_of tab_ok follows_ok Try.func38 rfl Try.ntmps38 rfl ?_
  unfold law24_rules at hF
  conv => whnf
  obtain rfl := Option.some.inj hF
  exact ret_gz [] [] [0] rfl (argOL 0 (by (conv => lhs; whnf); all_goals rfl) rfl rfl (map_ni (fun _ => ⟨rfl, rfl⟩) _)) trivial

set_option maxRecDepth 100000 in
set_option maxHeartbeats 40000000 in
theorem connect_possible_ac (x_0 : HoldRule) (r : Bool) (hF : connect_possible x_0 = some r) : AC Try.prog 49 [.agg (encHoldRule x_0)] [] (.bool r) [] := by
  refine ac_of tab_ok follows_ok Try.func49 rfl Try.ntmps49 rfl ?_
  unfold connect_possible at hF
  conv => whnf
  refine ⟨fun hb_7 => ?_, fun hb_7 => ?_⟩
  · replace hF := cond_t hb_7 hF
    conv => whnf
    obtain ⟨r_1, h_r_1, hF⟩ := bind_some hF
    refine ⟨_, _, _, _, _, _, _, _, _, callX false [] [] 0 Try.func33 (by decide) rfl (connect_in_ac x_0.N (1 : Int) (40 : Int) r_1 h_r_1) rfl ⟨(argE (by (conv => lhs; whnf); all_goals rfl) rfl), (argE (by (conv => lhs; whnf); all_goals rfl) rfl), (argE (by (conv => lhs; whnf); all_goals rfl) rfl), trivial⟩ rfl trivial rfl rfl rfl lend0 trivial rfl, ?_⟩
    conv => whnf
    refine ⟨fun hb_8 => ?_, fun hb_8 => ?_⟩
    · replace hF := cond_t hb_8 hF
      conv => whnf
      obtain ⟨r_2, h_r_2, hF⟩ := bind_some hF
      refine ⟨_, _, _, _, _, _, _, _, _, callX false [] [] 0 Try.func33 (by decide) rfl (connect_in_ac x_0.Most (1 : Int) (1048576 : Int) r_2 h_r_2) rfl ⟨(argE (by (conv => lhs; whnf); all_goals rfl) rfl), (argE (by (conv => lhs; whnf); all_goals rfl) rfl), (argE (by (conv => lhs; whnf); all_goals rfl) rfl), trivial⟩ rfl trivial rfl rfl rfl lend0 trivial rfl, ?_⟩
      conv => whnf
      obtain rfl := Option.some.inj hF
      exact ret_gz [] [] [] rfl (argE (by (conv => lhs; whnf); all_goals rfl) rfl) trivial
    · replace hF := cond_f hb_8 hF
      conv => whnf
      obtain rfl := Option.some.inj hF
      exact ret_gz [] [] [] rfl (argFl (by (conv => lhs; whnf); all_goals rfl)) trivial
  · replace hF := cond_f hb_7 hF
    conv => whnf
    refine ⟨fun hb_9 => ?_, fun hb_9 => ?_⟩
    · replace hF := cond_t hb_9 hF
      conv => whnf
      obtain ⟨r_3, h_r_3, hF⟩ := bind_some hF
      refine ⟨_, _, _, _, _, _, _, _, _, callX false [] [] 0 Try.func33 (by decide) rfl (connect_in_ac x_0.N (0 : Int) (4 : Int) r_3 h_r_3) rfl ⟨(argE (by (conv => lhs; whnf); all_goals rfl) rfl), (argE (by (conv => lhs; whnf); all_goals rfl) rfl), (argE (by (conv => lhs; whnf); all_goals rfl) rfl), trivial⟩ rfl trivial rfl rfl rfl lend0 trivial rfl, ?_⟩
      conv => whnf
      refine ⟨fun hb_10 => ?_, fun hb_10 => ?_⟩
      · replace hF := cond_t hb_10 hF
        conv => whnf
        obtain ⟨r_4, h_r_4, hF⟩ := bind_some hF
        refine ⟨_, _, _, _, _, _, _, _, _, callX false [] [] 0 Try.func33 (by decide) rfl (connect_in_ac x_0.Most (1 : Int) (1048576 : Int) r_4 h_r_4) rfl ⟨(argE (by (conv => lhs; whnf); all_goals rfl) rfl), (argE (by (conv => lhs; whnf); all_goals rfl) rfl), (argE (by (conv => lhs; whnf); all_goals rfl) rfl), trivial⟩ rfl trivial rfl rfl rfl lend0 trivial rfl, ?_⟩
        conv => whnf
        obtain rfl := Option.some.inj hF
        exact ret_gz [] [] [] rfl (argE (by (conv => lhs; whnf); all_goals rfl) rfl) trivial
      · replace hF := cond_f hb_10 hF
        conv => whnf
        obtain rfl := Option.some.inj hF
        exact ret_gz [] [] [] rfl (argFl (by (conv => lhs; whnf); all_goals rfl)) trivial
    · replace hF := cond_f hb_9 hF
      conv => whnf
      refine ⟨fun hb_11 => ?_, fun hb_11 => ?_⟩
      · replace hF := cond_t hb_11 hF
        conv => whnf
        refine ⟨fun hb_12 => ?_, fun hb_12 => ?_⟩
        · replace hF := cond_t hb_12 hF
          conv => whnf
          obtain rfl := Option.some.inj hF
          exact ret_gz [] [] [] rfl (argE (by (conv => lhs; whnf); all_goals rfl) rfl) trivial
        · replace hF := cond_f hb_12 hF
          conv => whnf
          obtain rfl := Option.some.inj hF
          exact ret_gz [] [] [] rfl (argFl (by (conv => lhs; whnf); all_goals rfl)) trivial
      · replace hF := cond_f hb_11 hF
        conv => whnf
        obtain rfl := Option.some.inj hF
        exact ret_gz [] [] [] rfl (argFl (by (conv => lhs; whnf); all_goals rfl)) trivial
end Go.Proofs.Ytkajegjghfbgaaa.Ex
