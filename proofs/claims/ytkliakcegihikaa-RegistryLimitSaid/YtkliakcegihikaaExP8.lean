/- The functions of the program compute what was printed; walks printed by a program. -/
import Derived.Test.YtkliakcegihikaaExF
import Derived.Test.YtkliakcegihikaaExP7
namespace Go.Proofs.Ytkliakcegihikaa.Ex
open Go.RowKit Go.Proofs.Ytkliakcegihikaa.Ax
set_option linter.unusedVariables false
set_option linter.unusedSimpArgs false
set_option maxRecDepth 100000 in
set_option maxHeartbeats 40000000 in
theorem keep_Mod_ac (x_0 : Int) (x_1 : Int) (r : Int) (hF : keep_Mod x_0 x_1 = some r) : AC Try.prog 24 [.int .i64 x_0, .int .i64 x_1] [] (.int .i64 r) [] := by
  refine ac_of tab_ok follows_ok Try.func24 rfl Try.ntmps24 rfl ?_
  unfold keep_Mod at hF
  conv => whnf
  refine ⟨fun hb_3 => ?_, fun hb_3 => ?_⟩
  · replace hF := cond_t hb_3 hF
    conv => whnf
    obtain rfl := Option.some.inj hF
    exact ret_gz [] [] [] rfl (argE (by (conv => lhs; whnf); all_goals rfl) rfl) trivial
  · replace hF := cond_f hb_3 hF
    conv => whnf
    obtain ⟨u_1, h_u_1, hF⟩ := bind_some hF
    refine ⟨nz_some h_u_1, _, rfl, ?_⟩
    conv => whnf
    refine ⟨fun hb_4 => ?_, fun hb_4 => ?_⟩
    · replace hF := cond_t hb_4 hF
      conv => whnf
      refine ⟨_, rfl, ?_⟩
      conv => whnf
      obtain rfl := Option.some.inj hF
      exact ret_gz [] [] [] rfl (argE (by (conv => lhs; whnf); all_goals rfl) rfl) trivial
    · replace hF := cond_f hb_4 hF
      conv => whnf
      obtain rfl := Option.some.inj hF
      exact ret_gz [] [] [] rfl (argE (by (conv => lhs; whnf); all_goals rfl) rfl) trivial

set_option maxRecDepth 100000 in
set_option maxHeartbeats 40000000 in
theorem keep_Src_N_ac (x_0 : Src) (x_1 : Int) (r : Int × Src) (hF : keep_Src_N x_0 x_1 = some r) : AC Try.prog 38 [.ptr 0 0, .int .i64 x_1] [.box (encSrc x_0)] (.int .i64 r.1) [.box (encSrc r.2)] := by
  refine ac_of tab_ok follows_ok Try.func38 rfl Try.ntmps38 rfl ?_
  unfold keep_Src_N at hF
  conv => whnf
  obtain ⟨r_1, h_r_1, hF⟩ := bind_some hF
  refine ⟨_, _, _, _, _, _, _, _, callX false [0] [] Try.func63 (by decide) rfl (keep_Src_Raw_ac x_0 r_1 h_r_1) rfl ⟨(argP (id := 0) (by (conv => lhs; whnf); all_goals rfl) rfl), trivial⟩ rfl ⟨rfl, trivial⟩ rfl rfl rfl lend0 ⟨rfl, trivial⟩, ?_⟩
  conv => whnf
  obtain ⟨r_2, h_r_2, hF⟩ := bind_some hF
  refine ⟨_, _, _, _, _, _, _, _, callX false [] [] Try.func24 (by decide) rfl (keep_Mod_ac r_1.1 x_1 r_2 h_r_2) rfl ⟨(argE (by (conv => lhs; whnf); all_goals rfl) rfl), (argE (by (conv => lhs; whnf); all_goals rfl) rfl), trivial⟩ rfl trivial rfl rfl rfl lend0 trivial, ?_⟩
  conv => whnf
  obtain rfl := Option.some.inj hF
  exact ret_gz [0] [] [] rfl (argE (by (conv => lhs; whnf); all_goals rfl) rfl) ⟨boxL rfl rfl rfl ⟨(.ni _ rfl), (.ni _ rfl), trivial⟩, trivial⟩

set_option maxRecDepth 100000 in
set_option maxHeartbeats 40000000 in
theorem keep_Src_Range_ac (x_0 : Src) (x_1 : Int) (x_2 : Int) (r : Int × Src) (hF : keep_Src_Range x_0 x_1 x_2 = some r) : AC Try.prog 23 [.ptr 0 0, .int .i64 x_1, .int .i64 x_2] [.box (encSrc x_0)] (.int .i64 r.1) [.box (encSrc r.2)] := by
  refine ac_of tab_ok follows_ok Try.func23 rfl Try.ntmps23 rfl ?_
  unfold keep_Src_Range at hF
  conv => whnf
  refine ⟨_, rfl, ?_⟩
  conv => whnf
  refine ⟨_, rfl, ?_⟩
  conv => whnf
  obtain ⟨r_1, h_r_1, hF⟩ := bind_some hF
  refine ⟨_, _, _, _, _, _, _, _, callX false [0] [] Try.func38 (by decide) rfl (keep_Src_N_ac x_0 (w64 ((w64 (x_2 - x_1)) + (1 : Int))) r_1 h_r_1) rfl ⟨(argP (id := 0) (by (conv => lhs; whnf); all_goals rfl) rfl), (argE (by (conv => lhs; whnf); all_goals rfl) rfl), trivial⟩ rfl ⟨rfl, trivial⟩ rfl rfl rfl lend0 ⟨rfl, trivial⟩, ?_⟩
  conv => whnf
  refine ⟨_, rfl, ?_⟩
  conv => whnf
  obtain rfl := Option.some.inj hF
  exact ret_gz [0] [] [] rfl (argE (by (conv => lhs; whnf); all_goals rfl) rfl) ⟨boxL rfl rfl rfl ⟨(.ni _ rfl), (.ni _ rfl), trivial⟩, trivial⟩

set_option maxRecDepth 100000 in
set_option maxHeartbeats 40000000 in
theorem keep_Src_Text_ac (x_0 : Src) (x_1 : (List ByteArray)) (r : ByteArray × Src) (hF : keep_Src_Text x_0 x_1 = some r) : AC Try.prog 35 [.ptr 0 0, .lst 1 (x_1.map sA)] [.box (encSrc x_0)] (.str r.1) [.box (encSrc r.2)] := by
  refine ac_of tab_ok follows_ok Try.func35 rfl Try.ntmps35 rfl ?_
  unfold keep_Src_Text at hF
  conv => whnf
  refine len_q (enc := sA) (l := x_1) rfl ?_
  conv => whnf
  obtain ⟨r_1, h_r_1, hF⟩ := bind_some hF
  refine ⟨_, _, _, _, _, _, _, _, callX false [0] [] Try.func38 (by decide) rfl (keep_Src_N_ac x_0 (x_1.length : Int) r_1 h_r_1) rfl ⟨(argP (id := 0) (by (conv => lhs; whnf); all_goals rfl) rfl), (argE (by (conv => lhs; whnf); all_goals rfl) rfl), trivial⟩ rfl ⟨rfl, trivial⟩ rfl rfl rfl lend0 ⟨rfl, trivial⟩, ?_⟩
  conv => whnf
  obtain ⟨e_2, h_e_2, hF⟩ := bind_some hF
  refine ix_q (enc := sA) (l := x_1) h_e_2 rfl (fun m_e_2 hm_e_2 hx_e_2 => ?_)
  conv => whnf
  obtain rfl := Option.some.inj hF
  exact ret_gz [0] [] [] rfl (argE (by (conv => lhs; whnf); all_goals rfl) rfl) ⟨boxL rfl rfl rfl ⟨(.ni _ rfl), (.ni _ rfl), trivial⟩, trivial⟩

set_option maxRecDepth 100000 in
set_option maxHeartbeats 40000000 in
theorem keep_Src_Pick_ac (x_0 : Src) (x_1 : (List Int)) (r : Int × Src) (hF : keep_Src_Pick x_0 x_1 = some r) : AC Try.prog 39 [.ptr 0 0, .lst 1 (x_1.map iA)] [.box (encSrc x_0)] (.int .i64 r.1) [.box (encSrc r.2)] := by
  refine ac_of tab_ok follows_ok Try.func39 rfl Try.ntmps39 rfl ?_
  unfold keep_Src_Pick at hF
  conv => whnf
  refine len_q (enc := iA) (l := x_1) rfl ?_
  conv => whnf
  obtain ⟨r_1, h_r_1, hF⟩ := bind_some hF
  refine ⟨_, _, _, _, _, _, _, _, callX false [0] [] Try.func38 (by decide) rfl (keep_Src_N_ac x_0 (x_1.length : Int) r_1 h_r_1) rfl ⟨(argP (id := 0) (by (conv => lhs; whnf); all_goals rfl) rfl), (argE (by (conv => lhs; whnf); all_goals rfl) rfl), trivial⟩ rfl ⟨rfl, trivial⟩ rfl rfl rfl lend0 ⟨rfl, trivial⟩, ?_⟩
  conv => whnf
  obtain ⟨e_2, h_e_2, hF⟩ := bind_some hF
  refine ix_q (enc := iA) (l := x_1) h_e_2 rfl (fun m_e_2 hm_e_2 hx_e_2 => ?_)
  conv => whnf
  obtain rfl := Option.some.inj hF
  exact ret_gz [0] [] [] rfl (argE (by (conv => lhs; whnf); all_goals rfl) rfl) ⟨boxL rfl rfl rfl ⟨(.ni _ rfl), (.ni _ rfl), trivial⟩, trivial⟩

set_option maxRecDepth 100000 in
set_option maxHeartbeats 40000000 in
theorem keep_Src_AnyPlate_ac (x_0 : Src) (r : Plate × Src) (hF : keep_Src_AnyPlate x_0 = some r) : AC Try.prog 27 [.ptr 0 0] [.box (encSrc x_0)] (.agg (encPlate r.1)) [.box (encSrc r.2)] := by
  refine ac_of tab_ok follows_ok Try.func27 rfl Try.ntmps27 rfl ?_
  unfold keep_Src_AnyPlate at hF
  conv => whnf
  obtain ⟨r_1, h_r_1, hF⟩ := bind_some hF
  refine ⟨_, _, _, _, _, _, _, _, callX false [0] [] Try.func38 (by decide) rfl (keep_Src_N_ac x_0 (2 : Int) r_1 h_r_1) rfl ⟨(argP (id := 0) (by (conv => lhs; whnf); all_goals rfl) rfl), (argE (by (conv => lhs; whnf); all_goals rfl) rfl), trivial⟩ rfl ⟨rfl, trivial⟩ rfl rfl rfl lend0 ⟨rfl, trivial⟩, ?_⟩
  conv => whnf
  obtain ⟨r_2, h_r_2, hF⟩ := bind_some hF
  refine ⟨_, _, _, _, _, _, _, _, callX false [0] [] Try.func38 (by decide) rfl (keep_Src_N_ac r_1.2 (2 : Int) r_2 h_r_2) rfl ⟨(argP (id := 0) (by (conv => lhs; whnf); all_goals rfl) rfl), (argE (by (conv => lhs; whnf); all_goals rfl) rfl), trivial⟩ rfl ⟨rfl, trivial⟩ rfl rfl rfl lend0 ⟨rfl, trivial⟩, ?_⟩
  conv => whnf
  refine ⟨_, rfl, ?_⟩
  conv => whnf
  obtain ⟨r_3, h_r_3, hF⟩ := bind_some hF
  refine ⟨_, _, _, _, _, _, _, _, callX true [0] [4] Try.func39 (by decide) rfl (keep_Src_Pick_ac r_2.2 ([(0 : Int), (1 : Int), (2 : Int), (3 : Int), (5 : Int), (999998 : Int), (999999 : Int)] : List Int) r_3 h_r_3) rfl ⟨(argP (id := 0) (by (conv => lhs; whnf); all_goals rfl) rfl), (argOL 4 (by (conv => lhs; whnf); all_goals rfl) rfl rfl (map_ni (fun _ => ⟨rfl, rfl⟩) _)), trivial⟩ rfl ⟨rfl, trivial⟩ rfl rfl rfl (giveU rfl) ⟨rfl, trivial⟩, ?_⟩
  conv => whnf
  obtain rfl := Option.some.inj hF
  exact ret_gz [0] [] [] rfl (argE (by (conv => lhs; whnf); all_goals rfl) rfl) ⟨boxL rfl rfl rfl ⟨(.ni _ rfl), (.ni _ rfl), trivial⟩, trivial⟩

set_option maxRecDepth 100000 in
set_option maxHeartbeats 40000000 in
theorem keep_Src_Letters_ac (x_0 : Src) (x_1 : Int) (x_2 : Int) (r : ByteArray × Src) (hF : keep_Src_Letters x_0 x_1 x_2 = some r) : AC Try.prog 36 [.ptr 0 0, .int .i64 x_1, .int .i64 x_2] [.box (encSrc x_0)] (.str r.1) [.box (encSrc r.2)] := by
  refine ac_of tab_ok follows_ok Try.func36 rfl Try.ntmps36 rfl ?_
  unfold keep_Src_Letters at hF
  conv => whnf
  obtain ⟨r_1, h_r_1, hF⟩ := bind_some hF
  refine ⟨_, _, _, _, _, _, _, _, callX false [0] [] Try.func23 (by decide) rfl (keep_Src_Range_ac x_0 x_1 x_2 r_1 h_r_1) rfl ⟨(argP (id := 0) (by (conv => lhs; whnf); all_goals rfl) rfl), (argE (by (conv => lhs; whnf); all_goals rfl) rfl), (argE (by (conv => lhs; whnf); all_goals rfl) rfl), trivial⟩ rfl ⟨rfl, trivial⟩ rfl rfl rfl lend0 ⟨rfl, trivial⟩, ?_⟩
  conv => whnf
  obtain ⟨l_2, h_l_2, hF⟩ := bind_some hF
  refine mk_q (enc := (kA .u8)) h_l_2 rfl (by decide) ?_
  conv => whnf
  obtain ⟨c_1, hc_1, hF⟩ := fin_some hF
  refine sw_loop tab_ok follows_ok (fun y : Nat × (List Int) × Int × (List Int) × Int => keep_Src_Letters_L1 y.1 y.2.1 y.2.2.1 y.2.2.2.1 y.2.2.2.2 = some c_1) (fun y => ⟨eL [(0, .ptr 0 0), (7, .osl 1), (8, .int .i64 y.2.2.2.2)], hL [(0, .box [.lst 1 (y.2.1.map iA), .int .i64 y.2.2.1]), (1, .row 1 (y.2.2.2.1.map (kA .u8)))], 2⟩) (fun y => y.1) (9223372036854775807, r_1.2.L, r_1.2.At, l_2, (0 : Int)) hc_1 (wk_mk [0, 2] [] [] rfl ⟨argP (id := 0) (by (conv => lhs; whnf); all_goals rfl) rfl, argO (id := 2) (by (conv => lhs; whnf); all_goals rfl) rfl, argE (by (conv => lhs; whnf); all_goals rfl) rfl, trivial⟩ ⟨boxL rfl rfl rfl ⟨(.ni _ rfl), (.ni _ rfl), trivial⟩, blkR (fun _ => ⟨rfl, rfl⟩) rfl rfl, trivial⟩) ?_
  rintro ⟨q_9, a_3, i_4, a_5, i_6⟩ hL1
  try dsimp only at hL1
  rcases q_9 with _ | q_9
  · rw [keep_Src_Letters_L1.eq_1] at hL1
    cases hL1
  rw [keep_Src_Letters_L1.eq_2] at hL1
  show awp _ _ _ _ _ _ ⟨eL [(0, .ptr 0 0), (7, .osl 1), (8, .int .i64 i_6)], hL [(0, .box [.lst 1 (a_3.map iA), .int .i64 i_4]), (1, .row 1 (a_5.map (kA .u8)))], 2⟩
  conv => whnf
  refine len_q (enc := (kA .u8)) (l := a_5) rfl ?_
  conv => whnf
  refine ⟨fun hb_5 => ?_, fun hb_5 => ?_⟩
  · replace hL1 := cond_t hb_5 hL1
    conv => whnf
    obtain ⟨r_7, h_r_7, hL1⟩ := bind_some hL1
    refine ⟨_, _, _, _, _, _, _, _, callX false [0] [] Try.func38 (by decide) rfl (keep_Src_N_ac (⟨a_3, i_4⟩ : Src) (26 : Int) r_7 h_r_7) rfl ⟨(argP (id := 0) (by (conv => lhs; whnf); all_goals rfl) rfl), (argE (by (conv => lhs; whnf); all_goals rfl) rfl), trivial⟩ rfl ⟨rfl, trivial⟩ rfl rfl rfl lend0 ⟨rfl, trivial⟩, ?_⟩
    conv => whnf
    refine ⟨_, rfl, ?_⟩
    conv => whnf
    refine ⟨_, rfl, ?_⟩
    conv => whnf
    obtain ⟨e_8, h_e_8, hL1⟩ := bind_some hL1
    refine ixo_q (enc := (kA .u8)) (l := a_5) h_e_8 rfl (fun m_e_8 hm_e_8 hx_e_8 => ?_)
    conv => whnf
    refine st_q (enc := (kA .u8)) (l := a_5) (x' := (IntKind.u8.wrap (w64 ((65 : Int) + r_7.1)))) (i := i_6) hm_e_8 hx_e_8 rfl (Nat.le_of_ble_eq_true rfl) rfl ?_
    conv => whnf
    refine ⟨_, rfl, ?_⟩
    conv => whnf
    exact ⟨(q_9, r_7.2.L, r_7.2.At, (a_5.set i_6.toNat (IntKind.u8.wrap (w64 ((65 : Int) + r_7.1)))), (w64 (i_6 + (1 : Int)))), [0, 1], [], [], hL1, Nat.lt_succ_self _, wk_mk [0, 1] [] [] rfl ⟨argP (id := 0) (by (conv => lhs; whnf); all_goals rfl) rfl, argO (id := 1) (by (conv => lhs; whnf); all_goals rfl) rfl, argE (by (conv => lhs; whnf); all_goals rfl) rfl, trivial⟩ ⟨boxL rfl rfl rfl ⟨(.ni _ rfl), (.ni _ rfl), trivial⟩, blkR (fun _ => ⟨rfl, rfl⟩) rfl rfl, trivial⟩⟩
  · replace hL1 := cond_f hb_5 hL1
    conv => whnf
    obtain rfl := Option.some.inj hL1
    replace hF := fin_brk hF
    try dsimp only at hF
    refine ⟨a_5, rfl, ?_⟩
    conv => whnf
    obtain rfl := Option.some.inj hF
    exact ret_gz [0] [] [] rfl (argE (by (conv => lhs; whnf); all_goals rfl) rfl) ⟨boxL rfl rfl rfl ⟨(.ni _ rfl), (.ni _ rfl), trivial⟩, trivial⟩

set_option maxRecDepth 100000 in
set_option maxHeartbeats 40000000 in
theorem keep_Src_AnyFlight_ac (x_0 : Src) (r : Flight × Src) (hF : keep_Src_AnyFlight x_0 = some r) : AC Try.prog 28 [.ptr 0 0] [.box (encSrc x_0)] (.agg (encFlight r.1)) [.box (encSrc r.2)] := by
  refine ac_of tab_ok follows_ok Try.func28 rfl Try.ntmps28 rfl ?_
  unfold keep_Src_AnyFlight at hF
  conv => whnf
  obtain ⟨r_1, h_r_1, hF⟩ := bind_some hF
  refine ⟨_, _, _, _, _, _, _, _, callX true [0] [2] Try.func35 (by decide) rfl (keep_Src_Text_ac x_0 ([(⟨#[83, 75]⟩ : ByteArray), (⟨#[65, 89]⟩ : ByteArray), (⟨#[52, 85]⟩ : ByteArray)] : List ByteArray) r_1 h_r_1) rfl ⟨(argP (id := 0) (by (conv => lhs; whnf); all_goals rfl) rfl), (argOL 2 (by (conv => lhs; whnf); all_goals rfl) rfl rfl (map_ni (fun _ => ⟨rfl, rfl⟩) _)), trivial⟩ rfl ⟨rfl, trivial⟩ rfl rfl rfl (giveU rfl) ⟨rfl, trivial⟩, ?_⟩
  conv => whnf
  obtain ⟨r_2, h_r_2, hF⟩ := bind_some hF
  refine ⟨_, _, _, _, _, _, _, _, callX true [0] [4] Try.func39 (by decide) rfl (keep_Src_Pick_ac r_1.2 ([(1 : Int), (123 : Int), (9999 : Int)] : List Int) r_2 h_r_2) rfl ⟨(argP (id := 0) (by (conv => lhs; whnf); all_goals rfl) rfl), (argOL 4 (by (conv => lhs; whnf); all_goals rfl) rfl rfl (map_ni (fun _ => ⟨rfl, rfl⟩) _)), trivial⟩ rfl ⟨rfl, trivial⟩ rfl rfl rfl (giveU rfl) ⟨rfl, trivial⟩, ?_⟩
  conv => whnf
  obtain ⟨r_3, h_r_3, hF⟩ := bind_some hF
  refine ⟨_, _, _, _, _, _, _, _, callX true [0] [6] Try.func35 (by decide) rfl (keep_Src_Text_ac r_2.2 ([(⟨#[]⟩ : ByteArray), (⟨#[]⟩ : ByteArray), (⟨#[65]⟩ : ByteArray)] : List ByteArray) r_3 h_r_3) rfl ⟨(argP (id := 0) (by (conv => lhs; whnf); all_goals rfl) rfl), (argOL 6 (by (conv => lhs; whnf); all_goals rfl) rfl rfl (map_ni (fun _ => ⟨rfl, rfl⟩) _)), trivial⟩ rfl ⟨rfl, trivial⟩ rfl rfl rfl (giveU rfl) ⟨rfl, trivial⟩, ?_⟩
  conv => whnf
  obtain ⟨r_4, h_r_4, hF⟩ := bind_some hF
  refine ⟨_, _, _, _, _, _, _, _, callX true [0] [8] Try.func39 (by decide) rfl (keep_Src_Pick_ac r_3.2 ([(7 : Int), (8 : Int), (0 : Int), (99 : Int)] : List Int) r_4 h_r_4) rfl ⟨(argP (id := 0) (by (conv => lhs; whnf); all_goals rfl) rfl), (argOL 8 (by (conv => lhs; whnf); all_goals rfl) rfl rfl (map_ni (fun _ => ⟨rfl, rfl⟩) _)), trivial⟩ rfl ⟨rfl, trivial⟩ rfl rfl rfl (giveU rfl) ⟨rfl, trivial⟩, ?_⟩
  conv => whnf
  obtain rfl := Option.some.inj hF
  exact ret_gz [0] [] [] rfl (argE (by (conv => lhs; whnf); all_goals rfl) rfl) ⟨boxL rfl rfl rfl ⟨(.ni _ rfl), (.ni _ rfl), trivial⟩, trivial⟩

set_option maxRecDepth 100000 in
set_option maxHeartbeats 40000000 in
theorem keep_Src_Leg_ac (x_0 : Src) (r : Leg × Src) (hF : keep_Src_Leg x_0 = some r) : AC Try.prog 37 [.ptr 0 0] [.box (encSrc x_0)] (.agg (encLeg r.1)) [.box (encSrc r.2)] := by
  refine ac_of tab_ok follows_ok Try.func37 rfl Try.ntmps37 rfl ?_
  unfold keep_Src_Leg at hF
  conv => whnf
  obtain ⟨r_1, h_r_1, hF⟩ := bind_some hF
  refine ⟨_, _, _, _, _, _, _, _, callX false [0] [] Try.func28 (by decide) rfl (keep_Src_AnyFlight_ac x_0 r_1 h_r_1) rfl ⟨(argP (id := 0) (by (conv => lhs; whnf); all_goals rfl) rfl), trivial⟩ rfl ⟨rfl, trivial⟩ rfl rfl rfl lend0 ⟨rfl, trivial⟩, ?_⟩
  conv => whnf
  obtain ⟨r_2, h_r_2, hF⟩ := bind_some hF
  refine ⟨_, _, _, _, _, _, _, _, callX true [0] [3] Try.func35 (by decide) rfl (keep_Src_Text_ac r_1.2 ([(⟨#[67, 80, 72]⟩ : ByteArray), (⟨#[65, 82, 78]⟩ : ByteArray), (⟨#[79, 83, 76]⟩ : ByteArray)] : List ByteArray) r_2 h_r_2) rfl ⟨(argP (id := 0) (by (conv => lhs; whnf); all_goals rfl) rfl), (argOL 3 (by (conv => lhs; whnf); all_goals rfl) rfl rfl (map_ni (fun _ => ⟨rfl, rfl⟩) _)), trivial⟩ rfl ⟨rfl, trivial⟩ rfl rfl rfl (giveU rfl) ⟨rfl, trivial⟩, ?_⟩
  conv => whnf
  obtain ⟨r_3, h_r_3, hF⟩ := bind_some hF
  refine ⟨_, _, _, _, _, _, _, _, callX true [0] [5] Try.func35 (by decide) rfl (keep_Src_Text_ac r_2.2 ([(⟨#[89]⟩ : ByteArray), (⟨#[67]⟩ : ByteArray), (⟨#[70]⟩ : ByteArray)] : List ByteArray) r_3 h_r_3) rfl ⟨(argP (id := 0) (by (conv => lhs; whnf); all_goals rfl) rfl), (argOL 5 (by (conv => lhs; whnf); all_goals rfl) rfl rfl (map_ni (fun _ => ⟨rfl, rfl⟩) _)), trivial⟩ rfl ⟨rfl, trivial⟩ rfl rfl rfl (giveU rfl) ⟨rfl, trivial⟩, ?_⟩
  conv => whnf
  obtain rfl := Option.some.inj hF
  exact ret_gz [0] [] [] rfl (argE (by (conv => lhs; whnf); all_goals rfl) rfl) ⟨boxL rfl rfl rfl ⟨(.ni _ rfl), (.ni _ rfl), trivial⟩, trivial⟩
end Go.Proofs.Ytkliakcegihikaa.Ex
