/- The functions of the program compute what was printed; walks printed by a program. -/
import Derived.Test.YtkliakcegihikaaGreatExF
import Derived.Test.YtkliakcegihikaaGreatSq
namespace Go.Proofs.YtkliakcegihikaaGreat.Ex
open Go.RowKit Go.Proofs.YtkliakcegihikaaGreat.Ax
set_option linter.unusedVariables false
set_option linter.unusedSimpArgs false
set_option maxRecDepth 100000
set_option maxHeartbeats 40000000
theorem keep_New_ac (x_0 : (List Int)) (r : Src) (hF : keep_New x_0 = some r) : AC Tryz.prog 4 [.lst 1 (x_0.map iA)] [] (.ptr 0 0) [.box (encSrc r)] := by
 refine ac_of tab_ok follows_ok Tryz.func4 rfl Tryz.ntmps4 rfl ?_
 unfold keep_New at hF
 conv=>whnf
 refine len_q (enc := iA) (l := x_0) rfl ?_
 conv=>whnf
 refine ⟨fun b2=>?_,fun b2=>?_⟩
 ·
  replace hF := ct b2 hF
  conv=>whnf
  obtain ⟨l_1, hl1, hF⟩ := bs hF
  refine sl_q0 (enc := iA) (l := x_0) hl1 rfl ?_
  conv=>whnf
  obtain rfl := si hF
  exact ret_gz [0] [] [] rfl (argP (id := 0) (by (conv=>lhs;whnf)<;>rfl) rfl) ⟨boxL rfl rfl rfl ⟨(.ni _ rfl), (.ni _ rfl),trivial⟩,trivial⟩
 ·
  replace hF := cf b2 hF
  conv=>whnf
  obtain rfl := si hF
  exact ret_gz [0] [] [] rfl (argP (id := 0) (by (conv=>lhs;whnf)<;>rfl) rfl) ⟨boxL rfl rfl rfl ⟨(.ni _ rfl), (.ni _ rfl),trivial⟩,trivial⟩

theorem keep_Src_Raw_ac (x_0 : Src) (r : Int × Src) (hF : keep_Src_Raw x_0 = some r) : AC Tryz.prog 52 [.ptr 0 0] [.box (encSrc x_0)] (.int .i64 r.1) [.box (encSrc r.2)] := by
 refine ac_of tab_ok follows_ok Tryz.func52 rfl Tryz.ntmps52 rfl ?_
 unfold keep_Src_Raw at hF
 conv=>whnf
 refine len_q (enc := iA) (l := x_0.L) rfl ?_
 conv=>whnf
 refine ⟨by kernel_rfl, ?_⟩
 conv=>whnf
 refine ⟨fun b2=>?_,fun b2=>?_⟩
 ·
  replace hF := ct b2 hF
  conv=>whnf
  obtain rfl := si hF
  exact ret_gz [0] [] [] rfl aq ⟨boxL rfl rfl rfl ⟨(.ni _ rfl), (.ni _ rfl),trivial⟩,trivial⟩
 ·
  replace hF := cf b2 hF
  conv=>whnf
  refine ⟨_, rfl, ?_⟩
  conv=>whnf
  refine ⟨_, rfl, ?_⟩
  conv=>whnf
  obtain ⟨e_1, he1, hF⟩ := bs hF
  refine ix_q (enc := iA) (l := x_0.L) he1 rfl (fun m_e_1 hm_e_1 hx_e_1=>?_)
  conv=>whnf
  refine ⟨by kernel_rfl, ?_⟩
  conv=>whnf
  obtain rfl := si hF
  exact ret_gz [0] [] [] rfl aq ⟨boxL rfl rfl rfl ⟨(.ni _ rfl), (.ni _ rfl),trivial⟩,trivial⟩

theorem keep_Mod_ac (x_0 : Int) (x_1 : Int) (r : Int) (hF : keep_Mod x_0 x_1 = some r) : AC Tryz.prog 51 [.int .i64 x_0, .int .i64 x_1] [] (.int .i64 r) [] := by
 refine ac_of tab_ok follows_ok Tryz.func51 rfl Tryz.ntmps51 rfl ?_
 unfold keep_Mod at hF
 conv=>whnf
 refine ⟨fun b3=>?_,fun b3=>?_⟩
 ·
  replace hF := ct b3 hF
  conv=>whnf
  obtain rfl := si hF
  exact ret_gz [] [] [] rfl aq trivial
 ·
  replace hF := cf b3 hF
  conv=>whnf
  obtain ⟨u_1, hu1, hF⟩ := bs hF
  refine ⟨nz_some hu1, _, rfl, ?_⟩
  conv=>whnf
  refine ⟨fun b4=>?_,fun b4=>?_⟩
  ·
   replace hF := ct b4 hF
   conv=>whnf
   refine ⟨_, rfl, ?_⟩
   conv=>whnf
   obtain rfl := si hF
   exact ret_gz [] [] [] rfl aq trivial
  ·
   replace hF := cf b4 hF
   conv=>whnf
   obtain rfl := si hF
   exact ret_gz [] [] [] rfl aq trivial

theorem keep_Src_N_ac (x_0 : Src) (x_1 : Int) (r : Int × Src) (hF : keep_Src_N x_0 x_1 = some r) : AC Tryz.prog 18 [.ptr 0 0, .int .i64 x_1] [.box (encSrc x_0)] (.int .i64 r.1) [.box (encSrc r.2)] := by
 refine ac_of tab_ok follows_ok Tryz.func18 rfl Tryz.ntmps18 rfl ?_
 unfold keep_Src_N at hF
 conv=>whnf
 obtain ⟨r_1, hr1, hF⟩ := bs hF
 refine ⟨_,_,_,_,_,_,_,_,_,callX false [0] [] 0 Tryz.func52 (by decide) rfl (keep_Src_Raw_ac x_0 r_1 hr1) rfl ⟨(argP (id := 0) (by (conv=>lhs;whnf)<;>rfl) rfl),trivial⟩ rfl ⟨rfl,trivial⟩ rfl rfl rfl lend0 ⟨rfl,trivial⟩ rfl, ?_⟩
 conv=>whnf
 obtain ⟨r_2, hr2, hF⟩ := bs hF
 refine ⟨_,_,_,_,_,_,_,_,_,callX false [] [] 0 Tryz.func51 (by decide) rfl (keep_Mod_ac r_1.1 x_1 r_2 hr2) rfl ⟨aq, aq,trivial⟩ rfl trivial rfl rfl rfl lend0 trivial rfl, ?_⟩
 conv=>whnf
 obtain rfl := si hF
 exact ret_gz [0] [] [] rfl aq ⟨boxL rfl rfl rfl ⟨(.ni _ rfl), (.ni _ rfl),trivial⟩,trivial⟩

theorem keep_Src_Range_ac (x_0 : Src) (x_1 : Int) (x_2 : Int) (r : Int × Src) (hF : keep_Src_Range x_0 x_1 x_2 = some r) : AC Tryz.prog 8 [.ptr 0 0, .int .i64 x_1, .int .i64 x_2] [.box (encSrc x_0)] (.int .i64 r.1) [.box (encSrc r.2)] := by
 refine ac_of tab_ok follows_ok Tryz.func8 rfl Tryz.ntmps8 rfl ?_
 unfold keep_Src_Range at hF
 conv=>whnf
 refine ⟨_, rfl, ?_⟩
 conv=>whnf
 refine ⟨_, rfl, ?_⟩
 conv=>whnf
 obtain ⟨r_1, hr1, hF⟩ := bs hF
 refine ⟨_,_,_,_,_,_,_,_,_,callX false [0] [] 0 Tryz.func18 (by decide) rfl (keep_Src_N_ac x_0 (w64 ((w64 (x_2 - x_1)) + (1 : Int))) r_1 hr1) rfl ⟨(argP (id := 0) (by (conv=>lhs;whnf)<;>rfl) rfl), aq,trivial⟩ rfl ⟨rfl,trivial⟩ rfl rfl rfl lend0 ⟨rfl,trivial⟩ rfl, ?_⟩
 conv=>whnf
 refine ⟨_, rfl, ?_⟩
 conv=>whnf
 obtain rfl := si hF
 exact ret_gz [0] [] [] rfl aq ⟨boxL rfl rfl rfl ⟨(.ni _ rfl), (.ni _ rfl),trivial⟩,trivial⟩

theorem keep_Src_Text_ac (x_0 : Src) (x_1 : (List ByteArray)) (r : ByteArray × Src) (hF : keep_Src_Text x_0 x_1 = some r) : AC Tryz.prog 14 [.ptr 0 0, .lst 1 (x_1.map sA)] [.box (encSrc x_0)] (.str r.1) [.box (encSrc r.2)] := by
 refine ac_of tab_ok follows_ok Tryz.func14 rfl Tryz.ntmps14 rfl ?_
 unfold keep_Src_Text at hF
 conv=>whnf
 refine len_q (enc := sA) (l := x_1) rfl ?_
 conv=>whnf
 obtain ⟨r_1, hr1, hF⟩ := bs hF
 refine ⟨_,_,_,_,_,_,_,_,_,callX false [0] [] 0 Tryz.func18 (by decide) rfl (keep_Src_N_ac x_0 (x_1.length : Int) r_1 hr1) rfl ⟨(argP (id := 0) (by (conv=>lhs;whnf)<;>rfl) rfl), aq,trivial⟩ rfl ⟨rfl,trivial⟩ rfl rfl rfl lend0 ⟨rfl,trivial⟩ rfl, ?_⟩
 conv=>whnf
 obtain ⟨e_2, he2, hF⟩ := bs hF
 refine ix_q (enc := sA) (l := x_1) he2 rfl (fun m_e_2 hm_e_2 hx_e_2=>?_)
 conv=>whnf
 obtain rfl := si hF
 exact ret_gz [0] [] [] rfl aq ⟨boxL rfl rfl rfl ⟨(.ni _ rfl), (.ni _ rfl),trivial⟩,trivial⟩

theorem keep_Src_Pick_ac (x_0 : Src) (x_1 : (List Int)) (r : Int × Src) (hF : keep_Src_Pick x_0 x_1 = some r) : AC Tryz.prog 19 [.ptr 0 0, .lst 1 (x_1.map iA)] [.box (encSrc x_0)] (.int .i64 r.1) [.box (encSrc r.2)] := by
 refine ac_of tab_ok follows_ok Tryz.func19 rfl Tryz.ntmps19 rfl ?_
 unfold keep_Src_Pick at hF
 conv=>whnf
 refine len_q (enc := iA) (l := x_1) rfl ?_
 conv=>whnf
 obtain ⟨r_1, hr1, hF⟩ := bs hF
 refine ⟨_,_,_,_,_,_,_,_,_,callX false [0] [] 0 Tryz.func18 (by decide) rfl (keep_Src_N_ac x_0 (x_1.length : Int) r_1 hr1) rfl ⟨(argP (id := 0) (by (conv=>lhs;whnf)<;>rfl) rfl), aq,trivial⟩ rfl ⟨rfl,trivial⟩ rfl rfl rfl lend0 ⟨rfl,trivial⟩ rfl, ?_⟩
 conv=>whnf
 obtain ⟨e_2, he2, hF⟩ := bs hF
 refine ix_q (enc := iA) (l := x_1) he2 rfl (fun m_e_2 hm_e_2 hx_e_2=>?_)
 conv=>whnf
 obtain rfl := si hF
 exact ret_gz [0] [] [] rfl aq ⟨boxL rfl rfl rfl ⟨(.ni _ rfl), (.ni _ rfl),trivial⟩,trivial⟩

theorem keep_Src_AnyPlate_ac (x_0 : Src) (r : Plate × Src) (hF : keep_Src_AnyPlate x_0 = some r) : AC Tryz.prog 15 [.ptr 0 0] [.box (encSrc x_0)] (.agg (encPlate r.1)) [.box (encSrc r.2)] := by
 refine ac_of tab_ok follows_ok Tryz.func15 rfl Tryz.ntmps15 rfl ?_
 unfold keep_Src_AnyPlate at hF
 conv=>whnf
 obtain ⟨r_1, hr1, hF⟩ := bs hF
 refine ⟨_,_,_,_,_,_,_,_,_,callX false [0] [] 0 Tryz.func18 (by decide) rfl (keep_Src_N_ac x_0 (2 : Int) r_1 hr1) rfl ⟨(argP (id := 0) (by (conv=>lhs;whnf)<;>rfl) rfl), aq,trivial⟩ rfl ⟨rfl,trivial⟩ rfl rfl rfl lend0 ⟨rfl,trivial⟩ rfl, ?_⟩
 conv=>whnf
 obtain ⟨r_2, hr2, hF⟩ := bs hF
 refine ⟨_,_,_,_,_,_,_,_,_,callX false [0] [] 0 Tryz.func18 (by decide) rfl (keep_Src_N_ac r_1.2 (2 : Int) r_2 hr2) rfl ⟨(argP (id := 0) (by (conv=>lhs;whnf)<;>rfl) rfl), aq,trivial⟩ rfl ⟨rfl,trivial⟩ rfl rfl rfl lend0 ⟨rfl,trivial⟩ rfl, ?_⟩
 conv=>whnf
 refine ⟨_, rfl, ?_⟩
 conv=>whnf
 obtain ⟨r_3, hr3, hF⟩ := bs hF
 refine ⟨_,_,_,_,_,_,_,_,_,callX true [0] [4] 0 Tryz.func19 (by decide) rfl (keep_Src_Pick_ac r_2.2 ([(0 : Int), (1 : Int), (2 : Int), (3 : Int), (5 : Int), (999998 : Int), (999999 : Int)] : List Int) r_3 hr3) rfl ⟨(argP (id := 0) (by (conv=>lhs;whnf)<;>rfl) rfl), (argOL 4 (by (conv=>lhs;whnf)<;>rfl) rfl rfl (map_ni (fun _ => ⟨rfl, rfl⟩) _)),trivial⟩ rfl ⟨rfl,trivial⟩ rfl rfl rfl giveU ⟨rfl,trivial⟩ rfl, ?_⟩
 conv=>whnf
 obtain rfl := si hF
 exact ret_gz [0] [] [] rfl aq ⟨boxL rfl rfl rfl ⟨(.ni _ rfl), (.ni _ rfl),trivial⟩,trivial⟩

theorem keep_Src_Letters_ac (x_0 : Src) (x_1 : Int) (x_2 : Int) (r : ByteArray × Src) (hF : keep_Src_Letters x_0 x_1 x_2 = some r) : AC Tryz.prog 16 [.ptr 0 0, .int .i64 x_1, .int .i64 x_2] [.box (encSrc x_0)] (.str r.1) [.box (encSrc r.2)] := by
 refine ac_of tab_ok follows_ok Tryz.func16 rfl Tryz.ntmps16 rfl ?_
 unfold keep_Src_Letters at hF
 conv=>whnf
 obtain ⟨r_1, hr1, hF⟩ := bs hF
 refine ⟨_,_,_,_,_,_,_,_,_,callX false [0] [] 0 Tryz.func8 (by decide) rfl (keep_Src_Range_ac x_0 x_1 x_2 r_1 hr1) rfl ⟨(argP (id := 0) (by (conv=>lhs;whnf)<;>rfl) rfl), aq, aq,trivial⟩ rfl ⟨rfl,trivial⟩ rfl rfl rfl lend0 ⟨rfl,trivial⟩ rfl, ?_⟩
 conv=>whnf
 obtain ⟨l_2, hl2, hF⟩ := bs hF
 refine mk_q (enc := (kA .u8)) hl2 rfl (by decide) ?_
 conv=>whnf
 obtain ⟨c_1, hc_1, hF⟩ := fin_some hF
 refine sw_loop tab_ok follows_ok (fun y : Nat × (List Int) × Int × (List Int) × Int => keep_Src_Letters_L1 y.1 y.2.1 y.2.2.1 y.2.2.2.1 y.2.2.2.2 = some c_1) (fun y => ⟨eL [(0, .ptr 0 0), (7, .osl 1), (8, .int .i64 y.2.2.2.2)], hL [(0, .box [.lst 1 (y.2.1.map iA), .int .i64 y.2.2.1]), (1, .row 1 (y.2.2.2.1.map (kA .u8)))], 2⟩) (fun y => y.1) (9223372036854775807, r_1.2.L, r_1.2.At, l_2, (0 : Int)) hc_1 (wk_mk [0, 2] [] [] rfl ⟨argP (id := 0) (by (conv=>lhs;whnf)<;>rfl) rfl, argO (id := 2) (by (conv=>lhs;whnf)<;>rfl) rfl, aq,trivial⟩ ⟨boxL rfl rfl rfl ⟨(.ni _ rfl), (.ni _ rfl),trivial⟩, blkR (fun _ => ⟨rfl, rfl⟩) rfl rfl,trivial⟩) ?_
 rintro ⟨q_9, a_3, i_4, a_5, i_6⟩ hL1
 try dsimp only at hL1
 rcases q_9 with _ | q_9
 ·
  rw [keep_Src_Letters_L1.eq_1] at hL1
  cases hL1
 rw [keep_Src_Letters_L1.eq_2] at hL1
 show awp _ _ _ _ _ _ ⟨eL [(0, .ptr 0 0), (7, .osl 1), (8, .int .i64 i_6)], hL [(0, .box [.lst 1 (a_3.map iA), .int .i64 i_4]), (1, .row 1 (a_5.map (kA .u8)))], 2⟩
 conv=>whnf
 refine len_q (enc := (kA .u8)) (l := a_5) rfl ?_
 conv=>whnf
 refine ⟨fun b5=>?_,fun b5=>?_⟩
 ·
  replace hL1 := ct b5 hL1
  conv=>whnf
  obtain ⟨r_7, hr7, hL1⟩ := bs hL1
  refine ⟨_,_,_,_,_,_,_,_,_,callX false [0] [] 0 Tryz.func18 (by decide) rfl (keep_Src_N_ac (⟨a_3, i_4⟩ : Src) (26 : Int) r_7 hr7) rfl ⟨(argP (id := 0) (by (conv=>lhs;whnf)<;>rfl) rfl), aq,trivial⟩ rfl ⟨rfl,trivial⟩ rfl rfl rfl lend0 ⟨rfl,trivial⟩ rfl, ?_⟩
  conv=>whnf
  refine ⟨_, rfl, ?_⟩
  conv=>whnf
  refine ⟨_, rfl, ?_⟩
  conv=>whnf
  obtain ⟨e_8, he8, hL1⟩ := bs hL1
  refine ixo_q (enc := (kA .u8)) (l := a_5) he8 rfl (fun m_e_8 hm_e_8 hx_e_8=>?_)
  conv=>whnf
  refine st_q (enc := (kA .u8)) (l := a_5) (x' := (IntKind.u8.wrap (w64 ((65 : Int) + r_7.1)))) (i := i_6) hm_e_8 hx_e_8 rfl (Nat.le_of_ble_eq_true rfl) rfl ?_
  conv=>whnf
  refine ⟨_, rfl, ?_⟩
  conv=>whnf
  exact ⟨(q_9, r_7.2.L, r_7.2.At, (a_5.set i_6.toNat (IntKind.u8.wrap (w64 ((65 : Int) + r_7.1)))), (w64 (i_6 + (1 : Int)))), [0, 1], [], [], hL1, Nat.lt_succ_self _, wk_mk [0, 1] [] [] rfl ⟨argP (id := 0) (by (conv=>lhs;whnf)<;>rfl) rfl, argO (id := 1) (by (conv=>lhs;whnf)<;>rfl) rfl, aq,trivial⟩ ⟨boxL rfl rfl rfl ⟨(.ni _ rfl), (.ni _ rfl),trivial⟩, blkR (fun _ => ⟨rfl, rfl⟩) rfl rfl,trivial⟩⟩
 ·
  replace hL1 := cf b5 hL1
  conv=>whnf
  obtain rfl := si hL1
  replace hF := fin_brk hF
  try dsimp only at hF
  refine ⟨a_5, rfl, ?_⟩
  conv=>whnf
  obtain rfl := si hF
  exact ret_gz [0] [] [] rfl aq ⟨boxL rfl rfl rfl ⟨(.ni _ rfl), (.ni _ rfl),trivial⟩,trivial⟩

theorem keep_Src_AnyFlight_ac (x_0 : Src) (r : Flight × Src) (hF : keep_Src_AnyFlight x_0 = some r) : AC Tryz.prog 50 [.ptr 0 0] [.box (encSrc x_0)] (.agg (encFlight r.1)) [.box (encSrc r.2)] := by
 refine ac_of tab_ok follows_ok Tryz.func50 rfl Tryz.ntmps50 rfl ?_
 unfold keep_Src_AnyFlight at hF
 conv=>whnf
 obtain ⟨r_1, hr1, hF⟩ := bs hF
 refine ⟨_,_,_,_,_,_,_,_,_,callX true [0] [2] 0 Tryz.func14 (by decide) rfl (keep_Src_Text_ac x_0 ([(⟨#[83, 75]⟩ : ByteArray), (⟨#[65, 89]⟩ : ByteArray), (⟨#[52, 85]⟩ : ByteArray)] : List ByteArray) r_1 hr1) rfl ⟨(argP (id := 0) (by (conv=>lhs;whnf)<;>rfl) rfl), (argOL 2 (by (conv=>lhs;whnf)<;>rfl) rfl rfl (map_ni (fun _ => ⟨rfl, rfl⟩) _)),trivial⟩ rfl ⟨rfl,trivial⟩ rfl rfl rfl giveU ⟨rfl,trivial⟩ rfl, ?_⟩
 conv=>whnf
 obtain ⟨r_2, hr2, hF⟩ := bs hF
 refine ⟨_,_,_,_,_,_,_,_,_,callX true [0] [4] 0 Tryz.func19 (by decide) rfl (keep_Src_Pick_ac r_1.2 ([(1 : Int), (123 : Int), (9999 : Int)] : List Int) r_2 hr2) rfl ⟨(argP (id := 0) (by (conv=>lhs;whnf)<;>rfl) rfl), (argOL 4 (by (conv=>lhs;whnf)<;>rfl) rfl rfl (map_ni (fun _ => ⟨rfl, rfl⟩) _)),trivial⟩ rfl ⟨rfl,trivial⟩ rfl rfl rfl giveU ⟨rfl,trivial⟩ rfl, ?_⟩
 conv=>whnf
 obtain ⟨r_3, hr3, hF⟩ := bs hF
 refine ⟨_,_,_,_,_,_,_,_,_,callX true [0] [6] 0 Tryz.func14 (by decide) rfl (keep_Src_Text_ac r_2.2 ([(⟨#[]⟩ : ByteArray), (⟨#[]⟩ : ByteArray), (⟨#[65]⟩ : ByteArray)] : List ByteArray) r_3 hr3) rfl ⟨(argP (id := 0) (by (conv=>lhs;whnf)<;>rfl) rfl), (argOL 6 (by (conv=>lhs;whnf)<;>rfl) rfl rfl (map_ni (fun _ => ⟨rfl, rfl⟩) _)),trivial⟩ rfl ⟨rfl,trivial⟩ rfl rfl rfl giveU ⟨rfl,trivial⟩ rfl, ?_⟩
 conv=>whnf
 obtain ⟨r_4, hr4, hF⟩ := bs hF
 refine ⟨_,_,_,_,_,_,_,_,_,callX true [0] [8] 0 Tryz.func19 (by decide) rfl (keep_Src_Pick_ac r_3.2 ([(7 : Int), (8 : Int), (0 : Int), (99 : Int)] : List Int) r_4 hr4) rfl ⟨(argP (id := 0) (by (conv=>lhs;whnf)<;>rfl) rfl), (argOL 8 (by (conv=>lhs;whnf)<;>rfl) rfl rfl (map_ni (fun _ => ⟨rfl, rfl⟩) _)),trivial⟩ rfl ⟨rfl,trivial⟩ rfl rfl rfl giveU ⟨rfl,trivial⟩ rfl, ?_⟩
 conv=>whnf
 obtain rfl := si hF
 exact ret_gz [0] [] [] rfl aq ⟨boxL rfl rfl rfl ⟨(.ni _ rfl), (.ni _ rfl),trivial⟩,trivial⟩

theorem keep_Src_Leg_ac (x_0 : Src) (r : Leg × Src) (hF : keep_Src_Leg x_0 = some r) : AC Tryz.prog 17 [.ptr 0 0] [.box (encSrc x_0)] (.agg (encLeg r.1)) [.box (encSrc r.2)] := by
 refine ac_of tab_ok follows_ok Tryz.func17 rfl Tryz.ntmps17 rfl ?_
 unfold keep_Src_Leg at hF
 conv=>whnf
 obtain ⟨r_1, hr1, hF⟩ := bs hF
 refine ⟨_,_,_,_,_,_,_,_,_,callX false [0] [] 0 Tryz.func50 (by decide) rfl (keep_Src_AnyFlight_ac x_0 r_1 hr1) rfl ⟨(argP (id := 0) (by (conv=>lhs;whnf)<;>rfl) rfl),trivial⟩ rfl ⟨rfl,trivial⟩ rfl rfl rfl lend0 ⟨rfl,trivial⟩ rfl, ?_⟩
 conv=>whnf
 obtain ⟨r_2, hr2, hF⟩ := bs hF
 refine ⟨_,_,_,_,_,_,_,_,_,callX true [0] [3] 0 Tryz.func14 (by decide) rfl (keep_Src_Text_ac r_1.2 ([(⟨#[67, 80, 72]⟩ : ByteArray), (⟨#[65, 82, 78]⟩ : ByteArray), (⟨#[79, 83, 76]⟩ : ByteArray)] : List ByteArray) r_2 hr2) rfl ⟨(argP (id := 0) (by (conv=>lhs;whnf)<;>rfl) rfl), (argOL 3 (by (conv=>lhs;whnf)<;>rfl) rfl rfl (map_ni (fun _ => ⟨rfl, rfl⟩) _)),trivial⟩ rfl ⟨rfl,trivial⟩ rfl rfl rfl giveU ⟨rfl,trivial⟩ rfl, ?_⟩
 conv=>whnf
 obtain ⟨r_3, hr3, hF⟩ := bs hF
 refine ⟨_,_,_,_,_,_,_,_,_,callX true [0] [5] 0 Tryz.func14 (by decide) rfl (keep_Src_Text_ac r_2.2 ([(⟨#[89]⟩ : ByteArray), (⟨#[67]⟩ : ByteArray), (⟨#[70]⟩ : ByteArray)] : List ByteArray) r_3 hr3) rfl ⟨(argP (id := 0) (by (conv=>lhs;whnf)<;>rfl) rfl), (argOL 5 (by (conv=>lhs;whnf)<;>rfl) rfl rfl (map_ni (fun _ => ⟨rfl, rfl⟩) _)),trivial⟩ rfl ⟨rfl,trivial⟩ rfl rfl rfl giveU ⟨rfl,trivial⟩ rfl, ?_⟩
 conv=>whnf
 obtain rfl := si hF
 exact ret_gz [0] [] [] rfl aq ⟨boxL rfl rfl rfl ⟨(.ni _ rfl), (.ni _ rfl),trivial⟩,trivial⟩

theorem keep_Src_Message_ac (x_0 : Src) (x_1 : Int) (r : Message × Src) (hF : keep_Src_Message x_0 x_1 = some r) : AC Tryz.prog 5 [.ptr 0 0, .int .i64 x_1] [.box (encSrc x_0)] (.agg (encMessage r.1)) [.box (encSrc r.2)] := by
 refine ac_of tab_ok follows_ok Tryz.func5 rfl Tryz.ntmps5 rfl ?_
 unfold keep_Src_Message at hF
 conv=>whnf
 refine ⟨fun b34=>?_,fun b34=>?_⟩
 ·
  replace hF := ct b34 hF
  conv=>whnf
  obtain ⟨r_1, hr1, hF⟩ := bs hF
  refine ⟨_,_,_,_,_,_,_,_,_,callX false [0] [] 0 Tryz.func8 (by decide) rfl (keep_Src_Range_ac x_0 (1 : Int) (5 : Int) r_1 hr1) rfl ⟨(argP (id := 0) (by (conv=>lhs;whnf)<;>rfl) rfl), aq, aq,trivial⟩ rfl ⟨rfl,trivial⟩ rfl rfl rfl lend0 ⟨rfl,trivial⟩ rfl, ?_⟩
  conv=>whnf
  obtain ⟨r_2, hr2, hF⟩ := bs hF
  refine ⟨_,_,_,_,_,_,_,_,_,callX true [0] [3] 0 Tryz.func14 (by decide) rfl (keep_Src_Text_ac r_1.2 ([(⟨#[65, 82, 78]⟩ : ByteArray), (⟨#[67, 80, 72]⟩ : ByteArray)] : List ByteArray) r_2 hr2) rfl ⟨(argP (id := 0) (by (conv=>lhs;whnf)<;>rfl) rfl), (argOL 3 (by (conv=>lhs;whnf)<;>rfl) rfl rfl (map_ni (fun _ => ⟨rfl, rfl⟩) _)),trivial⟩ rfl ⟨rfl,trivial⟩ rfl rfl rfl giveU ⟨rfl,trivial⟩ rfl, ?_⟩
  conv=>whnf
  obtain ⟨r_3, hr3, hF⟩ := bs hF
  refine ⟨_,_,_,_,_,_,_,_,_,callX false [0] [] 0 Tryz.func8 (by decide) rfl (keep_Src_Range_ac r_2.2 (1 : Int) (12 : Int) r_3 hr3) rfl ⟨(argP (id := 0) (by (conv=>lhs;whnf)<;>rfl) rfl), aq, aq,trivial⟩ rfl ⟨rfl,trivial⟩ rfl rfl rfl lend0 ⟨rfl,trivial⟩ rfl, ?_⟩
  conv=>whnf
  refine ⟨fun b35=>?_,fun b35=>?_⟩
  ·
   replace hF := ct b35 hF
   conv=>whnf
   obtain ⟨r_4, hr4, hF⟩ := bs hF
   refine ⟨_,_,_,_,_,_,_,_,_,callX false [0] [] 0 Tryz.func15 (by decide) rfl (keep_Src_AnyPlate_ac r_3.2 r_4 hr4) rfl ⟨(argP (id := 0) (by (conv=>lhs;whnf)<;>rfl) rfl),trivial⟩ rfl ⟨rfl,trivial⟩ rfl rfl rfl lend0 ⟨rfl,trivial⟩ rfl, ?_⟩
   conv=>whnf
   obtain ⟨r_5, hr5, hF⟩ := bs hF
   refine ⟨_,_,_,_,_,_,_,_,_,callX false [0] [] 0 Tryz.func8 (by decide) rfl (keep_Src_Range_ac r_4.2 (1 : Int) (3 : Int) r_5 hr5) rfl ⟨(argP (id := 0) (by (conv=>lhs;whnf)<;>rfl) rfl), aq, aq,trivial⟩ rfl ⟨rfl,trivial⟩ rfl rfl rfl lend0 ⟨rfl,trivial⟩ rfl, ?_⟩
   conv=>whnf
   obtain ⟨r_6, hr6, hF⟩ := bs hF
   refine ⟨_,_,_,_,_,_,_,_,_,callX false [0] [] 0 Tryz.func16 (by decide) rfl (keep_Src_Letters_ac r_5.2 (1 : Int) (4 : Int) r_6 hr6) rfl ⟨(argP (id := 0) (by (conv=>lhs;whnf)<;>rfl) rfl), aq, aq,trivial⟩ rfl ⟨rfl,trivial⟩ rfl rfl rfl lend0 ⟨rfl,trivial⟩ rfl, ?_⟩
   conv=>whnf
   obtain rfl := si hF
   exact ret_gz [0] [] [] rfl (argA (c := [.int .i64 r_1.1, .int .i64 (0 : Int), .str r_2.1, .int .i64 r_3.1, .str (⟨#[]⟩ : ByteArray), .int .i64 (0 : Int), .str (⟨#[]⟩ : ByteArray), .int .i64 (0 : Int), .str (⟨#[]⟩ : ByteArray), .str (⟨#[]⟩ : ByteArray), .str (⟨#[]⟩ : ByteArray), .int .i64 (0 : Int), .str (⟨#[]⟩ : ByteArray), .int .i64 (0 : Int), .str (⟨#[]⟩ : ByteArray), .str (⟨#[]⟩ : ByteArray), .nils, .int .i64 r_4.1.Lead, .int .i64 r_4.1.Airline, .int .i64 r_4.1.Serial, .int .i64 r_5.1, .fls, .int .i64 (0 : Int), .int .i64 (0 : Int), .int .i64 (0 : Int), .str (⟨#[]⟩ : ByteArray), .str (⟨#[]⟩ : ByteArray), .int .i64 (0 : Int), .str r_6.1, .nils]) (by (conv=>lhs;whnf)<;>rfl) rfl ⟨(.ni _ rfl), (.ni _ rfl), (.ni _ rfl), (.ni _ rfl), (.ni _ rfl), (.ni _ rfl), (.ni _ rfl), (.ni _ rfl), (.ni _ rfl), (.ni _ rfl), (.ni _ rfl), (.ni _ rfl), (.ni _ rfl), (.ni _ rfl), (.ni _ rfl), (.ni _ rfl), (.nils _), (.ni _ rfl), (.ni _ rfl), (.ni _ rfl), (.ni _ rfl), .fls, (.ni _ rfl), (.ni _ rfl), (.ni _ rfl), (.ni _ rfl), (.ni _ rfl), (.ni _ rfl), (.ni _ rfl), (.nils _),trivial⟩) ⟨boxL rfl rfl rfl ⟨(.ni _ rfl), (.ni _ rfl),trivial⟩,trivial⟩
  ·
   replace hF := cf b35 hF
   conv=>whnf
   refine ⟨fun b36=>?_,fun b36=>?_⟩
   ·
    replace hF := ct b36 hF
    conv=>whnf
    obtain ⟨r_7, hr7, hF⟩ := bs hF
    refine ⟨_,_,_,_,_,_,_,_,_,callX false [0] [] 0 Tryz.func15 (by decide) rfl (keep_Src_AnyPlate_ac r_3.2 r_7 hr7) rfl ⟨(argP (id := 0) (by (conv=>lhs;whnf)<;>rfl) rfl),trivial⟩ rfl ⟨rfl,trivial⟩ rfl rfl rfl lend0 ⟨rfl,trivial⟩ rfl, ?_⟩
    conv=>whnf
    obtain ⟨r_8, hr8, hF⟩ := bs hF
    refine ⟨_,_,_,_,_,_,_,_,_,callX false [0] [] 0 Tryz.func8 (by decide) rfl (keep_Src_Range_ac r_7.2 (1 : Int) (3 : Int) r_8 hr8) rfl ⟨(argP (id := 0) (by (conv=>lhs;whnf)<;>rfl) rfl), aq, aq,trivial⟩ rfl ⟨rfl,trivial⟩ rfl rfl rfl lend0 ⟨rfl,trivial⟩ rfl, ?_⟩
    conv=>whnf
    obtain ⟨r_9, hr9, hF⟩ := bs hF
    refine ⟨_,_,_,_,_,_,_,_,_,callX false [0] [] 0 Tryz.func17 (by decide) rfl (keep_Src_Leg_ac r_8.2 r_9 hr9) rfl ⟨(argP (id := 0) (by (conv=>lhs;whnf)<;>rfl) rfl),trivial⟩ rfl ⟨rfl,trivial⟩ rfl rfl rfl lend0 ⟨rfl,trivial⟩ rfl, ?_⟩
    conv=>whnf
    obtain rfl := si hF
    exact ret_gz [0] [] [] rfl (argA (c := [.int .i64 r_1.1, .int .i64 (0 : Int), .str r_2.1, .int .i64 r_3.1, .str (⟨#[]⟩ : ByteArray), .int .i64 (0 : Int), .str (⟨#[]⟩ : ByteArray), .int .i64 (0 : Int), .str (⟨#[]⟩ : ByteArray), .str (⟨#[]⟩ : ByteArray), .str r_9.1.Flight.Carrier, .int .i64 r_9.1.Flight.Number, .str r_9.1.Flight.Suffix, .int .i64 r_9.1.Flight.Day, .str r_9.1.Port, .str r_9.1.Class, .nils, .int .i64 r_7.1.Lead, .int .i64 r_7.1.Airline, .int .i64 r_7.1.Serial, .int .i64 r_8.1, .fls, .int .i64 (0 : Int), .int .i64 (0 : Int), .int .i64 (0 : Int), .str (⟨#[]⟩ : ByteArray), .str (⟨#[]⟩ : ByteArray), .int .i64 (0 : Int), .str (⟨#[]⟩ : ByteArray), .nils]) (by (conv=>lhs;whnf)<;>rfl) rfl ⟨(.ni _ rfl), (.ni _ rfl), (.ni _ rfl), (.ni _ rfl), (.ni _ rfl), (.ni _ rfl), (.ni _ rfl), (.ni _ rfl), (.ni _ rfl), (.ni _ rfl), (.ni _ rfl), (.ni _ rfl), (.ni _ rfl), (.ni _ rfl), (.ni _ rfl), (.ni _ rfl), (.nils _), (.ni _ rfl), (.ni _ rfl), (.ni _ rfl), (.ni _ rfl), .fls, (.ni _ rfl), (.ni _ rfl), (.ni _ rfl), (.ni _ rfl), (.ni _ rfl), (.ni _ rfl), (.ni _ rfl), (.nils _),trivial⟩) ⟨boxL rfl rfl rfl ⟨(.ni _ rfl), (.ni _ rfl),trivial⟩,trivial⟩
   ·
    replace hF := cf b36 hF
    conv=>whnf
    refine ⟨fun b37=>?_,fun b37=>?_⟩
    ·
     replace hF := ct b37 hF
     conv=>whnf
     obtain ⟨r_10, hr10, hF⟩ := bs hF
     refine ⟨_,_,_,_,_,_,_,_,_,callX false [0] [] 0 Tryz.func17 (by decide) rfl (keep_Src_Leg_ac r_3.2 r_10 hr10) rfl ⟨(argP (id := 0) (by (conv=>lhs;whnf)<;>rfl) rfl),trivial⟩ rfl ⟨rfl,trivial⟩ rfl rfl rfl lend0 ⟨rfl,trivial⟩ rfl, ?_⟩
     conv=>whnf
     obtain ⟨r_11, hr11, hF⟩ := bs hF
     refine ⟨_,_,_,_,_,_,_,_,_,callX false [0] [] 0 Tryz.func18 (by decide) rfl (keep_Src_N_ac r_10.2 (12 : Int) r_11 hr11) rfl ⟨(argP (id := 0) (by (conv=>lhs;whnf)<;>rfl) rfl), aq,trivial⟩ rfl ⟨rfl,trivial⟩ rfl rfl rfl lend0 ⟨rfl,trivial⟩ rfl, ?_⟩
     conv=>whnf
     obtain ⟨c_1, hc_1, hF⟩ := fin_some hF
     refine sw_loop tab_ok follows_ok (fun y : Nat × (List Int) × Int × (List Int) × Int × Int => keep_Src_Message_L1 y.1 y.2.1 y.2.2.1 y.2.2.2.1 y.2.2.2.2.1 y.2.2.2.2.2 = some c_1) (fun y => ⟨eL [(0, .ptr 0 0), (4, .ptr 1 0), (5, .ptr 2 0), (6, .int .i64 y.2.2.2.2.1), (7, .int .i64 y.2.2.2.2.2)], hL [(0, .box [.lst 1 (y.2.1.map iA), .int .i64 y.2.2.1]), (1, .box [.int .i64 (0 : Int), .int .i64 (0 : Int), .str (⟨#[]⟩ : ByteArray), .int .i64 (0 : Int), .str (⟨#[]⟩ : ByteArray), .int .i64 (0 : Int), .str (⟨#[]⟩ : ByteArray), .int .i64 (0 : Int), .str (⟨#[]⟩ : ByteArray), .str (⟨#[]⟩ : ByteArray), .str (⟨#[]⟩ : ByteArray), .int .i64 (0 : Int), .str (⟨#[]⟩ : ByteArray), .int .i64 (0 : Int), .str (⟨#[]⟩ : ByteArray), .str (⟨#[]⟩ : ByteArray), .nils, .int .i64 (0 : Int), .int .i64 (0 : Int), .int .i64 (0 : Int), .int .i64 (0 : Int), .fls, .int .i64 (0 : Int), .int .i64 (0 : Int), .int .i64 (0 : Int), .str (⟨#[]⟩ : ByteArray), .str (⟨#[]⟩ : ByteArray), .int .i64 (0 : Int), .str (⟨#[]⟩ : ByteArray), .nils]), (2, .box [.int .i64 r_1.1, .int .i64 (0 : Int), .str r_2.1, .int .i64 r_3.1, .str (⟨#[]⟩ : ByteArray), .int .i64 (0 : Int), .str (⟨#[]⟩ : ByteArray), .int .i64 (0 : Int), .str (⟨#[]⟩ : ByteArray), .str (⟨#[]⟩ : ByteArray), .str r_10.1.Flight.Carrier, .int .i64 r_10.1.Flight.Number, .str r_10.1.Flight.Suffix, .int .i64 r_10.1.Flight.Day, .str r_10.1.Port, .str r_10.1.Class, .nils, .int .i64 (0 : Int), .int .i64 (0 : Int), .int .i64 (0 : Int), .int .i64 (0 : Int), .fls, .int .i64 (0 : Int), .int .i64 (0 : Int), .int .i64 (0 : Int), .str (⟨#[]⟩ : ByteArray), .str (⟨#[]⟩ : ByteArray), .int .i64 (0 : Int), .str (⟨#[]⟩ : ByteArray), .osl 3]), (3, .row 1 (y.2.2.2.1.map iA))], 4⟩) (fun y => y.1) (9223372036854775807, r_11.2.L, r_11.2.At, ([] : List Int), (0 : Int), r_11.1) hc_1 (wk_mk [0, 1, 6] [3] [] rfl ⟨argP (id := 0) (by (conv=>lhs;whnf)<;>rfl) rfl, argP (id := 1) (by (conv=>lhs;whnf)<;>rfl) rfl, argP (id := 6) (by (conv=>lhs;whnf)<;>rfl) rfl, aq, aq,trivial⟩ ⟨boxL rfl rfl rfl ⟨(.ni _ rfl), (.ni _ rfl),trivial⟩, boxL rfl rfl rfl ⟨(.ni _ rfl), (.ni _ rfl), (.ni _ rfl), (.ni _ rfl), (.ni _ rfl), (.ni _ rfl), (.ni _ rfl), (.ni _ rfl), (.ni _ rfl), (.ni _ rfl), (.ni _ rfl), (.ni _ rfl), (.ni _ rfl), (.ni _ rfl), (.ni _ rfl), (.ni _ rfl), (.ni _ rfl), (.ni _ rfl), (.ni _ rfl), (.ni _ rfl), (.ni _ rfl), (.ni _ rfl), (.ni _ rfl), (.ni _ rfl), (.ni _ rfl), (.ni _ rfl), (.ni _ rfl), (.ni _ rfl), (.ni _ rfl), (.ni _ rfl),trivial⟩, boxL rfl rfl rfl ⟨(.ni _ rfl), (.ni _ rfl), (.ni _ rfl), (.ni _ rfl), (.ni _ rfl), (.ni _ rfl), (.ni _ rfl), (.ni _ rfl), (.ni _ rfl), (.ni _ rfl), (.ni _ rfl), (.ni _ rfl), (.ni _ rfl), (.ni _ rfl), (.ni _ rfl), (.ni _ rfl), (.ni _ rfl), (.ni _ rfl), (.ni _ rfl), (.ni _ rfl), (.ni _ rfl), (.ni _ rfl), (.ni _ rfl), (.ni _ rfl), (.ni _ rfl), (.ni _ rfl), (.ni _ rfl), (.ni _ rfl), (.ni _ rfl), (.nilz 3 (by simp)),trivial⟩, blkZ rfl,trivial⟩) ?_
     rintro ⟨q_19, a_12, i_13, a_14, i_15, i_16⟩ hL1
     try dsimp only at hL1
     rcases q_19 with _ | q_19
     ·
      rw [keep_Src_Message_L1.eq_1] at hL1
      cases hL1
     rw [keep_Src_Message_L1.eq_2] at hL1
     show awp _ _ _ _ _ _ ⟨eL [(0, .ptr 0 0), (4, .ptr 1 0), (5, .ptr 2 0), (6, .int .i64 i_15), (7, .int .i64 i_16)], hL [(0, .box [.lst 1 (a_12.map iA), .int .i64 i_13]), (1, .box [.int .i64 (0 : Int), .int .i64 (0 : Int), .str (⟨#[]⟩ : ByteArray), .int .i64 (0 : Int), .str (⟨#[]⟩ : ByteArray), .int .i64 (0 : Int), .str (⟨#[]⟩ : ByteArray), .int .i64 (0 : Int), .str (⟨#[]⟩ : ByteArray), .str (⟨#[]⟩ : ByteArray), .str (⟨#[]⟩ : ByteArray), .int .i64 (0 : Int), .str (⟨#[]⟩ : ByteArray), .int .i64 (0 : Int), .str (⟨#[]⟩ : ByteArray), .str (⟨#[]⟩ : ByteArray), .nils, .int .i64 (0 : Int), .int .i64 (0 : Int), .int .i64 (0 : Int), .int .i64 (0 : Int), .fls, .int .i64 (0 : Int), .int .i64 (0 : Int), .int .i64 (0 : Int), .str (⟨#[]⟩ : ByteArray), .str (⟨#[]⟩ : ByteArray), .int .i64 (0 : Int), .str (⟨#[]⟩ : ByteArray), .nils]), (2, .box [.int .i64 r_1.1, .int .i64 (0 : Int), .str r_2.1, .int .i64 r_3.1, .str (⟨#[]⟩ : ByteArray), .int .i64 (0 : Int), .str (⟨#[]⟩ : ByteArray), .int .i64 (0 : Int), .str (⟨#[]⟩ : ByteArray), .str (⟨#[]⟩ : ByteArray), .str r_10.1.Flight.Carrier, .int .i64 r_10.1.Flight.Number, .str r_10.1.Flight.Suffix, .int .i64 r_10.1.Flight.Day, .str r_10.1.Port, .str r_10.1.Class, .nils, .int .i64 (0 : Int), .int .i64 (0 : Int), .int .i64 (0 : Int), .int .i64 (0 : Int), .fls, .int .i64 (0 : Int), .int .i64 (0 : Int), .int .i64 (0 : Int), .str (⟨#[]⟩ : ByteArray), .str (⟨#[]⟩ : ByteArray), .int .i64 (0 : Int), .str (⟨#[]⟩ : ByteArray), .osl 3]), (3, .row 1 (a_14.map iA))], 4⟩
     conv=>whnf
     refine ⟨fun b38=>?_,fun b38=>?_⟩
     ·
      replace hL1 := ct b38 hL1
      conv=>whnf
      obtain ⟨r_17, hr17, hL1⟩ := bs hL1
      refine ⟨_,_,_,_,_,_,_,_,_,callX false [0] [] 0 Tryz.func8 (by decide) rfl (keep_Src_Range_ac (⟨a_12, i_13⟩ : Src) (1 : Int) (3 : Int) r_17 hr17) rfl ⟨(argP (id := 0) (by (conv=>lhs;whnf)<;>rfl) rfl), aq, aq,trivial⟩ rfl ⟨rfl,trivial⟩ rfl rfl rfl lend0 ⟨rfl,trivial⟩ rfl, ?_⟩
      conv=>whnf
      refine ⟨_, rfl, ?_⟩
      conv=>whnf
      obtain ⟨l_18, hl18, hL1⟩ := bs hL1
      refine ap_q (enc := iA) (l := a_14) (y := ([(w64 (i_15 + r_17.1))] : List Int)) hl18 rfl rfl (by decide) ?_
      conv=>whnf
      refine ⟨_, rfl, ?_⟩
      conv=>whnf
      exact ⟨(q_19, r_17.2.L, r_17.2.At, l_18, (w64 (i_15 + r_17.1)), (w64 (i_16 - (1 : Int)))), [0, 1, 2, 6], [], [], hL1, Nat.lt_succ_self _, wk_mk [0, 1, 2, 6] [] [] rfl ⟨argP (id := 0) (by (conv=>lhs;whnf)<;>rfl) rfl, argP (id := 1) (by (conv=>lhs;whnf)<;>rfl) rfl, argP (id := 2) (by (conv=>lhs;whnf)<;>rfl) rfl, aq, aq,trivial⟩ ⟨boxL rfl rfl rfl ⟨(.ni _ rfl), (.ni _ rfl),trivial⟩, boxL rfl rfl rfl ⟨(.ni _ rfl), (.ni _ rfl), (.ni _ rfl), (.ni _ rfl), (.ni _ rfl), (.ni _ rfl), (.ni _ rfl), (.ni _ rfl), (.ni _ rfl), (.ni _ rfl), (.ni _ rfl), (.ni _ rfl), (.ni _ rfl), (.ni _ rfl), (.ni _ rfl), (.ni _ rfl), (.ni _ rfl), (.ni _ rfl), (.ni _ rfl), (.ni _ rfl), (.ni _ rfl), (.ni _ rfl), (.ni _ rfl), (.ni _ rfl), (.ni _ rfl), (.ni _ rfl), (.ni _ rfl), (.ni _ rfl), (.ni _ rfl), (.ni _ rfl),trivial⟩, boxL rfl rfl rfl ⟨(.ni _ rfl), (.ni _ rfl), (.ni _ rfl), (.ni _ rfl), (.ni _ rfl), (.ni _ rfl), (.ni _ rfl), (.ni _ rfl), (.ni _ rfl), (.ni _ rfl), (.ni _ rfl), (.ni _ rfl), (.ni _ rfl), (.ni _ rfl), (.ni _ rfl), (.ni _ rfl), (.ni _ rfl), (.ni _ rfl), (.ni _ rfl), (.ni _ rfl), (.ni _ rfl), (.ni _ rfl), (.ni _ rfl), (.ni _ rfl), (.ni _ rfl), (.ni _ rfl), (.ni _ rfl), (.ni _ rfl), (.ni _ rfl), (.oslg 6 3 rfl),trivial⟩, blkR (fun _ => ⟨rfl, rfl⟩) rfl rfl,trivial⟩⟩
     ·
      replace hL1 := cf b38 hL1
      conv=>whnf
      obtain rfl := si hL1
      replace hF := fin_brk hF
      try dsimp only at hF
      obtain rfl := si hF
      exact ret_gz [0] [] [3] rfl (argA (c := [.int .i64 r_1.1, .int .i64 (0 : Int), .str r_2.1, .int .i64 r_3.1, .str (⟨#[]⟩ : ByteArray), .int .i64 (0 : Int), .str (⟨#[]⟩ : ByteArray), .int .i64 (0 : Int), .str (⟨#[]⟩ : ByteArray), .str (⟨#[]⟩ : ByteArray), .str r_10.1.Flight.Carrier, .int .i64 r_10.1.Flight.Number, .str r_10.1.Flight.Suffix, .int .i64 r_10.1.Flight.Day, .str r_10.1.Port, .str r_10.1.Class, .nils, .int .i64 (0 : Int), .int .i64 (0 : Int), .int .i64 (0 : Int), .int .i64 (0 : Int), .fls, .int .i64 (0 : Int), .int .i64 (0 : Int), .int .i64 (0 : Int), .str (⟨#[]⟩ : ByteArray), .str (⟨#[]⟩ : ByteArray), .int .i64 (0 : Int), .str (⟨#[]⟩ : ByteArray), .osl 3]) (by (conv=>lhs;whnf)<;>rfl) rfl ⟨(.ni _ rfl), (.ni _ rfl), (.ni _ rfl), (.ni _ rfl), (.ni _ rfl), (.ni _ rfl), (.ni _ rfl), (.ni _ rfl), (.ni _ rfl), (.ni _ rfl), (.ni _ rfl), (.ni _ rfl), (.ni _ rfl), (.ni _ rfl), (.ni _ rfl), (.ni _ rfl), (.nils _), (.ni _ rfl), (.ni _ rfl), (.ni _ rfl), (.ni _ rfl), .fls, (.ni _ rfl), (.ni _ rfl), (.ni _ rfl), (.ni _ rfl), (.ni _ rfl), (.ni _ rfl), (.ni _ rfl), (.osl 3 1 _ (by simp) rfl (map_ni (fun _ => ⟨rfl, rfl⟩) _)),trivial⟩) ⟨boxL rfl rfl rfl ⟨(.ni _ rfl), (.ni _ rfl),trivial⟩,trivial⟩
    ·
     replace hF := cf b37 hF
     conv=>whnf
     obtain ⟨r_21, hr21, hF⟩ := bs hF
     refine ⟨_,_,_,_,_,_,_,_,_,callX true [0] [7] 0 Tryz.func19 (by decide) rfl (keep_Src_Pick_ac r_3.2 ([(0 : Int), (0 : Int), (1 : Int), (2 : Int)] : List Int) r_21 hr21) rfl ⟨(argP (id := 0) (by (conv=>lhs;whnf)<;>rfl) rfl), (argOL 7 (by (conv=>lhs;whnf)<;>rfl) rfl rfl (map_ni (fun _ => ⟨rfl, rfl⟩) _)),trivial⟩ rfl ⟨rfl,trivial⟩ rfl rfl rfl giveU ⟨rfl,trivial⟩ rfl, ?_⟩
     conv=>whnf
     obtain ⟨r_22, hr22, hF⟩ := bs hF
     refine ⟨_,_,_,_,_,_,_,_,_,callX false [0] [] 0 Tryz.func17 (by decide) rfl (keep_Src_Leg_ac r_21.2 r_22 hr22) rfl ⟨(argP (id := 0) (by (conv=>lhs;whnf)<;>rfl) rfl),trivial⟩ rfl ⟨rfl,trivial⟩ rfl rfl rfl lend0 ⟨rfl,trivial⟩ rfl, ?_⟩
     conv=>whnf
     obtain ⟨r_23, hr23, hF⟩ := bs hF
     refine ⟨_,_,_,_,_,_,_,_,_,callX false [0] [] 0 Tryz.func15 (by decide) rfl (keep_Src_AnyPlate_ac r_22.2 r_23 hr23) rfl ⟨(argP (id := 0) (by (conv=>lhs;whnf)<;>rfl) rfl),trivial⟩ rfl ⟨rfl,trivial⟩ rfl rfl rfl lend0 ⟨rfl,trivial⟩ rfl, ?_⟩
     conv=>whnf
     obtain ⟨r_24, hr24, hF⟩ := bs hF
     refine ⟨_,_,_,_,_,_,_,_,_,callX false [0] [] 0 Tryz.func8 (by decide) rfl (keep_Src_Range_ac r_23.2 (1 : Int) (3 : Int) r_24 hr24) rfl ⟨(argP (id := 0) (by (conv=>lhs;whnf)<;>rfl) rfl), aq, aq,trivial⟩ rfl ⟨rfl,trivial⟩ rfl rfl rfl lend0 ⟨rfl,trivial⟩ rfl, ?_⟩
     conv=>whnf
     refine ⟨fun b39=>?_,fun b39=>?_⟩
     ·
      replace hF := ct b39 hF
      conv=>whnf
      obtain ⟨r_25, hr25, hF⟩ := bs hF
      refine ⟨_,_,_,_,_,_,_,_,_,callX false [0] [] 0 Tryz.func17 (by decide) rfl (keep_Src_Leg_ac r_24.2 r_25 hr25) rfl ⟨(argP (id := 0) (by (conv=>lhs;whnf)<;>rfl) rfl),trivial⟩ rfl ⟨rfl,trivial⟩ rfl rfl rfl lend0 ⟨rfl,trivial⟩ rfl, ?_⟩
      conv=>whnf
      obtain ⟨r_26, hr26, hF⟩ := bs hF
      refine ⟨_,_,_,_,_,_,_,_,_,callX false [0] [] 0 Tryz.func18 (by decide) rfl (keep_Src_N_ac r_25.2 (4 : Int) r_26 hr26) rfl ⟨(argP (id := 0) (by (conv=>lhs;whnf)<;>rfl) rfl), aq,trivial⟩ rfl ⟨rfl,trivial⟩ rfl rfl rfl lend0 ⟨rfl,trivial⟩ rfl, ?_⟩
      conv=>whnf
      obtain ⟨c_2, hc_2, hF⟩ := fin_some hF
      refine sw_loop tab_ok follows_ok (fun y : Nat × (List Int) × Int × (List Leg) × Int => keep_Src_Message_L2 y.1 y.2.1 y.2.2.1 y.2.2.2.1 y.2.2.2.2 = some c_2) (fun y => ⟨eL [(0, .ptr 0 0), (4, .ptr 1 0), (5, .ptr 2 0), (8, .int .i64 y.2.2.2.2)], hL [(0, .box [.lst 1 (y.2.1.map iA), .int .i64 y.2.2.1]), (1, .box [.int .i64 (0 : Int), .int .i64 (0 : Int), .str (⟨#[]⟩ : ByteArray), .int .i64 (0 : Int), .str (⟨#[]⟩ : ByteArray), .int .i64 (0 : Int), .str (⟨#[]⟩ : ByteArray), .int .i64 (0 : Int), .str (⟨#[]⟩ : ByteArray), .str (⟨#[]⟩ : ByteArray), .str (⟨#[]⟩ : ByteArray), .int .i64 (0 : Int), .str (⟨#[]⟩ : ByteArray), .int .i64 (0 : Int), .str (⟨#[]⟩ : ByteArray), .str (⟨#[]⟩ : ByteArray), .nils, .int .i64 (0 : Int), .int .i64 (0 : Int), .int .i64 (0 : Int), .int .i64 (0 : Int), .fls, .int .i64 (0 : Int), .int .i64 (0 : Int), .int .i64 (0 : Int), .str (⟨#[]⟩ : ByteArray), .str (⟨#[]⟩ : ByteArray), .int .i64 (0 : Int), .str (⟨#[]⟩ : ByteArray), .nils]), (2, .box [.int .i64 r_1.1, .int .i64 r_21.1, .str r_2.1, .int .i64 r_3.1, .str r_25.1.Flight.Carrier, .int .i64 r_25.1.Flight.Number, .str r_25.1.Flight.Suffix, .int .i64 r_25.1.Flight.Day, .str r_25.1.Port, .str r_25.1.Class, .str r_22.1.Flight.Carrier, .int .i64 r_22.1.Flight.Number, .str r_22.1.Flight.Suffix, .int .i64 r_22.1.Flight.Day, .str r_22.1.Port, .str r_22.1.Class, .osl 3, .int .i64 r_23.1.Lead, .int .i64 r_23.1.Airline, .int .i64 r_23.1.Serial, .int .i64 r_24.1, .fls, .int .i64 (0 : Int), .int .i64 (0 : Int), .int .i64 (0 : Int), .str (⟨#[]⟩ : ByteArray), .str (⟨#[]⟩ : ByteArray), .int .i64 (0 : Int), .str (⟨#[]⟩ : ByteArray), .nils]), (3, .row 6 (y.2.2.2.1.map encLeg))], 4⟩) (fun y => y.1) (9223372036854775807, r_26.2.L, r_26.2.At, ([] : List Leg), r_26.1) hc_2 (wk_mk [0, 1, 6] [3] [] rfl ⟨argP (id := 0) (by (conv=>lhs;whnf)<;>rfl) rfl, argP (id := 1) (by (conv=>lhs;whnf)<;>rfl) rfl, argP (id := 6) (by (conv=>lhs;whnf)<;>rfl) rfl, aq,trivial⟩ ⟨boxL rfl rfl rfl ⟨(.ni _ rfl), (.ni _ rfl),trivial⟩, boxL rfl rfl rfl ⟨(.ni _ rfl), (.ni _ rfl), (.ni _ rfl), (.ni _ rfl), (.ni _ rfl), (.ni _ rfl), (.ni _ rfl), (.ni _ rfl), (.ni _ rfl), (.ni _ rfl), (.ni _ rfl), (.ni _ rfl), (.ni _ rfl), (.ni _ rfl), (.ni _ rfl), (.ni _ rfl), (.ni _ rfl), (.ni _ rfl), (.ni _ rfl), (.ni _ rfl), (.ni _ rfl), (.ni _ rfl), (.ni _ rfl), (.ni _ rfl), (.ni _ rfl), (.ni _ rfl), (.ni _ rfl), (.ni _ rfl), (.ni _ rfl), (.ni _ rfl),trivial⟩, boxL rfl rfl rfl ⟨(.ni _ rfl), (.ni _ rfl), (.ni _ rfl), (.ni _ rfl), (.ni _ rfl), (.ni _ rfl), (.ni _ rfl), (.ni _ rfl), (.ni _ rfl), (.ni _ rfl), (.ni _ rfl), (.ni _ rfl), (.ni _ rfl), (.ni _ rfl), (.ni _ rfl), (.ni _ rfl), (.nilz 3 (by simp)), (.ni _ rfl), (.ni _ rfl), (.ni _ rfl), (.ni _ rfl), (.ni _ rfl), (.ni _ rfl), (.ni _ rfl), (.ni _ rfl), (.ni _ rfl), (.ni _ rfl), (.ni _ rfl), (.ni _ rfl), (.ni _ rfl),trivial⟩, blkZ rfl,trivial⟩) ?_
      rintro ⟨q_33, a_27, i_28, a_29, i_30⟩ hL1
      try dsimp only at hL1
      rcases q_33 with _ | q_33
      ·
       rw [keep_Src_Message_L2.eq_1] at hL1
       cases hL1
      rw [keep_Src_Message_L2.eq_2] at hL1
      show awp _ _ _ _ _ _ ⟨eL [(0, .ptr 0 0), (4, .ptr 1 0), (5, .ptr 2 0), (8, .int .i64 i_30)], hL [(0, .box [.lst 1 (a_27.map iA), .int .i64 i_28]), (1, .box [.int .i64 (0 : Int), .int .i64 (0 : Int), .str (⟨#[]⟩ : ByteArray), .int .i64 (0 : Int), .str (⟨#[]⟩ : ByteArray), .int .i64 (0 : Int), .str (⟨#[]⟩ : ByteArray), .int .i64 (0 : Int), .str (⟨#[]⟩ : ByteArray), .str (⟨#[]⟩ : ByteArray), .str (⟨#[]⟩ : ByteArray), .int .i64 (0 : Int), .str (⟨#[]⟩ : ByteArray), .int .i64 (0 : Int), .str (⟨#[]⟩ : ByteArray), .str (⟨#[]⟩ : ByteArray), .nils, .int .i64 (0 : Int), .int .i64 (0 : Int), .int .i64 (0 : Int), .int .i64 (0 : Int), .fls, .int .i64 (0 : Int), .int .i64 (0 : Int), .int .i64 (0 : Int), .str (⟨#[]⟩ : ByteArray), .str (⟨#[]⟩ : ByteArray), .int .i64 (0 : Int), .str (⟨#[]⟩ : ByteArray), .nils]), (2, .box [.int .i64 r_1.1, .int .i64 r_21.1, .str r_2.1, .int .i64 r_3.1, .str r_25.1.Flight.Carrier, .int .i64 r_25.1.Flight.Number, .str r_25.1.Flight.Suffix, .int .i64 r_25.1.Flight.Day, .str r_25.1.Port, .str r_25.1.Class, .str r_22.1.Flight.Carrier, .int .i64 r_22.1.Flight.Number, .str r_22.1.Flight.Suffix, .int .i64 r_22.1.Flight.Day, .str r_22.1.Port, .str r_22.1.Class, .osl 3, .int .i64 r_23.1.Lead, .int .i64 r_23.1.Airline, .int .i64 r_23.1.Serial, .int .i64 r_24.1, .fls, .int .i64 (0 : Int), .int .i64 (0 : Int), .int .i64 (0 : Int), .str (⟨#[]⟩ : ByteArray), .str (⟨#[]⟩ : ByteArray), .int .i64 (0 : Int), .str (⟨#[]⟩ : ByteArray), .nils]), (3, .row 6 (a_29.map encLeg))], 4⟩
      conv=>whnf
      refine ⟨fun b40=>?_,fun b40=>?_⟩
      ·
       replace hL1 := ct b40 hL1
       conv=>whnf
       obtain ⟨r_31, hr31, hL1⟩ := bs hL1
       refine ⟨_,_,_,_,_,_,_,_,_,callX false [0] [] 0 Tryz.func17 (by decide) rfl (keep_Src_Leg_ac (⟨a_27, i_28⟩ : Src) r_31 hr31) rfl ⟨(argP (id := 0) (by (conv=>lhs;whnf)<;>rfl) rfl),trivial⟩ rfl ⟨rfl,trivial⟩ rfl rfl rfl lend0 ⟨rfl,trivial⟩ rfl, ?_⟩
       conv=>whnf
       obtain ⟨l_32, hl32, hL1⟩ := bs hL1
       refine ap_q (enc := encLeg) (l := a_29) (y := ([r_31.1] : List Leg)) hl32 rfl rfl (by decide) ?_
       conv=>whnf
       refine ⟨by kernel_rfl, ?_⟩
       conv=>whnf
       refine ⟨_, rfl, ?_⟩
       conv=>whnf
       exact ⟨(q_33, r_31.2.L, r_31.2.At, l_32, (w64 (i_30 - (1 : Int)))), [0, 1, 2, 6], [], [], hL1, Nat.lt_succ_self _, wk_mk [0, 1, 2, 6] [] [] rfl ⟨argP (id := 0) (by (conv=>lhs;whnf)<;>rfl) rfl, argP (id := 1) (by (conv=>lhs;whnf)<;>rfl) rfl, argP (id := 2) (by (conv=>lhs;whnf)<;>rfl) rfl, aq,trivial⟩ ⟨boxL rfl rfl rfl ⟨(.ni _ rfl), (.ni _ rfl),trivial⟩, boxL rfl rfl rfl ⟨(.ni _ rfl), (.ni _ rfl), (.ni _ rfl), (.ni _ rfl), (.ni _ rfl), (.ni _ rfl), (.ni _ rfl), (.ni _ rfl), (.ni _ rfl), (.ni _ rfl), (.ni _ rfl), (.ni _ rfl), (.ni _ rfl), (.ni _ rfl), (.ni _ rfl), (.ni _ rfl), (.ni _ rfl), (.ni _ rfl), (.ni _ rfl), (.ni _ rfl), (.ni _ rfl), (.ni _ rfl), (.ni _ rfl), (.ni _ rfl), (.ni _ rfl), (.ni _ rfl), (.ni _ rfl), (.ni _ rfl), (.ni _ rfl), (.ni _ rfl),trivial⟩, boxL rfl rfl rfl ⟨(.ni _ rfl), (.ni _ rfl), (.ni _ rfl), (.ni _ rfl), (.ni _ rfl), (.ni _ rfl), (.ni _ rfl), (.ni _ rfl), (.ni _ rfl), (.ni _ rfl), (.ni _ rfl), (.ni _ rfl), (.ni _ rfl), (.ni _ rfl), (.ni _ rfl), (.ni _ rfl), (.oslg 6 3 rfl), (.ni _ rfl), (.ni _ rfl), (.ni _ rfl), (.ni _ rfl), (.ni _ rfl), (.ni _ rfl), (.ni _ rfl), (.ni _ rfl), (.ni _ rfl), (.ni _ rfl), (.ni _ rfl), (.ni _ rfl), (.ni _ rfl),trivial⟩, blkR (fun _ => ⟨rfl, rfl⟩) rfl rfl,trivial⟩⟩
      ·
       replace hL1 := cf b40 hL1
       conv=>whnf
       obtain rfl := si hL1
       replace hF := fin_brk hF
       try dsimp only at hF
       obtain ⟨r_35, hr35, hF⟩ := bs hF
       refine ⟨_,_,_,_,_,_,_,_,_,callX false [0] [] 0 Tryz.func18 (by decide) rfl (keep_Src_N_ac (⟨a_27, i_28⟩ : Src) (3 : Int) r_35 hr35) rfl ⟨(argP (id := 0) (by (conv=>lhs;whnf)<;>rfl) rfl), aq,trivial⟩ rfl ⟨rfl,trivial⟩ rfl rfl rfl lend0 ⟨rfl,trivial⟩ rfl, ?_⟩
       conv=>whnf
       obtain ⟨r_36, hr36, hF⟩ := bs hF
       refine ⟨_,_,_,_,_,_,_,_,_,callX false [0] [] 0 Tryz.func8 (by decide) rfl (keep_Src_Range_ac r_35.2 (1 : Int) (4 : Int) r_36 hr36) rfl ⟨(argP (id := 0) (by (conv=>lhs;whnf)<;>rfl) rfl), aq, aq,trivial⟩ rfl ⟨rfl,trivial⟩ rfl rfl rfl lend0 ⟨rfl,trivial⟩ rfl, ?_⟩
       conv=>whnf
       obtain ⟨r_37, hr37, hF⟩ := bs hF
       refine ⟨_,_,_,_,_,_,_,_,_,callX false [0] [] 0 Tryz.func8 (by decide) rfl (keep_Src_Range_ac r_36.2 (1 : Int) (4 : Int) r_37 hr37) rfl ⟨(argP (id := 0) (by (conv=>lhs;whnf)<;>rfl) rfl), aq, aq,trivial⟩ rfl ⟨rfl,trivial⟩ rfl rfl rfl lend0 ⟨rfl,trivial⟩ rfl, ?_⟩
       conv=>whnf
       obtain ⟨r_38, hr38, hF⟩ := bs hF
       refine ⟨_,_,_,_,_,_,_,_,_,callX true [0] [7] 0 Tryz.func19 (by decide) rfl (keep_Src_Pick_ac r_37.2 ([(20 : Int), (0 : Int), (999 : Int)] : List Int) r_38 hr38) rfl ⟨(argP (id := 0) (by (conv=>lhs;whnf)<;>rfl) rfl), (argOL 7 (by (conv=>lhs;whnf)<;>rfl) rfl rfl (map_ni (fun _ => ⟨rfl, rfl⟩) _)),trivial⟩ rfl ⟨rfl,trivial⟩ rfl rfl rfl giveU ⟨rfl,trivial⟩ rfl, ?_⟩
       conv=>whnf
       obtain ⟨r_39, hr39, hF⟩ := bs hF
       refine ⟨_,_,_,_,_,_,_,_,_,callX false [0] [] 0 Tryz.func16 (by decide) rfl (keep_Src_Letters_ac r_38.2 (1 : Int) (6 : Int) r_39 hr39) rfl ⟨(argP (id := 0) (by (conv=>lhs;whnf)<;>rfl) rfl), aq, aq,trivial⟩ rfl ⟨rfl,trivial⟩ rfl rfl rfl lend0 ⟨rfl,trivial⟩ rfl, ?_⟩
       conv=>whnf
       obtain ⟨r_40, hr40, hF⟩ := bs hF
       refine ⟨_,_,_,_,_,_,_,_,_,callX false [0] [] 0 Tryz.func16 (by decide) rfl (keep_Src_Letters_ac r_39.2 (0 : Int) (5 : Int) r_40 hr40) rfl ⟨(argP (id := 0) (by (conv=>lhs;whnf)<;>rfl) rfl), aq, aq,trivial⟩ rfl ⟨rfl,trivial⟩ rfl rfl rfl lend0 ⟨rfl,trivial⟩ rfl, ?_⟩
       conv=>whnf
       obtain ⟨r_41, hr41, hF⟩ := bs hF
       refine ⟨_,_,_,_,_,_,_,_,_,callX false [0] [] 0 Tryz.func8 (by decide) rfl (keep_Src_Range_ac r_40.2 (0 : Int) (3 : Int) r_41 hr41) rfl ⟨(argP (id := 0) (by (conv=>lhs;whnf)<;>rfl) rfl), aq, aq,trivial⟩ rfl ⟨rfl,trivial⟩ rfl rfl rfl lend0 ⟨rfl,trivial⟩ rfl, ?_⟩
       conv=>whnf
       obtain rfl := si hF
       exact ret_gz [0] [] [3] rfl (argA (c := [.int .i64 r_1.1, .int .i64 r_21.1, .str r_2.1, .int .i64 r_3.1, .str r_25.1.Flight.Carrier, .int .i64 r_25.1.Flight.Number, .str r_25.1.Flight.Suffix, .int .i64 r_25.1.Flight.Day, .str r_25.1.Port, .str r_25.1.Class, .str r_22.1.Flight.Carrier, .int .i64 r_22.1.Flight.Number, .str r_22.1.Flight.Suffix, .int .i64 r_22.1.Flight.Day, .str r_22.1.Port, .str r_22.1.Class, .osl 3, .int .i64 r_23.1.Lead, .int .i64 r_23.1.Airline, .int .i64 r_23.1.Serial, .int .i64 r_24.1, .bool (decide ((0 : Int) < r_35.1)), .int .i64 r_36.1, .int .i64 r_37.1, .int .i64 r_38.1, .str r_39.1, .str r_40.1, .int .i64 r_41.1, .str (⟨#[]⟩ : ByteArray), .nils]) (by (conv=>lhs;whnf)<;>rfl) rfl ⟨(.ni _ rfl), (.ni _ rfl), (.ni _ rfl), (.ni _ rfl), (.ni _ rfl), (.ni _ rfl), (.ni _ rfl), (.ni _ rfl), (.ni _ rfl), (.ni _ rfl), (.ni _ rfl), (.ni _ rfl), (.ni _ rfl), (.ni _ rfl), (.ni _ rfl), (.ni _ rfl), (.osl 3 6 _ (by simp) rfl (map_ni (fun _ => ⟨rfl, rfl⟩) _)), (.ni _ rfl), (.ni _ rfl), (.ni _ rfl), (.ni _ rfl), (.ni _ rfl), (.ni _ rfl), (.ni _ rfl), (.ni _ rfl), (.ni _ rfl), (.ni _ rfl), (.ni _ rfl), (.ni _ rfl), (.nils _),trivial⟩) ⟨boxL rfl rfl rfl ⟨(.ni _ rfl), (.ni _ rfl),trivial⟩,trivial⟩
     ·
      replace hF := cf b39 hF
      conv=>whnf
      obtain ⟨r_42, hr42, hF⟩ := bs hF
      refine ⟨_,_,_,_,_,_,_,_,_,callX false [0] [] 0 Tryz.func18 (by decide) rfl (keep_Src_N_ac r_24.2 (4 : Int) r_42 hr42) rfl ⟨(argP (id := 0) (by (conv=>lhs;whnf)<;>rfl) rfl), aq,trivial⟩ rfl ⟨rfl,trivial⟩ rfl rfl rfl lend0 ⟨rfl,trivial⟩ rfl, ?_⟩
      conv=>whnf
      obtain ⟨c_2, hc_2, hF⟩ := fin_some hF
      refine sw_loop tab_ok follows_ok (fun y : Nat × (List Int) × Int × (List Leg) × Int => keep_Src_Message_L2 y.1 y.2.1 y.2.2.1 y.2.2.2.1 y.2.2.2.2 = some c_2) (fun y => ⟨eL [(0, .ptr 0 0), (4, .ptr 1 0), (5, .ptr 2 0), (8, .int .i64 y.2.2.2.2)], hL [(0, .box [.lst 1 (y.2.1.map iA), .int .i64 y.2.2.1]), (1, .box [.int .i64 (0 : Int), .int .i64 (0 : Int), .str (⟨#[]⟩ : ByteArray), .int .i64 (0 : Int), .str (⟨#[]⟩ : ByteArray), .int .i64 (0 : Int), .str (⟨#[]⟩ : ByteArray), .int .i64 (0 : Int), .str (⟨#[]⟩ : ByteArray), .str (⟨#[]⟩ : ByteArray), .str (⟨#[]⟩ : ByteArray), .int .i64 (0 : Int), .str (⟨#[]⟩ : ByteArray), .int .i64 (0 : Int), .str (⟨#[]⟩ : ByteArray), .str (⟨#[]⟩ : ByteArray), .nils, .int .i64 (0 : Int), .int .i64 (0 : Int), .int .i64 (0 : Int), .int .i64 (0 : Int), .fls, .int .i64 (0 : Int), .int .i64 (0 : Int), .int .i64 (0 : Int), .str (⟨#[]⟩ : ByteArray), .str (⟨#[]⟩ : ByteArray), .int .i64 (0 : Int), .str (⟨#[]⟩ : ByteArray), .nils]), (2, .box [.int .i64 r_1.1, .int .i64 r_21.1, .str r_2.1, .int .i64 r_3.1, .str (⟨#[]⟩ : ByteArray), .int .i64 (0 : Int), .str (⟨#[]⟩ : ByteArray), .int .i64 (0 : Int), .str (⟨#[]⟩ : ByteArray), .str (⟨#[]⟩ : ByteArray), .str r_22.1.Flight.Carrier, .int .i64 r_22.1.Flight.Number, .str r_22.1.Flight.Suffix, .int .i64 r_22.1.Flight.Day, .str r_22.1.Port, .str r_22.1.Class, .osl 3, .int .i64 r_23.1.Lead, .int .i64 r_23.1.Airline, .int .i64 r_23.1.Serial, .int .i64 r_24.1, .fls, .int .i64 (0 : Int), .int .i64 (0 : Int), .int .i64 (0 : Int), .str (⟨#[]⟩ : ByteArray), .str (⟨#[]⟩ : ByteArray), .int .i64 (0 : Int), .str (⟨#[]⟩ : ByteArray), .nils]), (3, .row 6 (y.2.2.2.1.map encLeg))], 4⟩) (fun y => y.1) (9223372036854775807, r_42.2.L, r_42.2.At, ([] : List Leg), r_42.1) hc_2 (wk_mk [0, 1, 6] [3] [] rfl ⟨argP (id := 0) (by (conv=>lhs;whnf)<;>rfl) rfl, argP (id := 1) (by (conv=>lhs;whnf)<;>rfl) rfl, argP (id := 6) (by (conv=>lhs;whnf)<;>rfl) rfl, aq,trivial⟩ ⟨boxL rfl rfl rfl ⟨(.ni _ rfl), (.ni _ rfl),trivial⟩, boxL rfl rfl rfl ⟨(.ni _ rfl), (.ni _ rfl), (.ni _ rfl), (.ni _ rfl), (.ni _ rfl), (.ni _ rfl), (.ni _ rfl), (.ni _ rfl), (.ni _ rfl), (.ni _ rfl), (.ni _ rfl), (.ni _ rfl), (.ni _ rfl), (.ni _ rfl), (.ni _ rfl), (.ni _ rfl), (.ni _ rfl), (.ni _ rfl), (.ni _ rfl), (.ni _ rfl), (.ni _ rfl), (.ni _ rfl), (.ni _ rfl), (.ni _ rfl), (.ni _ rfl), (.ni _ rfl), (.ni _ rfl), (.ni _ rfl), (.ni _ rfl), (.ni _ rfl),trivial⟩, boxL rfl rfl rfl ⟨(.ni _ rfl), (.ni _ rfl), (.ni _ rfl), (.ni _ rfl), (.ni _ rfl), (.ni _ rfl), (.ni _ rfl), (.ni _ rfl), (.ni _ rfl), (.ni _ rfl), (.ni _ rfl), (.ni _ rfl), (.ni _ rfl), (.ni _ rfl), (.ni _ rfl), (.ni _ rfl), (.nilz 3 (by simp)), (.ni _ rfl), (.ni _ rfl), (.ni _ rfl), (.ni _ rfl), (.ni _ rfl), (.ni _ rfl), (.ni _ rfl), (.ni _ rfl), (.ni _ rfl), (.ni _ rfl), (.ni _ rfl), (.ni _ rfl), (.ni _ rfl),trivial⟩, blkZ rfl,trivial⟩) ?_
      rintro ⟨q_49, a_43, i_44, a_45, i_46⟩ hL1
      try dsimp only at hL1
      rcases q_49 with _ | q_49
      ·
       rw [keep_Src_Message_L2.eq_1] at hL1
       cases hL1
      rw [keep_Src_Message_L2.eq_2] at hL1
      show awp _ _ _ _ _ _ ⟨eL [(0, .ptr 0 0), (4, .ptr 1 0), (5, .ptr 2 0), (8, .int .i64 i_46)], hL [(0, .box [.lst 1 (a_43.map iA), .int .i64 i_44]), (1, .box [.int .i64 (0 : Int), .int .i64 (0 : Int), .str (⟨#[]⟩ : ByteArray), .int .i64 (0 : Int), .str (⟨#[]⟩ : ByteArray), .int .i64 (0 : Int), .str (⟨#[]⟩ : ByteArray), .int .i64 (0 : Int), .str (⟨#[]⟩ : ByteArray), .str (⟨#[]⟩ : ByteArray), .str (⟨#[]⟩ : ByteArray), .int .i64 (0 : Int), .str (⟨#[]⟩ : ByteArray), .int .i64 (0 : Int), .str (⟨#[]⟩ : ByteArray), .str (⟨#[]⟩ : ByteArray), .nils, .int .i64 (0 : Int), .int .i64 (0 : Int), .int .i64 (0 : Int), .int .i64 (0 : Int), .fls, .int .i64 (0 : Int), .int .i64 (0 : Int), .int .i64 (0 : Int), .str (⟨#[]⟩ : ByteArray), .str (⟨#[]⟩ : ByteArray), .int .i64 (0 : Int), .str (⟨#[]⟩ : ByteArray), .nils]), (2, .box [.int .i64 r_1.1, .int .i64 r_21.1, .str r_2.1, .int .i64 r_3.1, .str (⟨#[]⟩ : ByteArray), .int .i64 (0 : Int), .str (⟨#[]⟩ : ByteArray), .int .i64 (0 : Int), .str (⟨#[]⟩ : ByteArray), .str (⟨#[]⟩ : ByteArray), .str r_22.1.Flight.Carrier, .int .i64 r_22.1.Flight.Number, .str r_22.1.Flight.Suffix, .int .i64 r_22.1.Flight.Day, .str r_22.1.Port, .str r_22.1.Class, .osl 3, .int .i64 r_23.1.Lead, .int .i64 r_23.1.Airline, .int .i64 r_23.1.Serial, .int .i64 r_24.1, .fls, .int .i64 (0 : Int), .int .i64 (0 : Int), .int .i64 (0 : Int), .str (⟨#[]⟩ : ByteArray), .str (⟨#[]⟩ : ByteArray), .int .i64 (0 : Int), .str (⟨#[]⟩ : ByteArray), .nils]), (3, .row 6 (a_45.map encLeg))], 4⟩
      conv=>whnf
      refine ⟨fun b41=>?_,fun b41=>?_⟩
      ·
       replace hL1 := ct b41 hL1
       conv=>whnf
       obtain ⟨r_47, hr47, hL1⟩ := bs hL1
       refine ⟨_,_,_,_,_,_,_,_,_,callX false [0] [] 0 Tryz.func17 (by decide) rfl (keep_Src_Leg_ac (⟨a_43, i_44⟩ : Src) r_47 hr47) rfl ⟨(argP (id := 0) (by (conv=>lhs;whnf)<;>rfl) rfl),trivial⟩ rfl ⟨rfl,trivial⟩ rfl rfl rfl lend0 ⟨rfl,trivial⟩ rfl, ?_⟩
       conv=>whnf
       obtain ⟨l_48, hl48, hL1⟩ := bs hL1
       refine ap_q (enc := encLeg) (l := a_45) (y := ([r_47.1] : List Leg)) hl48 rfl rfl (by decide) ?_
       conv=>whnf
       refine ⟨by kernel_rfl, ?_⟩
       conv=>whnf
       refine ⟨_, rfl, ?_⟩
       conv=>whnf
       exact ⟨(q_49, r_47.2.L, r_47.2.At, l_48, (w64 (i_46 - (1 : Int)))), [0, 1, 2, 6], [], [], hL1, Nat.lt_succ_self _, wk_mk [0, 1, 2, 6] [] [] rfl ⟨argP (id := 0) (by (conv=>lhs;whnf)<;>rfl) rfl, argP (id := 1) (by (conv=>lhs;whnf)<;>rfl) rfl, argP (id := 2) (by (conv=>lhs;whnf)<;>rfl) rfl, aq,trivial⟩ ⟨boxL rfl rfl rfl ⟨(.ni _ rfl), (.ni _ rfl),trivial⟩, boxL rfl rfl rfl ⟨(.ni _ rfl), (.ni _ rfl), (.ni _ rfl), (.ni _ rfl), (.ni _ rfl), (.ni _ rfl), (.ni _ rfl), (.ni _ rfl), (.ni _ rfl), (.ni _ rfl), (.ni _ rfl), (.ni _ rfl), (.ni _ rfl), (.ni _ rfl), (.ni _ rfl), (.ni _ rfl), (.ni _ rfl), (.ni _ rfl), (.ni _ rfl), (.ni _ rfl), (.ni _ rfl), (.ni _ rfl), (.ni _ rfl), (.ni _ rfl), (.ni _ rfl), (.ni _ rfl), (.ni _ rfl), (.ni _ rfl), (.ni _ rfl), (.ni _ rfl),trivial⟩, boxL rfl rfl rfl ⟨(.ni _ rfl), (.ni _ rfl), (.ni _ rfl), (.ni _ rfl), (.ni _ rfl), (.ni _ rfl), (.ni _ rfl), (.ni _ rfl), (.ni _ rfl), (.ni _ rfl), (.ni _ rfl), (.ni _ rfl), (.ni _ rfl), (.ni _ rfl), (.ni _ rfl), (.ni _ rfl), (.oslg 6 3 rfl), (.ni _ rfl), (.ni _ rfl), (.ni _ rfl), (.ni _ rfl), (.ni _ rfl), (.ni _ rfl), (.ni _ rfl), (.ni _ rfl), (.ni _ rfl), (.ni _ rfl), (.ni _ rfl), (.ni _ rfl), (.ni _ rfl),trivial⟩, blkR (fun _ => ⟨rfl, rfl⟩) rfl rfl,trivial⟩⟩
      ·
       replace hL1 := cf b41 hL1
       conv=>whnf
       obtain rfl := si hL1
       replace hF := fin_brk hF
       try dsimp only at hF
       obtain ⟨r_51, hr51, hF⟩ := bs hF
       refine ⟨_,_,_,_,_,_,_,_,_,callX false [0] [] 0 Tryz.func18 (by decide) rfl (keep_Src_N_ac (⟨a_43, i_44⟩ : Src) (3 : Int) r_51 hr51) rfl ⟨(argP (id := 0) (by (conv=>lhs;whnf)<;>rfl) rfl), aq,trivial⟩ rfl ⟨rfl,trivial⟩ rfl rfl rfl lend0 ⟨rfl,trivial⟩ rfl, ?_⟩
       conv=>whnf
       obtain ⟨r_52, hr52, hF⟩ := bs hF
       refine ⟨_,_,_,_,_,_,_,_,_,callX false [0] [] 0 Tryz.func8 (by decide) rfl (keep_Src_Range_ac r_51.2 (1 : Int) (4 : Int) r_52 hr52) rfl ⟨(argP (id := 0) (by (conv=>lhs;whnf)<;>rfl) rfl), aq, aq,trivial⟩ rfl ⟨rfl,trivial⟩ rfl rfl rfl lend0 ⟨rfl,trivial⟩ rfl, ?_⟩
       conv=>whnf
       obtain ⟨r_53, hr53, hF⟩ := bs hF
       refine ⟨_,_,_,_,_,_,_,_,_,callX false [0] [] 0 Tryz.func8 (by decide) rfl (keep_Src_Range_ac r_52.2 (1 : Int) (4 : Int) r_53 hr53) rfl ⟨(argP (id := 0) (by (conv=>lhs;whnf)<;>rfl) rfl), aq, aq,trivial⟩ rfl ⟨rfl,trivial⟩ rfl rfl rfl lend0 ⟨rfl,trivial⟩ rfl, ?_⟩
       conv=>whnf
       obtain ⟨r_54, hr54, hF⟩ := bs hF
       refine ⟨_,_,_,_,_,_,_,_,_,callX true [0] [7] 0 Tryz.func19 (by decide) rfl (keep_Src_Pick_ac r_53.2 ([(20 : Int), (0 : Int), (999 : Int)] : List Int) r_54 hr54) rfl ⟨(argP (id := 0) (by (conv=>lhs;whnf)<;>rfl) rfl), (argOL 7 (by (conv=>lhs;whnf)<;>rfl) rfl rfl (map_ni (fun _ => ⟨rfl, rfl⟩) _)),trivial⟩ rfl ⟨rfl,trivial⟩ rfl rfl rfl giveU ⟨rfl,trivial⟩ rfl, ?_⟩
       conv=>whnf
       obtain ⟨r_55, hr55, hF⟩ := bs hF
       refine ⟨_,_,_,_,_,_,_,_,_,callX false [0] [] 0 Tryz.func16 (by decide) rfl (keep_Src_Letters_ac r_54.2 (1 : Int) (6 : Int) r_55 hr55) rfl ⟨(argP (id := 0) (by (conv=>lhs;whnf)<;>rfl) rfl), aq, aq,trivial⟩ rfl ⟨rfl,trivial⟩ rfl rfl rfl lend0 ⟨rfl,trivial⟩ rfl, ?_⟩
       conv=>whnf
       obtain ⟨r_56, hr56, hF⟩ := bs hF
       refine ⟨_,_,_,_,_,_,_,_,_,callX false [0] [] 0 Tryz.func16 (by decide) rfl (keep_Src_Letters_ac r_55.2 (0 : Int) (5 : Int) r_56 hr56) rfl ⟨(argP (id := 0) (by (conv=>lhs;whnf)<;>rfl) rfl), aq, aq,trivial⟩ rfl ⟨rfl,trivial⟩ rfl rfl rfl lend0 ⟨rfl,trivial⟩ rfl, ?_⟩
       conv=>whnf
       obtain ⟨r_57, hr57, hF⟩ := bs hF
       refine ⟨_,_,_,_,_,_,_,_,_,callX false [0] [] 0 Tryz.func8 (by decide) rfl (keep_Src_Range_ac r_56.2 (0 : Int) (3 : Int) r_57 hr57) rfl ⟨(argP (id := 0) (by (conv=>lhs;whnf)<;>rfl) rfl), aq, aq,trivial⟩ rfl ⟨rfl,trivial⟩ rfl rfl rfl lend0 ⟨rfl,trivial⟩ rfl, ?_⟩
       conv=>whnf
       obtain rfl := si hF
       exact ret_gz [0] [] [3] rfl (argA (c := [.int .i64 r_1.1, .int .i64 r_21.1, .str r_2.1, .int .i64 r_3.1, .str (⟨#[]⟩ : ByteArray), .int .i64 (0 : Int), .str (⟨#[]⟩ : ByteArray), .int .i64 (0 : Int), .str (⟨#[]⟩ : ByteArray), .str (⟨#[]⟩ : ByteArray), .str r_22.1.Flight.Carrier, .int .i64 r_22.1.Flight.Number, .str r_22.1.Flight.Suffix, .int .i64 r_22.1.Flight.Day, .str r_22.1.Port, .str r_22.1.Class, .osl 3, .int .i64 r_23.1.Lead, .int .i64 r_23.1.Airline, .int .i64 r_23.1.Serial, .int .i64 r_24.1, .bool (decide ((0 : Int) < r_51.1)), .int .i64 r_52.1, .int .i64 r_53.1, .int .i64 r_54.1, .str r_55.1, .str r_56.1, .int .i64 r_57.1, .str (⟨#[]⟩ : ByteArray), .nils]) (by (conv=>lhs;whnf)<;>rfl) rfl ⟨(.ni _ rfl), (.ni _ rfl), (.ni _ rfl), (.ni _ rfl), (.ni _ rfl), (.ni _ rfl), (.ni _ rfl), (.ni _ rfl), (.ni _ rfl), (.ni _ rfl), (.ni _ rfl), (.ni _ rfl), (.ni _ rfl), (.ni _ rfl), (.ni _ rfl), (.ni _ rfl), (.osl 3 6 _ (by simp) rfl (map_ni (fun _ => ⟨rfl, rfl⟩) _)), (.ni _ rfl), (.ni _ rfl), (.ni _ rfl), (.ni _ rfl), (.ni _ rfl), (.ni _ rfl), (.ni _ rfl), (.ni _ rfl), (.ni _ rfl), (.ni _ rfl), (.ni _ rfl), (.ni _ rfl), (.nils _),trivial⟩) ⟨boxL rfl rfl rfl ⟨(.ni _ rfl), (.ni _ rfl),trivial⟩,trivial⟩
 ·
  replace hF := cf b34 hF
  conv=>whnf
  obtain ⟨r_58, hr58, hF⟩ := bs hF
  refine ⟨_,_,_,_,_,_,_,_,_,callX true [0] [2] 0 Tryz.func14 (by decide) rfl (keep_Src_Text_ac x_0 ([(⟨#[65, 82, 78]⟩ : ByteArray), (⟨#[67, 80, 72]⟩ : ByteArray)] : List ByteArray) r_58 hr58) rfl ⟨(argP (id := 0) (by (conv=>lhs;whnf)<;>rfl) rfl), (argOL 2 (by (conv=>lhs;whnf)<;>rfl) rfl rfl (map_ni (fun _ => ⟨rfl, rfl⟩) _)),trivial⟩ rfl ⟨rfl,trivial⟩ rfl rfl rfl giveU ⟨rfl,trivial⟩ rfl, ?_⟩
  conv=>whnf
  obtain ⟨r_59, hr59, hF⟩ := bs hF
  refine ⟨_,_,_,_,_,_,_,_,_,callX false [0] [] 0 Tryz.func8 (by decide) rfl (keep_Src_Range_ac r_58.2 (1 : Int) (12 : Int) r_59 hr59) rfl ⟨(argP (id := 0) (by (conv=>lhs;whnf)<;>rfl) rfl), aq, aq,trivial⟩ rfl ⟨rfl,trivial⟩ rfl rfl rfl lend0 ⟨rfl,trivial⟩ rfl, ?_⟩
  conv=>whnf
  refine ⟨fun b42=>?_,fun b42=>?_⟩
  ·
   replace hF := ct b42 hF
   conv=>whnf
   obtain ⟨r_60, hr60, hF⟩ := bs hF
   refine ⟨_,_,_,_,_,_,_,_,_,callX false [0] [] 0 Tryz.func15 (by decide) rfl (keep_Src_AnyPlate_ac r_59.2 r_60 hr60) rfl ⟨(argP (id := 0) (by (conv=>lhs;whnf)<;>rfl) rfl),trivial⟩ rfl ⟨rfl,trivial⟩ rfl rfl rfl lend0 ⟨rfl,trivial⟩ rfl, ?_⟩
   conv=>whnf
   obtain ⟨r_61, hr61, hF⟩ := bs hF
   refine ⟨_,_,_,_,_,_,_,_,_,callX false [0] [] 0 Tryz.func8 (by decide) rfl (keep_Src_Range_ac r_60.2 (1 : Int) (3 : Int) r_61 hr61) rfl ⟨(argP (id := 0) (by (conv=>lhs;whnf)<;>rfl) rfl), aq, aq,trivial⟩ rfl ⟨rfl,trivial⟩ rfl rfl rfl lend0 ⟨rfl,trivial⟩ rfl, ?_⟩
   conv=>whnf
   obtain ⟨r_62, hr62, hF⟩ := bs hF
   refine ⟨_,_,_,_,_,_,_,_,_,callX false [0] [] 0 Tryz.func16 (by decide) rfl (keep_Src_Letters_ac r_61.2 (1 : Int) (4 : Int) r_62 hr62) rfl ⟨(argP (id := 0) (by (conv=>lhs;whnf)<;>rfl) rfl), aq, aq,trivial⟩ rfl ⟨rfl,trivial⟩ rfl rfl rfl lend0 ⟨rfl,trivial⟩ rfl, ?_⟩
   conv=>whnf
   obtain rfl := si hF
   exact ret_gz [0] [] [] rfl (argA (c := [.int .i64 x_1, .int .i64 (0 : Int), .str r_58.1, .int .i64 r_59.1, .str (⟨#[]⟩ : ByteArray), .int .i64 (0 : Int), .str (⟨#[]⟩ : ByteArray), .int .i64 (0 : Int), .str (⟨#[]⟩ : ByteArray), .str (⟨#[]⟩ : ByteArray), .str (⟨#[]⟩ : ByteArray), .int .i64 (0 : Int), .str (⟨#[]⟩ : ByteArray), .int .i64 (0 : Int), .str (⟨#[]⟩ : ByteArray), .str (⟨#[]⟩ : ByteArray), .nils, .int .i64 r_60.1.Lead, .int .i64 r_60.1.Airline, .int .i64 r_60.1.Serial, .int .i64 r_61.1, .fls, .int .i64 (0 : Int), .int .i64 (0 : Int), .int .i64 (0 : Int), .str (⟨#[]⟩ : ByteArray), .str (⟨#[]⟩ : ByteArray), .int .i64 (0 : Int), .str r_62.1, .nils]) (by (conv=>lhs;whnf)<;>rfl) rfl ⟨(.ni _ rfl), (.ni _ rfl), (.ni _ rfl), (.ni _ rfl), (.ni _ rfl), (.ni _ rfl), (.ni _ rfl), (.ni _ rfl), (.ni _ rfl), (.ni _ rfl), (.ni _ rfl), (.ni _ rfl), (.ni _ rfl), (.ni _ rfl), (.ni _ rfl), (.ni _ rfl), (.nils _), (.ni _ rfl), (.ni _ rfl), (.ni _ rfl), (.ni _ rfl), .fls, (.ni _ rfl), (.ni _ rfl), (.ni _ rfl), (.ni _ rfl), (.ni _ rfl), (.ni _ rfl), (.ni _ rfl), (.nils _),trivial⟩) ⟨boxL rfl rfl rfl ⟨(.ni _ rfl), (.ni _ rfl),trivial⟩,trivial⟩
  ·
   replace hF := cf b42 hF
   conv=>whnf
   refine ⟨fun b43=>?_,fun b43=>?_⟩
   ·
    replace hF := ct b43 hF
    conv=>whnf
    obtain ⟨r_63, hr63, hF⟩ := bs hF
    refine ⟨_,_,_,_,_,_,_,_,_,callX false [0] [] 0 Tryz.func15 (by decide) rfl (keep_Src_AnyPlate_ac r_59.2 r_63 hr63) rfl ⟨(argP (id := 0) (by (conv=>lhs;whnf)<;>rfl) rfl),trivial⟩ rfl ⟨rfl,trivial⟩ rfl rfl rfl lend0 ⟨rfl,trivial⟩ rfl, ?_⟩
    conv=>whnf
    obtain ⟨r_64, hr64, hF⟩ := bs hF
    refine ⟨_,_,_,_,_,_,_,_,_,callX false [0] [] 0 Tryz.func8 (by decide) rfl (keep_Src_Range_ac r_63.2 (1 : Int) (3 : Int) r_64 hr64) rfl ⟨(argP (id := 0) (by (conv=>lhs;whnf)<;>rfl) rfl), aq, aq,trivial⟩ rfl ⟨rfl,trivial⟩ rfl rfl rfl lend0 ⟨rfl,trivial⟩ rfl, ?_⟩
    conv=>whnf
    obtain ⟨r_65, hr65, hF⟩ := bs hF
    refine ⟨_,_,_,_,_,_,_,_,_,callX false [0] [] 0 Tryz.func17 (by decide) rfl (keep_Src_Leg_ac r_64.2 r_65 hr65) rfl ⟨(argP (id := 0) (by (conv=>lhs;whnf)<;>rfl) rfl),trivial⟩ rfl ⟨rfl,trivial⟩ rfl rfl rfl lend0 ⟨rfl,trivial⟩ rfl, ?_⟩
    conv=>whnf
    obtain rfl := si hF
    exact ret_gz [0] [] [] rfl (argA (c := [.int .i64 x_1, .int .i64 (0 : Int), .str r_58.1, .int .i64 r_59.1, .str (⟨#[]⟩ : ByteArray), .int .i64 (0 : Int), .str (⟨#[]⟩ : ByteArray), .int .i64 (0 : Int), .str (⟨#[]⟩ : ByteArray), .str (⟨#[]⟩ : ByteArray), .str r_65.1.Flight.Carrier, .int .i64 r_65.1.Flight.Number, .str r_65.1.Flight.Suffix, .int .i64 r_65.1.Flight.Day, .str r_65.1.Port, .str r_65.1.Class, .nils, .int .i64 r_63.1.Lead, .int .i64 r_63.1.Airline, .int .i64 r_63.1.Serial, .int .i64 r_64.1, .fls, .int .i64 (0 : Int), .int .i64 (0 : Int), .int .i64 (0 : Int), .str (⟨#[]⟩ : ByteArray), .str (⟨#[]⟩ : ByteArray), .int .i64 (0 : Int), .str (⟨#[]⟩ : ByteArray), .nils]) (by (conv=>lhs;whnf)<;>rfl) rfl ⟨(.ni _ rfl), (.ni _ rfl), (.ni _ rfl), (.ni _ rfl), (.ni _ rfl), (.ni _ rfl), (.ni _ rfl), (.ni _ rfl), (.ni _ rfl), (.ni _ rfl), (.ni _ rfl), (.ni _ rfl), (.ni _ rfl), (.ni _ rfl), (.ni _ rfl), (.ni _ rfl), (.nils _), (.ni _ rfl), (.ni _ rfl), (.ni _ rfl), (.ni _ rfl), .fls, (.ni _ rfl), (.ni _ rfl), (.ni _ rfl), (.ni _ rfl), (.ni _ rfl), (.ni _ rfl), (.ni _ rfl), (.nils _),trivial⟩) ⟨boxL rfl rfl rfl ⟨(.ni _ rfl), (.ni _ rfl),trivial⟩,trivial⟩
   ·
    replace hF := cf b43 hF
    conv=>whnf
    refine ⟨fun b44=>?_,fun b44=>?_⟩
    ·
     replace hF := ct b44 hF
     conv=>whnf
     obtain ⟨r_66, hr66, hF⟩ := bs hF
     refine ⟨_,_,_,_,_,_,_,_,_,callX false [0] [] 0 Tryz.func17 (by decide) rfl (keep_Src_Leg_ac r_59.2 r_66 hr66) rfl ⟨(argP (id := 0) (by (conv=>lhs;whnf)<;>rfl) rfl),trivial⟩ rfl ⟨rfl,trivial⟩ rfl rfl rfl lend0 ⟨rfl,trivial⟩ rfl, ?_⟩
     conv=>whnf
     obtain ⟨r_67, hr67, hF⟩ := bs hF
     refine ⟨_,_,_,_,_,_,_,_,_,callX false [0] [] 0 Tryz.func18 (by decide) rfl (keep_Src_N_ac r_66.2 (12 : Int) r_67 hr67) rfl ⟨(argP (id := 0) (by (conv=>lhs;whnf)<;>rfl) rfl), aq,trivial⟩ rfl ⟨rfl,trivial⟩ rfl rfl rfl lend0 ⟨rfl,trivial⟩ rfl, ?_⟩
     conv=>whnf
     obtain ⟨c_1, hc_1, hF⟩ := fin_some hF
     refine sw_loop tab_ok follows_ok (fun y : Nat × (List Int) × Int × (List Int) × Int × Int => keep_Src_Message_L1 y.1 y.2.1 y.2.2.1 y.2.2.2.1 y.2.2.2.2.1 y.2.2.2.2.2 = some c_1) (fun y => ⟨eL [(0, .ptr 0 0), (4, .ptr 1 0), (5, .ptr 2 0), (6, .int .i64 y.2.2.2.2.1), (7, .int .i64 y.2.2.2.2.2)], hL [(0, .box [.lst 1 (y.2.1.map iA), .int .i64 y.2.2.1]), (1, .box [.int .i64 (0 : Int), .int .i64 (0 : Int), .str (⟨#[]⟩ : ByteArray), .int .i64 (0 : Int), .str (⟨#[]⟩ : ByteArray), .int .i64 (0 : Int), .str (⟨#[]⟩ : ByteArray), .int .i64 (0 : Int), .str (⟨#[]⟩ : ByteArray), .str (⟨#[]⟩ : ByteArray), .str (⟨#[]⟩ : ByteArray), .int .i64 (0 : Int), .str (⟨#[]⟩ : ByteArray), .int .i64 (0 : Int), .str (⟨#[]⟩ : ByteArray), .str (⟨#[]⟩ : ByteArray), .nils, .int .i64 (0 : Int), .int .i64 (0 : Int), .int .i64 (0 : Int), .int .i64 (0 : Int), .fls, .int .i64 (0 : Int), .int .i64 (0 : Int), .int .i64 (0 : Int), .str (⟨#[]⟩ : ByteArray), .str (⟨#[]⟩ : ByteArray), .int .i64 (0 : Int), .str (⟨#[]⟩ : ByteArray), .nils]), (2, .box [.int .i64 x_1, .int .i64 (0 : Int), .str r_58.1, .int .i64 r_59.1, .str (⟨#[]⟩ : ByteArray), .int .i64 (0 : Int), .str (⟨#[]⟩ : ByteArray), .int .i64 (0 : Int), .str (⟨#[]⟩ : ByteArray), .str (⟨#[]⟩ : ByteArray), .str r_66.1.Flight.Carrier, .int .i64 r_66.1.Flight.Number, .str r_66.1.Flight.Suffix, .int .i64 r_66.1.Flight.Day, .str r_66.1.Port, .str r_66.1.Class, .nils, .int .i64 (0 : Int), .int .i64 (0 : Int), .int .i64 (0 : Int), .int .i64 (0 : Int), .fls, .int .i64 (0 : Int), .int .i64 (0 : Int), .int .i64 (0 : Int), .str (⟨#[]⟩ : ByteArray), .str (⟨#[]⟩ : ByteArray), .int .i64 (0 : Int), .str (⟨#[]⟩ : ByteArray), .osl 3]), (3, .row 1 (y.2.2.2.1.map iA))], 4⟩) (fun y => y.1) (9223372036854775807, r_67.2.L, r_67.2.At, ([] : List Int), (0 : Int), r_67.1) hc_1 (wk_mk [0, 1, 5] [3] [] rfl ⟨argP (id := 0) (by (conv=>lhs;whnf)<;>rfl) rfl, argP (id := 1) (by (conv=>lhs;whnf)<;>rfl) rfl, argP (id := 5) (by (conv=>lhs;whnf)<;>rfl) rfl, aq, aq,trivial⟩ ⟨boxL rfl rfl rfl ⟨(.ni _ rfl), (.ni _ rfl),trivial⟩, boxL rfl rfl rfl ⟨(.ni _ rfl), (.ni _ rfl), (.ni _ rfl), (.ni _ rfl), (.ni _ rfl), (.ni _ rfl), (.ni _ rfl), (.ni _ rfl), (.ni _ rfl), (.ni _ rfl), (.ni _ rfl), (.ni _ rfl), (.ni _ rfl), (.ni _ rfl), (.ni _ rfl), (.ni _ rfl), (.ni _ rfl), (.ni _ rfl), (.ni _ rfl), (.ni _ rfl), (.ni _ rfl), (.ni _ rfl), (.ni _ rfl), (.ni _ rfl), (.ni _ rfl), (.ni _ rfl), (.ni _ rfl), (.ni _ rfl), (.ni _ rfl), (.ni _ rfl),trivial⟩, boxL rfl rfl rfl ⟨(.ni _ rfl), (.ni _ rfl), (.ni _ rfl), (.ni _ rfl), (.ni _ rfl), (.ni _ rfl), (.ni _ rfl), (.ni _ rfl), (.ni _ rfl), (.ni _ rfl), (.ni _ rfl), (.ni _ rfl), (.ni _ rfl), (.ni _ rfl), (.ni _ rfl), (.ni _ rfl), (.ni _ rfl), (.ni _ rfl), (.ni _ rfl), (.ni _ rfl), (.ni _ rfl), (.ni _ rfl), (.ni _ rfl), (.ni _ rfl), (.ni _ rfl), (.ni _ rfl), (.ni _ rfl), (.ni _ rfl), (.ni _ rfl), (.nilz 3 (by simp)),trivial⟩, blkZ rfl,trivial⟩) ?_
     rintro ⟨q_75, a_68, i_69, a_70, i_71, i_72⟩ hL1
     try dsimp only at hL1
     rcases q_75 with _ | q_75
     ·
      rw [keep_Src_Message_L1.eq_1] at hL1
      cases hL1
     rw [keep_Src_Message_L1.eq_2] at hL1
     show awp _ _ _ _ _ _ ⟨eL [(0, .ptr 0 0), (4, .ptr 1 0), (5, .ptr 2 0), (6, .int .i64 i_71), (7, .int .i64 i_72)], hL [(0, .box [.lst 1 (a_68.map iA), .int .i64 i_69]), (1, .box [.int .i64 (0 : Int), .int .i64 (0 : Int), .str (⟨#[]⟩ : ByteArray), .int .i64 (0 : Int), .str (⟨#[]⟩ : ByteArray), .int .i64 (0 : Int), .str (⟨#[]⟩ : ByteArray), .int .i64 (0 : Int), .str (⟨#[]⟩ : ByteArray), .str (⟨#[]⟩ : ByteArray), .str (⟨#[]⟩ : ByteArray), .int .i64 (0 : Int), .str (⟨#[]⟩ : ByteArray), .int .i64 (0 : Int), .str (⟨#[]⟩ : ByteArray), .str (⟨#[]⟩ : ByteArray), .nils, .int .i64 (0 : Int), .int .i64 (0 : Int), .int .i64 (0 : Int), .int .i64 (0 : Int), .fls, .int .i64 (0 : Int), .int .i64 (0 : Int), .int .i64 (0 : Int), .str (⟨#[]⟩ : ByteArray), .str (⟨#[]⟩ : ByteArray), .int .i64 (0 : Int), .str (⟨#[]⟩ : ByteArray), .nils]), (2, .box [.int .i64 x_1, .int .i64 (0 : Int), .str r_58.1, .int .i64 r_59.1, .str (⟨#[]⟩ : ByteArray), .int .i64 (0 : Int), .str (⟨#[]⟩ : ByteArray), .int .i64 (0 : Int), .str (⟨#[]⟩ : ByteArray), .str (⟨#[]⟩ : ByteArray), .str r_66.1.Flight.Carrier, .int .i64 r_66.1.Flight.Number, .str r_66.1.Flight.Suffix, .int .i64 r_66.1.Flight.Day, .str r_66.1.Port, .str r_66.1.Class, .nils, .int .i64 (0 : Int), .int .i64 (0 : Int), .int .i64 (0 : Int), .int .i64 (0 : Int), .fls, .int .i64 (0 : Int), .int .i64 (0 : Int), .int .i64 (0 : Int), .str (⟨#[]⟩ : ByteArray), .str (⟨#[]⟩ : ByteArray), .int .i64 (0 : Int), .str (⟨#[]⟩ : ByteArray), .osl 3]), (3, .row 1 (a_70.map iA))], 4⟩
     conv=>whnf
     refine ⟨fun b45=>?_,fun b45=>?_⟩
     ·
      replace hL1 := ct b45 hL1
      conv=>whnf
      obtain ⟨r_73, hr73, hL1⟩ := bs hL1
      refine ⟨_,_,_,_,_,_,_,_,_,callX false [0] [] 0 Tryz.func8 (by decide) rfl (keep_Src_Range_ac (⟨a_68, i_69⟩ : Src) (1 : Int) (3 : Int) r_73 hr73) rfl ⟨(argP (id := 0) (by (conv=>lhs;whnf)<;>rfl) rfl), aq, aq,trivial⟩ rfl ⟨rfl,trivial⟩ rfl rfl rfl lend0 ⟨rfl,trivial⟩ rfl, ?_⟩
      conv=>whnf
      refine ⟨_, rfl, ?_⟩
      conv=>whnf
      obtain ⟨l_74, hl74, hL1⟩ := bs hL1
      refine ap_q (enc := iA) (l := a_70) (y := ([(w64 (i_71 + r_73.1))] : List Int)) hl74 rfl rfl (by decide) ?_
      conv=>whnf
      refine ⟨_, rfl, ?_⟩
      conv=>whnf
      exact ⟨(q_75, r_73.2.L, r_73.2.At, l_74, (w64 (i_71 + r_73.1)), (w64 (i_72 - (1 : Int)))), [0, 1, 2, 6], [], [], hL1, Nat.lt_succ_self _, wk_mk [0, 1, 2, 6] [] [] rfl ⟨argP (id := 0) (by (conv=>lhs;whnf)<;>rfl) rfl, argP (id := 1) (by (conv=>lhs;whnf)<;>rfl) rfl, argP (id := 2) (by (conv=>lhs;whnf)<;>rfl) rfl, aq, aq,trivial⟩ ⟨boxL rfl rfl rfl ⟨(.ni _ rfl), (.ni _ rfl),trivial⟩, boxL rfl rfl rfl ⟨(.ni _ rfl), (.ni _ rfl), (.ni _ rfl), (.ni _ rfl), (.ni _ rfl), (.ni _ rfl), (.ni _ rfl), (.ni _ rfl), (.ni _ rfl), (.ni _ rfl), (.ni _ rfl), (.ni _ rfl), (.ni _ rfl), (.ni _ rfl), (.ni _ rfl), (.ni _ rfl), (.ni _ rfl), (.ni _ rfl), (.ni _ rfl), (.ni _ rfl), (.ni _ rfl), (.ni _ rfl), (.ni _ rfl), (.ni _ rfl), (.ni _ rfl), (.ni _ rfl), (.ni _ rfl), (.ni _ rfl), (.ni _ rfl), (.ni _ rfl),trivial⟩, boxL rfl rfl rfl ⟨(.ni _ rfl), (.ni _ rfl), (.ni _ rfl), (.ni _ rfl), (.ni _ rfl), (.ni _ rfl), (.ni _ rfl), (.ni _ rfl), (.ni _ rfl), (.ni _ rfl), (.ni _ rfl), (.ni _ rfl), (.ni _ rfl), (.ni _ rfl), (.ni _ rfl), (.ni _ rfl), (.ni _ rfl), (.ni _ rfl), (.ni _ rfl), (.ni _ rfl), (.ni _ rfl), (.ni _ rfl), (.ni _ rfl), (.ni _ rfl), (.ni _ rfl), (.ni _ rfl), (.ni _ rfl), (.ni _ rfl), (.ni _ rfl), (.oslg 6 3 rfl),trivial⟩, blkR (fun _ => ⟨rfl, rfl⟩) rfl rfl,trivial⟩⟩
     ·
      replace hL1 := cf b45 hL1
      conv=>whnf
      obtain rfl := si hL1
      replace hF := fin_brk hF
      try dsimp only at hF
      obtain rfl := si hF
      exact ret_gz [0] [] [3] rfl (argA (c := [.int .i64 x_1, .int .i64 (0 : Int), .str r_58.1, .int .i64 r_59.1, .str (⟨#[]⟩ : ByteArray), .int .i64 (0 : Int), .str (⟨#[]⟩ : ByteArray), .int .i64 (0 : Int), .str (⟨#[]⟩ : ByteArray), .str (⟨#[]⟩ : ByteArray), .str r_66.1.Flight.Carrier, .int .i64 r_66.1.Flight.Number, .str r_66.1.Flight.Suffix, .int .i64 r_66.1.Flight.Day, .str r_66.1.Port, .str r_66.1.Class, .nils, .int .i64 (0 : Int), .int .i64 (0 : Int), .int .i64 (0 : Int), .int .i64 (0 : Int), .fls, .int .i64 (0 : Int), .int .i64 (0 : Int), .int .i64 (0 : Int), .str (⟨#[]⟩ : ByteArray), .str (⟨#[]⟩ : ByteArray), .int .i64 (0 : Int), .str (⟨#[]⟩ : ByteArray), .osl 3]) (by (conv=>lhs;whnf)<;>rfl) rfl ⟨(.ni _ rfl), (.ni _ rfl), (.ni _ rfl), (.ni _ rfl), (.ni _ rfl), (.ni _ rfl), (.ni _ rfl), (.ni _ rfl), (.ni _ rfl), (.ni _ rfl), (.ni _ rfl), (.ni _ rfl), (.ni _ rfl), (.ni _ rfl), (.ni _ rfl), (.ni _ rfl), (.nils _), (.ni _ rfl), (.ni _ rfl), (.ni _ rfl), (.ni _ rfl), .fls, (.ni _ rfl), (.ni _ rfl), (.ni _ rfl), (.ni _ rfl), (.ni _ rfl), (.ni _ rfl), (.ni _ rfl), (.osl 3 1 _ (by simp) rfl (map_ni (fun _ => ⟨rfl, rfl⟩) _)),trivial⟩) ⟨boxL rfl rfl rfl ⟨(.ni _ rfl), (.ni _ rfl),trivial⟩,trivial⟩
    ·
     replace hF := cf b44 hF
     conv=>whnf
     obtain ⟨r_77, hr77, hF⟩ := bs hF
     refine ⟨_,_,_,_,_,_,_,_,_,callX true [0] [6] 0 Tryz.func19 (by decide) rfl (keep_Src_Pick_ac r_59.2 ([(0 : Int), (0 : Int), (1 : Int), (2 : Int)] : List Int) r_77 hr77) rfl ⟨(argP (id := 0) (by (conv=>lhs;whnf)<;>rfl) rfl), (argOL 6 (by (conv=>lhs;whnf)<;>rfl) rfl rfl (map_ni (fun _ => ⟨rfl, rfl⟩) _)),trivial⟩ rfl ⟨rfl,trivial⟩ rfl rfl rfl giveU ⟨rfl,trivial⟩ rfl, ?_⟩
     conv=>whnf
     obtain ⟨r_78, hr78, hF⟩ := bs hF
     refine ⟨_,_,_,_,_,_,_,_,_,callX false [0] [] 0 Tryz.func17 (by decide) rfl (keep_Src_Leg_ac r_77.2 r_78 hr78) rfl ⟨(argP (id := 0) (by (conv=>lhs;whnf)<;>rfl) rfl),trivial⟩ rfl ⟨rfl,trivial⟩ rfl rfl rfl lend0 ⟨rfl,trivial⟩ rfl, ?_⟩
     conv=>whnf
     obtain ⟨r_79, hr79, hF⟩ := bs hF
     refine ⟨_,_,_,_,_,_,_,_,_,callX false [0] [] 0 Tryz.func15 (by decide) rfl (keep_Src_AnyPlate_ac r_78.2 r_79 hr79) rfl ⟨(argP (id := 0) (by (conv=>lhs;whnf)<;>rfl) rfl),trivial⟩ rfl ⟨rfl,trivial⟩ rfl rfl rfl lend0 ⟨rfl,trivial⟩ rfl, ?_⟩
     conv=>whnf
     obtain ⟨r_80, hr80, hF⟩ := bs hF
     refine ⟨_,_,_,_,_,_,_,_,_,callX false [0] [] 0 Tryz.func8 (by decide) rfl (keep_Src_Range_ac r_79.2 (1 : Int) (3 : Int) r_80 hr80) rfl ⟨(argP (id := 0) (by (conv=>lhs;whnf)<;>rfl) rfl), aq, aq,trivial⟩ rfl ⟨rfl,trivial⟩ rfl rfl rfl lend0 ⟨rfl,trivial⟩ rfl, ?_⟩
     conv=>whnf
     refine ⟨fun b46=>?_,fun b46=>?_⟩
     ·
      replace hF := ct b46 hF
      conv=>whnf
      obtain ⟨r_81, hr81, hF⟩ := bs hF
      refine ⟨_,_,_,_,_,_,_,_,_,callX false [0] [] 0 Tryz.func17 (by decide) rfl (keep_Src_Leg_ac r_80.2 r_81 hr81) rfl ⟨(argP (id := 0) (by (conv=>lhs;whnf)<;>rfl) rfl),trivial⟩ rfl ⟨rfl,trivial⟩ rfl rfl rfl lend0 ⟨rfl,trivial⟩ rfl, ?_⟩
      conv=>whnf
      obtain ⟨r_82, hr82, hF⟩ := bs hF
      refine ⟨_,_,_,_,_,_,_,_,_,callX false [0] [] 0 Tryz.func18 (by decide) rfl (keep_Src_N_ac r_81.2 (4 : Int) r_82 hr82) rfl ⟨(argP (id := 0) (by (conv=>lhs;whnf)<;>rfl) rfl), aq,trivial⟩ rfl ⟨rfl,trivial⟩ rfl rfl rfl lend0 ⟨rfl,trivial⟩ rfl, ?_⟩
      conv=>whnf
      obtain ⟨c_2, hc_2, hF⟩ := fin_some hF
      refine sw_loop tab_ok follows_ok (fun y : Nat × (List Int) × Int × (List Leg) × Int => keep_Src_Message_L2 y.1 y.2.1 y.2.2.1 y.2.2.2.1 y.2.2.2.2 = some c_2) (fun y => ⟨eL [(0, .ptr 0 0), (4, .ptr 1 0), (5, .ptr 2 0), (8, .int .i64 y.2.2.2.2)], hL [(0, .box [.lst 1 (y.2.1.map iA), .int .i64 y.2.2.1]), (1, .box [.int .i64 (0 : Int), .int .i64 (0 : Int), .str (⟨#[]⟩ : ByteArray), .int .i64 (0 : Int), .str (⟨#[]⟩ : ByteArray), .int .i64 (0 : Int), .str (⟨#[]⟩ : ByteArray), .int .i64 (0 : Int), .str (⟨#[]⟩ : ByteArray), .str (⟨#[]⟩ : ByteArray), .str (⟨#[]⟩ : ByteArray), .int .i64 (0 : Int), .str (⟨#[]⟩ : ByteArray), .int .i64 (0 : Int), .str (⟨#[]⟩ : ByteArray), .str (⟨#[]⟩ : ByteArray), .nils, .int .i64 (0 : Int), .int .i64 (0 : Int), .int .i64 (0 : Int), .int .i64 (0 : Int), .fls, .int .i64 (0 : Int), .int .i64 (0 : Int), .int .i64 (0 : Int), .str (⟨#[]⟩ : ByteArray), .str (⟨#[]⟩ : ByteArray), .int .i64 (0 : Int), .str (⟨#[]⟩ : ByteArray), .nils]), (2, .box [.int .i64 x_1, .int .i64 r_77.1, .str r_58.1, .int .i64 r_59.1, .str r_81.1.Flight.Carrier, .int .i64 r_81.1.Flight.Number, .str r_81.1.Flight.Suffix, .int .i64 r_81.1.Flight.Day, .str r_81.1.Port, .str r_81.1.Class, .str r_78.1.Flight.Carrier, .int .i64 r_78.1.Flight.Number, .str r_78.1.Flight.Suffix, .int .i64 r_78.1.Flight.Day, .str r_78.1.Port, .str r_78.1.Class, .osl 3, .int .i64 r_79.1.Lead, .int .i64 r_79.1.Airline, .int .i64 r_79.1.Serial, .int .i64 r_80.1, .fls, .int .i64 (0 : Int), .int .i64 (0 : Int), .int .i64 (0 : Int), .str (⟨#[]⟩ : ByteArray), .str (⟨#[]⟩ : ByteArray), .int .i64 (0 : Int), .str (⟨#[]⟩ : ByteArray), .nils]), (3, .row 6 (y.2.2.2.1.map encLeg))], 4⟩) (fun y => y.1) (9223372036854775807, r_82.2.L, r_82.2.At, ([] : List Leg), r_82.1) hc_2 (wk_mk [0, 1, 5] [3] [] rfl ⟨argP (id := 0) (by (conv=>lhs;whnf)<;>rfl) rfl, argP (id := 1) (by (conv=>lhs;whnf)<;>rfl) rfl, argP (id := 5) (by (conv=>lhs;whnf)<;>rfl) rfl, aq,trivial⟩ ⟨boxL rfl rfl rfl ⟨(.ni _ rfl), (.ni _ rfl),trivial⟩, boxL rfl rfl rfl ⟨(.ni _ rfl), (.ni _ rfl), (.ni _ rfl), (.ni _ rfl), (.ni _ rfl), (.ni _ rfl), (.ni _ rfl), (.ni _ rfl), (.ni _ rfl), (.ni _ rfl), (.ni _ rfl), (.ni _ rfl), (.ni _ rfl), (.ni _ rfl), (.ni _ rfl), (.ni _ rfl), (.ni _ rfl), (.ni _ rfl), (.ni _ rfl), (.ni _ rfl), (.ni _ rfl), (.ni _ rfl), (.ni _ rfl), (.ni _ rfl), (.ni _ rfl), (.ni _ rfl), (.ni _ rfl), (.ni _ rfl), (.ni _ rfl), (.ni _ rfl),trivial⟩, boxL rfl rfl rfl ⟨(.ni _ rfl), (.ni _ rfl), (.ni _ rfl), (.ni _ rfl), (.ni _ rfl), (.ni _ rfl), (.ni _ rfl), (.ni _ rfl), (.ni _ rfl), (.ni _ rfl), (.ni _ rfl), (.ni _ rfl), (.ni _ rfl), (.ni _ rfl), (.ni _ rfl), (.ni _ rfl), (.nilz 3 (by simp)), (.ni _ rfl), (.ni _ rfl), (.ni _ rfl), (.ni _ rfl), (.ni _ rfl), (.ni _ rfl), (.ni _ rfl), (.ni _ rfl), (.ni _ rfl), (.ni _ rfl), (.ni _ rfl), (.ni _ rfl), (.ni _ rfl),trivial⟩, blkZ rfl,trivial⟩) ?_
      rintro ⟨q_89, a_83, i_84, a_85, i_86⟩ hL1
      try dsimp only at hL1
      rcases q_89 with _ | q_89
      ·
       rw [keep_Src_Message_L2.eq_1] at hL1
       cases hL1
      rw [keep_Src_Message_L2.eq_2] at hL1
      show awp _ _ _ _ _ _ ⟨eL [(0, .ptr 0 0), (4, .ptr 1 0), (5, .ptr 2 0), (8, .int .i64 i_86)], hL [(0, .box [.lst 1 (a_83.map iA), .int .i64 i_84]), (1, .box [.int .i64 (0 : Int), .int .i64 (0 : Int), .str (⟨#[]⟩ : ByteArray), .int .i64 (0 : Int), .str (⟨#[]⟩ : ByteArray), .int .i64 (0 : Int), .str (⟨#[]⟩ : ByteArray), .int .i64 (0 : Int), .str (⟨#[]⟩ : ByteArray), .str (⟨#[]⟩ : ByteArray), .str (⟨#[]⟩ : ByteArray), .int .i64 (0 : Int), .str (⟨#[]⟩ : ByteArray), .int .i64 (0 : Int), .str (⟨#[]⟩ : ByteArray), .str (⟨#[]⟩ : ByteArray), .nils, .int .i64 (0 : Int), .int .i64 (0 : Int), .int .i64 (0 : Int), .int .i64 (0 : Int), .fls, .int .i64 (0 : Int), .int .i64 (0 : Int), .int .i64 (0 : Int), .str (⟨#[]⟩ : ByteArray), .str (⟨#[]⟩ : ByteArray), .int .i64 (0 : Int), .str (⟨#[]⟩ : ByteArray), .nils]), (2, .box [.int .i64 x_1, .int .i64 r_77.1, .str r_58.1, .int .i64 r_59.1, .str r_81.1.Flight.Carrier, .int .i64 r_81.1.Flight.Number, .str r_81.1.Flight.Suffix, .int .i64 r_81.1.Flight.Day, .str r_81.1.Port, .str r_81.1.Class, .str r_78.1.Flight.Carrier, .int .i64 r_78.1.Flight.Number, .str r_78.1.Flight.Suffix, .int .i64 r_78.1.Flight.Day, .str r_78.1.Port, .str r_78.1.Class, .osl 3, .int .i64 r_79.1.Lead, .int .i64 r_79.1.Airline, .int .i64 r_79.1.Serial, .int .i64 r_80.1, .fls, .int .i64 (0 : Int), .int .i64 (0 : Int), .int .i64 (0 : Int), .str (⟨#[]⟩ : ByteArray), .str (⟨#[]⟩ : ByteArray), .int .i64 (0 : Int), .str (⟨#[]⟩ : ByteArray), .nils]), (3, .row 6 (a_85.map encLeg))], 4⟩
      conv=>whnf
      refine ⟨fun b47=>?_,fun b47=>?_⟩
      ·
       replace hL1 := ct b47 hL1
       conv=>whnf
       obtain ⟨r_87, hr87, hL1⟩ := bs hL1
       refine ⟨_,_,_,_,_,_,_,_,_,callX false [0] [] 0 Tryz.func17 (by decide) rfl (keep_Src_Leg_ac (⟨a_83, i_84⟩ : Src) r_87 hr87) rfl ⟨(argP (id := 0) (by (conv=>lhs;whnf)<;>rfl) rfl),trivial⟩ rfl ⟨rfl,trivial⟩ rfl rfl rfl lend0 ⟨rfl,trivial⟩ rfl, ?_⟩
       conv=>whnf
       obtain ⟨l_88, hl88, hL1⟩ := bs hL1
       refine ap_q (enc := encLeg) (l := a_85) (y := ([r_87.1] : List Leg)) hl88 rfl rfl (by decide) ?_
       conv=>whnf
       refine ⟨by kernel_rfl, ?_⟩
       conv=>whnf
       refine ⟨_, rfl, ?_⟩
       conv=>whnf
       exact ⟨(q_89, r_87.2.L, r_87.2.At, l_88, (w64 (i_86 - (1 : Int)))), [0, 1, 2, 6], [], [], hL1, Nat.lt_succ_self _, wk_mk [0, 1, 2, 6] [] [] rfl ⟨argP (id := 0) (by (conv=>lhs;whnf)<;>rfl) rfl, argP (id := 1) (by (conv=>lhs;whnf)<;>rfl) rfl, argP (id := 2) (by (conv=>lhs;whnf)<;>rfl) rfl, aq,trivial⟩ ⟨boxL rfl rfl rfl ⟨(.ni _ rfl), (.ni _ rfl),trivial⟩, boxL rfl rfl rfl ⟨(.ni _ rfl), (.ni _ rfl), (.ni _ rfl), (.ni _ rfl), (.ni _ rfl), (.ni _ rfl), (.ni _ rfl), (.ni _ rfl), (.ni _ rfl), (.ni _ rfl), (.ni _ rfl), (.ni _ rfl), (.ni _ rfl), (.ni _ rfl), (.ni _ rfl), (.ni _ rfl), (.ni _ rfl), (.ni _ rfl), (.ni _ rfl), (.ni _ rfl), (.ni _ rfl), (.ni _ rfl), (.ni _ rfl), (.ni _ rfl), (.ni _ rfl), (.ni _ rfl), (.ni _ rfl), (.ni _ rfl), (.ni _ rfl), (.ni _ rfl),trivial⟩, boxL rfl rfl rfl ⟨(.ni _ rfl), (.ni _ rfl), (.ni _ rfl), (.ni _ rfl), (.ni _ rfl), (.ni _ rfl), (.ni _ rfl), (.ni _ rfl), (.ni _ rfl), (.ni _ rfl), (.ni _ rfl), (.ni _ rfl), (.ni _ rfl), (.ni _ rfl), (.ni _ rfl), (.ni _ rfl), (.oslg 6 3 rfl), (.ni _ rfl), (.ni _ rfl), (.ni _ rfl), (.ni _ rfl), (.ni _ rfl), (.ni _ rfl), (.ni _ rfl), (.ni _ rfl), (.ni _ rfl), (.ni _ rfl), (.ni _ rfl), (.ni _ rfl), (.ni _ rfl),trivial⟩, blkR (fun _ => ⟨rfl, rfl⟩) rfl rfl,trivial⟩⟩
      ·
       replace hL1 := cf b47 hL1
       conv=>whnf
       obtain rfl := si hL1
       replace hF := fin_brk hF
       try dsimp only at hF
       obtain ⟨r_91, hr91, hF⟩ := bs hF
       refine ⟨_,_,_,_,_,_,_,_,_,callX false [0] [] 0 Tryz.func18 (by decide) rfl (keep_Src_N_ac (⟨a_83, i_84⟩ : Src) (3 : Int) r_91 hr91) rfl ⟨(argP (id := 0) (by (conv=>lhs;whnf)<;>rfl) rfl), aq,trivial⟩ rfl ⟨rfl,trivial⟩ rfl rfl rfl lend0 ⟨rfl,trivial⟩ rfl, ?_⟩
       conv=>whnf
       obtain ⟨r_92, hr92, hF⟩ := bs hF
       refine ⟨_,_,_,_,_,_,_,_,_,callX false [0] [] 0 Tryz.func8 (by decide) rfl (keep_Src_Range_ac r_91.2 (1 : Int) (4 : Int) r_92 hr92) rfl ⟨(argP (id := 0) (by (conv=>lhs;whnf)<;>rfl) rfl), aq, aq,trivial⟩ rfl ⟨rfl,trivial⟩ rfl rfl rfl lend0 ⟨rfl,trivial⟩ rfl, ?_⟩
       conv=>whnf
       obtain ⟨r_93, hr93, hF⟩ := bs hF
       refine ⟨_,_,_,_,_,_,_,_,_,callX false [0] [] 0 Tryz.func8 (by decide) rfl (keep_Src_Range_ac r_92.2 (1 : Int) (4 : Int) r_93 hr93) rfl ⟨(argP (id := 0) (by (conv=>lhs;whnf)<;>rfl) rfl), aq, aq,trivial⟩ rfl ⟨rfl,trivial⟩ rfl rfl rfl lend0 ⟨rfl,trivial⟩ rfl, ?_⟩
       conv=>whnf
       obtain ⟨r_94, hr94, hF⟩ := bs hF
       refine ⟨_,_,_,_,_,_,_,_,_,callX true [0] [7] 0 Tryz.func19 (by decide) rfl (keep_Src_Pick_ac r_93.2 ([(20 : Int), (0 : Int), (999 : Int)] : List Int) r_94 hr94) rfl ⟨(argP (id := 0) (by (conv=>lhs;whnf)<;>rfl) rfl), (argOL 7 (by (conv=>lhs;whnf)<;>rfl) rfl rfl (map_ni (fun _ => ⟨rfl, rfl⟩) _)),trivial⟩ rfl ⟨rfl,trivial⟩ rfl rfl rfl giveU ⟨rfl,trivial⟩ rfl, ?_⟩
       conv=>whnf
       obtain ⟨r_95, hr95, hF⟩ := bs hF
       refine ⟨_,_,_,_,_,_,_,_,_,callX false [0] [] 0 Tryz.func16 (by decide) rfl (keep_Src_Letters_ac r_94.2 (1 : Int) (6 : Int) r_95 hr95) rfl ⟨(argP (id := 0) (by (conv=>lhs;whnf)<;>rfl) rfl), aq, aq,trivial⟩ rfl ⟨rfl,trivial⟩ rfl rfl rfl lend0 ⟨rfl,trivial⟩ rfl, ?_⟩
       conv=>whnf
       obtain ⟨r_96, hr96, hF⟩ := bs hF
       refine ⟨_,_,_,_,_,_,_,_,_,callX false [0] [] 0 Tryz.func16 (by decide) rfl (keep_Src_Letters_ac r_95.2 (0 : Int) (5 : Int) r_96 hr96) rfl ⟨(argP (id := 0) (by (conv=>lhs;whnf)<;>rfl) rfl), aq, aq,trivial⟩ rfl ⟨rfl,trivial⟩ rfl rfl rfl lend0 ⟨rfl,trivial⟩ rfl, ?_⟩
       conv=>whnf
       obtain ⟨r_97, hr97, hF⟩ := bs hF
       refine ⟨_,_,_,_,_,_,_,_,_,callX false [0] [] 0 Tryz.func8 (by decide) rfl (keep_Src_Range_ac r_96.2 (0 : Int) (3 : Int) r_97 hr97) rfl ⟨(argP (id := 0) (by (conv=>lhs;whnf)<;>rfl) rfl), aq, aq,trivial⟩ rfl ⟨rfl,trivial⟩ rfl rfl rfl lend0 ⟨rfl,trivial⟩ rfl, ?_⟩
       conv=>whnf
       obtain rfl := si hF
       exact ret_gz [0] [] [3] rfl (argA (c := [.int .i64 x_1, .int .i64 r_77.1, .str r_58.1, .int .i64 r_59.1, .str r_81.1.Flight.Carrier, .int .i64 r_81.1.Flight.Number, .str r_81.1.Flight.Suffix, .int .i64 r_81.1.Flight.Day, .str r_81.1.Port, .str r_81.1.Class, .str r_78.1.Flight.Carrier, .int .i64 r_78.1.Flight.Number, .str r_78.1.Flight.Suffix, .int .i64 r_78.1.Flight.Day, .str r_78.1.Port, .str r_78.1.Class, .osl 3, .int .i64 r_79.1.Lead, .int .i64 r_79.1.Airline, .int .i64 r_79.1.Serial, .int .i64 r_80.1, .bool (decide ((0 : Int) < r_91.1)), .int .i64 r_92.1, .int .i64 r_93.1, .int .i64 r_94.1, .str r_95.1, .str r_96.1, .int .i64 r_97.1, .str (⟨#[]⟩ : ByteArray), .nils]) (by (conv=>lhs;whnf)<;>rfl) rfl ⟨(.ni _ rfl), (.ni _ rfl), (.ni _ rfl), (.ni _ rfl), (.ni _ rfl), (.ni _ rfl), (.ni _ rfl), (.ni _ rfl), (.ni _ rfl), (.ni _ rfl), (.ni _ rfl), (.ni _ rfl), (.ni _ rfl), (.ni _ rfl), (.ni _ rfl), (.ni _ rfl), (.osl 3 6 _ (by simp) rfl (map_ni (fun _ => ⟨rfl, rfl⟩) _)), (.ni _ rfl), (.ni _ rfl), (.ni _ rfl), (.ni _ rfl), (.ni _ rfl), (.ni _ rfl), (.ni _ rfl), (.ni _ rfl), (.ni _ rfl), (.ni _ rfl), (.ni _ rfl), (.ni _ rfl), (.nils _),trivial⟩) ⟨boxL rfl rfl rfl ⟨(.ni _ rfl), (.ni _ rfl),trivial⟩,trivial⟩
     ·
      replace hF := cf b46 hF
      conv=>whnf
      obtain ⟨r_98, hr98, hF⟩ := bs hF
      refine ⟨_,_,_,_,_,_,_,_,_,callX false [0] [] 0 Tryz.func18 (by decide) rfl (keep_Src_N_ac r_80.2 (4 : Int) r_98 hr98) rfl ⟨(argP (id := 0) (by (conv=>lhs;whnf)<;>rfl) rfl), aq,trivial⟩ rfl ⟨rfl,trivial⟩ rfl rfl rfl lend0 ⟨rfl,trivial⟩ rfl, ?_⟩
      conv=>whnf
      obtain ⟨c_2, hc_2, hF⟩ := fin_some hF
      refine sw_loop tab_ok follows_ok (fun y : Nat × (List Int) × Int × (List Leg) × Int => keep_Src_Message_L2 y.1 y.2.1 y.2.2.1 y.2.2.2.1 y.2.2.2.2 = some c_2) (fun y => ⟨eL [(0, .ptr 0 0), (4, .ptr 1 0), (5, .ptr 2 0), (8, .int .i64 y.2.2.2.2)], hL [(0, .box [.lst 1 (y.2.1.map iA), .int .i64 y.2.2.1]), (1, .box [.int .i64 (0 : Int), .int .i64 (0 : Int), .str (⟨#[]⟩ : ByteArray), .int .i64 (0 : Int), .str (⟨#[]⟩ : ByteArray), .int .i64 (0 : Int), .str (⟨#[]⟩ : ByteArray), .int .i64 (0 : Int), .str (⟨#[]⟩ : ByteArray), .str (⟨#[]⟩ : ByteArray), .str (⟨#[]⟩ : ByteArray), .int .i64 (0 : Int), .str (⟨#[]⟩ : ByteArray), .int .i64 (0 : Int), .str (⟨#[]⟩ : ByteArray), .str (⟨#[]⟩ : ByteArray), .nils, .int .i64 (0 : Int), .int .i64 (0 : Int), .int .i64 (0 : Int), .int .i64 (0 : Int), .fls, .int .i64 (0 : Int), .int .i64 (0 : Int), .int .i64 (0 : Int), .str (⟨#[]⟩ : ByteArray), .str (⟨#[]⟩ : ByteArray), .int .i64 (0 : Int), .str (⟨#[]⟩ : ByteArray), .nils]), (2, .box [.int .i64 x_1, .int .i64 r_77.1, .str r_58.1, .int .i64 r_59.1, .str (⟨#[]⟩ : ByteArray), .int .i64 (0 : Int), .str (⟨#[]⟩ : ByteArray), .int .i64 (0 : Int), .str (⟨#[]⟩ : ByteArray), .str (⟨#[]⟩ : ByteArray), .str r_78.1.Flight.Carrier, .int .i64 r_78.1.Flight.Number, .str r_78.1.Flight.Suffix, .int .i64 r_78.1.Flight.Day, .str r_78.1.Port, .str r_78.1.Class, .osl 3, .int .i64 r_79.1.Lead, .int .i64 r_79.1.Airline, .int .i64 r_79.1.Serial, .int .i64 r_80.1, .fls, .int .i64 (0 : Int), .int .i64 (0 : Int), .int .i64 (0 : Int), .str (⟨#[]⟩ : ByteArray), .str (⟨#[]⟩ : ByteArray), .int .i64 (0 : Int), .str (⟨#[]⟩ : ByteArray), .nils]), (3, .row 6 (y.2.2.2.1.map encLeg))], 4⟩) (fun y => y.1) (9223372036854775807, r_98.2.L, r_98.2.At, ([] : List Leg), r_98.1) hc_2 (wk_mk [0, 1, 5] [3] [] rfl ⟨argP (id := 0) (by (conv=>lhs;whnf)<;>rfl) rfl, argP (id := 1) (by (conv=>lhs;whnf)<;>rfl) rfl, argP (id := 5) (by (conv=>lhs;whnf)<;>rfl) rfl, aq,trivial⟩ ⟨boxL rfl rfl rfl ⟨(.ni _ rfl), (.ni _ rfl),trivial⟩, boxL rfl rfl rfl ⟨(.ni _ rfl), (.ni _ rfl), (.ni _ rfl), (.ni _ rfl), (.ni _ rfl), (.ni _ rfl), (.ni _ rfl), (.ni _ rfl), (.ni _ rfl), (.ni _ rfl), (.ni _ rfl), (.ni _ rfl), (.ni _ rfl), (.ni _ rfl), (.ni _ rfl), (.ni _ rfl), (.ni _ rfl), (.ni _ rfl), (.ni _ rfl), (.ni _ rfl), (.ni _ rfl), (.ni _ rfl), (.ni _ rfl), (.ni _ rfl), (.ni _ rfl), (.ni _ rfl), (.ni _ rfl), (.ni _ rfl), (.ni _ rfl), (.ni _ rfl),trivial⟩, boxL rfl rfl rfl ⟨(.ni _ rfl), (.ni _ rfl), (.ni _ rfl), (.ni _ rfl), (.ni _ rfl), (.ni _ rfl), (.ni _ rfl), (.ni _ rfl), (.ni _ rfl), (.ni _ rfl), (.ni _ rfl), (.ni _ rfl), (.ni _ rfl), (.ni _ rfl), (.ni _ rfl), (.ni _ rfl), (.nilz 3 (by simp)), (.ni _ rfl), (.ni _ rfl), (.ni _ rfl), (.ni _ rfl), (.ni _ rfl), (.ni _ rfl), (.ni _ rfl), (.ni _ rfl), (.ni _ rfl), (.ni _ rfl), (.ni _ rfl), (.ni _ rfl), (.ni _ rfl),trivial⟩, blkZ rfl,trivial⟩) ?_
      rintro ⟨q_105, a_99, i_100, a_101, i_102⟩ hL1
      try dsimp only at hL1
      rcases q_105 with _ | q_105
      ·
       rw [keep_Src_Message_L2.eq_1] at hL1
       cases hL1
      rw [keep_Src_Message_L2.eq_2] at hL1
      show awp _ _ _ _ _ _ ⟨eL [(0, .ptr 0 0), (4, .ptr 1 0), (5, .ptr 2 0), (8, .int .i64 i_102)], hL [(0, .box [.lst 1 (a_99.map iA), .int .i64 i_100]), (1, .box [.int .i64 (0 : Int), .int .i64 (0 : Int), .str (⟨#[]⟩ : ByteArray), .int .i64 (0 : Int), .str (⟨#[]⟩ : ByteArray), .int .i64 (0 : Int), .str (⟨#[]⟩ : ByteArray), .int .i64 (0 : Int), .str (⟨#[]⟩ : ByteArray), .str (⟨#[]⟩ : ByteArray), .str (⟨#[]⟩ : ByteArray), .int .i64 (0 : Int), .str (⟨#[]⟩ : ByteArray), .int .i64 (0 : Int), .str (⟨#[]⟩ : ByteArray), .str (⟨#[]⟩ : ByteArray), .nils, .int .i64 (0 : Int), .int .i64 (0 : Int), .int .i64 (0 : Int), .int .i64 (0 : Int), .fls, .int .i64 (0 : Int), .int .i64 (0 : Int), .int .i64 (0 : Int), .str (⟨#[]⟩ : ByteArray), .str (⟨#[]⟩ : ByteArray), .int .i64 (0 : Int), .str (⟨#[]⟩ : ByteArray), .nils]), (2, .box [.int .i64 x_1, .int .i64 r_77.1, .str r_58.1, .int .i64 r_59.1, .str (⟨#[]⟩ : ByteArray), .int .i64 (0 : Int), .str (⟨#[]⟩ : ByteArray), .int .i64 (0 : Int), .str (⟨#[]⟩ : ByteArray), .str (⟨#[]⟩ : ByteArray), .str r_78.1.Flight.Carrier, .int .i64 r_78.1.Flight.Number, .str r_78.1.Flight.Suffix, .int .i64 r_78.1.Flight.Day, .str r_78.1.Port, .str r_78.1.Class, .osl 3, .int .i64 r_79.1.Lead, .int .i64 r_79.1.Airline, .int .i64 r_79.1.Serial, .int .i64 r_80.1, .fls, .int .i64 (0 : Int), .int .i64 (0 : Int), .int .i64 (0 : Int), .str (⟨#[]⟩ : ByteArray), .str (⟨#[]⟩ : ByteArray), .int .i64 (0 : Int), .str (⟨#[]⟩ : ByteArray), .nils]), (3, .row 6 (a_101.map encLeg))], 4⟩
      conv=>whnf
      refine ⟨fun b48=>?_,fun b48=>?_⟩
      ·
       replace hL1 := ct b48 hL1
       conv=>whnf
       obtain ⟨r_103, hr103, hL1⟩ := bs hL1
       refine ⟨_,_,_,_,_,_,_,_,_,callX false [0] [] 0 Tryz.func17 (by decide) rfl (keep_Src_Leg_ac (⟨a_99, i_100⟩ : Src) r_103 hr103) rfl ⟨(argP (id := 0) (by (conv=>lhs;whnf)<;>rfl) rfl),trivial⟩ rfl ⟨rfl,trivial⟩ rfl rfl rfl lend0 ⟨rfl,trivial⟩ rfl, ?_⟩
       conv=>whnf
       obtain ⟨l_104, hl104, hL1⟩ := bs hL1
       refine ap_q (enc := encLeg) (l := a_101) (y := ([r_103.1] : List Leg)) hl104 rfl rfl (by decide) ?_
       conv=>whnf
       refine ⟨by kernel_rfl, ?_⟩
       conv=>whnf
       refine ⟨_, rfl, ?_⟩
       conv=>whnf
       exact ⟨(q_105, r_103.2.L, r_103.2.At, l_104, (w64 (i_102 - (1 : Int)))), [0, 1, 2, 6], [], [], hL1, Nat.lt_succ_self _, wk_mk [0, 1, 2, 6] [] [] rfl ⟨argP (id := 0) (by (conv=>lhs;whnf)<;>rfl) rfl, argP (id := 1) (by (conv=>lhs;whnf)<;>rfl) rfl, argP (id := 2) (by (conv=>lhs;whnf)<;>rfl) rfl, aq,trivial⟩ ⟨boxL rfl rfl rfl ⟨(.ni _ rfl), (.ni _ rfl),trivial⟩, boxL rfl rfl rfl ⟨(.ni _ rfl), (.ni _ rfl), (.ni _ rfl), (.ni _ rfl), (.ni _ rfl), (.ni _ rfl), (.ni _ rfl), (.ni _ rfl), (.ni _ rfl), (.ni _ rfl), (.ni _ rfl), (.ni _ rfl), (.ni _ rfl), (.ni _ rfl), (.ni _ rfl), (.ni _ rfl), (.ni _ rfl), (.ni _ rfl), (.ni _ rfl), (.ni _ rfl), (.ni _ rfl), (.ni _ rfl), (.ni _ rfl), (.ni _ rfl), (.ni _ rfl), (.ni _ rfl), (.ni _ rfl), (.ni _ rfl), (.ni _ rfl), (.ni _ rfl),trivial⟩, boxL rfl rfl rfl ⟨(.ni _ rfl), (.ni _ rfl), (.ni _ rfl), (.ni _ rfl), (.ni _ rfl), (.ni _ rfl), (.ni _ rfl), (.ni _ rfl), (.ni _ rfl), (.ni _ rfl), (.ni _ rfl), (.ni _ rfl), (.ni _ rfl), (.ni _ rfl), (.ni _ rfl), (.ni _ rfl), (.oslg 6 3 rfl), (.ni _ rfl), (.ni _ rfl), (.ni _ rfl), (.ni _ rfl), (.ni _ rfl), (.ni _ rfl), (.ni _ rfl), (.ni _ rfl), (.ni _ rfl), (.ni _ rfl), (.ni _ rfl), (.ni _ rfl), (.ni _ rfl),trivial⟩, blkR (fun _ => ⟨rfl, rfl⟩) rfl rfl,trivial⟩⟩
      ·
       replace hL1 := cf b48 hL1
       conv=>whnf
       obtain rfl := si hL1
       replace hF := fin_brk hF
       try dsimp only at hF
       obtain ⟨r_107, hr107, hF⟩ := bs hF
       refine ⟨_,_,_,_,_,_,_,_,_,callX false [0] [] 0 Tryz.func18 (by decide) rfl (keep_Src_N_ac (⟨a_99, i_100⟩ : Src) (3 : Int) r_107 hr107) rfl ⟨(argP (id := 0) (by (conv=>lhs;whnf)<;>rfl) rfl), aq,trivial⟩ rfl ⟨rfl,trivial⟩ rfl rfl rfl lend0 ⟨rfl,trivial⟩ rfl, ?_⟩
       conv=>whnf
       obtain ⟨r_108, hr108, hF⟩ := bs hF
       refine ⟨_,_,_,_,_,_,_,_,_,callX false [0] [] 0 Tryz.func8 (by decide) rfl (keep_Src_Range_ac r_107.2 (1 : Int) (4 : Int) r_108 hr108) rfl ⟨(argP (id := 0) (by (conv=>lhs;whnf)<;>rfl) rfl), aq, aq,trivial⟩ rfl ⟨rfl,trivial⟩ rfl rfl rfl lend0 ⟨rfl,trivial⟩ rfl, ?_⟩
       conv=>whnf
       obtain ⟨r_109, hr109, hF⟩ := bs hF
       refine ⟨_,_,_,_,_,_,_,_,_,callX false [0] [] 0 Tryz.func8 (by decide) rfl (keep_Src_Range_ac r_108.2 (1 : Int) (4 : Int) r_109 hr109) rfl ⟨(argP (id := 0) (by (conv=>lhs;whnf)<;>rfl) rfl), aq, aq,trivial⟩ rfl ⟨rfl,trivial⟩ rfl rfl rfl lend0 ⟨rfl,trivial⟩ rfl, ?_⟩
       conv=>whnf
       obtain ⟨r_110, hr110, hF⟩ := bs hF
       refine ⟨_,_,_,_,_,_,_,_,_,callX true [0] [7] 0 Tryz.func19 (by decide) rfl (keep_Src_Pick_ac r_109.2 ([(20 : Int), (0 : Int), (999 : Int)] : List Int) r_110 hr110) rfl ⟨(argP (id := 0) (by (conv=>lhs;whnf)<;>rfl) rfl), (argOL 7 (by (conv=>lhs;whnf)<;>rfl) rfl rfl (map_ni (fun _ => ⟨rfl, rfl⟩) _)),trivial⟩ rfl ⟨rfl,trivial⟩ rfl rfl rfl giveU ⟨rfl,trivial⟩ rfl, ?_⟩
       conv=>whnf
       obtain ⟨r_111, hr111, hF⟩ := bs hF
       refine ⟨_,_,_,_,_,_,_,_,_,callX false [0] [] 0 Tryz.func16 (by decide) rfl (keep_Src_Letters_ac r_110.2 (1 : Int) (6 : Int) r_111 hr111) rfl ⟨(argP (id := 0) (by (conv=>lhs;whnf)<;>rfl) rfl), aq, aq,trivial⟩ rfl ⟨rfl,trivial⟩ rfl rfl rfl lend0 ⟨rfl,trivial⟩ rfl, ?_⟩
       conv=>whnf
       obtain ⟨r_112, hr112, hF⟩ := bs hF
       refine ⟨_,_,_,_,_,_,_,_,_,callX false [0] [] 0 Tryz.func16 (by decide) rfl (keep_Src_Letters_ac r_111.2 (0 : Int) (5 : Int) r_112 hr112) rfl ⟨(argP (id := 0) (by (conv=>lhs;whnf)<;>rfl) rfl), aq, aq,trivial⟩ rfl ⟨rfl,trivial⟩ rfl rfl rfl lend0 ⟨rfl,trivial⟩ rfl, ?_⟩
       conv=>whnf
       obtain ⟨r_113, hr113, hF⟩ := bs hF
       refine ⟨_,_,_,_,_,_,_,_,_,callX false [0] [] 0 Tryz.func8 (by decide) rfl (keep_Src_Range_ac r_112.2 (0 : Int) (3 : Int) r_113 hr113) rfl ⟨(argP (id := 0) (by (conv=>lhs;whnf)<;>rfl) rfl), aq, aq,trivial⟩ rfl ⟨rfl,trivial⟩ rfl rfl rfl lend0 ⟨rfl,trivial⟩ rfl, ?_⟩
       conv=>whnf
       obtain rfl := si hF
       exact ret_gz [0] [] [3] rfl (argA (c := [.int .i64 x_1, .int .i64 r_77.1, .str r_58.1, .int .i64 r_59.1, .str (⟨#[]⟩ : ByteArray), .int .i64 (0 : Int), .str (⟨#[]⟩ : ByteArray), .int .i64 (0 : Int), .str (⟨#[]⟩ : ByteArray), .str (⟨#[]⟩ : ByteArray), .str r_78.1.Flight.Carrier, .int .i64 r_78.1.Flight.Number, .str r_78.1.Flight.Suffix, .int .i64 r_78.1.Flight.Day, .str r_78.1.Port, .str r_78.1.Class, .osl 3, .int .i64 r_79.1.Lead, .int .i64 r_79.1.Airline, .int .i64 r_79.1.Serial, .int .i64 r_80.1, .bool (decide ((0 : Int) < r_107.1)), .int .i64 r_108.1, .int .i64 r_109.1, .int .i64 r_110.1, .str r_111.1, .str r_112.1, .int .i64 r_113.1, .str (⟨#[]⟩ : ByteArray), .nils]) (by (conv=>lhs;whnf)<;>rfl) rfl ⟨(.ni _ rfl), (.ni _ rfl), (.ni _ rfl), (.ni _ rfl), (.ni _ rfl), (.ni _ rfl), (.ni _ rfl), (.ni _ rfl), (.ni _ rfl), (.ni _ rfl), (.ni _ rfl), (.ni _ rfl), (.ni _ rfl), (.ni _ rfl), (.ni _ rfl), (.ni _ rfl), (.osl 3 6 _ (by simp) rfl (map_ni (fun _ => ⟨rfl, rfl⟩) _)), (.ni _ rfl), (.ni _ rfl), (.ni _ rfl), (.ni _ rfl), (.ni _ rfl), (.ni _ rfl), (.ni _ rfl), (.ni _ rfl), (.ni _ rfl), (.ni _ rfl), (.ni _ rfl), (.ni _ rfl), (.nils _),trivial⟩) ⟨boxL rfl rfl rfl ⟨(.ni _ rfl), (.ni _ rfl),trivial⟩,trivial⟩

theorem ref01_Valid_ac (x_0 : Plate) (r : Bool) (hF : ref01_Valid x_0 = some r) : AC Tryz.prog 53 [.agg (encPlate x_0)] [] (.bool r) [] := by
 refine ac_of tab_ok follows_ok Tryz.func53 rfl Tryz.ntmps53 rfl ?_
 unfold ref01_Valid at hF
 conv=>whnf
 refine ⟨fun b6=>?_,fun b6=>?_⟩
 ·
  replace hF := ct b6 hF
  conv=>whnf
  refine ⟨fun b7=>?_,fun b7=>?_⟩
  ·
   replace hF := ct b7 hF
   conv=>whnf
   refine ⟨fun b8=>?_,fun b8=>?_⟩
   ·
    replace hF := ct b8 hF
    conv=>whnf
    refine ⟨fun b9=>?_,fun b9=>?_⟩
    ·
     replace hF := ct b9 hF
     conv=>whnf
     refine ⟨fun b10=>?_,fun b10=>?_⟩
     ·
      replace hF := ct b10 hF
      conv=>whnf
      obtain rfl := si hF
      exact ret_gz [] [] [] rfl aq trivial
     ·
      replace hF := cf b10 hF
      conv=>whnf
      obtain rfl := si hF
      exact ret_gz [] [] [] rfl (argFl (by (conv=>lhs;whnf)<;>rfl)) trivial
    ·
     replace hF := cf b9 hF
     conv=>whnf
     obtain rfl := si hF
     exact ret_gz [] [] [] rfl (argFl (by (conv=>lhs;whnf)<;>rfl)) trivial
   ·
    replace hF := cf b8 hF
    conv=>whnf
    obtain rfl := si hF
    exact ret_gz [] [] [] rfl (argFl (by (conv=>lhs;whnf)<;>rfl)) trivial
  ·
   replace hF := cf b7 hF
   conv=>whnf
   obtain rfl := si hF
   exact ret_gz [] [] [] rfl (argFl (by (conv=>lhs;whnf)<;>rfl)) trivial
 ·
  replace hF := cf b6 hF
  conv=>whnf
  obtain rfl := si hF
  exact ret_gz [] [] [] rfl (argFl (by (conv=>lhs;whnf)<;>rfl)) trivial

theorem ref01_sign_ac (x_0 : Int) (x_1 : Int) (r : Int) (hF : ref01_sign x_0 x_1 = some r) : AC Tryz.prog 86 [.int .i64 x_0, .int .i64 x_1] [] (.int .i64 r) [] := by
 refine ac_of tab_ok follows_ok Tryz.func86 rfl Tryz.ntmps86 rfl ?_
 unfold ref01_sign at hF
 conv=>whnf
 refine ⟨fun b3=>?_,fun b3=>?_⟩
 ·
  replace hF := ct b3 hF
  conv=>whnf
  obtain rfl := si hF
  exact ret_gz [] [] [] rfl aq trivial
 ·
  replace hF := cf b3 hF
  conv=>whnf
  refine ⟨fun b4=>?_,fun b4=>?_⟩
  ·
   replace hF := ct b4 hF
   conv=>whnf
   obtain rfl := si hF
   exact ret_gz [] [] [] rfl aq trivial
  ·
   replace hF := cf b4 hF
   conv=>whnf
   obtain rfl := si hF
   exact ret_gz [] [] [] rfl aq trivial

theorem ref01_Compare_ac (x_0 : Plate) (x_1 : Plate) (r : Int) (hF : ref01_Compare x_0 x_1 = some r) : AC Tryz.prog 54 [.agg (encPlate x_0), .agg (encPlate x_1)] [] (.int .i64 r) [] := by
 refine ac_of tab_ok follows_ok Tryz.func54 rfl Tryz.ntmps54 rfl ?_
 unfold ref01_Compare at hF
 conv=>whnf
 obtain ⟨r_1, hr1, hF⟩ := bs hF
 refine ⟨_,_,_,_,_,_,_,_,_,callX false [] [] 0 Tryz.func86 (by decide) rfl (ref01_sign_ac x_0.Lead x_1.Lead r_1 hr1) rfl ⟨aq, aq,trivial⟩ rfl trivial rfl rfl rfl lend0 trivial rfl, ?_⟩
 conv=>whnf
 refine ⟨fun b3=>?_,fun b3=>?_⟩
 ·
  replace hF := ct b3 hF
  conv=>whnf
  obtain rfl := si hF
  exact ret_gz [] [] [] rfl aq trivial
 ·
  replace hF := cf b3 hF
  conv=>whnf
  obtain ⟨r_2, hr2, hF⟩ := bs hF
  refine ⟨_,_,_,_,_,_,_,_,_,callX false [] [] 0 Tryz.func86 (by decide) rfl (ref01_sign_ac x_0.Airline x_1.Airline r_2 hr2) rfl ⟨aq, aq,trivial⟩ rfl trivial rfl rfl rfl lend0 trivial rfl, ?_⟩
  conv=>whnf
  refine ⟨fun b4=>?_,fun b4=>?_⟩
  ·
   replace hF := ct b4 hF
   conv=>whnf
   obtain rfl := si hF
   exact ret_gz [] [] [] rfl aq trivial
  ·
   replace hF := cf b4 hF
   conv=>whnf
   obtain ⟨r_3, hr3, hF⟩ := bs hF
   refine ⟨_,_,_,_,_,_,_,_,_,callX false [] [] 0 Tryz.func86 (by decide) rfl (ref01_sign_ac x_0.Serial x_1.Serial r_3 hr3) rfl ⟨aq, aq,trivial⟩ rfl trivial rfl rfl rfl lend0 trivial rfl, ?_⟩
   conv=>whnf
   obtain rfl := si hF
   exact ret_gz [] [] [] rfl aq trivial

theorem ref06_Validate_ac (x_0 : Registry) (r : Int) (hF : ref06_Validate x_0 = some r) : AC Tryz.prog 20 [.agg (encRegistry x_0)] [] (.int .i64 r) [] := by
 refine ac_of tab_ok follows_ok Tryz.func20 rfl Tryz.ntmps20 rfl ?_
 unfold ref06_Validate at hF
 conv=>whnf
 refine len_q (enc := encBag) (l := x_0.L) rfl ?_
 conv=>whnf
 refine ⟨fun b16=>?_,fun b16=>?_⟩
 ·
  replace hF := ct b16 hF
  conv=>whnf
  obtain rfl := si hF
  exact ret_gz [] [] [] rfl aq trivial
 ·
  replace hF := cf b16 hF
  conv=>whnf
  obtain ⟨c_1, hc_1, hF⟩ := fin_some hF
  refine sw_bv 0 (v := .agg [.lst 25 (x_0.L.map encBag)]) (by (conv=>lhs;whnf)<;>rfl) (fun hb=>?_)
  have hbd_k_2 : x_0.L.length ≤ 9223372036854775807 := bnd_len (enc := encBag) ((bnd_at hb.cell 0 rfl))
  refine sw_loop tab_ok follows_ok (fun y : Nat => y ≤ x_0.L.length ∧ ref06_Validate_L1 (x_0.L.drop y) y = some c_1) (fun y => ⟨eL [(1, .ptr 0 0), (3, .int .i64 (y : Int))], hL [(0, .box [.lst 25 (x_0.L.map encBag)])], 1⟩) (fun y => x_0.L.length - y) 0 ⟨Nat.zero_le _, hc_1⟩ (wk_mk [0] [] [] rfl ⟨argP (id := 0) (by (conv=>lhs;whnf)<;>rfl) rfl, aq,trivial⟩ ⟨boxL rfl rfl rfl ⟨(.ni _ rfl),trivial⟩,trivial⟩) ?_
  rintro k_2 ⟨hk_k_2, hL1⟩
  try dsimp only at hk_k_2 hL1
  show awp _ _ _ _ _ _ ⟨eL [(1, .ptr 0 0), (3, .int .i64 (k_2 : Int))], hL [(0, .box [.lst 25 (x_0.L.map encBag)])], 1⟩
  conv=>whnf
  refine len_q (enc := encBag) (l := x_0.L) rfl ?_
  conv=>whnf
  refine ⟨fun h=>?_,fun h=>?_⟩
  ·
   have lk2 : k_2 < x_0.L.length := by have h := of_decide_eq_true h; omega
   obtain ⟨e_3, he3⟩ : ∃ y, x_0.L[k_2]? = some y := ⟨_, List.getElem?_eq_getElem lk2⟩
   rw [drop_cons he3, ref06_Validate_L1.eq_2] at hL1
   conv=>whnf
   refine ⟨k_2, _, rfl, ix_map he3, ?_⟩
   conv=>whnf
   obtain ⟨r_4, hr4, hL1⟩ := bs hL1
   refine ⟨_,_,_,_,_,_,_,_,_,callX false [] [] 0 Tryz.func53 (by decide) rfl (ref01_Valid_ac e_3.Plate r_4 hr4) rfl ⟨aq,trivial⟩ rfl trivial rfl rfl rfl lend0 trivial rfl, ?_⟩
   conv=>whnf
   refine ⟨fun b17=>?_,fun b17=>?_⟩
   ·
    replace hL1 := ct b17 hL1
    conv=>whnf
    obtain rfl := si hL1
    replace hF := fin_ret hF
    obtain rfl := si hF
    exact ret_gz [] [] [] rfl aq trivial
   ·
    replace hL1 := cf b17 hL1
    conv=>whnf
    refine ⟨((k_2 + 1 : Nat) : Int), wrapE (by omega) (by omega) (by omega), ?_⟩
    conv=>whnf
    exact ⟨k_2 + 1, [0], [], [], ⟨lk2, hL1⟩, by show x_0.L.length - (k_2 + 1) < x_0.L.length - k_2; omega, wk_mk [0] [] [] rfl ⟨argP (id := 0) (by (conv=>lhs;whnf)<;>rfl) rfl, aq,trivial⟩ ⟨boxL rfl rfl rfl ⟨(.ni _ rfl),trivial⟩,trivial⟩⟩
  ·
   rw [drop_nil (show x_0.L.length ≤ k_2 by have h := of_decide_eq_false h; omega), ref06_Validate_L1.eq_1] at hL1
   conv=>whnf
   obtain rfl := si hL1
   replace hF := fin_brk hF
   try dsimp only at hF
   obtain ⟨c_2, hc_2, hF⟩ := fin_some hF
   refine sw_loop tab_ok follows_ok (fun y : Nat × Int => ref06_Validate_L2 x_0 y.1 y.2 = some c_2) (fun y => ⟨eL [(1, .ptr 0 0), (4, .int .i64 y.2)], hL [(0, .box [.lst 25 (x_0.L.map encBag)])], 1⟩) (fun y => y.1) (9223372036854775807, (1 : Int)) hc_2 (wk_mk [0] [] [] rfl ⟨argP (id := 0) (by (conv=>lhs;whnf)<;>rfl) rfl, aq,trivial⟩ ⟨boxL rfl rfl rfl ⟨(.ni _ rfl),trivial⟩,trivial⟩) ?_
   rintro ⟨q_11, i_7⟩ hL1
   try dsimp only at hL1
   rcases q_11 with _ | q_11
   ·
    rw [ref06_Validate_L2.eq_1] at hL1
    cases hL1
   rw [ref06_Validate_L2.eq_2] at hL1
   show awp _ _ _ _ _ _ ⟨eL [(1, .ptr 0 0), (4, .int .i64 i_7)], hL [(0, .box [.lst 25 (x_0.L.map encBag)])], 1⟩
   conv=>whnf
   refine len_q (enc := encBag) (l := x_0.L) rfl ?_
   conv=>whnf
   refine ⟨fun b18=>?_,fun b18=>?_⟩
   ·
    replace hL1 := ct b18 hL1
    conv=>whnf
    refine ⟨_, rfl, ?_⟩
    conv=>whnf
    obtain ⟨e_8, he8, hL1⟩ := bs hL1
    refine ix_q (enc := encBag) (l := x_0.L) he8 rfl (fun m_e_8 hm_e_8 hx_e_8=>?_)
    conv=>whnf
    obtain ⟨e_9, he9, hL1⟩ := bs hL1
    refine ix_q (enc := encBag) (l := x_0.L) he9 rfl (fun m_e_9 hm_e_9 hx_e_9=>?_)
    conv=>whnf
    obtain ⟨r_10, hr10, hL1⟩ := bs hL1
    refine ⟨_,_,_,_,_,_,_,_,_,callX false [] [] 0 Tryz.func54 (by decide) rfl (ref01_Compare_ac e_8.Plate e_9.Plate r_10 hr10) rfl ⟨aq, aq,trivial⟩ rfl trivial rfl rfl rfl lend0 trivial rfl, ?_⟩
    conv=>whnf
    refine ⟨by kernel_rfl, ?_⟩
    conv=>whnf
    refine ⟨fun b19=>?_,fun b19=>?_⟩
    ·
     replace hL1 := ct b19 hL1
     conv=>whnf
     obtain rfl := si hL1
     replace hF := fin_ret hF
     obtain rfl := si hF
     exact ret_gz [] [] [] rfl aq trivial
    ·
     replace hL1 := cf b19 hL1
     conv=>whnf
     refine ⟨_, rfl, ?_⟩
     conv=>whnf
     exact ⟨(q_11, (w64 (i_7 + (1 : Int)))), [0], [], [], hL1, Nat.lt_succ_self _, wk_mk [0] [] [] rfl ⟨argP (id := 0) (by (conv=>lhs;whnf)<;>rfl) rfl, aq,trivial⟩ ⟨boxL rfl rfl rfl ⟨(.ni _ rfl),trivial⟩,trivial⟩⟩
   ·
    replace hL1 := cf b18 hL1
    conv=>whnf
    obtain rfl := si hL1
    replace hF := fin_brk hF
    try dsimp only at hF
    obtain rfl := si hF
    exact ret_gz [] [] [] rfl aq trivial

theorem ref04_in_ac (x_0 : Int) (x_1 : Int) (x_2 : Int) (r : Bool) (hF : ref04_in x_0 x_1 x_2 = some r) : AC Tryz.prog 55 [.int .i64 x_0, .int .i64 x_1, .int .i64 x_2] [] (.bool r) [] := by
 refine ac_of tab_ok follows_ok Tryz.func55 rfl Tryz.ntmps55 rfl ?_
 unfold ref04_in at hF
 conv=>whnf
 refine ⟨fun b2=>?_,fun b2=>?_⟩
 ·
  replace hF := ct b2 hF
  conv=>whnf
  obtain rfl := si hF
  exact ret_gz [] [] [] rfl aq trivial
 ·
  replace hF := cf b2 hF
  conv=>whnf
  obtain rfl := si hF
  exact ret_gz [] [] [] rfl (argFl (by (conv=>lhs;whnf)<;>rfl)) trivial

theorem ref04_Bag_ac (x_0 : Int) (r : Bool) (hF : ref04_Bag x_0 = some r) : AC Tryz.prog 25 [.int .i64 x_0] [] (.bool r) [] := by
 refine ac_of tab_ok follows_ok Tryz.func25 rfl Tryz.ntmps25 rfl ?_
 unfold ref04_Bag at hF
 conv=>whnf
 refine ⟨fun b2=>?_,fun b2=>?_⟩
 ·
  replace hF := cf b2 hF
  conv=>whnf
  obtain rfl := si hF
  exact ret_gz [] [] [] rfl aq trivial
 ·
  replace hF := ct b2 hF
  conv=>whnf
  obtain rfl := si hF
  exact ret_gz [] [] [] rfl (argT (by (conv=>lhs;whnf)<;>rfl)) trivial

theorem ref04_own_ac (x_0 : Message) (r : Message) (hF : ref04_own x_0 = some r) : AC Tryz.prog 57 [.agg (encMessage x_0)] [] (.agg (encMessage r)) [] := by
 refine ac_of tab_ok follows_ok Tryz.func57 rfl Tryz.ntmps57 rfl ?_
 unfold ref04_own at hF
 conv=>whnf
 obtain ⟨r_1, hr1, hF⟩ := bs hF
 refine ⟨_,_,_,_,_,_,_,_,_,callX false [] [] 0 Tryz.func25 (by decide) rfl (ref04_Bag_ac x_0.Kind r_1 hr1) rfl ⟨aq,trivial⟩ rfl trivial rfl rfl rfl lend0 trivial rfl, ?_⟩
 conv=>whnf
 refine ⟨fun b8=>?_,fun b8=>?_⟩
 ·
  replace hF := ct b8 hF
  conv=>whnf
  refine ⟨fun b9=>?_,fun b9=>?_⟩
  ·
   replace hF := ct b9 hF
   conv=>whnf
   obtain rfl := si hF
   exact ret_gz [] [] [] rfl (argA (c := [.int .i64 x_0.Kind, .int .i64 x_0.Do, .str x_0.Port, .int .i64 x_0.Number, .str (⟨#[]⟩ : ByteArray), .int .i64 (0 : Int), .str (⟨#[]⟩ : ByteArray), .int .i64 (0 : Int), .str (⟨#[]⟩ : ByteArray), .str (⟨#[]⟩ : ByteArray), .str x_0.Out.Flight.Carrier, .int .i64 x_0.Out.Flight.Number, .str x_0.Out.Flight.Suffix, .int .i64 x_0.Out.Flight.Day, .str x_0.Out.Port, .str x_0.Out.Class, .lst 6 (x_0.Onward.map encLeg), .int .i64 x_0.First.Lead, .int .i64 x_0.First.Airline, .int .i64 x_0.First.Serial, .int .i64 x_0.Count, .bool x_0.Load, .int .i64 x_0.Status, .int .i64 x_0.Sequence, .int .i64 x_0.Weight, .str x_0.Surname, .str x_0.Given, .int .i64 x_0.Exception, .str (⟨#[]⟩ : ByteArray), .nils]) (by (conv=>lhs;whnf)<;>rfl) rfl ⟨(.ni _ rfl), (.ni _ rfl), (.ni _ rfl), (.ni _ rfl), (.ni _ rfl), (.ni _ rfl), (.ni _ rfl), (.ni _ rfl), (.ni _ rfl), (.ni _ rfl), (.ni _ rfl), (.ni _ rfl), (.ni _ rfl), (.ni _ rfl), (.ni _ rfl), (.ni _ rfl), (.ni _ rfl), (.ni _ rfl), (.ni _ rfl), (.ni _ rfl), (.ni _ rfl), (.ni _ rfl), (.ni _ rfl), (.ni _ rfl), (.ni _ rfl), (.ni _ rfl), (.ni _ rfl), (.ni _ rfl), (.ni _ rfl), (.nils _),trivial⟩) trivial
  ·
   replace hF := cf b9 hF
   conv=>whnf
   obtain rfl := si hF
   exact ret_gz [] [] [] rfl (argA (c := [.int .i64 x_0.Kind, .int .i64 x_0.Do, .str x_0.Port, .int .i64 x_0.Number, .str x_0.In.Flight.Carrier, .int .i64 x_0.In.Flight.Number, .str x_0.In.Flight.Suffix, .int .i64 x_0.In.Flight.Day, .str x_0.In.Port, .str x_0.In.Class, .str x_0.Out.Flight.Carrier, .int .i64 x_0.Out.Flight.Number, .str x_0.Out.Flight.Suffix, .int .i64 x_0.Out.Flight.Day, .str x_0.Out.Port, .str x_0.Out.Class, .lst 6 (x_0.Onward.map encLeg), .int .i64 x_0.First.Lead, .int .i64 x_0.First.Airline, .int .i64 x_0.First.Serial, .int .i64 x_0.Count, .bool x_0.Load, .int .i64 x_0.Status, .int .i64 x_0.Sequence, .int .i64 x_0.Weight, .str x_0.Surname, .str x_0.Given, .int .i64 x_0.Exception, .str (⟨#[]⟩ : ByteArray), .nils]) (by (conv=>lhs;whnf)<;>rfl) rfl ⟨(.ni _ rfl), (.ni _ rfl), (.ni _ rfl), (.ni _ rfl), (.ni _ rfl), (.ni _ rfl), (.ni _ rfl), (.ni _ rfl), (.ni _ rfl), (.ni _ rfl), (.ni _ rfl), (.ni _ rfl), (.ni _ rfl), (.ni _ rfl), (.ni _ rfl), (.ni _ rfl), (.ni _ rfl), (.ni _ rfl), (.ni _ rfl), (.ni _ rfl), (.ni _ rfl), (.ni _ rfl), (.ni _ rfl), (.ni _ rfl), (.ni _ rfl), (.ni _ rfl), (.ni _ rfl), (.ni _ rfl), (.ni _ rfl), (.nils _),trivial⟩) trivial
 ·
  replace hF := cf b8 hF
  conv=>whnf
  refine ⟨fun b10=>?_,fun b10=>?_⟩
  ·
   replace hF := ct b10 hF
   conv=>whnf
   refine ⟨by kernel_rfl, ?_⟩
   conv=>whnf
   refine ⟨fun b11=>?_,fun b11=>?_⟩
   ·
    replace hF := ct b11 hF
    conv=>whnf
    obtain rfl := si hF
    exact ret_gz [] [] [] rfl (argA (c := [.int .i64 x_0.Kind, .int .i64 (0 : Int), .str x_0.Port, .int .i64 x_0.Number, .str (⟨#[]⟩ : ByteArray), .int .i64 (0 : Int), .str (⟨#[]⟩ : ByteArray), .int .i64 (0 : Int), .str (⟨#[]⟩ : ByteArray), .str (⟨#[]⟩ : ByteArray), .str (⟨#[]⟩ : ByteArray), .int .i64 (0 : Int), .str (⟨#[]⟩ : ByteArray), .int .i64 (0 : Int), .str (⟨#[]⟩ : ByteArray), .str (⟨#[]⟩ : ByteArray), .nils, .int .i64 x_0.First.Lead, .int .i64 x_0.First.Airline, .int .i64 x_0.First.Serial, .int .i64 x_0.Count, .fls, .int .i64 (0 : Int), .int .i64 (0 : Int), .int .i64 (0 : Int), .str (⟨#[]⟩ : ByteArray), .str (⟨#[]⟩ : ByteArray), .int .i64 (0 : Int), .str x_0.Node, .nils]) (by (conv=>lhs;whnf)<;>rfl) rfl ⟨(.ni _ rfl), (.ni _ rfl), (.ni _ rfl), (.ni _ rfl), (.ni _ rfl), (.ni _ rfl), (.ni _ rfl), (.ni _ rfl), (.ni _ rfl), (.ni _ rfl), (.ni _ rfl), (.ni _ rfl), (.ni _ rfl), (.ni _ rfl), (.ni _ rfl), (.ni _ rfl), (.nils _), (.ni _ rfl), (.ni _ rfl), (.ni _ rfl), (.ni _ rfl), .fls, (.ni _ rfl), (.ni _ rfl), (.ni _ rfl), (.ni _ rfl), (.ni _ rfl), (.ni _ rfl), (.ni _ rfl), (.nils _),trivial⟩) trivial
   ·
    replace hF := cf b11 hF
    conv=>whnf
    refine ⟨fun b12=>?_,fun b12=>?_⟩
    ·
     replace hF := ct b12 hF
     conv=>whnf
     obtain rfl := si hF
     exact ret_gz [] [] [] rfl (argA (c := [.int .i64 x_0.Kind, .int .i64 (0 : Int), .str x_0.Port, .int .i64 x_0.Number, .str (⟨#[]⟩ : ByteArray), .int .i64 (0 : Int), .str (⟨#[]⟩ : ByteArray), .int .i64 (0 : Int), .str (⟨#[]⟩ : ByteArray), .str (⟨#[]⟩ : ByteArray), .str x_0.Out.Flight.Carrier, .int .i64 x_0.Out.Flight.Number, .str x_0.Out.Flight.Suffix, .int .i64 x_0.Out.Flight.Day, .str x_0.Out.Port, .str x_0.Out.Class, .nils, .int .i64 x_0.First.Lead, .int .i64 x_0.First.Airline, .int .i64 x_0.First.Serial, .int .i64 x_0.Count, .fls, .int .i64 (0 : Int), .int .i64 (0 : Int), .int .i64 (0 : Int), .str (⟨#[]⟩ : ByteArray), .str (⟨#[]⟩ : ByteArray), .int .i64 (0 : Int), .str (⟨#[]⟩ : ByteArray), .nils]) (by (conv=>lhs;whnf)<;>rfl) rfl ⟨(.ni _ rfl), (.ni _ rfl), (.ni _ rfl), (.ni _ rfl), (.ni _ rfl), (.ni _ rfl), (.ni _ rfl), (.ni _ rfl), (.ni _ rfl), (.ni _ rfl), (.ni _ rfl), (.ni _ rfl), (.ni _ rfl), (.ni _ rfl), (.ni _ rfl), (.ni _ rfl), (.nils _), (.ni _ rfl), (.ni _ rfl), (.ni _ rfl), (.ni _ rfl), .fls, (.ni _ rfl), (.ni _ rfl), (.ni _ rfl), (.ni _ rfl), (.ni _ rfl), (.ni _ rfl), (.ni _ rfl), (.nils _),trivial⟩) trivial
    ·
     replace hF := cf b12 hF
     conv=>whnf
     refine ⟨by kernel_rfl, ?_⟩
     conv=>whnf
     obtain rfl := si hF
     exact ret_gz [] [] [] rfl (argA (c := [.int .i64 x_0.Kind, .int .i64 (0 : Int), .str x_0.Port, .int .i64 x_0.Number, .str (⟨#[]⟩ : ByteArray), .int .i64 (0 : Int), .str (⟨#[]⟩ : ByteArray), .int .i64 (0 : Int), .str (⟨#[]⟩ : ByteArray), .str (⟨#[]⟩ : ByteArray), .str x_0.Out.Flight.Carrier, .int .i64 x_0.Out.Flight.Number, .str x_0.Out.Flight.Suffix, .int .i64 x_0.Out.Flight.Day, .str x_0.Out.Port, .str x_0.Out.Class, .nils, .int .i64 x_0.First.Lead, .int .i64 x_0.First.Airline, .int .i64 x_0.First.Serial, .int .i64 x_0.Count, .fls, .int .i64 (0 : Int), .int .i64 (0 : Int), .int .i64 (0 : Int), .str (⟨#[]⟩ : ByteArray), .str (⟨#[]⟩ : ByteArray), .int .i64 (0 : Int), .str (⟨#[]⟩ : ByteArray), .lst 1 (x_0.List.map iA)]) (by (conv=>lhs;whnf)<;>rfl) rfl ⟨(.ni _ rfl), (.ni _ rfl), (.ni _ rfl), (.ni _ rfl), (.ni _ rfl), (.ni _ rfl), (.ni _ rfl), (.ni _ rfl), (.ni _ rfl), (.ni _ rfl), (.ni _ rfl), (.ni _ rfl), (.ni _ rfl), (.ni _ rfl), (.ni _ rfl), (.ni _ rfl), (.nils _), (.ni _ rfl), (.ni _ rfl), (.ni _ rfl), (.ni _ rfl), .fls, (.ni _ rfl), (.ni _ rfl), (.ni _ rfl), (.ni _ rfl), (.ni _ rfl), (.ni _ rfl), (.ni _ rfl), (.ni _ rfl),trivial⟩) trivial
  ·
   replace hF := cf b10 hF
   conv=>whnf
   refine ⟨fun b13=>?_,fun b13=>?_⟩
   ·
    replace hF := ct b13 hF
    conv=>whnf
    obtain rfl := si hF
    exact ret_gz [] [] [] rfl (argA (c := [.int .i64 x_0.Kind, .int .i64 (0 : Int), .str x_0.Port, .int .i64 x_0.Number, .str (⟨#[]⟩ : ByteArray), .int .i64 (0 : Int), .str (⟨#[]⟩ : ByteArray), .int .i64 (0 : Int), .str (⟨#[]⟩ : ByteArray), .str (⟨#[]⟩ : ByteArray), .str (⟨#[]⟩ : ByteArray), .int .i64 (0 : Int), .str (⟨#[]⟩ : ByteArray), .int .i64 (0 : Int), .str (⟨#[]⟩ : ByteArray), .str (⟨#[]⟩ : ByteArray), .nils, .int .i64 (0 : Int), .int .i64 (0 : Int), .int .i64 (0 : Int), .int .i64 (0 : Int), .fls, .int .i64 (0 : Int), .int .i64 (0 : Int), .int .i64 (0 : Int), .str (⟨#[]⟩ : ByteArray), .str (⟨#[]⟩ : ByteArray), .int .i64 (0 : Int), .str x_0.Node, .nils]) (by (conv=>lhs;whnf)<;>rfl) rfl ⟨(.ni _ rfl), (.ni _ rfl), (.ni _ rfl), (.ni _ rfl), (.ni _ rfl), (.ni _ rfl), (.ni _ rfl), (.ni _ rfl), (.ni _ rfl), (.ni _ rfl), (.ni _ rfl), (.ni _ rfl), (.ni _ rfl), (.ni _ rfl), (.ni _ rfl), (.ni _ rfl), (.nils _), (.ni _ rfl), (.ni _ rfl), (.ni _ rfl), (.ni _ rfl), .fls, (.ni _ rfl), (.ni _ rfl), (.ni _ rfl), (.ni _ rfl), (.ni _ rfl), (.ni _ rfl), (.ni _ rfl), (.nils _),trivial⟩) trivial
   ·
    replace hF := cf b13 hF
    conv=>whnf
    refine ⟨fun b14=>?_,fun b14=>?_⟩
    ·
     replace hF := ct b14 hF
     conv=>whnf
     obtain rfl := si hF
     exact ret_gz [] [] [] rfl (argA (c := [.int .i64 x_0.Kind, .int .i64 (0 : Int), .str x_0.Port, .int .i64 x_0.Number, .str (⟨#[]⟩ : ByteArray), .int .i64 (0 : Int), .str (⟨#[]⟩ : ByteArray), .int .i64 (0 : Int), .str (⟨#[]⟩ : ByteArray), .str (⟨#[]⟩ : ByteArray), .str x_0.Out.Flight.Carrier, .int .i64 x_0.Out.Flight.Number, .str x_0.Out.Flight.Suffix, .int .i64 x_0.Out.Flight.Day, .str x_0.Out.Port, .str x_0.Out.Class, .nils, .int .i64 (0 : Int), .int .i64 (0 : Int), .int .i64 (0 : Int), .int .i64 (0 : Int), .fls, .int .i64 (0 : Int), .int .i64 (0 : Int), .int .i64 (0 : Int), .str (⟨#[]⟩ : ByteArray), .str (⟨#[]⟩ : ByteArray), .int .i64 (0 : Int), .str (⟨#[]⟩ : ByteArray), .nils]) (by (conv=>lhs;whnf)<;>rfl) rfl ⟨(.ni _ rfl), (.ni _ rfl), (.ni _ rfl), (.ni _ rfl), (.ni _ rfl), (.ni _ rfl), (.ni _ rfl), (.ni _ rfl), (.ni _ rfl), (.ni _ rfl), (.ni _ rfl), (.ni _ rfl), (.ni _ rfl), (.ni _ rfl), (.ni _ rfl), (.ni _ rfl), (.nils _), (.ni _ rfl), (.ni _ rfl), (.ni _ rfl), (.ni _ rfl), .fls, (.ni _ rfl), (.ni _ rfl), (.ni _ rfl), (.ni _ rfl), (.ni _ rfl), (.ni _ rfl), (.ni _ rfl), (.nils _),trivial⟩) trivial
    ·
     replace hF := cf b14 hF
     conv=>whnf
     refine ⟨by kernel_rfl, ?_⟩
     conv=>whnf
     obtain rfl := si hF
     exact ret_gz [] [] [] rfl (argA (c := [.int .i64 x_0.Kind, .int .i64 (0 : Int), .str x_0.Port, .int .i64 x_0.Number, .str (⟨#[]⟩ : ByteArray), .int .i64 (0 : Int), .str (⟨#[]⟩ : ByteArray), .int .i64 (0 : Int), .str (⟨#[]⟩ : ByteArray), .str (⟨#[]⟩ : ByteArray), .str x_0.Out.Flight.Carrier, .int .i64 x_0.Out.Flight.Number, .str x_0.Out.Flight.Suffix, .int .i64 x_0.Out.Flight.Day, .str x_0.Out.Port, .str x_0.Out.Class, .nils, .int .i64 (0 : Int), .int .i64 (0 : Int), .int .i64 (0 : Int), .int .i64 (0 : Int), .fls, .int .i64 (0 : Int), .int .i64 (0 : Int), .int .i64 (0 : Int), .str (⟨#[]⟩ : ByteArray), .str (⟨#[]⟩ : ByteArray), .int .i64 (0 : Int), .str (⟨#[]⟩ : ByteArray), .lst 1 (x_0.List.map iA)]) (by (conv=>lhs;whnf)<;>rfl) rfl ⟨(.ni _ rfl), (.ni _ rfl), (.ni _ rfl), (.ni _ rfl), (.ni _ rfl), (.ni _ rfl), (.ni _ rfl), (.ni _ rfl), (.ni _ rfl), (.ni _ rfl), (.ni _ rfl), (.ni _ rfl), (.ni _ rfl), (.ni _ rfl), (.ni _ rfl), (.ni _ rfl), (.nils _), (.ni _ rfl), (.ni _ rfl), (.ni _ rfl), (.ni _ rfl), .fls, (.ni _ rfl), (.ni _ rfl), (.ni _ rfl), (.ni _ rfl), (.ni _ rfl), (.ni _ rfl), (.ni _ rfl), (.ni _ rfl),trivial⟩) trivial

theorem ref04_legs_ac (x_0 : (List Leg)) (x_1 : (List Leg)) (r : Bool) (hF : ref04_legs x_0 x_1 = some r) : AC Tryz.prog 87 [.lst 6 (x_0.map encLeg), .lst 6 (x_1.map encLeg)] [] (.bool r) [] := by
 refine ac_of tab_ok follows_ok Tryz.func87 rfl Tryz.ntmps87 rfl ?_
 unfold ref04_legs at hF
 conv=>whnf
 refine len_q (enc := encLeg) (l := x_0) rfl ?_
 conv=>whnf
 refine len_q (enc := encLeg) (l := x_1) rfl ?_
 conv=>whnf
 refine ⟨fun b8=>?_,fun b8=>?_⟩
 ·
  replace hF := ct b8 hF
  conv=>whnf
  obtain rfl := si hF
  exact ret_gz [] [] [] rfl (argFl (by (conv=>lhs;whnf)<;>rfl)) trivial
 ·
  replace hF := cf b8 hF
  conv=>whnf
  obtain ⟨c_1, hc_1, hF⟩ := fin_some hF
  refine sw_bv 0 (v := .lst 6 (x_0.map encLeg)) (by (conv=>lhs;whnf)<;>rfl) (fun hb=>?_)
  have hbd_k_2 : x_0.length ≤ 9223372036854775807 := bnd_len (enc := encLeg) (hb)
  refine sw_loop tab_ok follows_ok (fun y : Nat => y ≤ x_0.length ∧ ref04_legs_L1 x_1 (x_0.drop y) y = some c_1) (fun y => ⟨eL [(0, .lst 6 (x_0.map encLeg)), (1, .lst 6 (x_1.map encLeg)), (5, .int .i64 (y : Int))], hL [], 0⟩) (fun y => x_0.length - y) 0 ⟨Nat.zero_le _, hc_1⟩ (wk_mk [] [] [] rfl ⟨aq, aq, aq,trivial⟩ trivial) ?_
  rintro k_2 ⟨hk_k_2, hL1⟩
  try dsimp only at hk_k_2 hL1
  show awp _ _ _ _ _ _ ⟨eL [(0, .lst 6 (x_0.map encLeg)), (1, .lst 6 (x_1.map encLeg)), (5, .int .i64 (k_2 : Int))], hL [], 0⟩
  conv=>whnf
  refine len_q (enc := encLeg) (l := x_0) rfl ?_
  conv=>whnf
  refine ⟨fun h=>?_,fun h=>?_⟩
  ·
   have lk2 : k_2 < x_0.length := by have h := of_decide_eq_true h; omega
   obtain ⟨e_3, he3⟩ : ∃ y, x_0[k_2]? = some y := ⟨_, List.getElem?_eq_getElem lk2⟩
   rw [drop_cons he3, ref04_legs_L1.eq_2] at hL1
   conv=>whnf
   refine ⟨k_2, _, rfl, ix_map he3, ?_⟩
   conv=>whnf
   obtain ⟨e_4, he4, hL1⟩ := bs hL1
   refine ix_q (enc := encLeg) (l := x_1) he4 rfl (fun m_e_4 hm_e_4 hx_e_4=>?_)
   conv=>whnf
   refine ⟨by kernel_rfl, ?_⟩
   conv=>whnf
   refine ⟨fun b9=>?_,fun b9=>?_⟩
   ·
    replace hL1 := ct b9 hL1
    conv=>whnf
    obtain rfl := si hL1
    replace hF := fin_ret hF
    obtain rfl := si hF
    exact ret_gz [] [] [] rfl (argFl (by (conv=>lhs;whnf)<;>rfl)) trivial
   ·
    replace hL1 := cf b9 hL1
    conv=>whnf
    refine ⟨((k_2 + 1 : Nat) : Int), wrapE (by omega) (by omega) (by omega), ?_⟩
    conv=>whnf
    exact ⟨k_2 + 1, [], [], [], ⟨lk2, hL1⟩, by show x_0.length - (k_2 + 1) < x_0.length - k_2; omega, wk_mk [] [] [] rfl ⟨aq, aq, aq,trivial⟩ trivial⟩
  ·
   rw [drop_nil (show x_0.length ≤ k_2 by have h := of_decide_eq_false h; omega), ref04_legs_L1.eq_1] at hL1
   conv=>whnf
   obtain rfl := si hL1
   replace hF := fin_brk hF
   try dsimp only at hF
   obtain rfl := si hF
   exact ret_gz [] [] [] rfl (argT (by (conv=>lhs;whnf)<;>rfl)) trivial

theorem keep_Ints_ac (x_0 : (List Int)) (x_1 : (List Int)) (r : Bool) (hF : keep_Ints x_0 x_1 = some r) : AC Tryz.prog 88 [.lst 1 (x_0.map iA), .lst 1 (x_1.map iA)] [] (.bool r) [] := by
 refine ac_of tab_ok follows_ok Tryz.func88 rfl Tryz.ntmps88 rfl ?_
 unfold keep_Ints at hF
 conv=>whnf
 refine len_q (enc := iA) (l := x_0) rfl ?_
 conv=>whnf
 refine len_q (enc := iA) (l := x_1) rfl ?_
 conv=>whnf
 refine ⟨fun b8=>?_,fun b8=>?_⟩
 ·
  replace hF := ct b8 hF
  conv=>whnf
  obtain rfl := si hF
  exact ret_gz [] [] [] rfl (argFl (by (conv=>lhs;whnf)<;>rfl)) trivial
 ·
  replace hF := cf b8 hF
  conv=>whnf
  obtain ⟨c_1, hc_1, hF⟩ := fin_some hF
  refine sw_bv 0 (v := .lst 1 (x_0.map iA)) (by (conv=>lhs;whnf)<;>rfl) (fun hb=>?_)
  have hbd_k_2 : x_0.length ≤ 9223372036854775807 := bnd_len (enc := iA) (hb)
  refine sw_loop tab_ok follows_ok (fun y : Nat => y ≤ x_0.length ∧ keep_Ints_L1 x_1 (x_0.drop y) y = some c_1) (fun y => ⟨eL [(0, .lst 1 (x_0.map iA)), (1, .lst 1 (x_1.map iA)), (5, .int .i64 (y : Int))], hL [], 0⟩) (fun y => x_0.length - y) 0 ⟨Nat.zero_le _, hc_1⟩ (wk_mk [] [] [] rfl ⟨aq, aq, aq,trivial⟩ trivial) ?_
  rintro k_2 ⟨hk_k_2, hL1⟩
  try dsimp only at hk_k_2 hL1
  show awp _ _ _ _ _ _ ⟨eL [(0, .lst 1 (x_0.map iA)), (1, .lst 1 (x_1.map iA)), (5, .int .i64 (k_2 : Int))], hL [], 0⟩
  conv=>whnf
  refine len_q (enc := iA) (l := x_0) rfl ?_
  conv=>whnf
  refine ⟨fun h=>?_,fun h=>?_⟩
  ·
   have lk2 : k_2 < x_0.length := by have h := of_decide_eq_true h; omega
   obtain ⟨e_3, he3⟩ : ∃ y, x_0[k_2]? = some y := ⟨_, List.getElem?_eq_getElem lk2⟩
   rw [drop_cons he3, keep_Ints_L1.eq_2] at hL1
   conv=>whnf
   refine ⟨k_2, _, rfl, ix_map he3, ?_⟩
   conv=>whnf
   obtain ⟨e_4, he4, hL1⟩ := bs hL1
   refine ix_q (enc := iA) (l := x_1) he4 rfl (fun m_e_4 hm_e_4 hx_e_4=>?_)
   conv=>whnf
   refine ⟨by kernel_rfl, ?_⟩
   conv=>whnf
   refine ⟨fun b9=>?_,fun b9=>?_⟩
   ·
    replace hL1 := ct b9 hL1
    conv=>whnf
    obtain rfl := si hL1
    replace hF := fin_ret hF
    obtain rfl := si hF
    exact ret_gz [] [] [] rfl (argFl (by (conv=>lhs;whnf)<;>rfl)) trivial
   ·
    replace hL1 := cf b9 hL1
    conv=>whnf
    refine ⟨((k_2 + 1 : Nat) : Int), wrapE (by omega) (by omega) (by omega), ?_⟩
    conv=>whnf
    exact ⟨k_2 + 1, [], [], [], ⟨lk2, hL1⟩, by show x_0.length - (k_2 + 1) < x_0.length - k_2; omega, wk_mk [] [] [] rfl ⟨aq, aq, aq,trivial⟩ trivial⟩
  ·
   rw [drop_nil (show x_0.length ≤ k_2 by have h := of_decide_eq_false h; omega), keep_Ints_L1.eq_1] at hL1
   conv=>whnf
   obtain rfl := si hL1
   replace hF := fin_brk hF
   try dsimp only at hF
   obtain rfl := si hF
   exact ret_gz [] [] [] rfl (argT (by (conv=>lhs;whnf)<;>rfl)) trivial

theorem ref04_Same_ac (x_0 : Message) (x_1 : Message) (r : Bool) (hF : ref04_Same x_0 x_1 = some r) : AC Tryz.prog 56 [.agg (encMessage x_0), .agg (encMessage x_1)] [] (.bool r) [] := by
 refine ac_of tab_ok follows_ok Tryz.func56 rfl Tryz.ntmps56 rfl ?_
 unfold ref04_Same at hF
 conv=>whnf
 refine ⟨fun b18=>?_,fun b18=>?_⟩
 ·
  replace hF := ct b18 hF
  conv=>whnf
  refine ⟨fun b19=>?_,fun b19=>?_⟩
  ·
   replace hF := ct b19 hF
   conv=>whnf
   refine ⟨fun b20=>?_,fun b20=>?_⟩
   ·
    replace hF := ct b20 hF
    conv=>whnf
    refine ⟨fun b21=>?_,fun b21=>?_⟩
    ·
     replace hF := ct b21 hF
     conv=>whnf
     refine ⟨fun b22=>?_,fun b22=>?_⟩
     ·
      replace hF := ct b22 hF
      conv=>whnf
      refine ⟨fun b23=>?_,fun b23=>?_⟩
      ·
       replace hF := ct b23 hF
       conv=>whnf
       obtain ⟨r_1, hr1, hF⟩ := bs hF
       refine ⟨_,_,_,_,_,_,_,_,_,callX false [] [] 0 Tryz.func87 (by decide) rfl (ref04_legs_ac x_0.Onward x_1.Onward r_1 hr1) rfl ⟨aq, aq,trivial⟩ rfl trivial rfl rfl rfl lend0 trivial rfl, ?_⟩
       conv=>whnf
       refine ⟨fun b24=>?_,fun b24=>?_⟩
       ·
        replace hF := ct b24 hF
        conv=>whnf
        refine ⟨fun b25=>?_,fun b25=>?_⟩
        ·
         replace hF := ct b25 hF
         conv=>whnf
         refine ⟨fun b26=>?_,fun b26=>?_⟩
         ·
          replace hF := ct b26 hF
          conv=>whnf
          refine ⟨fun b27=>?_,fun b27=>?_⟩
          ·
           replace hF := ct b27 hF
           conv=>whnf
           refine ⟨fun b28=>?_,fun b28=>?_⟩
           ·
            replace hF := ct b28 hF
            conv=>whnf
            refine ⟨fun b29=>?_,fun b29=>?_⟩
            ·
             replace hF := ct b29 hF
             conv=>whnf
             refine ⟨fun b30=>?_,fun b30=>?_⟩
             ·
              replace hF := ct b30 hF
              conv=>whnf
              refine ⟨fun b31=>?_,fun b31=>?_⟩
              ·
               replace hF := ct b31 hF
               conv=>whnf
               refine ⟨fun b32=>?_,fun b32=>?_⟩
               ·
                replace hF := ct b32 hF
                conv=>whnf
                refine ⟨fun b33=>?_,fun b33=>?_⟩
                ·
                 replace hF := ct b33 hF
                 conv=>whnf
                 refine ⟨fun b34=>?_,fun b34=>?_⟩
                 ·
                  replace hF := ct b34 hF
                  conv=>whnf
                  obtain ⟨r_2, hr2, hF⟩ := bs hF
                  refine ⟨_,_,_,_,_,_,_,_,_,callX false [] [] 0 Tryz.func88 (by decide) rfl (keep_Ints_ac x_0.List x_1.List r_2 hr2) rfl ⟨aq, aq,trivial⟩ rfl trivial rfl rfl rfl lend0 trivial rfl, ?_⟩
                  conv=>whnf
                  obtain rfl := si hF
                  exact ret_gz [] [] [] rfl aq trivial
                 ·
                  replace hF := cf b34 hF
                  conv=>whnf
                  obtain rfl := si hF
                  exact ret_gz [] [] [] rfl (argFl (by (conv=>lhs;whnf)<;>rfl)) trivial
                ·
                 replace hF := cf b33 hF
                 conv=>whnf
                 obtain rfl := si hF
                 exact ret_gz [] [] [] rfl (argFl (by (conv=>lhs;whnf)<;>rfl)) trivial
               ·
                replace hF := cf b32 hF
                conv=>whnf
                obtain rfl := si hF
                exact ret_gz [] [] [] rfl (argFl (by (conv=>lhs;whnf)<;>rfl)) trivial
              ·
               replace hF := cf b31 hF
               conv=>whnf
               obtain rfl := si hF
               exact ret_gz [] [] [] rfl (argFl (by (conv=>lhs;whnf)<;>rfl)) trivial
             ·
              replace hF := cf b30 hF
              conv=>whnf
              obtain rfl := si hF
              exact ret_gz [] [] [] rfl (argFl (by (conv=>lhs;whnf)<;>rfl)) trivial
            ·
             replace hF := cf b29 hF
             conv=>whnf
             obtain rfl := si hF
             exact ret_gz [] [] [] rfl (argFl (by (conv=>lhs;whnf)<;>rfl)) trivial
           ·
            replace hF := cf b28 hF
            conv=>whnf
            obtain rfl := si hF
            exact ret_gz [] [] [] rfl (argFl (by (conv=>lhs;whnf)<;>rfl)) trivial
          ·
           replace hF := cf b27 hF
           conv=>whnf
           obtain rfl := si hF
           exact ret_gz [] [] [] rfl (argFl (by (conv=>lhs;whnf)<;>rfl)) trivial
         ·
          replace hF := cf b26 hF
          conv=>whnf
          obtain rfl := si hF
          exact ret_gz [] [] [] rfl (argFl (by (conv=>lhs;whnf)<;>rfl)) trivial
        ·
         replace hF := cf b25 hF
         conv=>whnf
         obtain rfl := si hF
         exact ret_gz [] [] [] rfl (argFl (by (conv=>lhs;whnf)<;>rfl)) trivial
       ·
        replace hF := cf b24 hF
        conv=>whnf
        obtain rfl := si hF
        exact ret_gz [] [] [] rfl (argFl (by (conv=>lhs;whnf)<;>rfl)) trivial
      ·
       replace hF := cf b23 hF
       conv=>whnf
       obtain rfl := si hF
       exact ret_gz [] [] [] rfl (argFl (by (conv=>lhs;whnf)<;>rfl)) trivial
     ·
      replace hF := cf b22 hF
      conv=>whnf
      obtain rfl := si hF
      exact ret_gz [] [] [] rfl (argFl (by (conv=>lhs;whnf)<;>rfl)) trivial
    ·
     replace hF := cf b21 hF
     conv=>whnf
     obtain rfl := si hF
     exact ret_gz [] [] [] rfl (argFl (by (conv=>lhs;whnf)<;>rfl)) trivial
   ·
    replace hF := cf b20 hF
    conv=>whnf
    obtain rfl := si hF
    exact ret_gz [] [] [] rfl (argFl (by (conv=>lhs;whnf)<;>rfl)) trivial
  ·
   replace hF := cf b19 hF
   conv=>whnf
   obtain rfl := si hF
   exact ret_gz [] [] [] rfl (argFl (by (conv=>lhs;whnf)<;>rfl)) trivial
 ·
  replace hF := cf b18 hF
  conv=>whnf
  obtain rfl := si hF
  exact ret_gz [] [] [] rfl (argFl (by (conv=>lhs;whnf)<;>rfl)) trivial

theorem ref02_Letter_ac (x_0 : Int) (r : Bool) (hF : ref02_Letter x_0 = some r) : AC Tryz.prog 104 [.int .u8 x_0] [] (.bool r) [] := by
 refine ac_of tab_ok follows_ok Tryz.func104 rfl Tryz.ntmps104 rfl ?_
 unfold ref02_Letter at hF
 conv=>whnf
 refine ⟨fun b2=>?_,fun b2=>?_⟩
 ·
  replace hF := ct b2 hF
  conv=>whnf
  obtain rfl := si hF
  exact ret_gz [] [] [] rfl aq trivial
 ·
  replace hF := cf b2 hF
  conv=>whnf
  obtain rfl := si hF
  exact ret_gz [] [] [] rfl (argFl (by (conv=>lhs;whnf)<;>rfl)) trivial

theorem ref02_ValidPort_ac (x_0 : ByteArray) (r : Bool) (hF : ref02_ValidPort x_0 = some r) : AC Tryz.prog 89 [.str x_0] [] (.bool r) [] := by
 refine ac_of tab_ok follows_ok Tryz.func89 rfl Tryz.ntmps89 rfl ?_
 unfold ref02_ValidPort at hF
 conv=>whnf
 refine ⟨fun b4=>?_,fun b4=>?_⟩
 ·
  replace hF := ct b4 hF
  conv=>whnf
  obtain ⟨b_1, hb1, hF⟩ := bs hF
  refine ixs_q hb1 (fun m_b_1 u_b_1 hm_b_1 hb_b_1 hz_b_1=>?_)
  subst hz_b_1
  conv=>whnf
  obtain ⟨r_2, hr2, hF⟩ := bs hF
  refine ⟨_,_,_,_,_,_,_,_,_,callX false [] [] 0 Tryz.func104 (by decide) rfl (ref02_Letter_ac ((u_b_1.toNat : Nat) : Int) r_2 hr2) rfl ⟨aq,trivial⟩ rfl trivial rfl rfl rfl lend0 trivial rfl, ?_⟩
  conv=>whnf
  refine ⟨fun b5=>?_,fun b5=>?_⟩
  ·
   replace hF := ct b5 hF
   conv=>whnf
   obtain ⟨b_3, hb3, hF⟩ := bs hF
   refine ixs_q hb3 (fun m_b_3 u_b_3 hm_b_3 hb_b_3 hz_b_3=>?_)
   subst hz_b_3
   conv=>whnf
   obtain ⟨r_4, hr4, hF⟩ := bs hF
   refine ⟨_,_,_,_,_,_,_,_,_,callX false [] [] 0 Tryz.func104 (by decide) rfl (ref02_Letter_ac ((u_b_3.toNat : Nat) : Int) r_4 hr4) rfl ⟨aq,trivial⟩ rfl trivial rfl rfl rfl lend0 trivial rfl, ?_⟩
   conv=>whnf
   refine ⟨fun b6=>?_,fun b6=>?_⟩
   ·
    replace hF := ct b6 hF
    conv=>whnf
    obtain ⟨b_5, hb5, hF⟩ := bs hF
    refine ixs_q hb5 (fun m_b_5 u_b_5 hm_b_5 hb_b_5 hz_b_5=>?_)
    subst hz_b_5
    conv=>whnf
    obtain ⟨r_6, hr6, hF⟩ := bs hF
    refine ⟨_,_,_,_,_,_,_,_,_,callX false [] [] 0 Tryz.func104 (by decide) rfl (ref02_Letter_ac ((u_b_5.toNat : Nat) : Int) r_6 hr6) rfl ⟨aq,trivial⟩ rfl trivial rfl rfl rfl lend0 trivial rfl, ?_⟩
    conv=>whnf
    obtain rfl := si hF
    exact ret_gz [] [] [] rfl aq trivial
   ·
    replace hF := cf b6 hF
    conv=>whnf
    obtain rfl := si hF
    exact ret_gz [] [] [] rfl (argFl (by (conv=>lhs;whnf)<;>rfl)) trivial
  ·
   replace hF := cf b5 hF
   conv=>whnf
   obtain rfl := si hF
   exact ret_gz [] [] [] rfl (argFl (by (conv=>lhs;whnf)<;>rfl)) trivial
 ·
  replace hF := cf b4 hF
  conv=>whnf
  obtain rfl := si hF
  exact ret_gz [] [] [] rfl (argFl (by (conv=>lhs;whnf)<;>rfl)) trivial

theorem ref02_Digit_ac (x_0 : Int) (r : Bool) (hF : ref02_Digit x_0 = some r) : AC Tryz.prog 107 [.int .u8 x_0] [] (.bool r) [] := by
 refine ac_of tab_ok follows_ok Tryz.func107 rfl Tryz.ntmps107 rfl ?_
 unfold ref02_Digit at hF
 conv=>whnf
 refine ⟨fun b2=>?_,fun b2=>?_⟩
 ·
  replace hF := ct b2 hF
  conv=>whnf
  obtain rfl := si hF
  exact ret_gz [] [] [] rfl aq trivial
 ·
  replace hF := cf b2 hF
  conv=>whnf
  obtain rfl := si hF
  exact ret_gz [] [] [] rfl (argFl (by (conv=>lhs;whnf)<;>rfl)) trivial
end Go.Proofs.YtkliakcegihikaaGreat.Ex
