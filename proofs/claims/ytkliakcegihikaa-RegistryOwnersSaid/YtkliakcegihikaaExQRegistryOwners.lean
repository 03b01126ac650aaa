/- The functions of the program compute what was printed; walks printed by a program. -/
import Derived.Test.YtkliakcegihikaaExF
import Derived.Test.YtkliakcegihikaaExP2
import Derived.Test.YtkliakcegihikaaExP3
import Derived.Test.YtkliakcegihikaaExP4
namespace Go.Proofs.Ytkliakcegihikaa.Ex
open Go.RowKit Go.Proofs.Ytkliakcegihikaa.Ax
set_option linter.unusedVariables false
set_option linter.unusedSimpArgs false
set_option maxRecDepth 100000 in
set_option maxHeartbeats 40000000 in
theorem law06_RegistryOwners_ac (x_0 : (List Int)) (r : Bool) (hF : law06_RegistryOwners x_0 = some r) : AC Try.prog 8 [.lst 1 (x_0.map iA)] [] (.bool r) [] := by
  refine ac_of tab_ok follows_ok Try.func8 rfl Try.ntmps8 rfl ?_
  unfold law06_RegistryOwners at hF
  conv => whnf
  obtain ⟨r_1, h_r_1, hF⟩ := bind_some hF
  refine ⟨_, _, _, _, _, _, _, _, callX false [] [] Try.func11 (by decide) rfl (keep_New_ac x_0 r_1 h_r_1) rfl ⟨(argE (by (conv => lhs; whnf); all_goals rfl) rfl), trivial⟩ rfl trivial rfl rfl rfl lend0 ⟨rfl, trivial⟩, ?_⟩
  conv => whnf
  obtain ⟨r_2, h_r_2, hF⟩ := bind_some hF
  refine ⟨_, _, _, _, _, _, _, _, callX false [0] [] Try.func19 (by decide) rfl (law06_built_ac r_1 (20 : Int) r_2 h_r_2) rfl ⟨(argP (id := 0) (by (conv => lhs; whnf); all_goals rfl) rfl), (argE (by (conv => lhs; whnf); all_goals rfl) rfl), trivial⟩ rfl ⟨rfl, trivial⟩ rfl rfl rfl lend0 ⟨rfl, trivial⟩, ?_⟩
  conv => whnf
  obtain ⟨r_3, h_r_3, hF⟩ := bind_some hF
  refine ⟨_, _, _, _, _, _, _, _, callX false [0] [] Try.func28 (by decide) rfl (keep_Src_AnyFlight_ac r_2.2 r_3 h_r_3) rfl ⟨(argP (id := 0) (by (conv => lhs; whnf); all_goals rfl) rfl), trivial⟩ rfl ⟨rfl, trivial⟩ rfl rfl rfl lend0 ⟨rfl, trivial⟩, ?_⟩
  conv => whnf
  obtain ⟨r_4, h_r_4, hF⟩ := bind_some hF
  refine ⟨_, _, _, _, _, _, _, _, callX false [] [] Try.func30 (by decide) rfl (registry_OfFlight_ac r_2.1 r_3.1 r_4 h_r_4) rfl ⟨(argE (by (conv => lhs; whnf); all_goals rfl) rfl), (argE (by (conv => lhs; whnf); all_goals rfl) rfl), trivial⟩ rfl trivial rfl rfl rfl lend0 trivial, ?_⟩
  conv => whnf
  obtain ⟨c_1, hc_1, hF⟩ := fin_some hF
  refine sw_loop tab_ok follows_ok (fun y : Nat × Int × Int => law06_RegistryOwners_L1 r_2 r_3 y.1 y.2.1 y.2.2 = some c_1) (fun y => ⟨eL [(4, .ptr 0 0), (5, .ptr 1 0), (6, .lst 3 (r_4.map encPlate)), (7, .int .i64 y.2.1), (8, .int .i64 y.2.2)], hL [(0, .box [.lst 25 (r_2.1.L.map encBag)]), (1, .box [.str r_3.1.Carrier, .int .i64 r_3.1.Number, .str r_3.1.Suffix, .int .i64 r_3.1.Day])], 2⟩) (fun y => y.1) (9223372036854775807, (0 : Int), (1 : Int)) hc_1 (wk_mk [3, 5] [] [] rfl ⟨argP (id := 3) (by (conv => lhs; whnf); all_goals rfl) rfl, argP (id := 5) (by (conv => lhs; whnf); all_goals rfl) rfl, argE (by (conv => lhs; whnf); all_goals rfl) rfl, argE (by (conv => lhs; whnf); all_goals rfl) rfl, argE (by (conv => lhs; whnf); all_goals rfl) rfl, trivial⟩ ⟨boxL rfl rfl rfl ⟨(.ni _ rfl), trivial⟩, boxL rfl rfl rfl ⟨(.ni _ rfl), (.ni _ rfl), (.ni _ rfl), (.ni _ rfl), trivial⟩, trivial⟩) ?_
  rintro ⟨q_8, i_5, i_6⟩ hL1
  try dsimp only at hL1
  rcases q_8 with _ | q_8
  · rw [law06_RegistryOwners_L1.eq_1] at hL1
    cases hL1
  rw [law06_RegistryOwners_L1.eq_2] at hL1
  show awp _ _ _ _ _ _ ⟨eL [(4, .ptr 0 0), (5, .ptr 1 0), (6, .lst 3 (r_4.map encPlate)), (7, .int .i64 i_5), (8, .int .i64 i_6)], hL [(0, .box [.lst 25 (r_2.1.L.map encBag)]), (1, .box [.str r_3.1.Carrier, .int .i64 r_3.1.Number, .str r_3.1.Suffix, .int .i64 r_3.1.Day])], 2⟩
  conv => whnf
  refine ⟨fun hb_14 => ?_, fun hb_14 => ?_⟩
  · replace hL1 := cond_t hb_14 hL1
    conv => whnf
    obtain ⟨r_7, h_r_7, hL1⟩ := bind_some hL1
    refine ⟨_, _, _, _, _, _, _, _, callX false [] [] Try.func32 (by decide) rfl (registry_OfPassenger_ac r_2.1 r_3.1 i_6 r_7 h_r_7) rfl ⟨(argE (by (conv => lhs; whnf); all_goals rfl) rfl), (argE (by (conv => lhs; whnf); all_goals rfl) rfl), (argE (by (conv => lhs; whnf); all_goals rfl) rfl), trivial⟩ rfl trivial rfl rfl rfl lend0 trivial, ?_⟩
    conv => whnf
    refine len_q (enc := encPlate) (l := r_7) rfl ?_
    conv => whnf
    refine ⟨_, rfl, ?_⟩
    conv => whnf
    refine ⟨_, rfl, ?_⟩
    conv => whnf
    exact ⟨(q_8, (w64 (i_5 + (r_7.length : Int))), (w64 (i_6 + (1 : Int)))), [0, 1], [], [], hL1, Nat.lt_succ_self _, wk_mk [0, 1] [] [] rfl ⟨argP (id := 0) (by (conv => lhs; whnf); all_goals rfl) rfl, argP (id := 1) (by (conv => lhs; whnf); all_goals rfl) rfl, argE (by (conv => lhs; whnf); all_goals rfl) rfl, argE (by (conv => lhs; whnf); all_goals rfl) rfl, argE (by (conv => lhs; whnf); all_goals rfl) rfl, trivial⟩ ⟨boxL rfl rfl rfl ⟨(.ni _ rfl), trivial⟩, boxL rfl rfl rfl ⟨(.ni _ rfl), (.ni _ rfl), (.ni _ rfl), (.ni _ rfl), trivial⟩, trivial⟩⟩
  · replace hL1 := cond_f hb_14 hL1
    conv => whnf
    obtain rfl := Option.some.inj hL1
    replace hF := fin_brk hF
    try dsimp only at hF
    obtain ⟨c_2, hc_2, hF⟩ := fin_some hF
    refine sw_loop tab_ok follows_ok (fun y : Nat × Int => law06_RegistryOwners_L2 r_4 y.1 y.2 = some c_2) (fun y => ⟨eL [(6, .lst 3 (r_4.map encPlate)), (7, .int .i64 i_5), (9, .int .i64 y.2)], hL [], 0⟩) (fun y => y.1) (9223372036854775807, (1 : Int)) hc_2 (wk_mk [] [] [] rfl ⟨argE (by (conv => lhs; whnf); all_goals rfl) rfl, argE (by (conv => lhs; whnf); all_goals rfl) rfl, argE (by (conv => lhs; whnf); all_goals rfl) rfl, trivial⟩ trivial) ?_
    rintro ⟨q_14, i_10⟩ hL1
    try dsimp only at hL1
    rcases q_14 with _ | q_14
    · rw [law06_RegistryOwners_L2.eq_1] at hL1
      cases hL1
    rw [law06_RegistryOwners_L2.eq_2] at hL1
    show awp _ _ _ _ _ _ ⟨eL [(6, .lst 3 (r_4.map encPlate)), (7, .int .i64 i_5), (9, .int .i64 i_10)], hL [], 0⟩
    conv => whnf
    refine len_q (enc := encPlate) (l := r_4) rfl ?_
    conv => whnf
    refine ⟨fun hb_15 => ?_, fun hb_15 => ?_⟩
    · replace hL1 := cond_t hb_15 hL1
      conv => whnf
      refine ⟨_, rfl, ?_⟩
      conv => whnf
      obtain ⟨e_11, h_e_11, hL1⟩ := bind_some hL1
      refine ix_q (enc := encPlate) (l := r_4) h_e_11 rfl (fun m_e_11 hm_e_11 hx_e_11 => ?_)
      conv => whnf
      obtain ⟨e_12, h_e_12, hL1⟩ := bind_some hL1
      refine ix_q (enc := encPlate) (l := r_4) h_e_12 rfl (fun m_e_12 hm_e_12 hx_e_12 => ?_)
      conv => whnf
      obtain ⟨r_13, h_r_13, hL1⟩ := bind_some hL1
      refine ⟨_, _, _, _, _, _, _, _, callX false [] [] Try.func34 (by decide) rfl (ref01_Compare_ac e_11 e_12 r_13 h_r_13) rfl ⟨(argE (by (conv => lhs; whnf); all_goals rfl) rfl), (argE (by (conv => lhs; whnf); all_goals rfl) rfl), trivial⟩ rfl trivial rfl rfl rfl lend0 trivial, ?_⟩
      conv => whnf
      refine ⟨by kernel_rfl, ?_⟩
      conv => whnf
      refine ⟨fun hb_16 => ?_, fun hb_16 => ?_⟩
      · replace hL1 := cond_t hb_16 hL1
        conv => whnf
        obtain rfl := Option.some.inj hL1
        replace hF := fin_ret hF
        obtain rfl := Option.some.inj hF
        exact ret_gz [] [] [] rfl (argFl (by (conv => lhs; whnf); all_goals rfl)) trivial
      · replace hL1 := cond_f hb_16 hL1
        conv => whnf
        refine ⟨_, rfl, ?_⟩
        conv => whnf
        exact ⟨(q_14, (w64 (i_10 + (1 : Int)))), [], [], [], hL1, Nat.lt_succ_self _, wk_mk [] [] [] rfl ⟨argE (by (conv => lhs; whnf); all_goals rfl) rfl, argE (by (conv => lhs; whnf); all_goals rfl) rfl, argE (by (conv => lhs; whnf); all_goals rfl) rfl, trivial⟩ trivial⟩
    · replace hL1 := cond_f hb_15 hL1
      conv => whnf
      obtain rfl := Option.some.inj hL1
      replace hF := fin_brk hF
      try dsimp only at hF
      refine len_q (enc := encPlate) (l := r_4) rfl ?_
      conv => whnf
      refine ⟨fun hb_17 => ?_, fun hb_17 => ?_⟩
      · replace hF := cond_t hb_17 hF
        conv => whnf
        obtain ⟨r_16, h_r_16, hF⟩ := bind_some hF
        refine ⟨_, _, _, _, _, _, _, _, callX false [] [] Try.func10 (by decide) rfl (law06_awake_ac r_16 h_r_16) rfl trivial rfl trivial rfl rfl rfl lend0 trivial, ?_⟩
        conv => whnf
        obtain rfl := Option.some.inj hF
        exact ret_gz [] [] [] rfl (argE (by (conv => lhs; whnf); all_goals rfl) rfl) trivial
      · replace hF := cond_f hb_17 hF
        conv => whnf
        obtain rfl := Option.some.inj hF
        exact ret_gz [] [] [] rfl (argFl (by (conv => lhs; whnf); all_goals rfl)) trivial
end Go.Proofs.Ytkliakcegihikaa.Ex
