/- The functions of the program compute what was printed; walks printed by a program. -/
import Derived.Test.YtkliakcegihikaaExF
import Derived.Test.YtkliakcegihikaaExP1
import Derived.Test.YtkliakcegihikaaExP7
import Derived.Test.YtkliakcegihikaaExP8
namespace Go.Proofs.Ytkliakcegihikaa.Ex
open Go.RowKit Go.Proofs.Ytkliakcegihikaa.Ax
set_option linter.unusedVariables false
set_option linter.unusedSimpArgs false
set_option maxRecDepth 100000 in
set_option maxHeartbeats 40000000 in
theorem law06_RegistryLimit_ac (x_0 : Int) (r : Bool) (hF : law06_RegistryLimit x_0 = some r) : AC Try.prog 6 [.int .i64 x_0] [] (.bool r) [] := by
  refine ac_of tab_ok follows_ok Try.func6 rfl Try.ntmps6 rfl ?_
  unfold law06_RegistryLimit at hF
  conv => whnf
  obtain ⟨c_1, hc_1, hF⟩ := fin_some hF
  refine sw_loop tab_ok follows_ok (fun y : Nat × (List Bag) × Int × Int => law06_RegistryLimit_L1 y.1 y.2.1 y.2.2.1 y.2.2.2 = some c_1) (fun y => ⟨eL [(0, .int .i64 x_0), (3, .ptr 0 0), (4, .int .i64 y.2.2.1), (5, .int .i64 y.2.2.2)], hL [(0, .box [.lst 25 (y.2.1.map encBag)])], 1⟩) (fun y => y.1) (9223372036854775807, ([] : List Bag), (0 : Int), (0 : Int)) hc_1 (wk_mk [0] [] [] rfl ⟨argE (by (conv => lhs; whnf); all_goals rfl) rfl, argP (id := 0) (by (conv => lhs; whnf); all_goals rfl) rfl, argE (by (conv => lhs; whnf); all_goals rfl) rfl, argE (by (conv => lhs; whnf); all_goals rfl) rfl, trivial⟩ ⟨boxL rfl rfl rfl ⟨(.nils _), trivial⟩, trivial⟩) ?_
  rintro ⟨q_6, a_1, i_2, i_3⟩ hL1
  try dsimp only at hL1
  rcases q_6 with _ | q_6
  · rw [law06_RegistryLimit_L1.eq_1] at hL1
    cases hL1
  rw [law06_RegistryLimit_L1.eq_2] at hL1
  show awp _ _ _ _ _ _ ⟨eL [(0, .int .i64 x_0), (3, .ptr 0 0), (4, .int .i64 i_2), (5, .int .i64 i_3)], hL [(0, .box [.lst 25 (a_1.map encBag)])], 1⟩
  conv => whnf
  refine ⟨fun hb_14 => ?_, fun hb_14 => ?_⟩
  · replace hL1 := cond_t hb_14 hL1
    conv => whnf
    obtain ⟨r_4, h_r_4, hL1⟩ := bind_some hL1
    refine ⟨_, _, _, _, _, _, _, _, callX false [] [] Try.func26 (by decide) rfl (law06_source_ac (⟨(0 : Int), (117 : Int), i_2⟩ : Plate) (99 : Int) r_4 h_r_4) rfl ⟨(argE (by (conv => lhs; whnf); all_goals rfl) rfl), (argE (by (conv => lhs; whnf); all_goals rfl) rfl), trivial⟩ rfl trivial rfl rfl rfl lend0 trivial, ?_⟩
    conv => whnf
    obtain ⟨r_5, h_r_5, hL1⟩ := bind_some hL1
    refine ⟨_, _, _, _, _, _, _, _, callX false [] [] Try.func14 (by decide) rfl (registry_Apply_ac (⟨a_1⟩ : Registry) r_4 r_5 h_r_5) rfl ⟨(argE (by (conv => lhs; whnf); all_goals rfl) rfl), (argE (by (conv => lhs; whnf); all_goals rfl) rfl), trivial⟩ rfl trivial rfl rfl rfl lend0 trivial, ?_⟩
    conv => whnf
    refine ⟨by kernel_rfl, ?_⟩
    conv => whnf
    refine ⟨fun hb_15 => ?_, fun hb_15 => ?_⟩
    · replace hL1 := cond_t hb_15 hL1
      conv => whnf
      obtain rfl := Option.some.inj hL1
      replace hF := fin_ret hF
      obtain rfl := Option.some.inj hF
      exact ret_gz [] [] [] rfl (argFl (by (conv => lhs; whnf); all_goals rfl)) trivial
    · replace hL1 := cond_f hb_15 hL1
      conv => whnf
      refine ⟨_, rfl, ?_⟩
      conv => whnf
      refine ⟨_, rfl, ?_⟩
      conv => whnf
      exact ⟨(q_6, r_5.1.L, (w64 (i_2 + (99 : Int))), (w64 (i_3 + (1 : Int)))), [0], [], [], hL1, Nat.lt_succ_self _, wk_mk [0] [] [] rfl ⟨argE (by (conv => lhs; whnf); all_goals rfl) rfl, argP (id := 0) (by (conv => lhs; whnf); all_goals rfl) rfl, argE (by (conv => lhs; whnf); all_goals rfl) rfl, argE (by (conv => lhs; whnf); all_goals rfl) rfl, trivial⟩ ⟨boxL rfl rfl rfl ⟨(.ni _ rfl), trivial⟩, trivial⟩⟩
  · replace hL1 := cond_f hb_14 hL1
    conv => whnf
    obtain rfl := Option.some.inj hL1
    replace hF := fin_brk hF
    try dsimp only at hF
    obtain ⟨r_8, h_r_8, hF⟩ := bind_some hF
    refine ⟨_, _, _, _, _, _, _, _, callX false [] [] Try.func24 (by decide) rfl (keep_Mod_ac x_0 (4 : Int) r_8 h_r_8) rfl ⟨(argE (by (conv => lhs; whnf); all_goals rfl) rfl), (argE (by (conv => lhs; whnf); all_goals rfl) rfl), trivial⟩ rfl trivial rfl rfl rfl lend0 trivial, ?_⟩
    conv => whnf
    refine ⟨_, rfl, ?_⟩
    conv => whnf
    obtain ⟨r_9, h_r_9, hF⟩ := bind_some hF
    refine ⟨_, _, _, _, _, _, _, _, callX false [] [] Try.func26 (by decide) rfl (law06_source_ac (⟨(0 : Int), (117 : Int), i_2⟩ : Plate) (w64 ((1 : Int) + r_8)) r_9 h_r_9) rfl ⟨(argE (by (conv => lhs; whnf); all_goals rfl) rfl), (argE (by (conv => lhs; whnf); all_goals rfl) rfl), trivial⟩ rfl trivial rfl rfl rfl lend0 trivial, ?_⟩
    conv => whnf
    obtain ⟨r_10, h_r_10, hF⟩ := bind_some hF
    refine ⟨_, _, _, _, _, _, _, _, callX false [] [] Try.func14 (by decide) rfl (registry_Apply_ac (⟨a_1⟩ : Registry) r_9 r_10 h_r_10) rfl ⟨(argE (by (conv => lhs; whnf); all_goals rfl) rfl), (argE (by (conv => lhs; whnf); all_goals rfl) rfl), trivial⟩ rfl trivial rfl rfl rfl lend0 trivial, ?_⟩
    conv => whnf
    refine ⟨by kernel_rfl, ?_⟩
    conv => whnf
    refine ⟨_, rfl, ?_⟩
    conv => whnf
    refine ⟨fun hb_16 => ?_, fun hb_16 => ?_⟩
    · replace hF := cond_t hb_16 hF
      conv => whnf
      refine ⟨fun hb_17 => ?_, fun hb_17 => ?_⟩
      · replace hF := cond_t hb_17 hF
        conv => whnf
        refine len_q (enc := encBag) (l := r_10.1.L) rfl ?_
        conv => whnf
        refine ⟨_, rfl, ?_⟩
        conv => whnf
        refine ⟨fun hb_18 => ?_, fun hb_18 => ?_⟩
        · replace hF := cond_t hb_18 hF
          conv => whnf
          obtain ⟨r_11, h_r_11, hF⟩ := bind_some hF
          refine ⟨_, _, _, _, _, _, _, _, callX false [] [] Try.func10 (by decide) rfl (law06_awake_ac r_11 h_r_11) rfl trivial rfl trivial rfl rfl rfl lend0 trivial, ?_⟩
          conv => whnf
          obtain rfl := Option.some.inj hF
          exact ret_gz [] [] [] rfl (argE (by (conv => lhs; whnf); all_goals rfl) rfl) trivial
        · replace hF := cond_f hb_18 hF
          conv => whnf
          obtain rfl := Option.some.inj hF
          exact ret_gz [] [] [] rfl (argFl (by (conv => lhs; whnf); all_goals rfl)) trivial
      · replace hF := cond_f hb_17 hF
        conv => whnf
        obtain rfl := Option.some.inj hF
        exact ret_gz [] [] [] rfl (argFl (by (conv => lhs; whnf); all_goals rfl)) trivial
    · replace hF := cond_f hb_16 hF
      conv => whnf
      refine ⟨fun hb_19 => ?_, fun hb_19 => ?_⟩
      · replace hF := cond_t hb_19 hF
        conv => whnf
        refine len_q (enc := encBag) (l := r_10.1.L) rfl ?_
        conv => whnf
        refine ⟨fun hb_20 => ?_, fun hb_20 => ?_⟩
        · replace hF := cond_t hb_20 hF
          conv => whnf
          obtain ⟨r_12, h_r_12, hF⟩ := bind_some hF
          refine ⟨_, _, _, _, _, _, _, _, callX false [] [] Try.func10 (by decide) rfl (law06_awake_ac r_12 h_r_12) rfl trivial rfl trivial rfl rfl rfl lend0 trivial, ?_⟩
          conv => whnf
          obtain rfl := Option.some.inj hF
          exact ret_gz [] [] [] rfl (argE (by (conv => lhs; whnf); all_goals rfl) rfl) trivial
        · replace hF := cond_f hb_20 hF
          conv => whnf
          obtain rfl := Option.some.inj hF
          exact ret_gz [] [] [] rfl (argFl (by (conv => lhs; whnf); all_goals rfl)) trivial
      · replace hF := cond_f hb_19 hF
        conv => whnf
        obtain rfl := Option.some.inj hF
        exact ret_gz [] [] [] rfl (argFl (by (conv => lhs; whnf); all_goals rfl)) trivial
end Go.Proofs.Ytkliakcegihikaa.Ex
