/- The functions of the program compute what was printed; walks printed by a program. -/
import Derived.Test.YtkliakcegihikaaExF
import Derived.Test.YtkliakcegihikaaExP2
namespace Go.Proofs.Ytkliakcegihikaa.Ex
open Go.RowKit Go.Proofs.Ytkliakcegihikaa.Ax
set_option linter.unusedVariables false
set_option linter.unusedSimpArgs false
set_option maxRecDepth 100000 in
set_option maxHeartbeats 40000000 in
theorem fields_Digit_ac (x_0 : Int) (r : Bool) (hF : fields_Digit x_0 = some r) : AC Try.prog 101 [.int .u8 x_0] [] (.bool r) [] := by
  refine ac_of tab_ok follows_ok Try.func101 rfl Try.ntmps101 rfl ?_
  unfold fields_Digit at hF
  conv => whnf
  refine ⟨fun hb_2 => ?_, fun hb_2 => ?_⟩
  · replace hF := cond_t hb_2 hF
    conv => whnf
    obtain rfl := Option.some.inj hF
    exact ret_gz [] [] [] rfl (argE (by (conv => lhs; whnf); all_goals rfl) rfl) trivial
  · replace hF := cond_f hb_2 hF
    conv => whnf
    obtain rfl := Option.some.inj hF
    exact ret_gz [] [] [] rfl (argFl (by (conv => lhs; whnf); all_goals rfl)) trivial

set_option maxRecDepth 100000 in
set_option maxHeartbeats 40000000 in
theorem flight_carrier_ac (x_0 : ByteArray) (r : Bool) (hF : flight_carrier x_0 = some r) : AC Try.prog 107 [.str x_0] [] (.bool r) [] := by
  refine ac_of tab_ok follows_ok Try.func107 rfl Try.ntmps107 rfl ?_
  unfold flight_carrier at hF
  conv => whnf
  refine ⟨fun hb_14 => ?_, fun hb_14 => ?_⟩
  · replace hF := cond_t hb_14 hF
    conv => whnf
    obtain rfl := Option.some.inj hF
    exact ret_gz [] [] [] rfl (argFl (by (conv => lhs; whnf); all_goals rfl)) trivial
  · replace hF := cond_f hb_14 hF
    conv => whnf
    obtain ⟨c_1, hc_1, hF⟩ := fin_some hF
    refine sw_loop tab_ok follows_ok (fun y : Nat × Int × Int => flight_carrier_L1 x_0 y.1 y.2.1 y.2.2 = some c_1) (fun y => ⟨eL [(0, .str x_0), (3, .int .i64 y.2.1), (9, .int .i64 (x_0.size : Int)), (10, .int .i64 y.2.2)], hL [], 0⟩) (fun y => y.1) (9223372036854775807, (0 : Int), (0 : Int)) hc_1 (wk_mk [] [] [] rfl ⟨argE (by (conv => lhs; whnf); all_goals rfl) rfl, argE (by (conv => lhs; whnf); all_goals rfl) rfl, argE (by (conv => lhs; whnf); all_goals rfl) rfl, argE (by (conv => lhs; whnf); all_goals rfl) rfl, trivial⟩ trivial) ?_
    rintro ⟨q_7, i_1, i_2⟩ hL1
    try dsimp only at hL1
    rcases q_7 with _ | q_7
    · rw [flight_carrier_L1.eq_1] at hL1
      cases hL1
    rw [flight_carrier_L1.eq_2] at hL1
    show awp _ _ _ _ _ _ ⟨eL [(0, .str x_0), (3, .int .i64 i_1), (9, .int .i64 (x_0.size : Int)), (10, .int .i64 i_2)], hL [], 0⟩
    conv => whnf
    refine ⟨fun hb_15 => ?_, fun hb_15 => ?_⟩
    · replace hL1 := cond_t hb_15 hL1
      conv => whnf
      obtain ⟨b_3, h_b_3, hL1⟩ := bind_some hL1
      refine ixs_q h_b_3 (fun m_b_3 u_b_3 hm_b_3 hb_b_3 hz_b_3 => ?_)
      subst hz_b_3
      conv => whnf
      obtain ⟨r_4, h_r_4, hL1⟩ := bind_some hL1
      refine ⟨_, _, _, _, _, _, _, _, callX false [] [] Try.func99 (by decide) rfl (fields_Letter_ac ((u_b_3.toNat : Nat) : Int) r_4 h_r_4) rfl ⟨(argE (by (conv => lhs; whnf); all_goals rfl) rfl), trivial⟩ rfl trivial rfl rfl rfl lend0 trivial, ?_⟩
      conv => whnf
      refine ⟨fun hb_16 => ?_, fun hb_16 => ?_⟩
      · replace hL1 := cond_t hb_16 hL1
        conv => whnf
        refine ⟨_, rfl, ?_⟩
        conv => whnf
        refine ⟨_, rfl, ?_⟩
        conv => whnf
        exact ⟨(q_7, (w64 (i_1 + (1 : Int))), (w64 (i_2 + (1 : Int)))), [], [], [], hL1, Nat.lt_succ_self _, wk_mk [] [] [] rfl ⟨argE (by (conv => lhs; whnf); all_goals rfl) rfl, argE (by (conv => lhs; whnf); all_goals rfl) rfl, argE (by (conv => lhs; whnf); all_goals rfl) rfl, argE (by (conv => lhs; whnf); all_goals rfl) rfl, trivial⟩ trivial⟩
      · replace hL1 := cond_f hb_16 hL1
        conv => whnf
        obtain ⟨b_5, h_b_5, hL1⟩ := bind_some hL1
        refine ixs_q h_b_5 (fun m_b_5 u_b_5 hm_b_5 hb_b_5 hz_b_5 => ?_)
        subst hz_b_5
        conv => whnf
        obtain ⟨r_6, h_r_6, hL1⟩ := bind_some hL1
        refine ⟨_, _, _, _, _, _, _, _, callX false [] [] Try.func101 (by decide) rfl (fields_Digit_ac ((u_b_5.toNat : Nat) : Int) r_6 h_r_6) rfl ⟨(argE (by (conv => lhs; whnf); all_goals rfl) rfl), trivial⟩ rfl trivial rfl rfl rfl lend0 trivial, ?_⟩
        conv => whnf
        refine ⟨fun hb_17 => ?_, fun hb_17 => ?_⟩
        · replace hL1 := cond_t hb_17 hL1
          conv => whnf
          obtain rfl := Option.some.inj hL1
          replace hF := fin_ret hF
          obtain rfl := Option.some.inj hF
          exact ret_gz [] [] [] rfl (argFl (by (conv => lhs; whnf); all_goals rfl)) trivial
        · replace hL1 := cond_f hb_17 hL1
          conv => whnf
          refine ⟨_, rfl, ?_⟩
          conv => whnf
          exact ⟨(q_7, i_1, (w64 (i_2 + (1 : Int)))), [], [], [], hL1, Nat.lt_succ_self _, wk_mk [] [] [] rfl ⟨argE (by (conv => lhs; whnf); all_goals rfl) rfl, argE (by (conv => lhs; whnf); all_goals rfl) rfl, argE (by (conv => lhs; whnf); all_goals rfl) rfl, argE (by (conv => lhs; whnf); all_goals rfl) rfl, trivial⟩ trivial⟩
    · replace hL1 := cond_f hb_15 hL1
      conv => whnf
      obtain rfl := Option.some.inj hL1
      replace hF := fin_brk hF
      try dsimp only at hF
      obtain rfl := Option.some.inj hF
      exact ret_gz [] [] [] rfl (argE (by (conv => lhs; whnf); all_goals rfl) rfl) trivial

set_option maxRecDepth 100000 in
set_option maxHeartbeats 40000000 in
theorem flight_Valid_ac (x_0 : Flight) (r : Bool) (hF : flight_Valid x_0 = some r) : AC Try.prog 97 [.agg (encFlight x_0)] [] (.bool r) [] := by
  refine ac_of tab_ok follows_ok Try.func97 rfl Try.ntmps97 rfl ?_
  unfold flight_Valid at hF
  conv => whnf
  obtain ⟨r_1, h_r_1, hF⟩ := bind_some hF
  refine ⟨_, _, _, _, _, _, _, _, callX false [] [] Try.func107 (by decide) rfl (flight_carrier_ac x_0.Carrier r_1 h_r_1) rfl ⟨(argE (by (conv => lhs; whnf); all_goals rfl) rfl), trivial⟩ rfl trivial rfl rfl rfl lend0 trivial, ?_⟩
  conv => whnf
  refine ⟨fun hb_6 => ?_, fun hb_6 => ?_⟩
  · replace hF := cond_t hb_6 hF
    conv => whnf
    refine ⟨fun hb_7 => ?_, fun hb_7 => ?_⟩
    · replace hF := cond_t hb_7 hF
      conv => whnf
      refine ⟨fun hb_8 => ?_, fun hb_8 => ?_⟩
      · replace hF := cond_t hb_8 hF
        conv => whnf
        obtain ⟨r_2, h_r_2, hF⟩ := bind_some hF
        refine ⟨_, _, _, _, _, _, _, _, callX false [] [] Try.func86 (by decide) rfl (fields_Letters_ac x_0.Suffix (0 : Int) (1 : Int) r_2 h_r_2) rfl ⟨(argE (by (conv => lhs; whnf); all_goals rfl) rfl), (argE (by (conv => lhs; whnf); all_goals rfl) rfl), (argE (by (conv => lhs; whnf); all_goals rfl) rfl), trivial⟩ rfl trivial rfl rfl rfl lend0 trivial, ?_⟩
        conv => whnf
        refine ⟨fun hb_9 => ?_, fun hb_9 => ?_⟩
        · replace hF := cond_t hb_9 hF
          conv => whnf
          refine ⟨fun hb_10 => ?_, fun hb_10 => ?_⟩
          · replace hF := cond_t hb_10 hF
            conv => whnf
            obtain rfl := Option.some.inj hF
            exact ret_gz [] [] [] rfl (argE (by (conv => lhs; whnf); all_goals rfl) rfl) trivial
          · replace hF := cond_f hb_10 hF
            conv => whnf
            obtain rfl := Option.some.inj hF
            exact ret_gz [] [] [] rfl (argFl (by (conv => lhs; whnf); all_goals rfl)) trivial
        · replace hF := cond_f hb_9 hF
          conv => whnf
          obtain rfl := Option.some.inj hF
          exact ret_gz [] [] [] rfl (argFl (by (conv => lhs; whnf); all_goals rfl)) trivial
      · replace hF := cond_f hb_8 hF
        conv => whnf
        obtain rfl := Option.some.inj hF
        exact ret_gz [] [] [] rfl (argFl (by (conv => lhs; whnf); all_goals rfl)) trivial
    · replace hF := cond_f hb_7 hF
      conv => whnf
      obtain rfl := Option.some.inj hF
      exact ret_gz [] [] [] rfl (argFl (by (conv => lhs; whnf); all_goals rfl)) trivial
  · replace hF := cond_f hb_6 hF
    conv => whnf
    obtain rfl := Option.some.inj hF
    exact ret_gz [] [] [] rfl (argFl (by (conv => lhs; whnf); all_goals rfl)) trivial

set_option maxRecDepth 100000 in
set_option maxHeartbeats 40000000 in
theorem flight_ValidLeg_ac (x_0 : Leg) (r : Bool) (hF : flight_ValidLeg x_0 = some r) : AC Try.prog 84 [.agg (encLeg x_0)] [] (.bool r) [] := by
  refine ac_of tab_ok follows_ok Try.func84 rfl Try.ntmps84 rfl ?_
  unfold flight_ValidLeg at hF
  conv => whnf
  obtain ⟨r_1, h_r_1, hF⟩ := bind_some hF
  refine ⟨_, _, _, _, _, _, _, _, callX false [] [] Try.func97 (by decide) rfl (flight_Valid_ac x_0.Flight r_1 h_r_1) rfl ⟨(argE (by (conv => lhs; whnf); all_goals rfl) rfl), trivial⟩ rfl trivial rfl rfl rfl lend0 trivial, ?_⟩
  conv => whnf
  refine ⟨fun hb_5 => ?_, fun hb_5 => ?_⟩
  · replace hF := cond_t hb_5 hF
    conv => whnf
    obtain ⟨r_2, h_r_2, hF⟩ := bind_some hF
    refine ⟨_, _, _, _, _, _, _, _, callX false [] [] Try.func83 (by decide) rfl (flight_ValidPort_ac x_0.Port r_2 h_r_2) rfl ⟨(argE (by (conv => lhs; whnf); all_goals rfl) rfl), trivial⟩ rfl trivial rfl rfl rfl lend0 trivial, ?_⟩
    conv => whnf
    refine ⟨fun hb_6 => ?_, fun hb_6 => ?_⟩
    · replace hF := cond_t hb_6 hF
      conv => whnf
      refine ⟨fun hb_7 => ?_, fun hb_7 => ?_⟩
      · replace hF := cond_f hb_7 hF
        conv => whnf
        refine ⟨fun hb_8 => ?_, fun hb_8 => ?_⟩
        · replace hF := cond_f hb_8 hF
          conv => whnf
          obtain rfl := Option.some.inj hF
          exact ret_gz [] [] [] rfl (argE (by (conv => lhs; whnf); all_goals rfl) rfl) trivial
        · replace hF := cond_t hb_8 hF
          conv => whnf
          obtain rfl := Option.some.inj hF
          exact ret_gz [] [] [] rfl (argT (by (conv => lhs; whnf); all_goals rfl)) trivial
      · replace hF := cond_t hb_7 hF
        conv => whnf
        obtain rfl := Option.some.inj hF
        exact ret_gz [] [] [] rfl (argT (by (conv => lhs; whnf); all_goals rfl)) trivial
    · replace hF := cond_f hb_6 hF
      conv => whnf
      obtain rfl := Option.some.inj hF
      exact ret_gz [] [] [] rfl (argFl (by (conv => lhs; whnf); all_goals rfl)) trivial
  · replace hF := cond_f hb_5 hF
    conv => whnf
    obtain rfl := Option.some.inj hF
    exact ret_gz [] [] [] rfl (argFl (by (conv => lhs; whnf); all_goals rfl)) trivial

set_option maxRecDepth 100000 in
set_option maxHeartbeats 40000000 in
theorem message_describes_ac (x_0 : Int) (r : Bool) (hF : message_describes x_0 = some r) : AC Try.prog 85 [.int .i64 x_0] [] (.bool r) [] := by
  refine ac_of tab_ok follows_ok Try.func85 rfl Try.ntmps85 rfl ?_
  unfold message_describes at hF
  conv => whnf
  refine ⟨fun hb_2 => ?_, fun hb_2 => ?_⟩
  · replace hF := cond_f hb_2 hF
    conv => whnf
    obtain rfl := Option.some.inj hF
    exact ret_gz [] [] [] rfl (argE (by (conv => lhs; whnf); all_goals rfl) rfl) trivial
  · replace hF := cond_t hb_2 hF
    conv => whnf
    obtain rfl := Option.some.inj hF
    exact ret_gz [] [] [] rfl (argT (by (conv => lhs; whnf); all_goals rfl)) trivial

set_option maxRecDepth 100000 in
set_option maxHeartbeats 40000000 in
theorem fields_Name_f1_ac (x_0 : Int) (r : Bool) (hF : fields_Name_f1 x_0 = some r) : AC Try.prog 100 [.int .u8 x_0] [] (.bool r) [] := by
  refine ac_of tab_ok follows_ok Try.func100 rfl Try.ntmps100 rfl ?_
  unfold fields_Name_f1 at hF
  conv => whnf
  obtain ⟨r_1, h_r_1, hF⟩ := bind_some hF
  refine ⟨_, _, _, _, _, _, _, _, callX false [] [] Try.func99 (by decide) rfl (fields_Letter_ac x_0 r_1 h_r_1) rfl ⟨(argE (by (conv => lhs; whnf); all_goals rfl) rfl), trivial⟩ rfl trivial rfl rfl rfl lend0 trivial, ?_⟩
  conv => whnf
  refine ⟨fun hb_2 => ?_, fun hb_2 => ?_⟩
  · replace hF := cond_f hb_2 hF
    conv => whnf
    obtain ⟨r_2, h_r_2, hF⟩ := bind_some hF
    refine ⟨_, _, _, _, _, _, _, _, callX false [] [] Try.func101 (by decide) rfl (fields_Digit_ac x_0 r_2 h_r_2) rfl ⟨(argE (by (conv => lhs; whnf); all_goals rfl) rfl), trivial⟩ rfl trivial rfl rfl rfl lend0 trivial, ?_⟩
    conv => whnf
    obtain rfl := Option.some.inj hF
    exact ret_gz [] [] [] rfl (argE (by (conv => lhs; whnf); all_goals rfl) rfl) trivial
  · replace hF := cond_t hb_2 hF
    conv => whnf
    obtain rfl := Option.some.inj hF
    exact ret_gz [] [] [] rfl (argT (by (conv => lhs; whnf); all_goals rfl)) trivial

set_option maxRecDepth 100000 in
set_option maxHeartbeats 40000000 in
theorem fields_All_v2_ac (x_0 : ByteArray) (r : Bool) (hF : fields_All_v2 x_0 = some r) : AC Try.prog 98 [.str x_0, .fn 100 []] [] (.bool r) [] := by
  refine ac_of tab_ok follows_ok Try.func98 rfl Try.ntmps98 rfl ?_
  unfold fields_All_v2 at hF
  conv => whnf
  obtain ⟨c_1, hc_1, hF⟩ := fin_some hF
  refine sw_loop tab_ok follows_ok (fun y : Nat × Int => fields_All_v2_L1 x_0 y.1 y.2 = some c_1) (fun y => ⟨eL [(0, .str x_0), (1, .fn 100 []), (7, .int .i64 (x_0.size : Int)), (8, .int .i64 y.2)], hL [], 0⟩) (fun y => y.1) (9223372036854775807, (0 : Int)) hc_1 (wk_mk [] [] [] rfl ⟨argE (by (conv => lhs; whnf); all_goals rfl) rfl, argE (by (conv => lhs; whnf); all_goals rfl) rfl, argE (by (conv => lhs; whnf); all_goals rfl) rfl, argE (by (conv => lhs; whnf); all_goals rfl) rfl, trivial⟩ trivial) ?_
  rintro ⟨q_4, i_1⟩ hL1
  try dsimp only at hL1
  rcases q_4 with _ | q_4
  · rw [fields_All_v2_L1.eq_1] at hL1
    cases hL1
  rw [fields_All_v2_L1.eq_2] at hL1
  show awp _ _ _ _ _ _ ⟨eL [(0, .str x_0), (1, .fn 100 []), (7, .int .i64 (x_0.size : Int)), (8, .int .i64 i_1)], hL [], 0⟩
  conv => whnf
  refine ⟨fun hb_9 => ?_, fun hb_9 => ?_⟩
  · replace hL1 := cond_t hb_9 hL1
    conv => whnf
    obtain ⟨b_2, h_b_2, hL1⟩ := bind_some hL1
    refine ixs_q h_b_2 (fun m_b_2 u_b_2 hm_b_2 hb_b_2 hz_b_2 => ?_)
    subst hz_b_2
    conv => whnf
    obtain ⟨r_3, h_r_3, hL1⟩ := bind_some hL1
    refine ⟨_, _, _, _, _, _, _, _, callX false [] [] Try.func100 (by decide) rfl (fields_Name_f1_ac ((u_b_2.toNat : Nat) : Int) r_3 h_r_3) rfl ⟨(argE (by (conv => lhs; whnf); all_goals rfl) rfl), trivial⟩ rfl trivial rfl rfl rfl lend0 trivial, ?_⟩
    conv => whnf
    refine ⟨fun hb_10 => ?_, fun hb_10 => ?_⟩
    · replace hL1 := cond_t hb_10 hL1
      conv => whnf
      obtain rfl := Option.some.inj hL1
      replace hF := fin_ret hF
      obtain rfl := Option.some.inj hF
      exact ret_gz [] [] [] rfl (argFl (by (conv => lhs; whnf); all_goals rfl)) trivial
    · replace hL1 := cond_f hb_10 hL1
      conv => whnf
      refine ⟨_, rfl, ?_⟩
      conv => whnf
      exact ⟨(q_4, (w64 (i_1 + (1 : Int)))), [], [], [], hL1, Nat.lt_succ_self _, wk_mk [] [] [] rfl ⟨argE (by (conv => lhs; whnf); all_goals rfl) rfl, argE (by (conv => lhs; whnf); all_goals rfl) rfl, argE (by (conv => lhs; whnf); all_goals rfl) rfl, argE (by (conv => lhs; whnf); all_goals rfl) rfl, trivial⟩ trivial⟩
  · replace hL1 := cond_f hb_9 hL1
    conv => whnf
    obtain rfl := Option.some.inj hL1
    replace hF := fin_brk hF
    try dsimp only at hF
    obtain rfl := Option.some.inj hF
    exact ret_gz [] [] [] rfl (argT (by (conv => lhs; whnf); all_goals rfl)) trivial

set_option maxRecDepth 100000 in
set_option maxHeartbeats 40000000 in
theorem fields_Name_ac (x_0 : ByteArray) (x_1 : Int) (r : Bool) (hF : fields_Name x_0 x_1 = some r) : AC Try.prog 87 [.str x_0, .int .i64 x_1] [] (.bool r) [] := by
  refine ac_of tab_ok follows_ok Try.func87 rfl Try.ntmps87 rfl ?_
  unfold fields_Name at hF
  conv => whnf
  refine ⟨fun hb_4 => ?_, fun hb_4 => ?_⟩
  · replace hF := cond_t hb_4 hF
    conv => whnf
    refine ⟨fun hb_5 => ?_, fun hb_5 => ?_⟩
    · replace hF := cond_t hb_5 hF
      conv => whnf
      obtain ⟨b_1, h_b_1, hF⟩ := bind_some hF
      refine ixs_q h_b_1 (fun m_b_1 u_b_1 hm_b_1 hb_b_1 hz_b_1 => ?_)
      subst hz_b_1
      conv => whnf
      obtain ⟨r_2, h_r_2, hF⟩ := bind_some hF
      refine ⟨_, _, _, _, _, _, _, _, callX false [] [] Try.func99 (by decide) rfl (fields_Letter_ac ((u_b_1.toNat : Nat) : Int) r_2 h_r_2) rfl ⟨(argE (by (conv => lhs; whnf); all_goals rfl) rfl), trivial⟩ rfl trivial rfl rfl rfl lend0 trivial, ?_⟩
      conv => whnf
      refine ⟨fun hb_6 => ?_, fun hb_6 => ?_⟩
      · replace hF := cond_t hb_6 hF
        conv => whnf
        obtain ⟨r_3, h_r_3, hF⟩ := bind_some hF
        refine ⟨_, _, _, _, _, _, _, _, callX false [] [] Try.func98 (by decide) rfl (fields_All_v2_ac x_0 r_3 h_r_3) rfl ⟨(argE (by (conv => lhs; whnf); all_goals rfl) rfl), (argE (by (conv => lhs; whnf); all_goals rfl) rfl), trivial⟩ rfl trivial rfl rfl rfl lend0 trivial, ?_⟩
        conv => whnf
        obtain rfl := Option.some.inj hF
        exact ret_gz [] [] [] rfl (argE (by (conv => lhs; whnf); all_goals rfl) rfl) trivial
      · replace hF := cond_f hb_6 hF
        conv => whnf
        obtain rfl := Option.some.inj hF
        exact ret_gz [] [] [] rfl (argFl (by (conv => lhs; whnf); all_goals rfl)) trivial
    · replace hF := cond_f hb_5 hF
      conv => whnf
      obtain rfl := Option.some.inj hF
      exact ret_gz [] [] [] rfl (argFl (by (conv => lhs; whnf); all_goals rfl)) trivial
  · replace hF := cond_f hb_4 hF
    conv => whnf
    obtain rfl := Option.some.inj hF
    exact ret_gz [] [] [] rfl (argFl (by (conv => lhs; whnf); all_goals rfl)) trivial
end Go.Proofs.Ytkliakcegihikaa.Ex
