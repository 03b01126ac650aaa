/- The functions of the program compute what was printed; walks printed by a program. -/
import Derived.Test.YtkliakcegihikaaGreatExF
import Derived.Test.YtkliakcegihikaaGreatSq
import Derived.Test.YtkliakcegihikaaGreatExP1
namespace Go.Proofs.YtkliakcegihikaaGreat.Ex
open Go.RowKit Go.Proofs.YtkliakcegihikaaGreat.Ax
set_option linter.unusedVariables false
set_option linter.unusedSimpArgs false
set_option maxRecDepth 100000
set_option maxHeartbeats 40000000
theorem ref02_Carrier_ac (x_0 : ByteArray) (r : Bool) (hF : ref02_Carrier x_0 = some r) : AC Tryz.prog 117 [.str x_0] [] (.bool r) [] := by
 refine ac_of tab_ok follows_ok Tryz.func117 rfl Tryz.ntmps117 rfl ?_
 unfold ref02_Carrier at hF
 conv=>whnf
 refine ⟨fun b8=>?_,fun b8=>?_⟩
 ·
  replace hF := ct b8 hF
  conv=>whnf
  obtain rfl := si hF
  exact ret_gz [] [] [] rfl (argFl (by (conv=>lhs;whnf)<;>rfl)) trivial
 ·
  replace hF := cf b8 hF
  conv=>whnf
  obtain ⟨b_1, hb1, hF⟩ := bs hF
  refine ixs_q hb1 (fun m_b_1 u_b_1 hm_b_1 hb_b_1 hz_b_1=>?_)
  subst hz_b_1
  conv=>whnf
  obtain ⟨r_2, hr2, hF⟩ := bs hF
  refine ⟨_,_,_,_,_,_,_,_,_,callX false [] [] 0 Tryz.func104 (by decide) rfl (ref02_Letter_ac ((u_b_1.toNat : Nat) : Int) r_2 hr2) rfl ⟨aq,trivial⟩ rfl trivial rfl rfl rfl lend0 trivial rfl, ?_⟩
  conv=>whnf
  obtain ⟨b_3, hb3, hF⟩ := bs hF
  refine ixs_q hb3 (fun m_b_3 u_b_3 hm_b_3 hb_b_3 hz_b_3=>?_)
  subst hz_b_3
  conv=>whnf
  obtain ⟨r_4, hr4, hF⟩ := bs hF
  refine ⟨_,_,_,_,_,_,_,_,_,callX false [] [] 0 Tryz.func104 (by decide) rfl (ref02_Letter_ac ((u_b_3.toNat : Nat) : Int) r_4 hr4) rfl ⟨aq,trivial⟩ rfl trivial rfl rfl rfl lend0 trivial rfl, ?_⟩
  conv=>whnf
  refine ⟨by kernel_rfl, ?_⟩
  conv=>whnf
  refine ⟨fun b9=>?_,fun b9=>?_⟩
  ·
   replace hF := cf b9 hF
   conv=>whnf
   obtain ⟨b_7, hb7, hF⟩ := bs hF
   refine ixs_q hb7 (fun m_b_7 u_b_7 hm_b_7 hb_b_7 hz_b_7=>?_)
   subst hz_b_7
   conv=>whnf
   obtain ⟨r_8, hr8, hF⟩ := bs hF
   refine ⟨_,_,_,_,_,_,_,_,_,callX false [] [] 0 Tryz.func107 (by decide) rfl (ref02_Digit_ac ((u_b_7.toNat : Nat) : Int) r_8 hr8) rfl ⟨aq,trivial⟩ rfl trivial rfl rfl rfl lend0 trivial rfl, ?_⟩
   conv=>whnf
   refine ⟨fun b12=>?_,fun b12=>?_⟩
   ·
    replace hF := ct b12 hF
    conv=>whnf
    refine ⟨fun b13=>?_,fun b13=>?_⟩
    ·
     replace hF := cf b13 hF
     conv=>whnf
     obtain ⟨b_9, hb9, hF⟩ := bs hF
     refine ixs_q hb9 (fun m_b_9 u_b_9 hm_b_9 hb_b_9 hz_b_9=>?_)
     subst hz_b_9
     conv=>whnf
     obtain ⟨r_10, hr10, hF⟩ := bs hF
     refine ⟨_,_,_,_,_,_,_,_,_,callX false [] [] 0 Tryz.func107 (by decide) rfl (ref02_Digit_ac ((u_b_9.toNat : Nat) : Int) r_10 hr10) rfl ⟨aq,trivial⟩ rfl trivial rfl rfl rfl lend0 trivial rfl, ?_⟩
     conv=>whnf
     refine ⟨fun b14=>?_,fun b14=>?_⟩
     ·
      replace hF := ct b14 hF
      conv=>whnf
      refine ⟨fun h=>?_,fun h=>?_⟩
      ·
       conv=>whnf
       obtain rfl := si hF
       exact ret_gz [] [] [] rfl aq trivial
      ·
       cases (b9).symm.trans h
     ·
      replace hF := cf b14 hF
      conv=>whnf
      obtain rfl := si hF
      exact ret_gz [] [] [] rfl (argFl (by (conv=>lhs;whnf)<;>rfl)) trivial
    ·
     replace hF := ct b13 hF
     conv=>whnf
     refine ⟨fun h=>?_,fun h=>?_⟩
     ·
      conv=>whnf
      obtain rfl := si hF
      exact ret_gz [] [] [] rfl aq trivial
     ·
      cases (b9).symm.trans h
   ·
    replace hF := cf b12 hF
    conv=>whnf
    obtain rfl := si hF
    exact ret_gz [] [] [] rfl (argFl (by (conv=>lhs;whnf)<;>rfl)) trivial
  ·
   replace hF := ct b9 hF
   conv=>whnf
   refine ⟨fun b10=>?_,fun b10=>?_⟩
   ·
    replace hF := cf b10 hF
    conv=>whnf
    obtain ⟨b_5, hb5, hF⟩ := bs hF
    refine ixs_q hb5 (fun m_b_5 u_b_5 hm_b_5 hb_b_5 hz_b_5=>?_)
    subst hz_b_5
    conv=>whnf
    obtain ⟨r_6, hr6, hF⟩ := bs hF
    refine ⟨_,_,_,_,_,_,_,_,_,callX false [] [] 0 Tryz.func107 (by decide) rfl (ref02_Digit_ac ((u_b_5.toNat : Nat) : Int) r_6 hr6) rfl ⟨aq,trivial⟩ rfl trivial rfl rfl rfl lend0 trivial rfl, ?_⟩
    conv=>whnf
    refine ⟨fun b11=>?_,fun b11=>?_⟩
    ·
     replace hF := ct b11 hF
     conv=>whnf
     refine ⟨fun h=>?_,fun h=>?_⟩
     ·
      cases (b9).symm.trans h
     ·
      conv=>whnf
      obtain rfl := si hF
      exact ret_gz [] [] [] rfl (argT (by (conv=>lhs;whnf)<;>rfl)) trivial
    ·
     replace hF := cf b11 hF
     conv=>whnf
     obtain rfl := si hF
     exact ret_gz [] [] [] rfl (argFl (by (conv=>lhs;whnf)<;>rfl)) trivial
   ·
    replace hF := ct b10 hF
    conv=>whnf
    refine ⟨fun h=>?_,fun h=>?_⟩
    ·
     cases (b9).symm.trans h
    ·
     conv=>whnf
     obtain rfl := si hF
     exact ret_gz [] [] [] rfl (argT (by (conv=>lhs;whnf)<;>rfl)) trivial

theorem ref02_Suffix_ac (x_0 : ByteArray) (r : Bool) (hF : ref02_Suffix x_0 = some r) : AC Tryz.prog 118 [.str x_0] [] (.bool r) [] := by
 refine ac_of tab_ok follows_ok Tryz.func118 rfl Tryz.ntmps118 rfl ?_
 unfold ref02_Suffix at hF
 conv=>whnf
 refine ⟨fun b3=>?_,fun b3=>?_⟩
 ·
  replace hF := cf b3 hF
  conv=>whnf
  refine ⟨fun b4=>?_,fun b4=>?_⟩
  ·
   replace hF := ct b4 hF
   conv=>whnf
   obtain ⟨b_1, hb1, hF⟩ := bs hF
   refine ixs_q hb1 (fun m_b_1 u_b_1 hm_b_1 hb_b_1 hz_b_1=>?_)
   subst hz_b_1
   conv=>whnf
   obtain ⟨r_2, hr2, hF⟩ := bs hF
   refine ⟨_,_,_,_,_,_,_,_,_,callX false [] [] 0 Tryz.func104 (by decide) rfl (ref02_Letter_ac ((u_b_1.toNat : Nat) : Int) r_2 hr2) rfl ⟨aq,trivial⟩ rfl trivial rfl rfl rfl lend0 trivial rfl, ?_⟩
   conv=>whnf
   obtain rfl := si hF
   exact ret_gz [] [] [] rfl aq trivial
  ·
   replace hF := cf b4 hF
   conv=>whnf
   obtain rfl := si hF
   exact ret_gz [] [] [] rfl (argFl (by (conv=>lhs;whnf)<;>rfl)) trivial
 ·
  replace hF := ct b3 hF
  conv=>whnf
  obtain rfl := si hF
  exact ret_gz [] [] [] rfl (argT (by (conv=>lhs;whnf)<;>rfl)) trivial

theorem ref02_Valid_ac (x_0 : Flight) (r : Bool) (hF : ref02_Valid x_0 = some r) : AC Tryz.prog 105 [.agg (encFlight x_0)] [] (.bool r) [] := by
 refine ac_of tab_ok follows_ok Tryz.func105 rfl Tryz.ntmps105 rfl ?_
 unfold ref02_Valid at hF
 conv=>whnf
 obtain ⟨r_1, hr1, hF⟩ := bs hF
 refine ⟨_,_,_,_,_,_,_,_,_,callX false [] [] 0 Tryz.func117 (by decide) rfl (ref02_Carrier_ac x_0.Carrier r_1 hr1) rfl ⟨aq,trivial⟩ rfl trivial rfl rfl rfl lend0 trivial rfl, ?_⟩
 conv=>whnf
 refine ⟨fun b6=>?_,fun b6=>?_⟩
 ·
  replace hF := ct b6 hF
  conv=>whnf
  refine ⟨fun b7=>?_,fun b7=>?_⟩
  ·
   replace hF := ct b7 hF
   conv=>whnf
   refine ⟨fun b8=>?_,fun b8=>?_⟩
   ·
    replace hF := ct b8 hF
    conv=>whnf
    obtain ⟨r_2, hr2, hF⟩ := bs hF
    refine ⟨_,_,_,_,_,_,_,_,_,callX false [] [] 0 Tryz.func118 (by decide) rfl (ref02_Suffix_ac x_0.Suffix r_2 hr2) rfl ⟨aq,trivial⟩ rfl trivial rfl rfl rfl lend0 trivial rfl, ?_⟩
    conv=>whnf
    refine ⟨fun b9=>?_,fun b9=>?_⟩
    ·
     replace hF := ct b9 hF
     conv=>whnf
     refine ⟨fun b10=>?_,fun b10=>?_⟩
     ·
      replace hF := ct b10 hF
      conv=>whnf
      obtain rfl := si hF
      exact ret_gz [] [] [] rfl aq trivial
     ·
      replace hF := cf b10 hF
      conv=>whnf
      obtain rfl := si hF
      exact ret_gz [] [] [] rfl (argFl (by (conv=>lhs;whnf)<;>rfl)) trivial
    ·
     replace hF := cf b9 hF
     conv=>whnf
     obtain rfl := si hF
     exact ret_gz [] [] [] rfl (argFl (by (conv=>lhs;whnf)<;>rfl)) trivial
   ·
    replace hF := cf b8 hF
    conv=>whnf
    obtain rfl := si hF
    exact ret_gz [] [] [] rfl (argFl (by (conv=>lhs;whnf)<;>rfl)) trivial
  ·
   replace hF := cf b7 hF
   conv=>whnf
   obtain rfl := si hF
   exact ret_gz [] [] [] rfl (argFl (by (conv=>lhs;whnf)<;>rfl)) trivial
 ·
  replace hF := cf b6 hF
  conv=>whnf
  obtain rfl := si hF
  exact ret_gz [] [] [] rfl (argFl (by (conv=>lhs;whnf)<;>rfl)) trivial

theorem ref02_ValidClass_ac (x_0 : ByteArray) (r : Bool) (hF : ref02_ValidClass x_0 = some r) : AC Tryz.prog 106 [.str x_0] [] (.bool r) [] := by
 refine ac_of tab_ok follows_ok Tryz.func106 rfl Tryz.ntmps106 rfl ?_
 unfold ref02_ValidClass at hF
 conv=>whnf
 refine ⟨fun b3=>?_,fun b3=>?_⟩
 ·
  replace hF := cf b3 hF
  conv=>whnf
  refine ⟨fun b4=>?_,fun b4=>?_⟩
  ·
   replace hF := cf b4 hF
   conv=>whnf
   obtain rfl := si hF
   exact ret_gz [] [] [] rfl aq trivial
  ·
   replace hF := ct b4 hF
   conv=>whnf
   obtain rfl := si hF
   exact ret_gz [] [] [] rfl (argT (by (conv=>lhs;whnf)<;>rfl)) trivial
 ·
  replace hF := ct b3 hF
  conv=>whnf
  obtain rfl := si hF
  exact ret_gz [] [] [] rfl (argT (by (conv=>lhs;whnf)<;>rfl)) trivial

theorem ref02_ValidLeg_ac (x_0 : Leg) (r : Bool) (hF : ref02_ValidLeg x_0 = some r) : AC Tryz.prog 90 [.agg (encLeg x_0)] [] (.bool r) [] := by
 refine ac_of tab_ok follows_ok Tryz.func90 rfl Tryz.ntmps90 rfl ?_
 unfold ref02_ValidLeg at hF
 conv=>whnf
 obtain ⟨r_1, hr1, hF⟩ := bs hF
 refine ⟨_,_,_,_,_,_,_,_,_,callX false [] [] 0 Tryz.func105 (by decide) rfl (ref02_Valid_ac x_0.Flight r_1 hr1) rfl ⟨aq,trivial⟩ rfl trivial rfl rfl rfl lend0 trivial rfl, ?_⟩
 conv=>whnf
 refine ⟨fun b3=>?_,fun b3=>?_⟩
 ·
  replace hF := ct b3 hF
  conv=>whnf
  obtain ⟨r_2, hr2, hF⟩ := bs hF
  refine ⟨_,_,_,_,_,_,_,_,_,callX false [] [] 0 Tryz.func89 (by decide) rfl (ref02_ValidPort_ac x_0.Port r_2 hr2) rfl ⟨aq,trivial⟩ rfl trivial rfl rfl rfl lend0 trivial rfl, ?_⟩
  conv=>whnf
  refine ⟨fun b4=>?_,fun b4=>?_⟩
  ·
   replace hF := ct b4 hF
   conv=>whnf
   obtain ⟨r_3, hr3, hF⟩ := bs hF
   refine ⟨_,_,_,_,_,_,_,_,_,callX false [] [] 0 Tryz.func106 (by decide) rfl (ref02_ValidClass_ac x_0.Class r_3 hr3) rfl ⟨aq,trivial⟩ rfl trivial rfl rfl rfl lend0 trivial rfl, ?_⟩
   conv=>whnf
   obtain rfl := si hF
   exact ret_gz [] [] [] rfl aq trivial
  ·
   replace hF := cf b4 hF
   conv=>whnf
   obtain rfl := si hF
   exact ret_gz [] [] [] rfl (argFl (by (conv=>lhs;whnf)<;>rfl)) trivial
 ·
  replace hF := cf b3 hF
  conv=>whnf
  obtain rfl := si hF
  exact ret_gz [] [] [] rfl (argFl (by (conv=>lhs;whnf)<;>rfl)) trivial

theorem ref04_letters_ac (x_0 : ByteArray) (x_1 : Int) (r : Bool) (hF : ref04_letters x_0 x_1 = some r) : AC Tryz.prog 92 [.str x_0, .int .i64 x_1] [] (.bool r) [] := by
 refine ac_of tab_ok follows_ok Tryz.func92 rfl Tryz.ntmps92 rfl ?_
 unfold ref04_letters at hF
 conv=>whnf
 obtain ⟨c_1, hc_1, hF⟩ := fin_some hF
 refine sw_loop tab_ok follows_ok (fun y : Nat × Int => ref04_letters_L1 x_0 y.1 y.2 = some c_1) (fun y => ⟨eL [(0, .str x_0), (1, .int .i64 x_1), (5, .int .i64 y.2)], hL [], 0⟩) (fun y => y.1) (9223372036854775808, (0 : Int)) hc_1 (wk_mk [] [] [] rfl ⟨aq, aq, aq,trivial⟩ trivial) ?_
 rintro ⟨q_4, i_1⟩ hL1
 try dsimp only at hL1
 rcases q_4 with _ | q_4
 ·
  rw [ref04_letters_L1.eq_1] at hL1
  cases hL1
 rw [ref04_letters_L1.eq_2] at hL1
 show awp _ _ _ _ _ _ ⟨eL [(0, .str x_0), (1, .int .i64 x_1), (5, .int .i64 i_1)], hL [], 0⟩
 conv=>whnf
 refine ⟨fun b10=>?_,fun b10=>?_⟩
 ·
  replace hL1 := ct b10 hL1
  conv=>whnf
  obtain ⟨b_2, hb2, hL1⟩ := bs hL1
  refine ixs_q hb2 (fun m_b_2 u_b_2 hm_b_2 hb_b_2 hz_b_2=>?_)
  subst hz_b_2
  conv=>whnf
  obtain ⟨r_3, hr3, hL1⟩ := bs hL1
  refine ⟨_,_,_,_,_,_,_,_,_,callX false [] [] 0 Tryz.func104 (by decide) rfl (ref02_Letter_ac ((u_b_2.toNat : Nat) : Int) r_3 hr3) rfl ⟨aq,trivial⟩ rfl trivial rfl rfl rfl lend0 trivial rfl, ?_⟩
  conv=>whnf
  refine ⟨fun b11=>?_,fun b11=>?_⟩
  ·
   replace hL1 := ct b11 hL1
   conv=>whnf
   obtain rfl := si hL1
   replace hF := fin_ret hF
   obtain rfl := si hF
   exact ret_gz [] [] [] rfl (argFl (by (conv=>lhs;whnf)<;>rfl)) trivial
  ·
   replace hL1 := cf b11 hL1
   conv=>whnf
   refine ⟨_, rfl, ?_⟩
   conv=>whnf
   exact ⟨(q_4, (w64 (i_1 + (1 : Int)))), [], [], [], hL1, Nat.lt_succ_self _, wk_mk [] [] [] rfl ⟨aq, aq, aq,trivial⟩ trivial⟩
 ·
  replace hL1 := cf b10 hL1
  conv=>whnf
  obtain rfl := si hL1
  replace hF := fin_brk hF
  try dsimp only at hF
  refine ⟨fun b12=>?_,fun b12=>?_⟩
  ·
   replace hF := ct b12 hF
   conv=>whnf
   obtain rfl := si hF
   exact ret_gz [] [] [] rfl aq trivial
  ·
   replace hF := cf b12 hF
   conv=>whnf
   obtain rfl := si hF
   exact ret_gz [] [] [] rfl (argFl (by (conv=>lhs;whnf)<;>rfl)) trivial

theorem ref04_Name_ac (x_0 : ByteArray) (r : Bool) (hF : ref04_Name x_0 = some r) : AC Tryz.prog 91 [.str x_0] [] (.bool r) [] := by
 refine ac_of tab_ok follows_ok Tryz.func91 rfl Tryz.ntmps91 rfl ?_
 unfold ref04_Name at hF
 conv=>whnf
 refine ⟨fun b16=>?_,fun b16=>?_⟩
 ·
  replace hF := cf b16 hF
  conv=>whnf
  refine ⟨fun b17=>?_,fun b17=>?_⟩
  ·
   replace hF := cf b17 hF
   conv=>whnf
   obtain ⟨b_1, hb1, hF⟩ := bs hF
   refine ixs_q hb1 (fun m_b_1 u_b_1 hm_b_1 hb_b_1 hz_b_1=>?_)
   subst hz_b_1
   conv=>whnf
   obtain ⟨r_2, hr2, hF⟩ := bs hF
   refine ⟨_,_,_,_,_,_,_,_,_,callX false [] [] 0 Tryz.func104 (by decide) rfl (ref02_Letter_ac ((u_b_1.toNat : Nat) : Int) r_2 hr2) rfl ⟨aq,trivial⟩ rfl trivial rfl rfl rfl lend0 trivial rfl, ?_⟩
   conv=>whnf
   refine ⟨fun b18=>?_,fun b18=>?_⟩
   ·
    replace hF := ct b18 hF
    conv=>whnf
    obtain rfl := si hF
    exact ret_gz [] [] [] rfl (argFl (by (conv=>lhs;whnf)<;>rfl)) trivial
   ·
    replace hF := cf b18 hF
    conv=>whnf
    obtain ⟨c_1, hc_1, hF⟩ := fin_some hF
    refine sw_loop tab_ok follows_ok (fun y : Nat × Int => ref04_Name_L1 x_0 y.1 y.2 = some c_1) (fun y => ⟨eL [(0, .str x_0), (3, .int .i64 y.2)], hL [], 0⟩) (fun y => y.1) (9223372036854775807, (0 : Int)) hc_1 (wk_mk [] [] [] rfl ⟨aq, aq,trivial⟩ trivial) ?_
    rintro ⟨q_8, i_3⟩ hL1
    try dsimp only at hL1
    rcases q_8 with _ | q_8
    ·
     rw [ref04_Name_L1.eq_1] at hL1
     cases hL1
    rw [ref04_Name_L1.eq_2] at hL1
    show awp _ _ _ _ _ _ ⟨eL [(0, .str x_0), (3, .int .i64 i_3)], hL [], 0⟩
    conv=>whnf
    refine ⟨fun b19=>?_,fun b19=>?_⟩
    ·
     replace hL1 := ct b19 hL1
     conv=>whnf
     obtain ⟨b_4, hb4, hL1⟩ := bs hL1
     refine ixs_q hb4 (fun m_b_4 u_b_4 hm_b_4 hb_b_4 hz_b_4=>?_)
     subst hz_b_4
     conv=>whnf
     obtain ⟨r_5, hr5, hL1⟩ := bs hL1
     refine ⟨_,_,_,_,_,_,_,_,_,callX false [] [] 0 Tryz.func104 (by decide) rfl (ref02_Letter_ac ((u_b_4.toNat : Nat) : Int) r_5 hr5) rfl ⟨aq,trivial⟩ rfl trivial rfl rfl rfl lend0 trivial rfl, ?_⟩
     conv=>whnf
     refine ⟨fun b20=>?_,fun b20=>?_⟩
     ·
      replace hL1 := ct b20 hL1
      conv=>whnf
      obtain ⟨b_6, hb6, hL1⟩ := bs hL1
      refine ixs_q hb6 (fun m_b_6 u_b_6 hm_b_6 hb_b_6 hz_b_6=>?_)
      subst hz_b_6
      conv=>whnf
      obtain ⟨r_7, hr7, hL1⟩ := bs hL1
      refine ⟨_,_,_,_,_,_,_,_,_,callX false [] [] 0 Tryz.func107 (by decide) rfl (ref02_Digit_ac ((u_b_6.toNat : Nat) : Int) r_7 hr7) rfl ⟨aq,trivial⟩ rfl trivial rfl rfl rfl lend0 trivial rfl, ?_⟩
      conv=>whnf
      refine ⟨fun b21=>?_,fun b21=>?_⟩
      ·
       replace hL1 := ct b21 hL1
       conv=>whnf
       obtain rfl := si hL1
       replace hF := fin_ret hF
       obtain rfl := si hF
       exact ret_gz [] [] [] rfl (argFl (by (conv=>lhs;whnf)<;>rfl)) trivial
      ·
       replace hL1 := cf b21 hL1
       conv=>whnf
       refine ⟨_, rfl, ?_⟩
       conv=>whnf
       exact ⟨(q_8, (w64 (i_3 + (1 : Int)))), [], [], [], hL1, Nat.lt_succ_self _, wk_mk [] [] [] rfl ⟨aq, aq,trivial⟩ trivial⟩
     ·
      replace hL1 := cf b20 hL1
      conv=>whnf
      refine ⟨_, rfl, ?_⟩
      conv=>whnf
      exact ⟨(q_8, (w64 (i_3 + (1 : Int)))), [], [], [], hL1, Nat.lt_succ_self _, wk_mk [] [] [] rfl ⟨aq, aq,trivial⟩ trivial⟩
    ·
     replace hL1 := cf b19 hL1
     conv=>whnf
     obtain rfl := si hL1
     replace hF := fin_brk hF
     try dsimp only at hF
     obtain rfl := si hF
     exact ret_gz [] [] [] rfl (argT (by (conv=>lhs;whnf)<;>rfl)) trivial
  ·
   replace hF := ct b17 hF
   conv=>whnf
   obtain rfl := si hF
   exact ret_gz [] [] [] rfl (argFl (by (conv=>lhs;whnf)<;>rfl)) trivial
 ·
  replace hF := ct b16 hF
  conv=>whnf
  obtain rfl := si hF
  exact ret_gz [] [] [] rfl (argFl (by (conv=>lhs;whnf)<;>rfl)) trivial

theorem ref04_spelled_ac (x_0 : Message) (r : Bool) (hF : ref04_spelled x_0 = some r) : AC Tryz.prog 58 [.agg (encMessage x_0)] [] (.bool r) [] := by
 refine ac_of tab_ok follows_ok Tryz.func58 rfl Tryz.ntmps58 rfl ?_
 unfold ref04_spelled at hF
 conv=>whnf
 obtain ⟨r_1, hr1, hF⟩ := bs hF
 refine ⟨_,_,_,_,_,_,_,_,_,callX false [] [] 0 Tryz.func89 (by decide) rfl (ref02_ValidPort_ac x_0.Port r_1 hr1) rfl ⟨aq,trivial⟩ rfl trivial rfl rfl rfl lend0 trivial rfl, ?_⟩
 conv=>whnf
 refine ⟨fun b60=>?_,fun b60=>?_⟩
 ·
  replace hF := cf b60 hF
  conv=>whnf
  refine ⟨fun b61=>?_,fun b61=>?_⟩
  ·
   replace hF := ct b61 hF
   conv=>whnf
   obtain ⟨r_2, hr2, hF⟩ := bs hF
   refine ⟨_,_,_,_,_,_,_,_,_,callX false [] [] 0 Tryz.func90 (by decide) rfl (ref02_ValidLeg_ac x_0.Out r_2 hr2) rfl ⟨aq,trivial⟩ rfl trivial rfl rfl rfl lend0 trivial rfl, ?_⟩
   conv=>whnf
   refine ⟨fun b62=>?_,fun b62=>?_⟩
   ·
    replace hF := cf b62 hF
    conv=>whnf
    refine ⟨fun b63=>?_,fun b63=>?_⟩
    ·
     replace hF := ct b63 hF
     conv=>whnf
     obtain ⟨r_3, hr3, hF⟩ := bs hF
     refine ⟨_,_,_,_,_,_,_,_,_,callX false [] [] 0 Tryz.func90 (by decide) rfl (ref02_ValidLeg_ac x_0.In r_3 hr3) rfl ⟨aq,trivial⟩ rfl trivial rfl rfl rfl lend0 trivial rfl, ?_⟩
     conv=>whnf
     refine ⟨fun b64=>?_,fun b64=>?_⟩
     ·
      replace hF := cf b64 hF
      conv=>whnf
      refine ⟨fun h=>?_,fun h=>?_⟩
      ·
       cases (beq_ne (c := (3 : Int)) b63 rfl).symm.trans h
      ·
       conv=>whnf
       obtain ⟨c_1, hc_1, hF⟩ := fin_some hF
       refine sw_bv 0 (v := .agg [.int .i64 x_0.Kind, .int .i64 x_0.Do, .str x_0.Port, .int .i64 x_0.Number, .str x_0.In.Flight.Carrier, .int .i64 x_0.In.Flight.Number, .str x_0.In.Flight.Suffix, .int .i64 x_0.In.Flight.Day, .str x_0.In.Port, .str x_0.In.Class, .str x_0.Out.Flight.Carrier, .int .i64 x_0.Out.Flight.Number, .str x_0.Out.Flight.Suffix, .int .i64 x_0.Out.Flight.Day, .str x_0.Out.Port, .str x_0.Out.Class, .lst 6 (x_0.Onward.map encLeg), .int .i64 x_0.First.Lead, .int .i64 x_0.First.Airline, .int .i64 x_0.First.Serial, .int .i64 x_0.Count, .bool x_0.Load, .int .i64 x_0.Status, .int .i64 x_0.Sequence, .int .i64 x_0.Weight, .str x_0.Surname, .str x_0.Given, .int .i64 x_0.Exception, .str x_0.Node, .lst 1 (x_0.List.map iA)]) (by (conv=>lhs;whnf)<;>rfl) (fun hb=>?_)
       have hbd_k_5 : x_0.Onward.length ≤ 9223372036854775807 := bnd_len (enc := encLeg) ((bnd_at hb.cell 16 rfl))
       refine sw_loop tab_ok follows_ok (fun y : Nat => y ≤ x_0.Onward.length ∧ ref04_spelled_L1 (x_0.Onward.drop y) y = some c_1) (fun y => ⟨eL [(1, .ptr 0 0), (3, .int .i64 (y : Int))], hL [(0, .box [.int .i64 x_0.Kind, .int .i64 x_0.Do, .str x_0.Port, .int .i64 x_0.Number, .str x_0.In.Flight.Carrier, .int .i64 x_0.In.Flight.Number, .str x_0.In.Flight.Suffix, .int .i64 x_0.In.Flight.Day, .str x_0.In.Port, .str x_0.In.Class, .str x_0.Out.Flight.Carrier, .int .i64 x_0.Out.Flight.Number, .str x_0.Out.Flight.Suffix, .int .i64 x_0.Out.Flight.Day, .str x_0.Out.Port, .str x_0.Out.Class, .lst 6 (x_0.Onward.map encLeg), .int .i64 x_0.First.Lead, .int .i64 x_0.First.Airline, .int .i64 x_0.First.Serial, .int .i64 x_0.Count, .bool x_0.Load, .int .i64 x_0.Status, .int .i64 x_0.Sequence, .int .i64 x_0.Weight, .str x_0.Surname, .str x_0.Given, .int .i64 x_0.Exception, .str x_0.Node, .lst 1 (x_0.List.map iA)])], 1⟩) (fun y => x_0.Onward.length - y) 0 ⟨Nat.zero_le _, hc_1⟩ (wk_mk [0] [] [] rfl ⟨argP (id := 0) (by (conv=>lhs;whnf)<;>rfl) rfl, aq,trivial⟩ ⟨boxL rfl rfl rfl ⟨(.ni _ rfl), (.ni _ rfl), (.ni _ rfl), (.ni _ rfl), (.ni _ rfl), (.ni _ rfl), (.ni _ rfl), (.ni _ rfl), (.ni _ rfl), (.ni _ rfl), (.ni _ rfl), (.ni _ rfl), (.ni _ rfl), (.ni _ rfl), (.ni _ rfl), (.ni _ rfl), (.ni _ rfl), (.ni _ rfl), (.ni _ rfl), (.ni _ rfl), (.ni _ rfl), (.ni _ rfl), (.ni _ rfl), (.ni _ rfl), (.ni _ rfl), (.ni _ rfl), (.ni _ rfl), (.ni _ rfl), (.ni _ rfl), (.ni _ rfl),trivial⟩,trivial⟩) ?_
       rintro k_5 ⟨hk_k_5, hL1⟩
       try dsimp only at hk_k_5 hL1
       show awp _ _ _ _ _ _ ⟨eL [(1, .ptr 0 0), (3, .int .i64 (k_5 : Int))], hL [(0, .box [.int .i64 x_0.Kind, .int .i64 x_0.Do, .str x_0.Port, .int .i64 x_0.Number, .str x_0.In.Flight.Carrier, .int .i64 x_0.In.Flight.Number, .str x_0.In.Flight.Suffix, .int .i64 x_0.In.Flight.Day, .str x_0.In.Port, .str x_0.In.Class, .str x_0.Out.Flight.Carrier, .int .i64 x_0.Out.Flight.Number, .str x_0.Out.Flight.Suffix, .int .i64 x_0.Out.Flight.Day, .str x_0.Out.Port, .str x_0.Out.Class, .lst 6 (x_0.Onward.map encLeg), .int .i64 x_0.First.Lead, .int .i64 x_0.First.Airline, .int .i64 x_0.First.Serial, .int .i64 x_0.Count, .bool x_0.Load, .int .i64 x_0.Status, .int .i64 x_0.Sequence, .int .i64 x_0.Weight, .str x_0.Surname, .str x_0.Given, .int .i64 x_0.Exception, .str x_0.Node, .lst 1 (x_0.List.map iA)])], 1⟩
       conv=>whnf
       refine len_q (enc := encLeg) (l := x_0.Onward) rfl ?_
       conv=>whnf
       refine ⟨fun h=>?_,fun h=>?_⟩
       ·
        have lk5 : k_5 < x_0.Onward.length := by have h := of_decide_eq_true h; omega
        obtain ⟨e_6, he6⟩ : ∃ y, x_0.Onward[k_5]? = some y := ⟨_, List.getElem?_eq_getElem lk5⟩
        rw [drop_cons he6, ref04_spelled_L1.eq_2] at hL1
        conv=>whnf
        refine ⟨k_5, _, rfl, ix_map he6, ?_⟩
        conv=>whnf
        obtain ⟨r_7, hr7, hL1⟩ := bs hL1
        refine ⟨_,_,_,_,_,_,_,_,_,callX false [] [] 0 Tryz.func90 (by decide) rfl (ref02_ValidLeg_ac e_6 r_7 hr7) rfl ⟨aq,trivial⟩ rfl trivial rfl rfl rfl lend0 trivial rfl, ?_⟩
        conv=>whnf
        refine ⟨fun b65=>?_,fun b65=>?_⟩
        ·
         replace hL1 := ct b65 hL1
         conv=>whnf
         obtain rfl := si hL1
         replace hF := fin_ret hF
         obtain rfl := si hF
         exact ret_gz [] [] [] rfl (argFl (by (conv=>lhs;whnf)<;>rfl)) trivial
        ·
         replace hL1 := cf b65 hL1
         conv=>whnf
         refine ⟨((k_5 + 1 : Nat) : Int), wrapE (by omega) (by omega) (by omega), ?_⟩
         conv=>whnf
         exact ⟨k_5 + 1, [0], [], [], ⟨lk5, hL1⟩, by show x_0.Onward.length - (k_5 + 1) < x_0.Onward.length - k_5; omega, wk_mk [0] [] [] rfl ⟨argP (id := 0) (by (conv=>lhs;whnf)<;>rfl) rfl, aq,trivial⟩ ⟨boxL rfl rfl rfl ⟨(.ni _ rfl), (.ni _ rfl), (.ni _ rfl), (.ni _ rfl), (.ni _ rfl), (.ni _ rfl), (.ni _ rfl), (.ni _ rfl), (.ni _ rfl), (.ni _ rfl), (.ni _ rfl), (.ni _ rfl), (.ni _ rfl), (.ni _ rfl), (.ni _ rfl), (.ni _ rfl), (.ni _ rfl), (.ni _ rfl), (.ni _ rfl), (.ni _ rfl), (.ni _ rfl), (.ni _ rfl), (.ni _ rfl), (.ni _ rfl), (.ni _ rfl), (.ni _ rfl), (.ni _ rfl), (.ni _ rfl), (.ni _ rfl), (.ni _ rfl),trivial⟩,trivial⟩⟩
       ·
        rw [drop_nil (show x_0.Onward.length ≤ k_5 by have h := of_decide_eq_false h; omega), ref04_spelled_L1.eq_1] at hL1
        conv=>whnf
        obtain rfl := si hL1
        replace hF := fin_brk hF
        try dsimp only at hF
        obtain ⟨r_10, hr10, hF⟩ := bs hF
        refine ⟨_,_,_,_,_,_,_,_,_,callX false [] [] 0 Tryz.func25 (by decide) rfl (ref04_Bag_ac x_0.Kind r_10 hr10) rfl ⟨aq,trivial⟩ rfl trivial rfl rfl rfl lend0 trivial rfl, ?_⟩
        conv=>whnf
        refine ⟨fun b66=>?_,fun b66=>?_⟩
        ·
         replace hF := cf b66 hF
         conv=>whnf
         obtain ⟨r_11, hr11, hF⟩ := bs hF
         refine ⟨_,_,_,_,_,_,_,_,_,callX false [] [] 0 Tryz.func92 (by decide) rfl (ref04_letters_ac x_0.Surname (1 : Int) r_11 hr11) rfl ⟨aq, aq,trivial⟩ rfl trivial rfl rfl rfl lend0 trivial rfl, ?_⟩
         conv=>whnf
         refine ⟨fun b67=>?_,fun b67=>?_⟩
         ·
          replace hF := ct b67 hF
          conv=>whnf
          obtain ⟨r_12, hr12, hF⟩ := bs hF
          refine ⟨_,_,_,_,_,_,_,_,_,callX false [] [] 0 Tryz.func92 (by decide) rfl (ref04_letters_ac x_0.Given (0 : Int) r_12 hr12) rfl ⟨aq, aq,trivial⟩ rfl trivial rfl rfl rfl lend0 trivial rfl, ?_⟩
          conv=>whnf
          obtain rfl := si hF
          exact ret_gz [] [] [] rfl aq trivial
         ·
          replace hF := cf b67 hF
          conv=>whnf
          obtain rfl := si hF
          exact ret_gz [] [] [] rfl (argFl (by (conv=>lhs;whnf)<;>rfl)) trivial
        ·
         replace hF := ct b66 hF
         conv=>whnf
         obtain rfl := si hF
         exact ret_gz [] [] [] rfl (argT (by (conv=>lhs;whnf)<;>rfl)) trivial
     ·
      replace hF := ct b64 hF
      conv=>whnf
      obtain rfl := si hF
      exact ret_gz [] [] [] rfl (argFl (by (conv=>lhs;whnf)<;>rfl)) trivial
    ·
     replace hF := cf b63 hF
     conv=>whnf
     refine ⟨fun b68=>?_,fun b68=>?_⟩
     ·
      replace hF := ct b68 hF
      conv=>whnf
      obtain ⟨r_13, hr13, hF⟩ := bs hF
      refine ⟨_,_,_,_,_,_,_,_,_,callX false [] [] 0 Tryz.func91 (by decide) rfl (ref04_Name_ac x_0.Node r_13 hr13) rfl ⟨aq,trivial⟩ rfl trivial rfl rfl rfl lend0 trivial rfl, ?_⟩
      conv=>whnf
      refine ⟨fun b69=>?_,fun b69=>?_⟩
      ·
       replace hF := ct b69 hF
       conv=>whnf
       obtain rfl := si hF
       exact ret_gz [] [] [] rfl (argFl (by (conv=>lhs;whnf)<;>rfl)) trivial
      ·
       replace hF := cf b69 hF
       conv=>whnf
       obtain ⟨c_1, hc_1, hF⟩ := fin_some hF
       refine sw_bv 0 (v := .agg [.int .i64 x_0.Kind, .int .i64 x_0.Do, .str x_0.Port, .int .i64 x_0.Number, .str x_0.In.Flight.Carrier, .int .i64 x_0.In.Flight.Number, .str x_0.In.Flight.Suffix, .int .i64 x_0.In.Flight.Day, .str x_0.In.Port, .str x_0.In.Class, .str x_0.Out.Flight.Carrier, .int .i64 x_0.Out.Flight.Number, .str x_0.Out.Flight.Suffix, .int .i64 x_0.Out.Flight.Day, .str x_0.Out.Port, .str x_0.Out.Class, .lst 6 (x_0.Onward.map encLeg), .int .i64 x_0.First.Lead, .int .i64 x_0.First.Airline, .int .i64 x_0.First.Serial, .int .i64 x_0.Count, .bool x_0.Load, .int .i64 x_0.Status, .int .i64 x_0.Sequence, .int .i64 x_0.Weight, .str x_0.Surname, .str x_0.Given, .int .i64 x_0.Exception, .str x_0.Node, .lst 1 (x_0.List.map iA)]) (by (conv=>lhs;whnf)<;>rfl) (fun hb=>?_)
       have hbd_k_15 : x_0.Onward.length ≤ 9223372036854775807 := bnd_len (enc := encLeg) ((bnd_at hb.cell 16 rfl))
       refine sw_loop tab_ok follows_ok (fun y : Nat => y ≤ x_0.Onward.length ∧ ref04_spelled_L1 (x_0.Onward.drop y) y = some c_1) (fun y => ⟨eL [(1, .ptr 0 0), (3, .int .i64 (y : Int))], hL [(0, .box [.int .i64 x_0.Kind, .int .i64 x_0.Do, .str x_0.Port, .int .i64 x_0.Number, .str x_0.In.Flight.Carrier, .int .i64 x_0.In.Flight.Number, .str x_0.In.Flight.Suffix, .int .i64 x_0.In.Flight.Day, .str x_0.In.Port, .str x_0.In.Class, .str x_0.Out.Flight.Carrier, .int .i64 x_0.Out.Flight.Number, .str x_0.Out.Flight.Suffix, .int .i64 x_0.Out.Flight.Day, .str x_0.Out.Port, .str x_0.Out.Class, .lst 6 (x_0.Onward.map encLeg), .int .i64 x_0.First.Lead, .int .i64 x_0.First.Airline, .int .i64 x_0.First.Serial, .int .i64 x_0.Count, .bool x_0.Load, .int .i64 x_0.Status, .int .i64 x_0.Sequence, .int .i64 x_0.Weight, .str x_0.Surname, .str x_0.Given, .int .i64 x_0.Exception, .str x_0.Node, .lst 1 (x_0.List.map iA)])], 1⟩) (fun y => x_0.Onward.length - y) 0 ⟨Nat.zero_le _, hc_1⟩ (wk_mk [0] [] [] rfl ⟨argP (id := 0) (by (conv=>lhs;whnf)<;>rfl) rfl, aq,trivial⟩ ⟨boxL rfl rfl rfl ⟨(.ni _ rfl), (.ni _ rfl), (.ni _ rfl), (.ni _ rfl), (.ni _ rfl), (.ni _ rfl), (.ni _ rfl), (.ni _ rfl), (.ni _ rfl), (.ni _ rfl), (.ni _ rfl), (.ni _ rfl), (.ni _ rfl), (.ni _ rfl), (.ni _ rfl), (.ni _ rfl), (.ni _ rfl), (.ni _ rfl), (.ni _ rfl), (.ni _ rfl), (.ni _ rfl), (.ni _ rfl), (.ni _ rfl), (.ni _ rfl), (.ni _ rfl), (.ni _ rfl), (.ni _ rfl), (.ni _ rfl), (.ni _ rfl), (.ni _ rfl),trivial⟩,trivial⟩) ?_
       rintro k_15 ⟨hk_k_15, hL1⟩
       try dsimp only at hk_k_15 hL1
       show awp _ _ _ _ _ _ ⟨eL [(1, .ptr 0 0), (3, .int .i64 (k_15 : Int))], hL [(0, .box [.int .i64 x_0.Kind, .int .i64 x_0.Do, .str x_0.Port, .int .i64 x_0.Number, .str x_0.In.Flight.Carrier, .int .i64 x_0.In.Flight.Number, .str x_0.In.Flight.Suffix, .int .i64 x_0.In.Flight.Day, .str x_0.In.Port, .str x_0.In.Class, .str x_0.Out.Flight.Carrier, .int .i64 x_0.Out.Flight.Number, .str x_0.Out.Flight.Suffix, .int .i64 x_0.Out.Flight.Day, .str x_0.Out.Port, .str x_0.Out.Class, .lst 6 (x_0.Onward.map encLeg), .int .i64 x_0.First.Lead, .int .i64 x_0.First.Airline, .int .i64 x_0.First.Serial, .int .i64 x_0.Count, .bool x_0.Load, .int .i64 x_0.Status, .int .i64 x_0.Sequence, .int .i64 x_0.Weight, .str x_0.Surname, .str x_0.Given, .int .i64 x_0.Exception, .str x_0.Node, .lst 1 (x_0.List.map iA)])], 1⟩
       conv=>whnf
       refine len_q (enc := encLeg) (l := x_0.Onward) rfl ?_
       conv=>whnf
       refine ⟨fun h=>?_,fun h=>?_⟩
       ·
        have lk15 : k_15 < x_0.Onward.length := by have h := of_decide_eq_true h; omega
        obtain ⟨e_16, he16⟩ : ∃ y, x_0.Onward[k_15]? = some y := ⟨_, List.getElem?_eq_getElem lk15⟩
        rw [drop_cons he16, ref04_spelled_L1.eq_2] at hL1
        conv=>whnf
        refine ⟨k_15, _, rfl, ix_map he16, ?_⟩
        conv=>whnf
        obtain ⟨r_17, hr17, hL1⟩ := bs hL1
        refine ⟨_,_,_,_,_,_,_,_,_,callX false [] [] 0 Tryz.func90 (by decide) rfl (ref02_ValidLeg_ac e_16 r_17 hr17) rfl ⟨aq,trivial⟩ rfl trivial rfl rfl rfl lend0 trivial rfl, ?_⟩
        conv=>whnf
        refine ⟨fun b70=>?_,fun b70=>?_⟩
        ·
         replace hL1 := ct b70 hL1
         conv=>whnf
         obtain rfl := si hL1
         replace hF := fin_ret hF
         obtain rfl := si hF
         exact ret_gz [] [] [] rfl (argFl (by (conv=>lhs;whnf)<;>rfl)) trivial
        ·
         replace hL1 := cf b70 hL1
         conv=>whnf
         refine ⟨((k_15 + 1 : Nat) : Int), wrapE (by omega) (by omega) (by omega), ?_⟩
         conv=>whnf
         exact ⟨k_15 + 1, [0], [], [], ⟨lk15, hL1⟩, by show x_0.Onward.length - (k_15 + 1) < x_0.Onward.length - k_15; omega, wk_mk [0] [] [] rfl ⟨argP (id := 0) (by (conv=>lhs;whnf)<;>rfl) rfl, aq,trivial⟩ ⟨boxL rfl rfl rfl ⟨(.ni _ rfl), (.ni _ rfl), (.ni _ rfl), (.ni _ rfl), (.ni _ rfl), (.ni _ rfl), (.ni _ rfl), (.ni _ rfl), (.ni _ rfl), (.ni _ rfl), (.ni _ rfl), (.ni _ rfl), (.ni _ rfl), (.ni _ rfl), (.ni _ rfl), (.ni _ rfl), (.ni _ rfl), (.ni _ rfl), (.ni _ rfl), (.ni _ rfl), (.ni _ rfl), (.ni _ rfl), (.ni _ rfl), (.ni _ rfl), (.ni _ rfl), (.ni _ rfl), (.ni _ rfl), (.ni _ rfl), (.ni _ rfl), (.ni _ rfl),trivial⟩,trivial⟩⟩
       ·
        rw [drop_nil (show x_0.Onward.length ≤ k_15 by have h := of_decide_eq_false h; omega), ref04_spelled_L1.eq_1] at hL1
        conv=>whnf
        obtain rfl := si hL1
        replace hF := fin_brk hF
        try dsimp only at hF
        obtain ⟨r_20, hr20, hF⟩ := bs hF
        refine ⟨_,_,_,_,_,_,_,_,_,callX false [] [] 0 Tryz.func25 (by decide) rfl (ref04_Bag_ac x_0.Kind r_20 hr20) rfl ⟨aq,trivial⟩ rfl trivial rfl rfl rfl lend0 trivial rfl, ?_⟩
        conv=>whnf
        refine ⟨fun b71=>?_,fun b71=>?_⟩
        ·
         replace hF := cf b71 hF
         conv=>whnf
         obtain ⟨r_21, hr21, hF⟩ := bs hF
         refine ⟨_,_,_,_,_,_,_,_,_,callX false [] [] 0 Tryz.func92 (by decide) rfl (ref04_letters_ac x_0.Surname (1 : Int) r_21 hr21) rfl ⟨aq, aq,trivial⟩ rfl trivial rfl rfl rfl lend0 trivial rfl, ?_⟩
         conv=>whnf
         refine ⟨fun b72=>?_,fun b72=>?_⟩
         ·
          replace hF := ct b72 hF
          conv=>whnf
          obtain ⟨r_22, hr22, hF⟩ := bs hF
          refine ⟨_,_,_,_,_,_,_,_,_,callX false [] [] 0 Tryz.func92 (by decide) rfl (ref04_letters_ac x_0.Given (0 : Int) r_22 hr22) rfl ⟨aq, aq,trivial⟩ rfl trivial rfl rfl rfl lend0 trivial rfl, ?_⟩
          conv=>whnf
          obtain rfl := si hF
          exact ret_gz [] [] [] rfl aq trivial
         ·
          replace hF := cf b72 hF
          conv=>whnf
          obtain rfl := si hF
          exact ret_gz [] [] [] rfl (argFl (by (conv=>lhs;whnf)<;>rfl)) trivial
        ·
         replace hF := ct b71 hF
         conv=>whnf
         obtain rfl := si hF
         exact ret_gz [] [] [] rfl (argT (by (conv=>lhs;whnf)<;>rfl)) trivial
     ·
      replace hF := cf b68 hF
      conv=>whnf
      obtain ⟨c_1, hc_1, hF⟩ := fin_some hF
      refine sw_bv 0 (v := .agg [.int .i64 x_0.Kind, .int .i64 x_0.Do, .str x_0.Port, .int .i64 x_0.Number, .str x_0.In.Flight.Carrier, .int .i64 x_0.In.Flight.Number, .str x_0.In.Flight.Suffix, .int .i64 x_0.In.Flight.Day, .str x_0.In.Port, .str x_0.In.Class, .str x_0.Out.Flight.Carrier, .int .i64 x_0.Out.Flight.Number, .str x_0.Out.Flight.Suffix, .int .i64 x_0.Out.Flight.Day, .str x_0.Out.Port, .str x_0.Out.Class, .lst 6 (x_0.Onward.map encLeg), .int .i64 x_0.First.Lead, .int .i64 x_0.First.Airline, .int .i64 x_0.First.Serial, .int .i64 x_0.Count, .bool x_0.Load, .int .i64 x_0.Status, .int .i64 x_0.Sequence, .int .i64 x_0.Weight, .str x_0.Surname, .str x_0.Given, .int .i64 x_0.Exception, .str x_0.Node, .lst 1 (x_0.List.map iA)]) (by (conv=>lhs;whnf)<;>rfl) (fun hb=>?_)
      have hbd_k_24 : x_0.Onward.length ≤ 9223372036854775807 := bnd_len (enc := encLeg) ((bnd_at hb.cell 16 rfl))
      refine sw_loop tab_ok follows_ok (fun y : Nat => y ≤ x_0.Onward.length ∧ ref04_spelled_L1 (x_0.Onward.drop y) y = some c_1) (fun y => ⟨eL [(1, .ptr 0 0), (3, .int .i64 (y : Int))], hL [(0, .box [.int .i64 x_0.Kind, .int .i64 x_0.Do, .str x_0.Port, .int .i64 x_0.Number, .str x_0.In.Flight.Carrier, .int .i64 x_0.In.Flight.Number, .str x_0.In.Flight.Suffix, .int .i64 x_0.In.Flight.Day, .str x_0.In.Port, .str x_0.In.Class, .str x_0.Out.Flight.Carrier, .int .i64 x_0.Out.Flight.Number, .str x_0.Out.Flight.Suffix, .int .i64 x_0.Out.Flight.Day, .str x_0.Out.Port, .str x_0.Out.Class, .lst 6 (x_0.Onward.map encLeg), .int .i64 x_0.First.Lead, .int .i64 x_0.First.Airline, .int .i64 x_0.First.Serial, .int .i64 x_0.Count, .bool x_0.Load, .int .i64 x_0.Status, .int .i64 x_0.Sequence, .int .i64 x_0.Weight, .str x_0.Surname, .str x_0.Given, .int .i64 x_0.Exception, .str x_0.Node, .lst 1 (x_0.List.map iA)])], 1⟩) (fun y => x_0.Onward.length - y) 0 ⟨Nat.zero_le _, hc_1⟩ (wk_mk [0] [] [] rfl ⟨argP (id := 0) (by (conv=>lhs;whnf)<;>rfl) rfl, aq,trivial⟩ ⟨boxL rfl rfl rfl ⟨(.ni _ rfl), (.ni _ rfl), (.ni _ rfl), (.ni _ rfl), (.ni _ rfl), (.ni _ rfl), (.ni _ rfl), (.ni _ rfl), (.ni _ rfl), (.ni _ rfl), (.ni _ rfl), (.ni _ rfl), (.ni _ rfl), (.ni _ rfl), (.ni _ rfl), (.ni _ rfl), (.ni _ rfl), (.ni _ rfl), (.ni _ rfl), (.ni _ rfl), (.ni _ rfl), (.ni _ rfl), (.ni _ rfl), (.ni _ rfl), (.ni _ rfl), (.ni _ rfl), (.ni _ rfl), (.ni _ rfl), (.ni _ rfl), (.ni _ rfl),trivial⟩,trivial⟩) ?_
      rintro k_24 ⟨hk_k_24, hL1⟩
      try dsimp only at hk_k_24 hL1
      show awp _ _ _ _ _ _ ⟨eL [(1, .ptr 0 0), (3, .int .i64 (k_24 : Int))], hL [(0, .box [.int .i64 x_0.Kind, .int .i64 x_0.Do, .str x_0.Port, .int .i64 x_0.Number, .str x_0.In.Flight.Carrier, .int .i64 x_0.In.Flight.Number, .str x_0.In.Flight.Suffix, .int .i64 x_0.In.Flight.Day, .str x_0.In.Port, .str x_0.In.Class, .str x_0.Out.Flight.Carrier, .int .i64 x_0.Out.Flight.Number, .str x_0.Out.Flight.Suffix, .int .i64 x_0.Out.Flight.Day, .str x_0.Out.Port, .str x_0.Out.Class, .lst 6 (x_0.Onward.map encLeg), .int .i64 x_0.First.Lead, .int .i64 x_0.First.Airline, .int .i64 x_0.First.Serial, .int .i64 x_0.Count, .bool x_0.Load, .int .i64 x_0.Status, .int .i64 x_0.Sequence, .int .i64 x_0.Weight, .str x_0.Surname, .str x_0.Given, .int .i64 x_0.Exception, .str x_0.Node, .lst 1 (x_0.List.map iA)])], 1⟩
      conv=>whnf
      refine len_q (enc := encLeg) (l := x_0.Onward) rfl ?_
      conv=>whnf
      refine ⟨fun h=>?_,fun h=>?_⟩
      ·
       have lk24 : k_24 < x_0.Onward.length := by have h := of_decide_eq_true h; omega
       obtain ⟨e_25, he25⟩ : ∃ y, x_0.Onward[k_24]? = some y := ⟨_, List.getElem?_eq_getElem lk24⟩
       rw [drop_cons he25, ref04_spelled_L1.eq_2] at hL1
       conv=>whnf
       refine ⟨k_24, _, rfl, ix_map he25, ?_⟩
       conv=>whnf
       obtain ⟨r_26, hr26, hL1⟩ := bs hL1
       refine ⟨_,_,_,_,_,_,_,_,_,callX false [] [] 0 Tryz.func90 (by decide) rfl (ref02_ValidLeg_ac e_25 r_26 hr26) rfl ⟨aq,trivial⟩ rfl trivial rfl rfl rfl lend0 trivial rfl, ?_⟩
       conv=>whnf
       refine ⟨fun b73=>?_,fun b73=>?_⟩
       ·
        replace hL1 := ct b73 hL1
        conv=>whnf
        obtain rfl := si hL1
        replace hF := fin_ret hF
        obtain rfl := si hF
        exact ret_gz [] [] [] rfl (argFl (by (conv=>lhs;whnf)<;>rfl)) trivial
       ·
        replace hL1 := cf b73 hL1
        conv=>whnf
        refine ⟨((k_24 + 1 : Nat) : Int), wrapE (by omega) (by omega) (by omega), ?_⟩
        conv=>whnf
        exact ⟨k_24 + 1, [0], [], [], ⟨lk24, hL1⟩, by show x_0.Onward.length - (k_24 + 1) < x_0.Onward.length - k_24; omega, wk_mk [0] [] [] rfl ⟨argP (id := 0) (by (conv=>lhs;whnf)<;>rfl) rfl, aq,trivial⟩ ⟨boxL rfl rfl rfl ⟨(.ni _ rfl), (.ni _ rfl), (.ni _ rfl), (.ni _ rfl), (.ni _ rfl), (.ni _ rfl), (.ni _ rfl), (.ni _ rfl), (.ni _ rfl), (.ni _ rfl), (.ni _ rfl), (.ni _ rfl), (.ni _ rfl), (.ni _ rfl), (.ni _ rfl), (.ni _ rfl), (.ni _ rfl), (.ni _ rfl), (.ni _ rfl), (.ni _ rfl), (.ni _ rfl), (.ni _ rfl), (.ni _ rfl), (.ni _ rfl), (.ni _ rfl), (.ni _ rfl), (.ni _ rfl), (.ni _ rfl), (.ni _ rfl), (.ni _ rfl),trivial⟩,trivial⟩⟩
      ·
       rw [drop_nil (show x_0.Onward.length ≤ k_24 by have h := of_decide_eq_false h; omega), ref04_spelled_L1.eq_1] at hL1
       conv=>whnf
       obtain rfl := si hL1
       replace hF := fin_brk hF
       try dsimp only at hF
       obtain ⟨r_29, hr29, hF⟩ := bs hF
       refine ⟨_,_,_,_,_,_,_,_,_,callX false [] [] 0 Tryz.func25 (by decide) rfl (ref04_Bag_ac x_0.Kind r_29 hr29) rfl ⟨aq,trivial⟩ rfl trivial rfl rfl rfl lend0 trivial rfl, ?_⟩
       conv=>whnf
       refine ⟨fun b74=>?_,fun b74=>?_⟩
       ·
        replace hF := cf b74 hF
        conv=>whnf
        obtain ⟨r_30, hr30, hF⟩ := bs hF
        refine ⟨_,_,_,_,_,_,_,_,_,callX false [] [] 0 Tryz.func92 (by decide) rfl (ref04_letters_ac x_0.Surname (1 : Int) r_30 hr30) rfl ⟨aq, aq,trivial⟩ rfl trivial rfl rfl rfl lend0 trivial rfl, ?_⟩
        conv=>whnf
        refine ⟨fun b75=>?_,fun b75=>?_⟩
        ·
         replace hF := ct b75 hF
         conv=>whnf
         obtain ⟨r_31, hr31, hF⟩ := bs hF
         refine ⟨_,_,_,_,_,_,_,_,_,callX false [] [] 0 Tryz.func92 (by decide) rfl (ref04_letters_ac x_0.Given (0 : Int) r_31 hr31) rfl ⟨aq, aq,trivial⟩ rfl trivial rfl rfl rfl lend0 trivial rfl, ?_⟩
         conv=>whnf
         obtain rfl := si hF
         exact ret_gz [] [] [] rfl aq trivial
        ·
         replace hF := cf b75 hF
         conv=>whnf
         obtain rfl := si hF
         exact ret_gz [] [] [] rfl (argFl (by (conv=>lhs;whnf)<;>rfl)) trivial
       ·
        replace hF := ct b74 hF
        conv=>whnf
        obtain rfl := si hF
        exact ret_gz [] [] [] rfl (argT (by (conv=>lhs;whnf)<;>rfl)) trivial
   ·
    replace hF := ct b62 hF
    conv=>whnf
    obtain rfl := si hF
    exact ret_gz [] [] [] rfl (argFl (by (conv=>lhs;whnf)<;>rfl)) trivial
  ·
   replace hF := cf b61 hF
   conv=>whnf
   refine ⟨fun b76=>?_,fun b76=>?_⟩
   ·
    replace hF := ct b76 hF
    conv=>whnf
    obtain ⟨r_32, hr32, hF⟩ := bs hF
    refine ⟨_,_,_,_,_,_,_,_,_,callX false [] [] 0 Tryz.func90 (by decide) rfl (ref02_ValidLeg_ac x_0.In r_32 hr32) rfl ⟨aq,trivial⟩ rfl trivial rfl rfl rfl lend0 trivial rfl, ?_⟩
    conv=>whnf
    refine ⟨fun b77=>?_,fun b77=>?_⟩
    ·
     replace hF := cf b77 hF
     conv=>whnf
     refine ⟨fun h=>?_,fun h=>?_⟩
     ·
      cases (beq_ne (c := (3 : Int)) b76 rfl).symm.trans h
     ·
      conv=>whnf
      obtain ⟨c_1, hc_1, hF⟩ := fin_some hF
      refine sw_bv 0 (v := .agg [.int .i64 x_0.Kind, .int .i64 x_0.Do, .str x_0.Port, .int .i64 x_0.Number, .str x_0.In.Flight.Carrier, .int .i64 x_0.In.Flight.Number, .str x_0.In.Flight.Suffix, .int .i64 x_0.In.Flight.Day, .str x_0.In.Port, .str x_0.In.Class, .str x_0.Out.Flight.Carrier, .int .i64 x_0.Out.Flight.Number, .str x_0.Out.Flight.Suffix, .int .i64 x_0.Out.Flight.Day, .str x_0.Out.Port, .str x_0.Out.Class, .lst 6 (x_0.Onward.map encLeg), .int .i64 x_0.First.Lead, .int .i64 x_0.First.Airline, .int .i64 x_0.First.Serial, .int .i64 x_0.Count, .bool x_0.Load, .int .i64 x_0.Status, .int .i64 x_0.Sequence, .int .i64 x_0.Weight, .str x_0.Surname, .str x_0.Given, .int .i64 x_0.Exception, .str x_0.Node, .lst 1 (x_0.List.map iA)]) (by (conv=>lhs;whnf)<;>rfl) (fun hb=>?_)
      have hbd_k_34 : x_0.Onward.length ≤ 9223372036854775807 := bnd_len (enc := encLeg) ((bnd_at hb.cell 16 rfl))
      refine sw_loop tab_ok follows_ok (fun y : Nat => y ≤ x_0.Onward.length ∧ ref04_spelled_L1 (x_0.Onward.drop y) y = some c_1) (fun y => ⟨eL [(1, .ptr 0 0), (3, .int .i64 (y : Int))], hL [(0, .box [.int .i64 x_0.Kind, .int .i64 x_0.Do, .str x_0.Port, .int .i64 x_0.Number, .str x_0.In.Flight.Carrier, .int .i64 x_0.In.Flight.Number, .str x_0.In.Flight.Suffix, .int .i64 x_0.In.Flight.Day, .str x_0.In.Port, .str x_0.In.Class, .str x_0.Out.Flight.Carrier, .int .i64 x_0.Out.Flight.Number, .str x_0.Out.Flight.Suffix, .int .i64 x_0.Out.Flight.Day, .str x_0.Out.Port, .str x_0.Out.Class, .lst 6 (x_0.Onward.map encLeg), .int .i64 x_0.First.Lead, .int .i64 x_0.First.Airline, .int .i64 x_0.First.Serial, .int .i64 x_0.Count, .bool x_0.Load, .int .i64 x_0.Status, .int .i64 x_0.Sequence, .int .i64 x_0.Weight, .str x_0.Surname, .str x_0.Given, .int .i64 x_0.Exception, .str x_0.Node, .lst 1 (x_0.List.map iA)])], 1⟩) (fun y => x_0.Onward.length - y) 0 ⟨Nat.zero_le _, hc_1⟩ (wk_mk [0] [] [] rfl ⟨argP (id := 0) (by (conv=>lhs;whnf)<;>rfl) rfl, aq,trivial⟩ ⟨boxL rfl rfl rfl ⟨(.ni _ rfl), (.ni _ rfl), (.ni _ rfl), (.ni _ rfl), (.ni _ rfl), (.ni _ rfl), (.ni _ rfl), (.ni _ rfl), (.ni _ rfl), (.ni _ rfl), (.ni _ rfl), (.ni _ rfl), (.ni _ rfl), (.ni _ rfl), (.ni _ rfl), (.ni _ rfl), (.ni _ rfl), (.ni _ rfl), (.ni _ rfl), (.ni _ rfl), (.ni _ rfl), (.ni _ rfl), (.ni _ rfl), (.ni _ rfl), (.ni _ rfl), (.ni _ rfl), (.ni _ rfl), (.ni _ rfl), (.ni _ rfl), (.ni _ rfl),trivial⟩,trivial⟩) ?_
      rintro k_34 ⟨hk_k_34, hL1⟩
      try dsimp only at hk_k_34 hL1
      show awp _ _ _ _ _ _ ⟨eL [(1, .ptr 0 0), (3, .int .i64 (k_34 : Int))], hL [(0, .box [.int .i64 x_0.Kind, .int .i64 x_0.Do, .str x_0.Port, .int .i64 x_0.Number, .str x_0.In.Flight.Carrier, .int .i64 x_0.In.Flight.Number, .str x_0.In.Flight.Suffix, .int .i64 x_0.In.Flight.Day, .str x_0.In.Port, .str x_0.In.Class, .str x_0.Out.Flight.Carrier, .int .i64 x_0.Out.Flight.Number, .str x_0.Out.Flight.Suffix, .int .i64 x_0.Out.Flight.Day, .str x_0.Out.Port, .str x_0.Out.Class, .lst 6 (x_0.Onward.map encLeg), .int .i64 x_0.First.Lead, .int .i64 x_0.First.Airline, .int .i64 x_0.First.Serial, .int .i64 x_0.Count, .bool x_0.Load, .int .i64 x_0.Status, .int .i64 x_0.Sequence, .int .i64 x_0.Weight, .str x_0.Surname, .str x_0.Given, .int .i64 x_0.Exception, .str x_0.Node, .lst 1 (x_0.List.map iA)])], 1⟩
      conv=>whnf
      refine len_q (enc := encLeg) (l := x_0.Onward) rfl ?_
      conv=>whnf
      refine ⟨fun h=>?_,fun h=>?_⟩
      ·
       have lk34 : k_34 < x_0.Onward.length := by have h := of_decide_eq_true h; omega
       obtain ⟨e_35, he35⟩ : ∃ y, x_0.Onward[k_34]? = some y := ⟨_, List.getElem?_eq_getElem lk34⟩
       rw [drop_cons he35, ref04_spelled_L1.eq_2] at hL1
       conv=>whnf
       refine ⟨k_34, _, rfl, ix_map he35, ?_⟩
       conv=>whnf
       obtain ⟨r_36, hr36, hL1⟩ := bs hL1
       refine ⟨_,_,_,_,_,_,_,_,_,callX false [] [] 0 Tryz.func90 (by decide) rfl (ref02_ValidLeg_ac e_35 r_36 hr36) rfl ⟨aq,trivial⟩ rfl trivial rfl rfl rfl lend0 trivial rfl, ?_⟩
       conv=>whnf
       refine ⟨fun b78=>?_,fun b78=>?_⟩
       ·
        replace hL1 := ct b78 hL1
        conv=>whnf
        obtain rfl := si hL1
        replace hF := fin_ret hF
        obtain rfl := si hF
        exact ret_gz [] [] [] rfl (argFl (by (conv=>lhs;whnf)<;>rfl)) trivial
       ·
        replace hL1 := cf b78 hL1
        conv=>whnf
        refine ⟨((k_34 + 1 : Nat) : Int), wrapE (by omega) (by omega) (by omega), ?_⟩
        conv=>whnf
        exact ⟨k_34 + 1, [0], [], [], ⟨lk34, hL1⟩, by show x_0.Onward.length - (k_34 + 1) < x_0.Onward.length - k_34; omega, wk_mk [0] [] [] rfl ⟨argP (id := 0) (by (conv=>lhs;whnf)<;>rfl) rfl, aq,trivial⟩ ⟨boxL rfl rfl rfl ⟨(.ni _ rfl), (.ni _ rfl), (.ni _ rfl), (.ni _ rfl), (.ni _ rfl), (.ni _ rfl), (.ni _ rfl), (.ni _ rfl), (.ni _ rfl), (.ni _ rfl), (.ni _ rfl), (.ni _ rfl), (.ni _ rfl), (.ni _ rfl), (.ni _ rfl), (.ni _ rfl), (.ni _ rfl), (.ni _ rfl), (.ni _ rfl), (.ni _ rfl), (.ni _ rfl), (.ni _ rfl), (.ni _ rfl), (.ni _ rfl), (.ni _ rfl), (.ni _ rfl), (.ni _ rfl), (.ni _ rfl), (.ni _ rfl), (.ni _ rfl),trivial⟩,trivial⟩⟩
      ·
       rw [drop_nil (show x_0.Onward.length ≤ k_34 by have h := of_decide_eq_false h; omega), ref04_spelled_L1.eq_1] at hL1
       conv=>whnf
       obtain rfl := si hL1
       replace hF := fin_brk hF
       try dsimp only at hF
       obtain ⟨r_39, hr39, hF⟩ := bs hF
       refine ⟨_,_,_,_,_,_,_,_,_,callX false [] [] 0 Tryz.func25 (by decide) rfl (ref04_Bag_ac x_0.Kind r_39 hr39) rfl ⟨aq,trivial⟩ rfl trivial rfl rfl rfl lend0 trivial rfl, ?_⟩
       conv=>whnf
       refine ⟨fun b79=>?_,fun b79=>?_⟩
       ·
        replace hF := cf b79 hF
        conv=>whnf
        obtain ⟨r_40, hr40, hF⟩ := bs hF
        refine ⟨_,_,_,_,_,_,_,_,_,callX false [] [] 0 Tryz.func92 (by decide) rfl (ref04_letters_ac x_0.Surname (1 : Int) r_40 hr40) rfl ⟨aq, aq,trivial⟩ rfl trivial rfl rfl rfl lend0 trivial rfl, ?_⟩
        conv=>whnf
        refine ⟨fun b80=>?_,fun b80=>?_⟩
        ·
         replace hF := ct b80 hF
         conv=>whnf
         obtain ⟨r_41, hr41, hF⟩ := bs hF
         refine ⟨_,_,_,_,_,_,_,_,_,callX false [] [] 0 Tryz.func92 (by decide) rfl (ref04_letters_ac x_0.Given (0 : Int) r_41 hr41) rfl ⟨aq, aq,trivial⟩ rfl trivial rfl rfl rfl lend0 trivial rfl, ?_⟩
         conv=>whnf
         obtain rfl := si hF
         exact ret_gz [] [] [] rfl aq trivial
        ·
         replace hF := cf b80 hF
         conv=>whnf
         obtain rfl := si hF
         exact ret_gz [] [] [] rfl (argFl (by (conv=>lhs;whnf)<;>rfl)) trivial
       ·
        replace hF := ct b79 hF
        conv=>whnf
        obtain rfl := si hF
        exact ret_gz [] [] [] rfl (argT (by (conv=>lhs;whnf)<;>rfl)) trivial
    ·
     replace hF := ct b77 hF
     conv=>whnf
     obtain rfl := si hF
     exact ret_gz [] [] [] rfl (argFl (by (conv=>lhs;whnf)<;>rfl)) trivial
   ·
    replace hF := cf b76 hF
    conv=>whnf
    refine ⟨fun b81=>?_,fun b81=>?_⟩
    ·
     replace hF := ct b81 hF
     conv=>whnf
     obtain ⟨r_42, hr42, hF⟩ := bs hF
     refine ⟨_,_,_,_,_,_,_,_,_,callX false [] [] 0 Tryz.func91 (by decide) rfl (ref04_Name_ac x_0.Node r_42 hr42) rfl ⟨aq,trivial⟩ rfl trivial rfl rfl rfl lend0 trivial rfl, ?_⟩
     conv=>whnf
     refine ⟨fun b82=>?_,fun b82=>?_⟩
     ·
      replace hF := ct b82 hF
      conv=>whnf
      obtain rfl := si hF
      exact ret_gz [] [] [] rfl (argFl (by (conv=>lhs;whnf)<;>rfl)) trivial
     ·
      replace hF := cf b82 hF
      conv=>whnf
      obtain ⟨c_1, hc_1, hF⟩ := fin_some hF
      refine sw_bv 0 (v := .agg [.int .i64 x_0.Kind, .int .i64 x_0.Do, .str x_0.Port, .int .i64 x_0.Number, .str x_0.In.Flight.Carrier, .int .i64 x_0.In.Flight.Number, .str x_0.In.Flight.Suffix, .int .i64 x_0.In.Flight.Day, .str x_0.In.Port, .str x_0.In.Class, .str x_0.Out.Flight.Carrier, .int .i64 x_0.Out.Flight.Number, .str x_0.Out.Flight.Suffix, .int .i64 x_0.Out.Flight.Day, .str x_0.Out.Port, .str x_0.Out.Class, .lst 6 (x_0.Onward.map encLeg), .int .i64 x_0.First.Lead, .int .i64 x_0.First.Airline, .int .i64 x_0.First.Serial, .int .i64 x_0.Count, .bool x_0.Load, .int .i64 x_0.Status, .int .i64 x_0.Sequence, .int .i64 x_0.Weight, .str x_0.Surname, .str x_0.Given, .int .i64 x_0.Exception, .str x_0.Node, .lst 1 (x_0.List.map iA)]) (by (conv=>lhs;whnf)<;>rfl) (fun hb=>?_)
      have hbd_k_44 : x_0.Onward.length ≤ 9223372036854775807 := bnd_len (enc := encLeg) ((bnd_at hb.cell 16 rfl))
      refine sw_loop tab_ok follows_ok (fun y : Nat => y ≤ x_0.Onward.length ∧ ref04_spelled_L1 (x_0.Onward.drop y) y = some c_1) (fun y => ⟨eL [(1, .ptr 0 0), (3, .int .i64 (y : Int))], hL [(0, .box [.int .i64 x_0.Kind, .int .i64 x_0.Do, .str x_0.Port, .int .i64 x_0.Number, .str x_0.In.Flight.Carrier, .int .i64 x_0.In.Flight.Number, .str x_0.In.Flight.Suffix, .int .i64 x_0.In.Flight.Day, .str x_0.In.Port, .str x_0.In.Class, .str x_0.Out.Flight.Carrier, .int .i64 x_0.Out.Flight.Number, .str x_0.Out.Flight.Suffix, .int .i64 x_0.Out.Flight.Day, .str x_0.Out.Port, .str x_0.Out.Class, .lst 6 (x_0.Onward.map encLeg), .int .i64 x_0.First.Lead, .int .i64 x_0.First.Airline, .int .i64 x_0.First.Serial, .int .i64 x_0.Count, .bool x_0.Load, .int .i64 x_0.Status, .int .i64 x_0.Sequence, .int .i64 x_0.Weight, .str x_0.Surname, .str x_0.Given, .int .i64 x_0.Exception, .str x_0.Node, .lst 1 (x_0.List.map iA)])], 1⟩) (fun y => x_0.Onward.length - y) 0 ⟨Nat.zero_le _, hc_1⟩ (wk_mk [0] [] [] rfl ⟨argP (id := 0) (by (conv=>lhs;whnf)<;>rfl) rfl, aq,trivial⟩ ⟨boxL rfl rfl rfl ⟨(.ni _ rfl), (.ni _ rfl), (.ni _ rfl), (.ni _ rfl), (.ni _ rfl), (.ni _ rfl), (.ni _ rfl), (.ni _ rfl), (.ni _ rfl), (.ni _ rfl), (.ni _ rfl), (.ni _ rfl), (.ni _ rfl), (.ni _ rfl), (.ni _ rfl), (.ni _ rfl), (.ni _ rfl), (.ni _ rfl), (.ni _ rfl), (.ni _ rfl), (.ni _ rfl), (.ni _ rfl), (.ni _ rfl), (.ni _ rfl), (.ni _ rfl), (.ni _ rfl), (.ni _ rfl), (.ni _ rfl), (.ni _ rfl), (.ni _ rfl),trivial⟩,trivial⟩) ?_
      rintro k_44 ⟨hk_k_44, hL1⟩
      try dsimp only at hk_k_44 hL1
      show awp _ _ _ _ _ _ ⟨eL [(1, .ptr 0 0), (3, .int .i64 (k_44 : Int))], hL [(0, .box [.int .i64 x_0.Kind, .int .i64 x_0.Do, .str x_0.Port, .int .i64 x_0.Number, .str x_0.In.Flight.Carrier, .int .i64 x_0.In.Flight.Number, .str x_0.In.Flight.Suffix, .int .i64 x_0.In.Flight.Day, .str x_0.In.Port, .str x_0.In.Class, .str x_0.Out.Flight.Carrier, .int .i64 x_0.Out.Flight.Number, .str x_0.Out.Flight.Suffix, .int .i64 x_0.Out.Flight.Day, .str x_0.Out.Port, .str x_0.Out.Class, .lst 6 (x_0.Onward.map encLeg), .int .i64 x_0.First.Lead, .int .i64 x_0.First.Airline, .int .i64 x_0.First.Serial, .int .i64 x_0.Count, .bool x_0.Load, .int .i64 x_0.Status, .int .i64 x_0.Sequence, .int .i64 x_0.Weight, .str x_0.Surname, .str x_0.Given, .int .i64 x_0.Exception, .str x_0.Node, .lst 1 (x_0.List.map iA)])], 1⟩
      conv=>whnf
      refine len_q (enc := encLeg) (l := x_0.Onward) rfl ?_
      conv=>whnf
      refine ⟨fun h=>?_,fun h=>?_⟩
      ·
       have lk44 : k_44 < x_0.Onward.length := by have h := of_decide_eq_true h; omega
       obtain ⟨e_45, he45⟩ : ∃ y, x_0.Onward[k_44]? = some y := ⟨_, List.getElem?_eq_getElem lk44⟩
       rw [drop_cons he45, ref04_spelled_L1.eq_2] at hL1
       conv=>whnf
       refine ⟨k_44, _, rfl, ix_map he45, ?_⟩
       conv=>whnf
       obtain ⟨r_46, hr46, hL1⟩ := bs hL1
       refine ⟨_,_,_,_,_,_,_,_,_,callX false [] [] 0 Tryz.func90 (by decide) rfl (ref02_ValidLeg_ac e_45 r_46 hr46) rfl ⟨aq,trivial⟩ rfl trivial rfl rfl rfl lend0 trivial rfl, ?_⟩
       conv=>whnf
       refine ⟨fun b83=>?_,fun b83=>?_⟩
       ·
        replace hL1 := ct b83 hL1
        conv=>whnf
        obtain rfl := si hL1
        replace hF := fin_ret hF
        obtain rfl := si hF
        exact ret_gz [] [] [] rfl (argFl (by (conv=>lhs;whnf)<;>rfl)) trivial
       ·
        replace hL1 := cf b83 hL1
        conv=>whnf
        refine ⟨((k_44 + 1 : Nat) : Int), wrapE (by omega) (by omega) (by omega), ?_⟩
        conv=>whnf
        exact ⟨k_44 + 1, [0], [], [], ⟨lk44, hL1⟩, by show x_0.Onward.length - (k_44 + 1) < x_0.Onward.length - k_44; omega, wk_mk [0] [] [] rfl ⟨argP (id := 0) (by (conv=>lhs;whnf)<;>rfl) rfl, aq,trivial⟩ ⟨boxL rfl rfl rfl ⟨(.ni _ rfl), (.ni _ rfl), (.ni _ rfl), (.ni _ rfl), (.ni _ rfl), (.ni _ rfl), (.ni _ rfl), (.ni _ rfl), (.ni _ rfl), (.ni _ rfl), (.ni _ rfl), (.ni _ rfl), (.ni _ rfl), (.ni _ rfl), (.ni _ rfl), (.ni _ rfl), (.ni _ rfl), (.ni _ rfl), (.ni _ rfl), (.ni _ rfl), (.ni _ rfl), (.ni _ rfl), (.ni _ rfl), (.ni _ rfl), (.ni _ rfl), (.ni _ rfl), (.ni _ rfl), (.ni _ rfl), (.ni _ rfl), (.ni _ rfl),trivial⟩,trivial⟩⟩
      ·
       rw [drop_nil (show x_0.Onward.length ≤ k_44 by have h := of_decide_eq_false h; omega), ref04_spelled_L1.eq_1] at hL1
       conv=>whnf
       obtain rfl := si hL1
       replace hF := fin_brk hF
       try dsimp only at hF
       obtain ⟨r_49, hr49, hF⟩ := bs hF
       refine ⟨_,_,_,_,_,_,_,_,_,callX false [] [] 0 Tryz.func25 (by decide) rfl (ref04_Bag_ac x_0.Kind r_49 hr49) rfl ⟨aq,trivial⟩ rfl trivial rfl rfl rfl lend0 trivial rfl, ?_⟩
       conv=>whnf
       refine ⟨fun b84=>?_,fun b84=>?_⟩
       ·
        replace hF := cf b84 hF
        conv=>whnf
        obtain ⟨r_50, hr50, hF⟩ := bs hF
        refine ⟨_,_,_,_,_,_,_,_,_,callX false [] [] 0 Tryz.func92 (by decide) rfl (ref04_letters_ac x_0.Surname (1 : Int) r_50 hr50) rfl ⟨aq, aq,trivial⟩ rfl trivial rfl rfl rfl lend0 trivial rfl, ?_⟩
        conv=>whnf
        refine ⟨fun b85=>?_,fun b85=>?_⟩
        ·
         replace hF := ct b85 hF
         conv=>whnf
         obtain ⟨r_51, hr51, hF⟩ := bs hF
         refine ⟨_,_,_,_,_,_,_,_,_,callX false [] [] 0 Tryz.func92 (by decide) rfl (ref04_letters_ac x_0.Given (0 : Int) r_51 hr51) rfl ⟨aq, aq,trivial⟩ rfl trivial rfl rfl rfl lend0 trivial rfl, ?_⟩
         conv=>whnf
         obtain rfl := si hF
         exact ret_gz [] [] [] rfl aq trivial
        ·
         replace hF := cf b85 hF
         conv=>whnf
         obtain rfl := si hF
         exact ret_gz [] [] [] rfl (argFl (by (conv=>lhs;whnf)<;>rfl)) trivial
       ·
        replace hF := ct b84 hF
        conv=>whnf
        obtain rfl := si hF
        exact ret_gz [] [] [] rfl (argT (by (conv=>lhs;whnf)<;>rfl)) trivial
    ·
     replace hF := cf b81 hF
     conv=>whnf
     obtain ⟨c_1, hc_1, hF⟩ := fin_some hF
     refine sw_bv 0 (v := .agg [.int .i64 x_0.Kind, .int .i64 x_0.Do, .str x_0.Port, .int .i64 x_0.Number, .str x_0.In.Flight.Carrier, .int .i64 x_0.In.Flight.Number, .str x_0.In.Flight.Suffix, .int .i64 x_0.In.Flight.Day, .str x_0.In.Port, .str x_0.In.Class, .str x_0.Out.Flight.Carrier, .int .i64 x_0.Out.Flight.Number, .str x_0.Out.Flight.Suffix, .int .i64 x_0.Out.Flight.Day, .str x_0.Out.Port, .str x_0.Out.Class, .lst 6 (x_0.Onward.map encLeg), .int .i64 x_0.First.Lead, .int .i64 x_0.First.Airline, .int .i64 x_0.First.Serial, .int .i64 x_0.Count, .bool x_0.Load, .int .i64 x_0.Status, .int .i64 x_0.Sequence, .int .i64 x_0.Weight, .str x_0.Surname, .str x_0.Given, .int .i64 x_0.Exception, .str x_0.Node, .lst 1 (x_0.List.map iA)]) (by (conv=>lhs;whnf)<;>rfl) (fun hb=>?_)
     have hbd_k_53 : x_0.Onward.length ≤ 9223372036854775807 := bnd_len (enc := encLeg) ((bnd_at hb.cell 16 rfl))
     refine sw_loop tab_ok follows_ok (fun y : Nat => y ≤ x_0.Onward.length ∧ ref04_spelled_L1 (x_0.Onward.drop y) y = some c_1) (fun y => ⟨eL [(1, .ptr 0 0), (3, .int .i64 (y : Int))], hL [(0, .box [.int .i64 x_0.Kind, .int .i64 x_0.Do, .str x_0.Port, .int .i64 x_0.Number, .str x_0.In.Flight.Carrier, .int .i64 x_0.In.Flight.Number, .str x_0.In.Flight.Suffix, .int .i64 x_0.In.Flight.Day, .str x_0.In.Port, .str x_0.In.Class, .str x_0.Out.Flight.Carrier, .int .i64 x_0.Out.Flight.Number, .str x_0.Out.Flight.Suffix, .int .i64 x_0.Out.Flight.Day, .str x_0.Out.Port, .str x_0.Out.Class, .lst 6 (x_0.Onward.map encLeg), .int .i64 x_0.First.Lead, .int .i64 x_0.First.Airline, .int .i64 x_0.First.Serial, .int .i64 x_0.Count, .bool x_0.Load, .int .i64 x_0.Status, .int .i64 x_0.Sequence, .int .i64 x_0.Weight, .str x_0.Surname, .str x_0.Given, .int .i64 x_0.Exception, .str x_0.Node, .lst 1 (x_0.List.map iA)])], 1⟩) (fun y => x_0.Onward.length - y) 0 ⟨Nat.zero_le _, hc_1⟩ (wk_mk [0] [] [] rfl ⟨argP (id := 0) (by (conv=>lhs;whnf)<;>rfl) rfl, aq,trivial⟩ ⟨boxL rfl rfl rfl ⟨(.ni _ rfl), (.ni _ rfl), (.ni _ rfl), (.ni _ rfl), (.ni _ rfl), (.ni _ rfl), (.ni _ rfl), (.ni _ rfl), (.ni _ rfl), (.ni _ rfl), (.ni _ rfl), (.ni _ rfl), (.ni _ rfl), (.ni _ rfl), (.ni _ rfl), (.ni _ rfl), (.ni _ rfl), (.ni _ rfl), (.ni _ rfl), (.ni _ rfl), (.ni _ rfl), (.ni _ rfl), (.ni _ rfl), (.ni _ rfl), (.ni _ rfl), (.ni _ rfl), (.ni _ rfl), (.ni _ rfl), (.ni _ rfl), (.ni _ rfl),trivial⟩,trivial⟩) ?_
     rintro k_53 ⟨hk_k_53, hL1⟩
     try dsimp only at hk_k_53 hL1
     show awp _ _ _ _ _ _ ⟨eL [(1, .ptr 0 0), (3, .int .i64 (k_53 : Int))], hL [(0, .box [.int .i64 x_0.Kind, .int .i64 x_0.Do, .str x_0.Port, .int .i64 x_0.Number, .str x_0.In.Flight.Carrier, .int .i64 x_0.In.Flight.Number, .str x_0.In.Flight.Suffix, .int .i64 x_0.In.Flight.Day, .str x_0.In.Port, .str x_0.In.Class, .str x_0.Out.Flight.Carrier, .int .i64 x_0.Out.Flight.Number, .str x_0.Out.Flight.Suffix, .int .i64 x_0.Out.Flight.Day, .str x_0.Out.Port, .str x_0.Out.Class, .lst 6 (x_0.Onward.map encLeg), .int .i64 x_0.First.Lead, .int .i64 x_0.First.Airline, .int .i64 x_0.First.Serial, .int .i64 x_0.Count, .bool x_0.Load, .int .i64 x_0.Status, .int .i64 x_0.Sequence, .int .i64 x_0.Weight, .str x_0.Surname, .str x_0.Given, .int .i64 x_0.Exception, .str x_0.Node, .lst 1 (x_0.List.map iA)])], 1⟩
     conv=>whnf
     refine len_q (enc := encLeg) (l := x_0.Onward) rfl ?_
     conv=>whnf
     refine ⟨fun h=>?_,fun h=>?_⟩
     ·
      have lk53 : k_53 < x_0.Onward.length := by have h := of_decide_eq_true h; omega
      obtain ⟨e_54, he54⟩ : ∃ y, x_0.Onward[k_53]? = some y := ⟨_, List.getElem?_eq_getElem lk53⟩
      rw [drop_cons he54, ref04_spelled_L1.eq_2] at hL1
      conv=>whnf
      refine ⟨k_53, _, rfl, ix_map he54, ?_⟩
      conv=>whnf
      obtain ⟨r_55, hr55, hL1⟩ := bs hL1
      refine ⟨_,_,_,_,_,_,_,_,_,callX false [] [] 0 Tryz.func90 (by decide) rfl (ref02_ValidLeg_ac e_54 r_55 hr55) rfl ⟨aq,trivial⟩ rfl trivial rfl rfl rfl lend0 trivial rfl, ?_⟩
      conv=>whnf
      refine ⟨fun b86=>?_,fun b86=>?_⟩
      ·
       replace hL1 := ct b86 hL1
       conv=>whnf
       obtain rfl := si hL1
       replace hF := fin_ret hF
       obtain rfl := si hF
       exact ret_gz [] [] [] rfl (argFl (by (conv=>lhs;whnf)<;>rfl)) trivial
      ·
       replace hL1 := cf b86 hL1
       conv=>whnf
       refine ⟨((k_53 + 1 : Nat) : Int), wrapE (by omega) (by omega) (by omega), ?_⟩
       conv=>whnf
       exact ⟨k_53 + 1, [0], [], [], ⟨lk53, hL1⟩, by show x_0.Onward.length - (k_53 + 1) < x_0.Onward.length - k_53; omega, wk_mk [0] [] [] rfl ⟨argP (id := 0) (by (conv=>lhs;whnf)<;>rfl) rfl, aq,trivial⟩ ⟨boxL rfl rfl rfl ⟨(.ni _ rfl), (.ni _ rfl), (.ni _ rfl), (.ni _ rfl), (.ni _ rfl), (.ni _ rfl), (.ni _ rfl), (.ni _ rfl), (.ni _ rfl), (.ni _ rfl), (.ni _ rfl), (.ni _ rfl), (.ni _ rfl), (.ni _ rfl), (.ni _ rfl), (.ni _ rfl), (.ni _ rfl), (.ni _ rfl), (.ni _ rfl), (.ni _ rfl), (.ni _ rfl), (.ni _ rfl), (.ni _ rfl), (.ni _ rfl), (.ni _ rfl), (.ni _ rfl), (.ni _ rfl), (.ni _ rfl), (.ni _ rfl), (.ni _ rfl),trivial⟩,trivial⟩⟩
     ·
      rw [drop_nil (show x_0.Onward.length ≤ k_53 by have h := of_decide_eq_false h; omega), ref04_spelled_L1.eq_1] at hL1
      conv=>whnf
      obtain rfl := si hL1
      replace hF := fin_brk hF
      try dsimp only at hF
      obtain ⟨r_58, hr58, hF⟩ := bs hF
      refine ⟨_,_,_,_,_,_,_,_,_,callX false [] [] 0 Tryz.func25 (by decide) rfl (ref04_Bag_ac x_0.Kind r_58 hr58) rfl ⟨aq,trivial⟩ rfl trivial rfl rfl rfl lend0 trivial rfl, ?_⟩
      conv=>whnf
      refine ⟨fun b87=>?_,fun b87=>?_⟩
      ·
       replace hF := cf b87 hF
       conv=>whnf
       obtain ⟨r_59, hr59, hF⟩ := bs hF
       refine ⟨_,_,_,_,_,_,_,_,_,callX false [] [] 0 Tryz.func92 (by decide) rfl (ref04_letters_ac x_0.Surname (1 : Int) r_59 hr59) rfl ⟨aq, aq,trivial⟩ rfl trivial rfl rfl rfl lend0 trivial rfl, ?_⟩
       conv=>whnf
       refine ⟨fun b88=>?_,fun b88=>?_⟩
       ·
        replace hF := ct b88 hF
        conv=>whnf
        obtain ⟨r_60, hr60, hF⟩ := bs hF
        refine ⟨_,_,_,_,_,_,_,_,_,callX false [] [] 0 Tryz.func92 (by decide) rfl (ref04_letters_ac x_0.Given (0 : Int) r_60 hr60) rfl ⟨aq, aq,trivial⟩ rfl trivial rfl rfl rfl lend0 trivial rfl, ?_⟩
        conv=>whnf
        obtain rfl := si hF
        exact ret_gz [] [] [] rfl aq trivial
       ·
        replace hF := cf b88 hF
        conv=>whnf
        obtain rfl := si hF
        exact ret_gz [] [] [] rfl (argFl (by (conv=>lhs;whnf)<;>rfl)) trivial
      ·
       replace hF := ct b87 hF
       conv=>whnf
       obtain rfl := si hF
       exact ret_gz [] [] [] rfl (argT (by (conv=>lhs;whnf)<;>rfl)) trivial
 ·
  replace hF := ct b60 hF
  conv=>whnf
  obtain rfl := si hF
  exact ret_gz [] [] [] rfl (argFl (by (conv=>lhs;whnf)<;>rfl)) trivial

theorem ref04_counted_ac (x_0 : Message) (r : Bool) (hF : ref04_counted x_0 = some r) : AC Tryz.prog 59 [.agg (encMessage x_0)] [] (.bool r) [] := by
 refine ac_of tab_ok follows_ok Tryz.func59 rfl Tryz.ntmps59 rfl ?_
 unfold ref04_counted at hF
 conv=>whnf
 obtain ⟨r_1, hr1, hF⟩ := bs hF
 refine ⟨_,_,_,_,_,_,_,_,_,callX false [] [] 0 Tryz.func55 (by decide) rfl (ref04_in_ac x_0.Number (1 : Int) (9999 : Int) r_1 hr1) rfl ⟨aq, aq, aq,trivial⟩ rfl trivial rfl rfl rfl lend0 trivial rfl, ?_⟩
 conv=>whnf
 refine ⟨fun b41=>?_,fun b41=>?_⟩
 ·
  replace hF := cf b41 hF
  conv=>whnf
  refine ⟨fun b42=>?_,fun b42=>?_⟩
  ·
   replace hF := ct b42 hF
   conv=>whnf
   obtain ⟨r_2, hr2, hF⟩ := bs hF
   refine ⟨_,_,_,_,_,_,_,_,_,callX false [] [] 0 Tryz.func53 (by decide) rfl (ref01_Valid_ac x_0.First r_2 hr2) rfl ⟨aq,trivial⟩ rfl trivial rfl rfl rfl lend0 trivial rfl, ?_⟩
   conv=>whnf
   refine ⟨fun b43=>?_,fun b43=>?_⟩
   ·
    replace hF := cf b43 hF
    conv=>whnf
    obtain ⟨r_3, hr3, hF⟩ := bs hF
    refine ⟨_,_,_,_,_,_,_,_,_,callX false [] [] 0 Tryz.func55 (by decide) rfl (ref04_in_ac x_0.Count (1 : Int) (99 : Int) r_3 hr3) rfl ⟨aq, aq, aq,trivial⟩ rfl trivial rfl rfl rfl lend0 trivial rfl, ?_⟩
    conv=>whnf
    refine ⟨fun b44=>?_,fun b44=>?_⟩
    ·
     replace hF := ct b44 hF
     conv=>whnf
     obtain rfl := si hF
     exact ret_gz [] [] [] rfl (argFl (by (conv=>lhs;whnf)<;>rfl)) trivial
    ·
     replace hF := cf b44 hF
     conv=>whnf
     obtain ⟨r_4, hr4, hF⟩ := bs hF
     refine ⟨_,_,_,_,_,_,_,_,_,callX false [] [] 0 Tryz.func25 (by decide) rfl (ref04_Bag_ac x_0.Kind r_4 hr4) rfl ⟨aq,trivial⟩ rfl trivial rfl rfl rfl lend0 trivial rfl, ?_⟩
     conv=>whnf
     refine ⟨fun b45=>?_,fun b45=>?_⟩
     ·
      replace hF := ct b45 hF
      conv=>whnf
      obtain ⟨r_5, hr5, hF⟩ := bs hF
      refine ⟨_,_,_,_,_,_,_,_,_,callX false [] [] 0 Tryz.func55 (by decide) rfl (ref04_in_ac x_0.Do (0 : Int) (2 : Int) r_5 hr5) rfl ⟨aq, aq, aq,trivial⟩ rfl trivial rfl rfl rfl lend0 trivial rfl, ?_⟩
      conv=>whnf
      refine ⟨fun b46=>?_,fun b46=>?_⟩
      ·
       replace hF := cf b46 hF
       conv=>whnf
       obtain ⟨r_6, hr6, hF⟩ := bs hF
       refine ⟨_,_,_,_,_,_,_,_,_,callX false [] [] 0 Tryz.func55 (by decide) rfl (ref04_in_ac x_0.Status (1 : Int) (4 : Int) r_6 hr6) rfl ⟨aq, aq, aq,trivial⟩ rfl trivial rfl rfl rfl lend0 trivial rfl, ?_⟩
       conv=>whnf
       refine ⟨fun b47=>?_,fun b47=>?_⟩
       ·
        replace hF := cf b47 hF
        conv=>whnf
        obtain ⟨r_7, hr7, hF⟩ := bs hF
        refine ⟨_,_,_,_,_,_,_,_,_,callX false [] [] 0 Tryz.func55 (by decide) rfl (ref04_in_ac x_0.Sequence (1 : Int) (999 : Int) r_7 hr7) rfl ⟨aq, aq, aq,trivial⟩ rfl trivial rfl rfl rfl lend0 trivial rfl, ?_⟩
        conv=>whnf
        refine ⟨fun b48=>?_,fun b48=>?_⟩
        ·
         replace hF := cf b48 hF
         conv=>whnf
         obtain ⟨r_8, hr8, hF⟩ := bs hF
         refine ⟨_,_,_,_,_,_,_,_,_,callX false [] [] 0 Tryz.func55 (by decide) rfl (ref04_in_ac x_0.Weight (0 : Int) (999 : Int) r_8 hr8) rfl ⟨aq, aq, aq,trivial⟩ rfl trivial rfl rfl rfl lend0 trivial rfl, ?_⟩
         conv=>whnf
         refine ⟨fun b49=>?_,fun b49=>?_⟩
         ·
          replace hF := cf b49 hF
          conv=>whnf
          obtain ⟨r_9, hr9, hF⟩ := bs hF
          refine ⟨_,_,_,_,_,_,_,_,_,callX false [] [] 0 Tryz.func55 (by decide) rfl (ref04_in_ac x_0.Exception (0 : Int) (3 : Int) r_9 hr9) rfl ⟨aq, aq, aq,trivial⟩ rfl trivial rfl rfl rfl lend0 trivial rfl, ?_⟩
          conv=>whnf
          refine ⟨fun b50=>?_,fun b50=>?_⟩
          ·
           replace hF := ct b50 hF
           conv=>whnf
           obtain rfl := si hF
           exact ret_gz [] [] [] rfl (argFl (by (conv=>lhs;whnf)<;>rfl)) trivial
          ·
           replace hF := cf b50 hF
           conv=>whnf
           obtain ⟨c_1, hc_1, hF⟩ := fin_some hF
           refine sw_bv 0 (v := .agg [.int .i64 x_0.Kind, .int .i64 x_0.Do, .str x_0.Port, .int .i64 x_0.Number, .str x_0.In.Flight.Carrier, .int .i64 x_0.In.Flight.Number, .str x_0.In.Flight.Suffix, .int .i64 x_0.In.Flight.Day, .str x_0.In.Port, .str x_0.In.Class, .str x_0.Out.Flight.Carrier, .int .i64 x_0.Out.Flight.Number, .str x_0.Out.Flight.Suffix, .int .i64 x_0.Out.Flight.Day, .str x_0.Out.Port, .str x_0.Out.Class, .lst 6 (x_0.Onward.map encLeg), .int .i64 x_0.First.Lead, .int .i64 x_0.First.Airline, .int .i64 x_0.First.Serial, .int .i64 x_0.Count, .bool x_0.Load, .int .i64 x_0.Status, .int .i64 x_0.Sequence, .int .i64 x_0.Weight, .str x_0.Surname, .str x_0.Given, .int .i64 x_0.Exception, .str x_0.Node, .lst 1 (x_0.List.map iA)]) (by (conv=>lhs;whnf)<;>rfl) (fun hb=>?_)
           have hbd_k_11 : x_0.List.length ≤ 9223372036854775807 := bnd_len (enc := iA) ((bnd_at hb.cell 29 rfl))
           refine sw_loop tab_ok follows_ok (fun y : Nat => y ≤ x_0.List.length ∧ ref04_counted_L1 (x_0.List.drop y) y = some c_1) (fun y => ⟨eL [(1, .ptr 0 0), (3, .int .i64 (y : Int))], hL [(0, .box [.int .i64 x_0.Kind, .int .i64 x_0.Do, .str x_0.Port, .int .i64 x_0.Number, .str x_0.In.Flight.Carrier, .int .i64 x_0.In.Flight.Number, .str x_0.In.Flight.Suffix, .int .i64 x_0.In.Flight.Day, .str x_0.In.Port, .str x_0.In.Class, .str x_0.Out.Flight.Carrier, .int .i64 x_0.Out.Flight.Number, .str x_0.Out.Flight.Suffix, .int .i64 x_0.Out.Flight.Day, .str x_0.Out.Port, .str x_0.Out.Class, .lst 6 (x_0.Onward.map encLeg), .int .i64 x_0.First.Lead, .int .i64 x_0.First.Airline, .int .i64 x_0.First.Serial, .int .i64 x_0.Count, .bool x_0.Load, .int .i64 x_0.Status, .int .i64 x_0.Sequence, .int .i64 x_0.Weight, .str x_0.Surname, .str x_0.Given, .int .i64 x_0.Exception, .str x_0.Node, .lst 1 (x_0.List.map iA)])], 1⟩) (fun y => x_0.List.length - y) 0 ⟨Nat.zero_le _, hc_1⟩ (wk_mk [0] [] [] rfl ⟨argP (id := 0) (by (conv=>lhs;whnf)<;>rfl) rfl, aq,trivial⟩ ⟨boxL rfl rfl rfl ⟨(.ni _ rfl), (.ni _ rfl), (.ni _ rfl), (.ni _ rfl), (.ni _ rfl), (.ni _ rfl), (.ni _ rfl), (.ni _ rfl), (.ni _ rfl), (.ni _ rfl), (.ni _ rfl), (.ni _ rfl), (.ni _ rfl), (.ni _ rfl), (.ni _ rfl), (.ni _ rfl), (.ni _ rfl), (.ni _ rfl), (.ni _ rfl), (.ni _ rfl), (.ni _ rfl), (.ni _ rfl), (.ni _ rfl), (.ni _ rfl), (.ni _ rfl), (.ni _ rfl), (.ni _ rfl), (.ni _ rfl), (.ni _ rfl), (.ni _ rfl),trivial⟩,trivial⟩) ?_
           rintro k_11 ⟨hk_k_11, hL1⟩
           try dsimp only at hk_k_11 hL1
           show awp _ _ _ _ _ _ ⟨eL [(1, .ptr 0 0), (3, .int .i64 (k_11 : Int))], hL [(0, .box [.int .i64 x_0.Kind, .int .i64 x_0.Do, .str x_0.Port, .int .i64 x_0.Number, .str x_0.In.Flight.Carrier, .int .i64 x_0.In.Flight.Number, .str x_0.In.Flight.Suffix, .int .i64 x_0.In.Flight.Day, .str x_0.In.Port, .str x_0.In.Class, .str x_0.Out.Flight.Carrier, .int .i64 x_0.Out.Flight.Number, .str x_0.Out.Flight.Suffix, .int .i64 x_0.Out.Flight.Day, .str x_0.Out.Port, .str x_0.Out.Class, .lst 6 (x_0.Onward.map encLeg), .int .i64 x_0.First.Lead, .int .i64 x_0.First.Airline, .int .i64 x_0.First.Serial, .int .i64 x_0.Count, .bool x_0.Load, .int .i64 x_0.Status, .int .i64 x_0.Sequence, .int .i64 x_0.Weight, .str x_0.Surname, .str x_0.Given, .int .i64 x_0.Exception, .str x_0.Node, .lst 1 (x_0.List.map iA)])], 1⟩
           conv=>whnf
           refine len_q (enc := iA) (l := x_0.List) rfl ?_
           conv=>whnf
           refine ⟨fun h=>?_,fun h=>?_⟩
           ·
            have lk11 : k_11 < x_0.List.length := by have h := of_decide_eq_true h; omega
            obtain ⟨e_12, he12⟩ : ∃ y, x_0.List[k_11]? = some y := ⟨_, List.getElem?_eq_getElem lk11⟩
            rw [drop_cons he12, ref04_counted_L1.eq_2] at hL1
            conv=>whnf
            refine ⟨k_11, _, rfl, ix_map he12, ?_⟩
            conv=>whnf
            obtain ⟨r_13, hr13, hL1⟩ := bs hL1
            refine ⟨_,_,_,_,_,_,_,_,_,callX false [] [] 0 Tryz.func55 (by decide) rfl (ref04_in_ac e_12 (1 : Int) (999 : Int) r_13 hr13) rfl ⟨aq, aq, aq,trivial⟩ rfl trivial rfl rfl rfl lend0 trivial rfl, ?_⟩
            conv=>whnf
            refine ⟨fun b51=>?_,fun b51=>?_⟩
            ·
             replace hL1 := ct b51 hL1
             conv=>whnf
             obtain rfl := si hL1
             replace hF := fin_ret hF
             obtain rfl := si hF
             exact ret_gz [] [] [] rfl (argFl (by (conv=>lhs;whnf)<;>rfl)) trivial
            ·
             replace hL1 := cf b51 hL1
             conv=>whnf
             refine ⟨((k_11 + 1 : Nat) : Int), wrapE (by omega) (by omega) (by omega), ?_⟩
             conv=>whnf
             exact ⟨k_11 + 1, [0], [], [], ⟨lk11, hL1⟩, by show x_0.List.length - (k_11 + 1) < x_0.List.length - k_11; omega, wk_mk [0] [] [] rfl ⟨argP (id := 0) (by (conv=>lhs;whnf)<;>rfl) rfl, aq,trivial⟩ ⟨boxL rfl rfl rfl ⟨(.ni _ rfl), (.ni _ rfl), (.ni _ rfl), (.ni _ rfl), (.ni _ rfl), (.ni _ rfl), (.ni _ rfl), (.ni _ rfl), (.ni _ rfl), (.ni _ rfl), (.ni _ rfl), (.ni _ rfl), (.ni _ rfl), (.ni _ rfl), (.ni _ rfl), (.ni _ rfl), (.ni _ rfl), (.ni _ rfl), (.ni _ rfl), (.ni _ rfl), (.ni _ rfl), (.ni _ rfl), (.ni _ rfl), (.ni _ rfl), (.ni _ rfl), (.ni _ rfl), (.ni _ rfl), (.ni _ rfl), (.ni _ rfl), (.ni _ rfl),trivial⟩,trivial⟩⟩
           ·
            rw [drop_nil (show x_0.List.length ≤ k_11 by have h := of_decide_eq_false h; omega), ref04_counted_L1.eq_1] at hL1
            conv=>whnf
            obtain rfl := si hL1
            replace hF := fin_brk hF
            try dsimp only at hF
            obtain rfl := si hF
            exact ret_gz [] [] [] rfl (argT (by (conv=>lhs;whnf)<;>rfl)) trivial
         ·
          replace hF := ct b49 hF
          conv=>whnf
          obtain rfl := si hF
          exact ret_gz [] [] [] rfl (argFl (by (conv=>lhs;whnf)<;>rfl)) trivial
        ·
         replace hF := ct b48 hF
         conv=>whnf
         obtain rfl := si hF
         exact ret_gz [] [] [] rfl (argFl (by (conv=>lhs;whnf)<;>rfl)) trivial
       ·
        replace hF := ct b47 hF
        conv=>whnf
        obtain rfl := si hF
        exact ret_gz [] [] [] rfl (argFl (by (conv=>lhs;whnf)<;>rfl)) trivial
      ·
       replace hF := ct b46 hF
       conv=>whnf
       obtain rfl := si hF
       exact ret_gz [] [] [] rfl (argFl (by (conv=>lhs;whnf)<;>rfl)) trivial
     ·
      replace hF := cf b45 hF
      conv=>whnf
      obtain ⟨c_1, hc_1, hF⟩ := fin_some hF
      refine sw_bv 0 (v := .agg [.int .i64 x_0.Kind, .int .i64 x_0.Do, .str x_0.Port, .int .i64 x_0.Number, .str x_0.In.Flight.Carrier, .int .i64 x_0.In.Flight.Number, .str x_0.In.Flight.Suffix, .int .i64 x_0.In.Flight.Day, .str x_0.In.Port, .str x_0.In.Class, .str x_0.Out.Flight.Carrier, .int .i64 x_0.Out.Flight.Number, .str x_0.Out.Flight.Suffix, .int .i64 x_0.Out.Flight.Day, .str x_0.Out.Port, .str x_0.Out.Class, .lst 6 (x_0.Onward.map encLeg), .int .i64 x_0.First.Lead, .int .i64 x_0.First.Airline, .int .i64 x_0.First.Serial, .int .i64 x_0.Count, .bool x_0.Load, .int .i64 x_0.Status, .int .i64 x_0.Sequence, .int .i64 x_0.Weight, .str x_0.Surname, .str x_0.Given, .int .i64 x_0.Exception, .str x_0.Node, .lst 1 (x_0.List.map iA)]) (by (conv=>lhs;whnf)<;>rfl) (fun hb=>?_)
      have hbd_k_17 : x_0.List.length ≤ 9223372036854775807 := bnd_len (enc := iA) ((bnd_at hb.cell 29 rfl))
      refine sw_loop tab_ok follows_ok (fun y : Nat => y ≤ x_0.List.length ∧ ref04_counted_L1 (x_0.List.drop y) y = some c_1) (fun y => ⟨eL [(1, .ptr 0 0), (3, .int .i64 (y : Int))], hL [(0, .box [.int .i64 x_0.Kind, .int .i64 x_0.Do, .str x_0.Port, .int .i64 x_0.Number, .str x_0.In.Flight.Carrier, .int .i64 x_0.In.Flight.Number, .str x_0.In.Flight.Suffix, .int .i64 x_0.In.Flight.Day, .str x_0.In.Port, .str x_0.In.Class, .str x_0.Out.Flight.Carrier, .int .i64 x_0.Out.Flight.Number, .str x_0.Out.Flight.Suffix, .int .i64 x_0.Out.Flight.Day, .str x_0.Out.Port, .str x_0.Out.Class, .lst 6 (x_0.Onward.map encLeg), .int .i64 x_0.First.Lead, .int .i64 x_0.First.Airline, .int .i64 x_0.First.Serial, .int .i64 x_0.Count, .bool x_0.Load, .int .i64 x_0.Status, .int .i64 x_0.Sequence, .int .i64 x_0.Weight, .str x_0.Surname, .str x_0.Given, .int .i64 x_0.Exception, .str x_0.Node, .lst 1 (x_0.List.map iA)])], 1⟩) (fun y => x_0.List.length - y) 0 ⟨Nat.zero_le _, hc_1⟩ (wk_mk [0] [] [] rfl ⟨argP (id := 0) (by (conv=>lhs;whnf)<;>rfl) rfl, aq,trivial⟩ ⟨boxL rfl rfl rfl ⟨(.ni _ rfl), (.ni _ rfl), (.ni _ rfl), (.ni _ rfl), (.ni _ rfl), (.ni _ rfl), (.ni _ rfl), (.ni _ rfl), (.ni _ rfl), (.ni _ rfl), (.ni _ rfl), (.ni _ rfl), (.ni _ rfl), (.ni _ rfl), (.ni _ rfl), (.ni _ rfl), (.ni _ rfl), (.ni _ rfl), (.ni _ rfl), (.ni _ rfl), (.ni _ rfl), (.ni _ rfl), (.ni _ rfl), (.ni _ rfl), (.ni _ rfl), (.ni _ rfl), (.ni _ rfl), (.ni _ rfl), (.ni _ rfl), (.ni _ rfl),trivial⟩,trivial⟩) ?_
      rintro k_17 ⟨hk_k_17, hL1⟩
      try dsimp only at hk_k_17 hL1
      show awp _ _ _ _ _ _ ⟨eL [(1, .ptr 0 0), (3, .int .i64 (k_17 : Int))], hL [(0, .box [.int .i64 x_0.Kind, .int .i64 x_0.Do, .str x_0.Port, .int .i64 x_0.Number, .str x_0.In.Flight.Carrier, .int .i64 x_0.In.Flight.Number, .str x_0.In.Flight.Suffix, .int .i64 x_0.In.Flight.Day, .str x_0.In.Port, .str x_0.In.Class, .str x_0.Out.Flight.Carrier, .int .i64 x_0.Out.Flight.Number, .str x_0.Out.Flight.Suffix, .int .i64 x_0.Out.Flight.Day, .str x_0.Out.Port, .str x_0.Out.Class, .lst 6 (x_0.Onward.map encLeg), .int .i64 x_0.First.Lead, .int .i64 x_0.First.Airline, .int .i64 x_0.First.Serial, .int .i64 x_0.Count, .bool x_0.Load, .int .i64 x_0.Status, .int .i64 x_0.Sequence, .int .i64 x_0.Weight, .str x_0.Surname, .str x_0.Given, .int .i64 x_0.Exception, .str x_0.Node, .lst 1 (x_0.List.map iA)])], 1⟩
      conv=>whnf
      refine len_q (enc := iA) (l := x_0.List) rfl ?_
      conv=>whnf
      refine ⟨fun h=>?_,fun h=>?_⟩
      ·
       have lk17 : k_17 < x_0.List.length := by have h := of_decide_eq_true h; omega
       obtain ⟨e_18, he18⟩ : ∃ y, x_0.List[k_17]? = some y := ⟨_, List.getElem?_eq_getElem lk17⟩
       rw [drop_cons he18, ref04_counted_L1.eq_2] at hL1
       conv=>whnf
       refine ⟨k_17, _, rfl, ix_map he18, ?_⟩
       conv=>whnf
       obtain ⟨r_19, hr19, hL1⟩ := bs hL1
       refine ⟨_,_,_,_,_,_,_,_,_,callX false [] [] 0 Tryz.func55 (by decide) rfl (ref04_in_ac e_18 (1 : Int) (999 : Int) r_19 hr19) rfl ⟨aq, aq, aq,trivial⟩ rfl trivial rfl rfl rfl lend0 trivial rfl, ?_⟩
       conv=>whnf
       refine ⟨fun b52=>?_,fun b52=>?_⟩
       ·
        replace hL1 := ct b52 hL1
        conv=>whnf
        obtain rfl := si hL1
        replace hF := fin_ret hF
        obtain rfl := si hF
        exact ret_gz [] [] [] rfl (argFl (by (conv=>lhs;whnf)<;>rfl)) trivial
       ·
        replace hL1 := cf b52 hL1
        conv=>whnf
        refine ⟨((k_17 + 1 : Nat) : Int), wrapE (by omega) (by omega) (by omega), ?_⟩
        conv=>whnf
        exact ⟨k_17 + 1, [0], [], [], ⟨lk17, hL1⟩, by show x_0.List.length - (k_17 + 1) < x_0.List.length - k_17; omega, wk_mk [0] [] [] rfl ⟨argP (id := 0) (by (conv=>lhs;whnf)<;>rfl) rfl, aq,trivial⟩ ⟨boxL rfl rfl rfl ⟨(.ni _ rfl), (.ni _ rfl), (.ni _ rfl), (.ni _ rfl), (.ni _ rfl), (.ni _ rfl), (.ni _ rfl), (.ni _ rfl), (.ni _ rfl), (.ni _ rfl), (.ni _ rfl), (.ni _ rfl), (.ni _ rfl), (.ni _ rfl), (.ni _ rfl), (.ni _ rfl), (.ni _ rfl), (.ni _ rfl), (.ni _ rfl), (.ni _ rfl), (.ni _ rfl), (.ni _ rfl), (.ni _ rfl), (.ni _ rfl), (.ni _ rfl), (.ni _ rfl), (.ni _ rfl), (.ni _ rfl), (.ni _ rfl), (.ni _ rfl),trivial⟩,trivial⟩⟩
      ·
       rw [drop_nil (show x_0.List.length ≤ k_17 by have h := of_decide_eq_false h; omega), ref04_counted_L1.eq_1] at hL1
       conv=>whnf
       obtain rfl := si hL1
       replace hF := fin_brk hF
       try dsimp only at hF
       obtain rfl := si hF
       exact ret_gz [] [] [] rfl (argT (by (conv=>lhs;whnf)<;>rfl)) trivial
   ·
    replace hF := ct b43 hF
    conv=>whnf
    obtain rfl := si hF
    exact ret_gz [] [] [] rfl (argFl (by (conv=>lhs;whnf)<;>rfl)) trivial
  ·
   replace hF := cf b42 hF
   conv=>whnf
   obtain ⟨r_22, hr22, hF⟩ := bs hF
   refine ⟨_,_,_,_,_,_,_,_,_,callX false [] [] 0 Tryz.func25 (by decide) rfl (ref04_Bag_ac x_0.Kind r_22 hr22) rfl ⟨aq,trivial⟩ rfl trivial rfl rfl rfl lend0 trivial rfl, ?_⟩
   conv=>whnf
   refine ⟨fun b53=>?_,fun b53=>?_⟩
   ·
    replace hF := ct b53 hF
    conv=>whnf
    obtain ⟨r_23, hr23, hF⟩ := bs hF
    refine ⟨_,_,_,_,_,_,_,_,_,callX false [] [] 0 Tryz.func55 (by decide) rfl (ref04_in_ac x_0.Do (0 : Int) (2 : Int) r_23 hr23) rfl ⟨aq, aq, aq,trivial⟩ rfl trivial rfl rfl rfl lend0 trivial rfl, ?_⟩
    conv=>whnf
    refine ⟨fun b54=>?_,fun b54=>?_⟩
    ·
     replace hF := cf b54 hF
     conv=>whnf
     obtain ⟨r_24, hr24, hF⟩ := bs hF
     refine ⟨_,_,_,_,_,_,_,_,_,callX false [] [] 0 Tryz.func55 (by decide) rfl (ref04_in_ac x_0.Status (1 : Int) (4 : Int) r_24 hr24) rfl ⟨aq, aq, aq,trivial⟩ rfl trivial rfl rfl rfl lend0 trivial rfl, ?_⟩
     conv=>whnf
     refine ⟨fun b55=>?_,fun b55=>?_⟩
     ·
      replace hF := cf b55 hF
      conv=>whnf
      obtain ⟨r_25, hr25, hF⟩ := bs hF
      refine ⟨_,_,_,_,_,_,_,_,_,callX false [] [] 0 Tryz.func55 (by decide) rfl (ref04_in_ac x_0.Sequence (1 : Int) (999 : Int) r_25 hr25) rfl ⟨aq, aq, aq,trivial⟩ rfl trivial rfl rfl rfl lend0 trivial rfl, ?_⟩
      conv=>whnf
      refine ⟨fun b56=>?_,fun b56=>?_⟩
      ·
       replace hF := cf b56 hF
       conv=>whnf
       obtain ⟨r_26, hr26, hF⟩ := bs hF
       refine ⟨_,_,_,_,_,_,_,_,_,callX false [] [] 0 Tryz.func55 (by decide) rfl (ref04_in_ac x_0.Weight (0 : Int) (999 : Int) r_26 hr26) rfl ⟨aq, aq, aq,trivial⟩ rfl trivial rfl rfl rfl lend0 trivial rfl, ?_⟩
       conv=>whnf
       refine ⟨fun b57=>?_,fun b57=>?_⟩
       ·
        replace hF := cf b57 hF
        conv=>whnf
        obtain ⟨r_27, hr27, hF⟩ := bs hF
        refine ⟨_,_,_,_,_,_,_,_,_,callX false [] [] 0 Tryz.func55 (by decide) rfl (ref04_in_ac x_0.Exception (0 : Int) (3 : Int) r_27 hr27) rfl ⟨aq, aq, aq,trivial⟩ rfl trivial rfl rfl rfl lend0 trivial rfl, ?_⟩
        conv=>whnf
        refine ⟨fun b58=>?_,fun b58=>?_⟩
        ·
         replace hF := ct b58 hF
         conv=>whnf
         obtain rfl := si hF
         exact ret_gz [] [] [] rfl (argFl (by (conv=>lhs;whnf)<;>rfl)) trivial
        ·
         replace hF := cf b58 hF
         conv=>whnf
         obtain ⟨c_1, hc_1, hF⟩ := fin_some hF
         refine sw_bv 0 (v := .agg [.int .i64 x_0.Kind, .int .i64 x_0.Do, .str x_0.Port, .int .i64 x_0.Number, .str x_0.In.Flight.Carrier, .int .i64 x_0.In.Flight.Number, .str x_0.In.Flight.Suffix, .int .i64 x_0.In.Flight.Day, .str x_0.In.Port, .str x_0.In.Class, .str x_0.Out.Flight.Carrier, .int .i64 x_0.Out.Flight.Number, .str x_0.Out.Flight.Suffix, .int .i64 x_0.Out.Flight.Day, .str x_0.Out.Port, .str x_0.Out.Class, .lst 6 (x_0.Onward.map encLeg), .int .i64 x_0.First.Lead, .int .i64 x_0.First.Airline, .int .i64 x_0.First.Serial, .int .i64 x_0.Count, .bool x_0.Load, .int .i64 x_0.Status, .int .i64 x_0.Sequence, .int .i64 x_0.Weight, .str x_0.Surname, .str x_0.Given, .int .i64 x_0.Exception, .str x_0.Node, .lst 1 (x_0.List.map iA)]) (by (conv=>lhs;whnf)<;>rfl) (fun hb=>?_)
         have hbd_k_29 : x_0.List.length ≤ 9223372036854775807 := bnd_len (enc := iA) ((bnd_at hb.cell 29 rfl))
         refine sw_loop tab_ok follows_ok (fun y : Nat => y ≤ x_0.List.length ∧ ref04_counted_L1 (x_0.List.drop y) y = some c_1) (fun y => ⟨eL [(1, .ptr 0 0), (3, .int .i64 (y : Int))], hL [(0, .box [.int .i64 x_0.Kind, .int .i64 x_0.Do, .str x_0.Port, .int .i64 x_0.Number, .str x_0.In.Flight.Carrier, .int .i64 x_0.In.Flight.Number, .str x_0.In.Flight.Suffix, .int .i64 x_0.In.Flight.Day, .str x_0.In.Port, .str x_0.In.Class, .str x_0.Out.Flight.Carrier, .int .i64 x_0.Out.Flight.Number, .str x_0.Out.Flight.Suffix, .int .i64 x_0.Out.Flight.Day, .str x_0.Out.Port, .str x_0.Out.Class, .lst 6 (x_0.Onward.map encLeg), .int .i64 x_0.First.Lead, .int .i64 x_0.First.Airline, .int .i64 x_0.First.Serial, .int .i64 x_0.Count, .bool x_0.Load, .int .i64 x_0.Status, .int .i64 x_0.Sequence, .int .i64 x_0.Weight, .str x_0.Surname, .str x_0.Given, .int .i64 x_0.Exception, .str x_0.Node, .lst 1 (x_0.List.map iA)])], 1⟩) (fun y => x_0.List.length - y) 0 ⟨Nat.zero_le _, hc_1⟩ (wk_mk [0] [] [] rfl ⟨argP (id := 0) (by (conv=>lhs;whnf)<;>rfl) rfl, aq,trivial⟩ ⟨boxL rfl rfl rfl ⟨(.ni _ rfl), (.ni _ rfl), (.ni _ rfl), (.ni _ rfl), (.ni _ rfl), (.ni _ rfl), (.ni _ rfl), (.ni _ rfl), (.ni _ rfl), (.ni _ rfl), (.ni _ rfl), (.ni _ rfl), (.ni _ rfl), (.ni _ rfl), (.ni _ rfl), (.ni _ rfl), (.ni _ rfl), (.ni _ rfl), (.ni _ rfl), (.ni _ rfl), (.ni _ rfl), (.ni _ rfl), (.ni _ rfl), (.ni _ rfl), (.ni _ rfl), (.ni _ rfl), (.ni _ rfl), (.ni _ rfl), (.ni _ rfl), (.ni _ rfl),trivial⟩,trivial⟩) ?_
         rintro k_29 ⟨hk_k_29, hL1⟩
         try dsimp only at hk_k_29 hL1
         show awp _ _ _ _ _ _ ⟨eL [(1, .ptr 0 0), (3, .int .i64 (k_29 : Int))], hL [(0, .box [.int .i64 x_0.Kind, .int .i64 x_0.Do, .str x_0.Port, .int .i64 x_0.Number, .str x_0.In.Flight.Carrier, .int .i64 x_0.In.Flight.Number, .str x_0.In.Flight.Suffix, .int .i64 x_0.In.Flight.Day, .str x_0.In.Port, .str x_0.In.Class, .str x_0.Out.Flight.Carrier, .int .i64 x_0.Out.Flight.Number, .str x_0.Out.Flight.Suffix, .int .i64 x_0.Out.Flight.Day, .str x_0.Out.Port, .str x_0.Out.Class, .lst 6 (x_0.Onward.map encLeg), .int .i64 x_0.First.Lead, .int .i64 x_0.First.Airline, .int .i64 x_0.First.Serial, .int .i64 x_0.Count, .bool x_0.Load, .int .i64 x_0.Status, .int .i64 x_0.Sequence, .int .i64 x_0.Weight, .str x_0.Surname, .str x_0.Given, .int .i64 x_0.Exception, .str x_0.Node, .lst 1 (x_0.List.map iA)])], 1⟩
         conv=>whnf
         refine len_q (enc := iA) (l := x_0.List) rfl ?_
         conv=>whnf
         refine ⟨fun h=>?_,fun h=>?_⟩
         ·
          have lk29 : k_29 < x_0.List.length := by have h := of_decide_eq_true h; omega
          obtain ⟨e_30, he30⟩ : ∃ y, x_0.List[k_29]? = some y := ⟨_, List.getElem?_eq_getElem lk29⟩
          rw [drop_cons he30, ref04_counted_L1.eq_2] at hL1
          conv=>whnf
          refine ⟨k_29, _, rfl, ix_map he30, ?_⟩
          conv=>whnf
          obtain ⟨r_31, hr31, hL1⟩ := bs hL1
          refine ⟨_,_,_,_,_,_,_,_,_,callX false [] [] 0 Tryz.func55 (by decide) rfl (ref04_in_ac e_30 (1 : Int) (999 : Int) r_31 hr31) rfl ⟨aq, aq, aq,trivial⟩ rfl trivial rfl rfl rfl lend0 trivial rfl, ?_⟩
          conv=>whnf
          refine ⟨fun b59=>?_,fun b59=>?_⟩
          ·
           replace hL1 := ct b59 hL1
           conv=>whnf
           obtain rfl := si hL1
           replace hF := fin_ret hF
           obtain rfl := si hF
           exact ret_gz [] [] [] rfl (argFl (by (conv=>lhs;whnf)<;>rfl)) trivial
          ·
           replace hL1 := cf b59 hL1
           conv=>whnf
           refine ⟨((k_29 + 1 : Nat) : Int), wrapE (by omega) (by omega) (by omega), ?_⟩
           conv=>whnf
           exact ⟨k_29 + 1, [0], [], [], ⟨lk29, hL1⟩, by show x_0.List.length - (k_29 + 1) < x_0.List.length - k_29; omega, wk_mk [0] [] [] rfl ⟨argP (id := 0) (by (conv=>lhs;whnf)<;>rfl) rfl, aq,trivial⟩ ⟨boxL rfl rfl rfl ⟨(.ni _ rfl), (.ni _ rfl), (.ni _ rfl), (.ni _ rfl), (.ni _ rfl), (.ni _ rfl), (.ni _ rfl), (.ni _ rfl), (.ni _ rfl), (.ni _ rfl), (.ni _ rfl), (.ni _ rfl), (.ni _ rfl), (.ni _ rfl), (.ni _ rfl), (.ni _ rfl), (.ni _ rfl), (.ni _ rfl), (.ni _ rfl), (.ni _ rfl), (.ni _ rfl), (.ni _ rfl), (.ni _ rfl), (.ni _ rfl), (.ni _ rfl), (.ni _ rfl), (.ni _ rfl), (.ni _ rfl), (.ni _ rfl), (.ni _ rfl),trivial⟩,trivial⟩⟩
         ·
          rw [drop_nil (show x_0.List.length ≤ k_29 by have h := of_decide_eq_false h; omega), ref04_counted_L1.eq_1] at hL1
          conv=>whnf
          obtain rfl := si hL1
          replace hF := fin_brk hF
          try dsimp only at hF
          obtain rfl := si hF
          exact ret_gz [] [] [] rfl (argT (by (conv=>lhs;whnf)<;>rfl)) trivial
       ·
        replace hF := ct b57 hF
        conv=>whnf
        obtain rfl := si hF
        exact ret_gz [] [] [] rfl (argFl (by (conv=>lhs;whnf)<;>rfl)) trivial
      ·
       replace hF := ct b56 hF
       conv=>whnf
       obtain rfl := si hF
       exact ret_gz [] [] [] rfl (argFl (by (conv=>lhs;whnf)<;>rfl)) trivial
     ·
      replace hF := ct b55 hF
      conv=>whnf
      obtain rfl := si hF
      exact ret_gz [] [] [] rfl (argFl (by (conv=>lhs;whnf)<;>rfl)) trivial
    ·
     replace hF := ct b54 hF
     conv=>whnf
     obtain rfl := si hF
     exact ret_gz [] [] [] rfl (argFl (by (conv=>lhs;whnf)<;>rfl)) trivial
   ·
    replace hF := cf b53 hF
    conv=>whnf
    obtain ⟨c_1, hc_1, hF⟩ := fin_some hF
    refine sw_bv 0 (v := .agg [.int .i64 x_0.Kind, .int .i64 x_0.Do, .str x_0.Port, .int .i64 x_0.Number, .str x_0.In.Flight.Carrier, .int .i64 x_0.In.Flight.Number, .str x_0.In.Flight.Suffix, .int .i64 x_0.In.Flight.Day, .str x_0.In.Port, .str x_0.In.Class, .str x_0.Out.Flight.Carrier, .int .i64 x_0.Out.Flight.Number, .str x_0.Out.Flight.Suffix, .int .i64 x_0.Out.Flight.Day, .str x_0.Out.Port, .str x_0.Out.Class, .lst 6 (x_0.Onward.map encLeg), .int .i64 x_0.First.Lead, .int .i64 x_0.First.Airline, .int .i64 x_0.First.Serial, .int .i64 x_0.Count, .bool x_0.Load, .int .i64 x_0.Status, .int .i64 x_0.Sequence, .int .i64 x_0.Weight, .str x_0.Surname, .str x_0.Given, .int .i64 x_0.Exception, .str x_0.Node, .lst 1 (x_0.List.map iA)]) (by (conv=>lhs;whnf)<;>rfl) (fun hb=>?_)
    have hbd_k_35 : x_0.List.length ≤ 9223372036854775807 := bnd_len (enc := iA) ((bnd_at hb.cell 29 rfl))
    refine sw_loop tab_ok follows_ok (fun y : Nat => y ≤ x_0.List.length ∧ ref04_counted_L1 (x_0.List.drop y) y = some c_1) (fun y => ⟨eL [(1, .ptr 0 0), (3, .int .i64 (y : Int))], hL [(0, .box [.int .i64 x_0.Kind, .int .i64 x_0.Do, .str x_0.Port, .int .i64 x_0.Number, .str x_0.In.Flight.Carrier, .int .i64 x_0.In.Flight.Number, .str x_0.In.Flight.Suffix, .int .i64 x_0.In.Flight.Day, .str x_0.In.Port, .str x_0.In.Class, .str x_0.Out.Flight.Carrier, .int .i64 x_0.Out.Flight.Number, .str x_0.Out.Flight.Suffix, .int .i64 x_0.Out.Flight.Day, .str x_0.Out.Port, .str x_0.Out.Class, .lst 6 (x_0.Onward.map encLeg), .int .i64 x_0.First.Lead, .int .i64 x_0.First.Airline, .int .i64 x_0.First.Serial, .int .i64 x_0.Count, .bool x_0.Load, .int .i64 x_0.Status, .int .i64 x_0.Sequence, .int .i64 x_0.Weight, .str x_0.Surname, .str x_0.Given, .int .i64 x_0.Exception, .str x_0.Node, .lst 1 (x_0.List.map iA)])], 1⟩) (fun y => x_0.List.length - y) 0 ⟨Nat.zero_le _, hc_1⟩ (wk_mk [0] [] [] rfl ⟨argP (id := 0) (by (conv=>lhs;whnf)<;>rfl) rfl, aq,trivial⟩ ⟨boxL rfl rfl rfl ⟨(.ni _ rfl), (.ni _ rfl), (.ni _ rfl), (.ni _ rfl), (.ni _ rfl), (.ni _ rfl), (.ni _ rfl), (.ni _ rfl), (.ni _ rfl), (.ni _ rfl), (.ni _ rfl), (.ni _ rfl), (.ni _ rfl), (.ni _ rfl), (.ni _ rfl), (.ni _ rfl), (.ni _ rfl), (.ni _ rfl), (.ni _ rfl), (.ni _ rfl), (.ni _ rfl), (.ni _ rfl), (.ni _ rfl), (.ni _ rfl), (.ni _ rfl), (.ni _ rfl), (.ni _ rfl), (.ni _ rfl), (.ni _ rfl), (.ni _ rfl),trivial⟩,trivial⟩) ?_
    rintro k_35 ⟨hk_k_35, hL1⟩
    try dsimp only at hk_k_35 hL1
    show awp _ _ _ _ _ _ ⟨eL [(1, .ptr 0 0), (3, .int .i64 (k_35 : Int))], hL [(0, .box [.int .i64 x_0.Kind, .int .i64 x_0.Do, .str x_0.Port, .int .i64 x_0.Number, .str x_0.In.Flight.Carrier, .int .i64 x_0.In.Flight.Number, .str x_0.In.Flight.Suffix, .int .i64 x_0.In.Flight.Day, .str x_0.In.Port, .str x_0.In.Class, .str x_0.Out.Flight.Carrier, .int .i64 x_0.Out.Flight.Number, .str x_0.Out.Flight.Suffix, .int .i64 x_0.Out.Flight.Day, .str x_0.Out.Port, .str x_0.Out.Class, .lst 6 (x_0.Onward.map encLeg), .int .i64 x_0.First.Lead, .int .i64 x_0.First.Airline, .int .i64 x_0.First.Serial, .int .i64 x_0.Count, .bool x_0.Load, .int .i64 x_0.Status, .int .i64 x_0.Sequence, .int .i64 x_0.Weight, .str x_0.Surname, .str x_0.Given, .int .i64 x_0.Exception, .str x_0.Node, .lst 1 (x_0.List.map iA)])], 1⟩
    conv=>whnf
    refine len_q (enc := iA) (l := x_0.List) rfl ?_
    conv=>whnf
    refine ⟨fun h=>?_,fun h=>?_⟩
    ·
     have lk35 : k_35 < x_0.List.length := by have h := of_decide_eq_true h; omega
     obtain ⟨e_36, he36⟩ : ∃ y, x_0.List[k_35]? = some y := ⟨_, List.getElem?_eq_getElem lk35⟩
     rw [drop_cons he36, ref04_counted_L1.eq_2] at hL1
     conv=>whnf
     refine ⟨k_35, _, rfl, ix_map he36, ?_⟩
     conv=>whnf
     obtain ⟨r_37, hr37, hL1⟩ := bs hL1
     refine ⟨_,_,_,_,_,_,_,_,_,callX false [] [] 0 Tryz.func55 (by decide) rfl (ref04_in_ac e_36 (1 : Int) (999 : Int) r_37 hr37) rfl ⟨aq, aq, aq,trivial⟩ rfl trivial rfl rfl rfl lend0 trivial rfl, ?_⟩
     conv=>whnf
     refine ⟨fun b60=>?_,fun b60=>?_⟩
     ·
      replace hL1 := ct b60 hL1
      conv=>whnf
      obtain rfl := si hL1
      replace hF := fin_ret hF
      obtain rfl := si hF
      exact ret_gz [] [] [] rfl (argFl (by (conv=>lhs;whnf)<;>rfl)) trivial
     ·
      replace hL1 := cf b60 hL1
      conv=>whnf
      refine ⟨((k_35 + 1 : Nat) : Int), wrapE (by omega) (by omega) (by omega), ?_⟩
      conv=>whnf
      exact ⟨k_35 + 1, [0], [], [], ⟨lk35, hL1⟩, by show x_0.List.length - (k_35 + 1) < x_0.List.length - k_35; omega, wk_mk [0] [] [] rfl ⟨argP (id := 0) (by (conv=>lhs;whnf)<;>rfl) rfl, aq,trivial⟩ ⟨boxL rfl rfl rfl ⟨(.ni _ rfl), (.ni _ rfl), (.ni _ rfl), (.ni _ rfl), (.ni _ rfl), (.ni _ rfl), (.ni _ rfl), (.ni _ rfl), (.ni _ rfl), (.ni _ rfl), (.ni _ rfl), (.ni _ rfl), (.ni _ rfl), (.ni _ rfl), (.ni _ rfl), (.ni _ rfl), (.ni _ rfl), (.ni _ rfl), (.ni _ rfl), (.ni _ rfl), (.ni _ rfl), (.ni _ rfl), (.ni _ rfl), (.ni _ rfl), (.ni _ rfl), (.ni _ rfl), (.ni _ rfl), (.ni _ rfl), (.ni _ rfl), (.ni _ rfl),trivial⟩,trivial⟩⟩
    ·
     rw [drop_nil (show x_0.List.length ≤ k_35 by have h := of_decide_eq_false h; omega), ref04_counted_L1.eq_1] at hL1
     conv=>whnf
     obtain rfl := si hL1
     replace hF := fin_brk hF
     try dsimp only at hF
     obtain rfl := si hF
     exact ret_gz [] [] [] rfl (argT (by (conv=>lhs;whnf)<;>rfl)) trivial
 ·
  replace hF := ct b41 hF
  conv=>whnf
  obtain rfl := si hF
  exact ret_gz [] [] [] rfl (argFl (by (conv=>lhs;whnf)<;>rfl)) trivial

theorem ref04_Validate_ac (x_0 : Message) (r : Int) (hF : ref04_Validate x_0 = some r) : AC Tryz.prog 21 [.agg (encMessage x_0)] [] (.int .i64 r) [] := by
 refine ac_of tab_ok follows_ok Tryz.func21 rfl Tryz.ntmps21 rfl ?_
 unfold ref04_Validate at hF
 conv=>whnf
 obtain ⟨r_1, hr1, hF⟩ := bs hF
 refine ⟨_,_,_,_,_,_,_,_,_,callX false [] [] 0 Tryz.func55 (by decide) rfl (ref04_in_ac x_0.Kind (1 : Int) (5 : Int) r_1 hr1) rfl ⟨aq, aq, aq,trivial⟩ rfl trivial rfl rfl rfl lend0 trivial rfl, ?_⟩
 conv=>whnf
 refine ⟨fun b15=>?_,fun b15=>?_⟩
 ·
  replace hF := ct b15 hF
  conv=>whnf
  obtain rfl := si hF
  exact ret_gz [] [] [] rfl aq trivial
 ·
  replace hF := cf b15 hF
  conv=>whnf
  obtain ⟨r_2, hr2, hF⟩ := bs hF
  refine ⟨_,_,_,_,_,_,_,_,_,callX false [] [] 0 Tryz.func57 (by decide) rfl (ref04_own_ac x_0 r_2 hr2) rfl ⟨aq,trivial⟩ rfl trivial rfl rfl rfl lend0 trivial rfl, ?_⟩
  conv=>whnf
  obtain ⟨r_3, hr3, hF⟩ := bs hF
  refine ⟨_,_,_,_,_,_,_,_,_,callX false [] [] 0 Tryz.func56 (by decide) rfl (ref04_Same_ac x_0 r_2 r_3 hr3) rfl ⟨aq, aq,trivial⟩ rfl trivial rfl rfl rfl lend0 trivial rfl, ?_⟩
  conv=>whnf
  refine ⟨by kernel_rfl, ?_⟩
  conv=>whnf
  refine ⟨fun b16=>?_,fun b16=>?_⟩
  ·
   replace hF := ct b16 hF
   conv=>whnf
   obtain rfl := si hF
   exact ret_gz [] [] [] rfl aq trivial
  ·
   replace hF := cf b16 hF
   conv=>whnf
   refine len_q (enc := encLeg) (l := x_0.Onward) rfl ?_
   conv=>whnf
   refine ⟨fun b17=>?_,fun b17=>?_⟩
   ·
    replace hF := cf b17 hF
    conv=>whnf
    refine len_q (enc := iA) (l := x_0.List) rfl ?_
    conv=>whnf
    refine ⟨fun b18=>?_,fun b18=>?_⟩
    ·
     replace hF := ct b18 hF
     conv=>whnf
     obtain rfl := si hF
     exact ret_gz [] [] [] rfl aq trivial
    ·
     replace hF := cf b18 hF
     conv=>whnf
     obtain ⟨r_4, hr4, hF⟩ := bs hF
     refine ⟨_,_,_,_,_,_,_,_,_,callX false [] [] 0 Tryz.func58 (by decide) rfl (ref04_spelled_ac x_0 r_4 hr4) rfl ⟨aq,trivial⟩ rfl trivial rfl rfl rfl lend0 trivial rfl, ?_⟩
     conv=>whnf
     refine ⟨fun b19=>?_,fun b19=>?_⟩
     ·
      replace hF := ct b19 hF
      conv=>whnf
      obtain rfl := si hF
      exact ret_gz [] [] [] rfl aq trivial
     ·
      replace hF := cf b19 hF
      conv=>whnf
      obtain ⟨r_5, hr5, hF⟩ := bs hF
      refine ⟨_,_,_,_,_,_,_,_,_,callX false [] [] 0 Tryz.func59 (by decide) rfl (ref04_counted_ac x_0 r_5 hr5) rfl ⟨aq,trivial⟩ rfl trivial rfl rfl rfl lend0 trivial rfl, ?_⟩
      conv=>whnf
      refine ⟨fun b20=>?_,fun b20=>?_⟩
      ·
       replace hF := ct b20 hF
       conv=>whnf
       obtain rfl := si hF
       exact ret_gz [] [] [] rfl aq trivial
      ·
       replace hF := cf b20 hF
       conv=>whnf
       obtain ⟨c_1, hc_1, hF⟩ := fin_some hF
       refine sw_loop tab_ok follows_ok (fun y : Nat × Int => ref04_Validate_L1 x_0 y.1 y.2 = some c_1) (fun y => ⟨eL [(1, .ptr 0 0), (3, .int .i64 y.2)], hL [(0, .box [.int .i64 x_0.Kind, .int .i64 x_0.Do, .str x_0.Port, .int .i64 x_0.Number, .str x_0.In.Flight.Carrier, .int .i64 x_0.In.Flight.Number, .str x_0.In.Flight.Suffix, .int .i64 x_0.In.Flight.Day, .str x_0.In.Port, .str x_0.In.Class, .str x_0.Out.Flight.Carrier, .int .i64 x_0.Out.Flight.Number, .str x_0.Out.Flight.Suffix, .int .i64 x_0.Out.Flight.Day, .str x_0.Out.Port, .str x_0.Out.Class, .lst 6 (x_0.Onward.map encLeg), .int .i64 x_0.First.Lead, .int .i64 x_0.First.Airline, .int .i64 x_0.First.Serial, .int .i64 x_0.Count, .bool x_0.Load, .int .i64 x_0.Status, .int .i64 x_0.Sequence, .int .i64 x_0.Weight, .str x_0.Surname, .str x_0.Given, .int .i64 x_0.Exception, .str x_0.Node, .lst 1 (x_0.List.map iA)])], 1⟩) (fun y => y.1) (9223372036854775807, (1 : Int)) hc_1 (wk_mk [0] [] [] rfl ⟨argP (id := 0) (by (conv=>lhs;whnf)<;>rfl) rfl, aq,trivial⟩ ⟨boxL rfl rfl rfl ⟨(.ni _ rfl), (.ni _ rfl), (.ni _ rfl), (.ni _ rfl), (.ni _ rfl), (.ni _ rfl), (.ni _ rfl), (.ni _ rfl), (.ni _ rfl), (.ni _ rfl), (.ni _ rfl), (.ni _ rfl), (.ni _ rfl), (.ni _ rfl), (.ni _ rfl), (.ni _ rfl), (.ni _ rfl), (.ni _ rfl), (.ni _ rfl), (.ni _ rfl), (.ni _ rfl), (.ni _ rfl), (.ni _ rfl), (.ni _ rfl), (.ni _ rfl), (.ni _ rfl), (.ni _ rfl), (.ni _ rfl), (.ni _ rfl), (.ni _ rfl),trivial⟩,trivial⟩) ?_
       rintro ⟨q_9, i_6⟩ hL1
       try dsimp only at hL1
       rcases q_9 with _ | q_9
       ·
        rw [ref04_Validate_L1.eq_1] at hL1
        cases hL1
       rw [ref04_Validate_L1.eq_2] at hL1
       show awp _ _ _ _ _ _ ⟨eL [(1, .ptr 0 0), (3, .int .i64 i_6)], hL [(0, .box [.int .i64 x_0.Kind, .int .i64 x_0.Do, .str x_0.Port, .int .i64 x_0.Number, .str x_0.In.Flight.Carrier, .int .i64 x_0.In.Flight.Number, .str x_0.In.Flight.Suffix, .int .i64 x_0.In.Flight.Day, .str x_0.In.Port, .str x_0.In.Class, .str x_0.Out.Flight.Carrier, .int .i64 x_0.Out.Flight.Number, .str x_0.Out.Flight.Suffix, .int .i64 x_0.Out.Flight.Day, .str x_0.Out.Port, .str x_0.Out.Class, .lst 6 (x_0.Onward.map encLeg), .int .i64 x_0.First.Lead, .int .i64 x_0.First.Airline, .int .i64 x_0.First.Serial, .int .i64 x_0.Count, .bool x_0.Load, .int .i64 x_0.Status, .int .i64 x_0.Sequence, .int .i64 x_0.Weight, .str x_0.Surname, .str x_0.Given, .int .i64 x_0.Exception, .str x_0.Node, .lst 1 (x_0.List.map iA)])], 1⟩
       conv=>whnf
       refine len_q (enc := iA) (l := x_0.List) rfl ?_
       conv=>whnf
       refine ⟨fun b21=>?_,fun b21=>?_⟩
       ·
        replace hL1 := ct b21 hL1
        conv=>whnf
        obtain ⟨e_7, he7, hL1⟩ := bs hL1
        refine ix_q (enc := iA) (l := x_0.List) he7 rfl (fun m_e_7 hm_e_7 hx_e_7=>?_)
        conv=>whnf
        refine ⟨_, rfl, ?_⟩
        conv=>whnf
        obtain ⟨e_8, he8, hL1⟩ := bs hL1
        refine ix_q (enc := iA) (l := x_0.List) he8 rfl (fun m_e_8 hm_e_8 hx_e_8=>?_)
        conv=>whnf
        refine ⟨by kernel_rfl, ?_⟩
        conv=>whnf
        refine ⟨fun b22=>?_,fun b22=>?_⟩
        ·
         replace hL1 := ct b22 hL1
         conv=>whnf
         obtain rfl := si hL1
         replace hF := fin_ret hF
         obtain rfl := si hF
         exact ret_gz [] [] [] rfl aq trivial
        ·
         replace hL1 := cf b22 hL1
         conv=>whnf
         refine ⟨_, rfl, ?_⟩
         conv=>whnf
         exact ⟨(q_9, (w64 (i_6 + (1 : Int)))), [0], [], [], hL1, Nat.lt_succ_self _, wk_mk [0] [] [] rfl ⟨argP (id := 0) (by (conv=>lhs;whnf)<;>rfl) rfl, aq,trivial⟩ ⟨boxL rfl rfl rfl ⟨(.ni _ rfl), (.ni _ rfl), (.ni _ rfl), (.ni _ rfl), (.ni _ rfl), (.ni _ rfl), (.ni _ rfl), (.ni _ rfl), (.ni _ rfl), (.ni _ rfl), (.ni _ rfl), (.ni _ rfl), (.ni _ rfl), (.ni _ rfl), (.ni _ rfl), (.ni _ rfl), (.ni _ rfl), (.ni _ rfl), (.ni _ rfl), (.ni _ rfl), (.ni _ rfl), (.ni _ rfl), (.ni _ rfl), (.ni _ rfl), (.ni _ rfl), (.ni _ rfl), (.ni _ rfl), (.ni _ rfl), (.ni _ rfl), (.ni _ rfl),trivial⟩,trivial⟩⟩
       ·
        replace hL1 := cf b21 hL1
        conv=>whnf
        obtain rfl := si hL1
        replace hF := fin_brk hF
        try dsimp only at hF
        obtain rfl := si hF
        exact ret_gz [] [] [] rfl aq trivial
   ·
    replace hF := ct b17 hF
    conv=>whnf
    obtain rfl := si hF
    exact ret_gz [] [] [] rfl aq trivial

theorem ref01_Run_ac (x_0 : Plate) (x_1 : Int) (r : (List Plate) × Int) (hF : ref01_Run x_0 x_1 = some r) : AC Tryz.prog 60 [.agg (encPlate x_0), .int .i64 x_1] [] (.tup [.lst 3 (r.1.map encPlate), .int .i64 r.2]) [] := by
 refine ac_of tab_ok follows_ok Tryz.func60 rfl Tryz.ntmps60 rfl ?_
 unfold ref01_Run at hF
 conv=>whnf
 obtain ⟨r_1, hr1, hF⟩ := bs hF
 refine ⟨_,_,_,_,_,_,_,_,_,callX false [] [] 0 Tryz.func53 (by decide) rfl (ref01_Valid_ac x_0 r_1 hr1) rfl ⟨aq,trivial⟩ rfl trivial rfl rfl rfl lend0 trivial rfl, ?_⟩
 conv=>whnf
 refine ⟨fun b8=>?_,fun b8=>?_⟩
 ·
  replace hF := cf b8 hF
  conv=>whnf
  refine ⟨fun b9=>?_,fun b9=>?_⟩
  ·
   replace hF := cf b9 hF
   conv=>whnf
   refine ⟨fun b10=>?_,fun b10=>?_⟩
   ·
    replace hF := ct b10 hF
    conv=>whnf
    obtain rfl := si hF
    exact ret_gz [] [] [] rfl (tupL rfl ⟨(argN (by (conv=>lhs;whnf)<;>rfl)), aq,trivial⟩) trivial
   ·
    replace hF := cf b10 hF
    conv=>whnf
    obtain ⟨c_1, hc_1, hF⟩ := fin_some hF
    refine sw_loop tab_ok follows_ok (fun y : Nat × (List Plate) × Int => ref01_Run_L1 x_0 x_1 y.1 y.2.1 y.2.2 = some c_1) (fun y => ⟨eL [(1, .int .i64 x_1), (2, .ptr 0 0), (6, .osl 1), (7, .int .i64 y.2.2)], hL [(0, .box [.int .i64 x_0.Lead, .int .i64 x_0.Airline, .int .i64 x_0.Serial]), (1, .row 3 (y.2.1.map encPlate))], 2⟩) (fun y => y.1) (9223372036854775807, ([] : List Plate), (0 : Int)) hc_1 (wk_mk [0] [1] [] rfl ⟨aq, argP (id := 0) (by (conv=>lhs;whnf)<;>rfl) rfl, argZ (by (conv=>lhs;whnf)<;>rfl) rfl, aq,trivial⟩ ⟨boxL rfl rfl rfl ⟨(.ni _ rfl), (.ni _ rfl), (.ni _ rfl),trivial⟩, blkZ rfl,trivial⟩) ?_
    rintro ⟨q_5, a_2, i_3⟩ hL1
    try dsimp only at hL1
    rcases q_5 with _ | q_5
    ·
     rw [ref01_Run_L1.eq_1] at hL1
     cases hL1
    rw [ref01_Run_L1.eq_2] at hL1
    show awp _ _ _ _ _ _ ⟨eL [(1, .int .i64 x_1), (2, .ptr 0 0), (6, .osl 1), (7, .int .i64 i_3)], hL [(0, .box [.int .i64 x_0.Lead, .int .i64 x_0.Airline, .int .i64 x_0.Serial]), (1, .row 3 (a_2.map encPlate))], 2⟩
    conv=>whnf
    refine ⟨fun b11=>?_,fun b11=>?_⟩
    ·
     replace hL1 := ct b11 hL1
     conv=>whnf
     refine ⟨_, rfl, ?_⟩
     conv=>whnf
     refine ⟨by decide, _, rfl, ?_⟩
     conv=>whnf
     obtain ⟨l_4, hl4, hL1⟩ := bs hL1
     refine ap_q (enc := encPlate) (l := a_2) (y := ([(⟨x_0.Lead, x_0.Airline, ((w64 (x_0.Serial + i_3)).tmod (1000000 : Int))⟩ : Plate)] : List Plate)) hl4 rfl rfl (by decide) ?_
     conv=>whnf
     refine ⟨_, rfl, ?_⟩
     conv=>whnf
     exact ⟨(q_5, l_4, (w64 (i_3 + (1 : Int)))), [0, 3], [], [], hL1, Nat.lt_succ_self _, wk_mk [0, 3] [] [] rfl ⟨aq, argP (id := 0) (by (conv=>lhs;whnf)<;>rfl) rfl, argO (id := 3) (by (conv=>lhs;whnf)<;>rfl) rfl, aq,trivial⟩ ⟨boxL rfl rfl rfl ⟨(.ni _ rfl), (.ni _ rfl), (.ni _ rfl),trivial⟩, blkR (fun _ => ⟨rfl, rfl⟩) rfl rfl,trivial⟩⟩
    ·
     replace hL1 := cf b11 hL1
     conv=>whnf
     obtain rfl := si hL1
     replace hF := fin_brk hF
     try dsimp only at hF
     obtain rfl := si hF
     exact ret_gz [] [] [1] rfl (tupL rfl ⟨(argOL 1 (by (conv=>lhs;whnf)<;>rfl) rfl rfl (map_ni (fun _ => ⟨rfl, rfl⟩) _)), aq,trivial⟩) trivial
  ·
   replace hF := ct b9 hF
   conv=>whnf
   obtain rfl := si hF
   exact ret_gz [] [] [] rfl (tupL rfl ⟨(argN (by (conv=>lhs;whnf)<;>rfl)), aq,trivial⟩) trivial
 ·
  replace hF := ct b8 hF
  conv=>whnf
  obtain rfl := si hF
  exact ret_gz [] [] [] rfl (tupL rfl ⟨(argN (by (conv=>lhs;whnf)<;>rfl)), aq,trivial⟩) trivial

theorem ref04_Plates_ac (x_0 : Message) (r : (List Plate)) (hF : ref04_Plates x_0 = some r) : AC Tryz.prog 22 [.agg (encMessage x_0)] [] (.lst 3 (r.map encPlate)) [] := by
 refine ac_of tab_ok follows_ok Tryz.func22 rfl Tryz.ntmps22 rfl ?_
 unfold ref04_Plates at hF
 conv=>whnf
 obtain ⟨r_1, hr1, hF⟩ := bs hF
 refine ⟨_,_,_,_,_,_,_,_,_,callX false [] [] 0 Tryz.func60 (by decide) rfl (ref01_Run_ac x_0.First x_0.Count r_1 hr1) rfl ⟨aq, aq,trivial⟩ rfl trivial rfl rfl rfl lend0 trivial rfl, ?_⟩
 conv=>whnf
 obtain rfl := si hF
 exact ret_gz [] [] [] rfl aq trivial

theorem ref06_index_ac (x_0 : Registry) (x_1 : Plate) (r : Int) (hF : ref06_index x_0 x_1 = some r) : AC Tryz.prog 61 [.agg (encRegistry x_0), .agg (encPlate x_1)] [] (.int .i64 r) [] := by
 refine ac_of tab_ok follows_ok Tryz.func61 rfl Tryz.ntmps61 rfl ?_
 unfold ref06_index at hF
 conv=>whnf
 obtain ⟨c_1, hc_1, hF⟩ := fin_some hF
 refine sw_bv 0 (v := .agg [.lst 25 (x_0.L.map encBag)]) (by (conv=>lhs;whnf)<;>rfl) (fun hb=>?_)
 have hbd_k_2 : x_0.L.length ≤ 9223372036854775807 := bnd_len (enc := encBag) ((bnd_at hb.cell 0 rfl))
 refine sw_loop tab_ok follows_ok (fun y : Nat => y ≤ x_0.L.length ∧ ref06_index_L1 x_1 (x_0.L.drop y) y = some c_1) (fun y => ⟨eL [(2, .ptr 0 0), (3, .ptr 1 0), (5, .int .i64 (y : Int))], hL [(0, .box [.lst 25 (x_0.L.map encBag)]), (1, .box [.int .i64 x_1.Lead, .int .i64 x_1.Airline, .int .i64 x_1.Serial])], 2⟩) (fun y => x_0.L.length - y) 0 ⟨Nat.zero_le _, hc_1⟩ (wk_mk [0, 1] [] [] rfl ⟨argP (id := 0) (by (conv=>lhs;whnf)<;>rfl) rfl, argP (id := 1) (by (conv=>lhs;whnf)<;>rfl) rfl, aq,trivial⟩ ⟨boxL rfl rfl rfl ⟨(.ni _ rfl),trivial⟩, boxL rfl rfl rfl ⟨(.ni _ rfl), (.ni _ rfl), (.ni _ rfl),trivial⟩,trivial⟩) ?_
 rintro k_2 ⟨hk_k_2, hL1⟩
 try dsimp only at hk_k_2 hL1
 show awp _ _ _ _ _ _ ⟨eL [(2, .ptr 0 0), (3, .ptr 1 0), (5, .int .i64 (k_2 : Int))], hL [(0, .box [.lst 25 (x_0.L.map encBag)]), (1, .box [.int .i64 x_1.Lead, .int .i64 x_1.Airline, .int .i64 x_1.Serial])], 2⟩
 conv=>whnf
 refine len_q (enc := encBag) (l := x_0.L) rfl ?_
 conv=>whnf
 refine ⟨fun h=>?_,fun h=>?_⟩
 ·
  have lk2 : k_2 < x_0.L.length := by have h := of_decide_eq_true h; omega
  obtain ⟨e_3, he3⟩ : ∃ y, x_0.L[k_2]? = some y := ⟨_, List.getElem?_eq_getElem lk2⟩
  rw [drop_cons he3, ref06_index_L1.eq_2] at hL1
  conv=>whnf
  refine ⟨k_2, _, rfl, ix_map he3, ?_⟩
  conv=>whnf
  refine ⟨by kernel_rfl, ?_⟩
  conv=>whnf
  refine ⟨fun b7=>?_,fun b7=>?_⟩
  ·
   replace hL1 := ct b7 hL1
   conv=>whnf
   obtain rfl := si hL1
   replace hF := fin_ret hF
   obtain rfl := si hF
   exact ret_gz [] [] [] rfl aq trivial
  ·
   replace hL1 := cf b7 hL1
   conv=>whnf
   refine ⟨((k_2 + 1 : Nat) : Int), wrapE (by omega) (by omega) (by omega), ?_⟩
   conv=>whnf
   exact ⟨k_2 + 1, [0, 1], [], [], ⟨lk2, hL1⟩, by show x_0.L.length - (k_2 + 1) < x_0.L.length - k_2; omega, wk_mk [0, 1] [] [] rfl ⟨argP (id := 0) (by (conv=>lhs;whnf)<;>rfl) rfl, argP (id := 1) (by (conv=>lhs;whnf)<;>rfl) rfl, aq,trivial⟩ ⟨boxL rfl rfl rfl ⟨(.ni _ rfl),trivial⟩, boxL rfl rfl rfl ⟨(.ni _ rfl), (.ni _ rfl), (.ni _ rfl),trivial⟩,trivial⟩⟩
 ·
  rw [drop_nil (show x_0.L.length ≤ k_2 by have h := of_decide_eq_false h; omega), ref06_index_L1.eq_1] at hL1
  conv=>whnf
  obtain rfl := si hL1
  replace hF := fin_brk hF
  try dsimp only at hF
  obtain rfl := si hF
  exact ret_gz [] [] [] rfl aq trivial
end Go.Proofs.YtkliakcegihikaaGreat.Ex
