/- The functions of the program compute what was printed; walks printed by a program. -/
import Derived.Test.YtkliakcegihikaaGreatExF
import Derived.Test.YtkliakcegihikaaGreatSq
import Derived.Test.YtkliakcegihikaaGreatInsMessage
import Derived.Test.YtkliakcegihikaaGreatInzMessage
import Derived.Test.YtkliakcegihikaaGreatInzSender
import Derived.Test.YtkliakcegihikaaGreatStrC
import Derived.Test.YtkliakcegihikaaGreatExP3
namespace Go.Proofs.YtkliakcegihikaaGreat.Ex
open Go.RowKit Go.Proofs.YtkliakcegihikaaGreat.Ax
set_option linter.unusedVariables false
set_option linter.unusedSimpArgs false
set_option maxRecDepth 100000
set_option maxHeartbeats 40000000
theorem message_shaped_ac (x_0 : Message) (r : Bool) (hF : message_shaped x_0 = some r) : AC Tryz.prog 64 [.agg (encMessage x_0)] [] (.bool r) [] := by
 refine ac_of tab_ok follows_ok Tryz.func64 rfl Tryz.ntmps64 rfl ?_
 unfold message_shaped at hF
 conv=>whnf
 obtain ⟨r_1, hr1, hF⟩ := bs hF
 refine ⟨_,_,_,_,_,_,_,_,_,callX false [] [] 0 Tryz.func93 (by decide) rfl (flight_ValidPort_ac x_0.Port r_1 hr1) rfl ⟨aq,trivial⟩ rfl trivial rfl rfl rfl lend0 trivial rfl, ?_⟩
 conv=>whnf
 refine ⟨fun b44=>?_,fun b44=>?_⟩
 ·
  replace hF := cf b44 hF
  conv=>whnf
  refine ⟨fun b45=>?_,fun b45=>?_⟩
  ·
   replace hF := ct b45 hF
   conv=>whnf
   obtain ⟨r_2, hr2, hF⟩ := bs hF
   refine ⟨_,_,_,_,_,_,_,_,_,callX false [] [] 0 Tryz.func94 (by decide) rfl (flight_ValidLeg_ac x_0.In r_2 hr2) rfl ⟨aq,trivial⟩ rfl trivial rfl rfl rfl lend0 trivial rfl, ?_⟩
   conv=>whnf
   refine ⟨fun b46=>?_,fun b46=>?_⟩
   ·
    replace hF := cf b46 hF
    conv=>whnf
    refine ⟨fun b47=>?_,fun b47=>?_⟩
    ·
     replace hF := ct b47 hF
     conv=>whnf
     obtain ⟨r_3, hr3, hF⟩ := bs hF
     refine ⟨_,_,_,_,_,_,_,_,_,callX false [] [] 0 Tryz.func94 (by decide) rfl (flight_ValidLeg_ac x_0.Out r_3 hr3) rfl ⟨aq,trivial⟩ rfl trivial rfl rfl rfl lend0 trivial rfl, ?_⟩
     conv=>whnf
     refine ⟨fun b48=>?_,fun b48=>?_⟩
     ·
      replace hF := ct b48 hF
      conv=>whnf
      obtain rfl := si hF
      exact ret_gz [] [] [] rfl (argFl (by (conv=>lhs;whnf)<;>rfl)) trivial
     ·
      replace hF := cf b48 hF
      conv=>whnf
      refine len_q (enc := encLeg) (l := x_0.Onward) rfl ?_
      conv=>whnf
      obtain ⟨c_1, hc_1, hF⟩ := fin_some hF
      refine sw_bv 0 (v := .agg [.int .i64 x_0.Kind, .int .i64 x_0.Do, .str x_0.Port, .int .i64 x_0.Number, .str x_0.In.Flight.Carrier, .int .i64 x_0.In.Flight.Number, .str x_0.In.Flight.Suffix, .int .i64 x_0.In.Flight.Day, .str x_0.In.Port, .str x_0.In.Class, .str x_0.Out.Flight.Carrier, .int .i64 x_0.Out.Flight.Number, .str x_0.Out.Flight.Suffix, .int .i64 x_0.Out.Flight.Day, .str x_0.Out.Port, .str x_0.Out.Class, .lst 6 (x_0.Onward.map encLeg), .int .i64 x_0.First.Lead, .int .i64 x_0.First.Airline, .int .i64 x_0.First.Serial, .int .i64 x_0.Count, .bool x_0.Load, .int .i64 x_0.Status, .int .i64 x_0.Sequence, .int .i64 x_0.Weight, .str x_0.Surname, .str x_0.Given, .int .i64 x_0.Exception, .str x_0.Node, .lst 1 (x_0.List.map iA)]) (by (conv=>lhs;whnf)<;>rfl) (fun hb=>?_)
      have hbd_k_5 : x_0.Onward.length ≤ 9223372036854775807 := bnd_len (enc := encLeg) ((bnd_at hb.cell 16 rfl))
      refine sw_loop tab_ok follows_ok (fun y : Nat => y ≤ x_0.Onward.length ∧ message_shaped_L1 (x_0.Onward.drop y) y = some c_1) (fun y => ⟨eL [(1, .ptr 0 0), (32, .lst 6 (x_0.Onward.map encLeg)), (33, .int .i64 (x_0.Onward.length : Int)), (34, .int .i64 (y : Int))], hL [(0, .box [.int .i64 x_0.Kind, .int .i64 x_0.Do, .str x_0.Port, .int .i64 x_0.Number, .str x_0.In.Flight.Carrier, .int .i64 x_0.In.Flight.Number, .str x_0.In.Flight.Suffix, .int .i64 x_0.In.Flight.Day, .str x_0.In.Port, .str x_0.In.Class, .str x_0.Out.Flight.Carrier, .int .i64 x_0.Out.Flight.Number, .str x_0.Out.Flight.Suffix, .int .i64 x_0.Out.Flight.Day, .str x_0.Out.Port, .str x_0.Out.Class, .lst 6 (x_0.Onward.map encLeg), .int .i64 x_0.First.Lead, .int .i64 x_0.First.Airline, .int .i64 x_0.First.Serial, .int .i64 x_0.Count, .bool x_0.Load, .int .i64 x_0.Status, .int .i64 x_0.Sequence, .int .i64 x_0.Weight, .str x_0.Surname, .str x_0.Given, .int .i64 x_0.Exception, .str x_0.Node, .lst 1 (x_0.List.map iA)])], 1⟩) (fun y => x_0.Onward.length - y) 0 ⟨Nat.zero_le _, hc_1⟩ (wk_mk [0] [] [] rfl ⟨argP (id := 0) (by (conv=>lhs;whnf)<;>rfl) rfl, aq, aq, aq,trivial⟩ ⟨boxL rfl rfl rfl ⟨(.ni _ rfl), (.ni _ rfl), (.ni _ rfl), (.ni _ rfl), (.ni _ rfl), (.ni _ rfl), (.ni _ rfl), (.ni _ rfl), (.ni _ rfl), (.ni _ rfl), (.ni _ rfl), (.ni _ rfl), (.ni _ rfl), (.ni _ rfl), (.ni _ rfl), (.ni _ rfl), (.ni _ rfl), (.ni _ rfl), (.ni _ rfl), (.ni _ rfl), (.ni _ rfl), (.ni _ rfl), (.ni _ rfl), (.ni _ rfl), (.ni _ rfl), (.ni _ rfl), (.ni _ rfl), (.ni _ rfl), (.ni _ rfl), (.ni _ rfl),trivial⟩,trivial⟩) ?_
      rintro k_5 ⟨hk_k_5, hL1⟩
      try dsimp only at hk_k_5 hL1
      show awp _ _ _ _ _ _ ⟨eL [(1, .ptr 0 0), (32, .lst 6 (x_0.Onward.map encLeg)), (33, .int .i64 (x_0.Onward.length : Int)), (34, .int .i64 (k_5 : Int))], hL [(0, .box [.int .i64 x_0.Kind, .int .i64 x_0.Do, .str x_0.Port, .int .i64 x_0.Number, .str x_0.In.Flight.Carrier, .int .i64 x_0.In.Flight.Number, .str x_0.In.Flight.Suffix, .int .i64 x_0.In.Flight.Day, .str x_0.In.Port, .str x_0.In.Class, .str x_0.Out.Flight.Carrier, .int .i64 x_0.Out.Flight.Number, .str x_0.Out.Flight.Suffix, .int .i64 x_0.Out.Flight.Day, .str x_0.Out.Port, .str x_0.Out.Class, .lst 6 (x_0.Onward.map encLeg), .int .i64 x_0.First.Lead, .int .i64 x_0.First.Airline, .int .i64 x_0.First.Serial, .int .i64 x_0.Count, .bool x_0.Load, .int .i64 x_0.Status, .int .i64 x_0.Sequence, .int .i64 x_0.Weight, .str x_0.Surname, .str x_0.Given, .int .i64 x_0.Exception, .str x_0.Node, .lst 1 (x_0.List.map iA)])], 1⟩
      conv=>whnf
      refine ⟨fun h=>?_,fun h=>?_⟩
      ·
       have lk5 : k_5 < x_0.Onward.length := by have h := of_decide_eq_true h; omega
       obtain ⟨e_6, he6⟩ : ∃ y, x_0.Onward[k_5]? = some y := ⟨_, List.getElem?_eq_getElem lk5⟩
       rw [drop_cons he6, message_shaped_L1.eq_2] at hL1
       conv=>whnf
       refine ⟨k_5, _, rfl, ix_map he6, ?_⟩
       conv=>whnf
       obtain ⟨r_7, hr7, hL1⟩ := bs hL1
       refine ⟨_,_,_,_,_,_,_,_,_,callX false [] [] 0 Tryz.func94 (by decide) rfl (flight_ValidLeg_ac e_6 r_7 hr7) rfl ⟨aq,trivial⟩ rfl trivial rfl rfl rfl lend0 trivial rfl, ?_⟩
       conv=>whnf
       refine ⟨fun b49=>?_,fun b49=>?_⟩
       ·
        replace hL1 := ct b49 hL1
        conv=>whnf
        obtain rfl := si hL1
        replace hF := fin_ret hF
        obtain rfl := si hF
        exact ret_gz [] [] [] rfl (argFl (by (conv=>lhs;whnf)<;>rfl)) trivial
       ·
        replace hL1 := cf b49 hL1
        conv=>whnf
        refine ⟨((k_5 + 1 : Nat) : Int), wrapE (by omega) (by omega) (by omega), ?_⟩
        conv=>whnf
        exact ⟨k_5 + 1, [0], [], [], ⟨lk5, hL1⟩, by show x_0.Onward.length - (k_5 + 1) < x_0.Onward.length - k_5; omega, wk_mk [0] [] [] rfl ⟨argP (id := 0) (by (conv=>lhs;whnf)<;>rfl) rfl, aq, aq, aq,trivial⟩ ⟨boxL rfl rfl rfl ⟨(.ni _ rfl), (.ni _ rfl), (.ni _ rfl), (.ni _ rfl), (.ni _ rfl), (.ni _ rfl), (.ni _ rfl), (.ni _ rfl), (.ni _ rfl), (.ni _ rfl), (.ni _ rfl), (.ni _ rfl), (.ni _ rfl), (.ni _ rfl), (.ni _ rfl), (.ni _ rfl), (.ni _ rfl), (.ni _ rfl), (.ni _ rfl), (.ni _ rfl), (.ni _ rfl), (.ni _ rfl), (.ni _ rfl), (.ni _ rfl), (.ni _ rfl), (.ni _ rfl), (.ni _ rfl), (.ni _ rfl), (.ni _ rfl), (.ni _ rfl),trivial⟩,trivial⟩⟩
      ·
       rw [drop_nil (show x_0.Onward.length ≤ k_5 by have h := of_decide_eq_false h; omega), message_shaped_L1.eq_1] at hL1
       conv=>whnf
       obtain rfl := si hL1
       replace hF := fin_brk hF
       try dsimp only at hF
       obtain ⟨r_10, hr10, hF⟩ := bs hF
       refine ⟨_,_,_,_,_,_,_,_,_,callX false [] [] 0 Tryz.func95 (by decide) rfl (message_describes_ac x_0.Kind r_10 hr10) rfl ⟨aq,trivial⟩ rfl trivial rfl rfl rfl lend0 trivial rfl, ?_⟩
       conv=>whnf
       refine ⟨fun b50=>?_,fun b50=>?_⟩
       ·
        replace hF := ct b50 hF
        conv=>whnf
        obtain ⟨r_11, hr11, hF⟩ := bs hF
        refine ⟨_,_,_,_,_,_,_,_,_,callX false [] [] 0 Tryz.func96 (by decide) rfl (fields_Letters_ac x_0.Surname (1 : Int) (20 : Int) r_11 hr11) rfl ⟨aq, aq, aq,trivial⟩ rfl trivial rfl rfl rfl lend0 trivial rfl, ?_⟩
        conv=>whnf
        refine ⟨fun b51=>?_,fun b51=>?_⟩
        ·
         replace hF := cf b51 hF
         conv=>whnf
         obtain ⟨r_12, hr12, hF⟩ := bs hF
         refine ⟨_,_,_,_,_,_,_,_,_,callX false [] [] 0 Tryz.func96 (by decide) rfl (fields_Letters_ac x_0.Given (0 : Int) (20 : Int) r_12 hr12) rfl ⟨aq, aq, aq,trivial⟩ rfl trivial rfl rfl rfl lend0 trivial rfl, ?_⟩
         conv=>whnf
         refine ⟨fun b52=>?_,fun b52=>?_⟩
         ·
          replace hF := ct b52 hF
          conv=>whnf
          obtain rfl := si hF
          exact ret_gz [] [] [] rfl (argFl (by (conv=>lhs;whnf)<;>rfl)) trivial
         ·
          replace hF := cf b52 hF
          conv=>whnf
          refine ⟨fun h=>?_,fun h=>?_⟩
          ·
           cases (b47).symm.trans h
          ·
           conv=>whnf
           obtain rfl := si hF
           exact ret_gz [] [] [] rfl (argT (by (conv=>lhs;whnf)<;>rfl)) trivial
        ·
         replace hF := ct b51 hF
         conv=>whnf
         obtain rfl := si hF
         exact ret_gz [] [] [] rfl (argFl (by (conv=>lhs;whnf)<;>rfl)) trivial
       ·
        replace hF := cf b50 hF
        conv=>whnf
        refine ⟨fun h=>?_,fun h=>?_⟩
        ·
         cases (b47).symm.trans h
        ·
         conv=>whnf
         obtain rfl := si hF
         exact ret_gz [] [] [] rfl (argT (by (conv=>lhs;whnf)<;>rfl)) trivial
    ·
     replace hF := cf b47 hF
     conv=>whnf
     refine len_q (enc := encLeg) (l := x_0.Onward) rfl ?_
     conv=>whnf
     obtain ⟨c_1, hc_1, hF⟩ := fin_some hF
     refine sw_bv 0 (v := .agg [.int .i64 x_0.Kind, .int .i64 x_0.Do, .str x_0.Port, .int .i64 x_0.Number, .str x_0.In.Flight.Carrier, .int .i64 x_0.In.Flight.Number, .str x_0.In.Flight.Suffix, .int .i64 x_0.In.Flight.Day, .str x_0.In.Port, .str x_0.In.Class, .str x_0.Out.Flight.Carrier, .int .i64 x_0.Out.Flight.Number, .str x_0.Out.Flight.Suffix, .int .i64 x_0.Out.Flight.Day, .str x_0.Out.Port, .str x_0.Out.Class, .lst 6 (x_0.Onward.map encLeg), .int .i64 x_0.First.Lead, .int .i64 x_0.First.Airline, .int .i64 x_0.First.Serial, .int .i64 x_0.Count, .bool x_0.Load, .int .i64 x_0.Status, .int .i64 x_0.Sequence, .int .i64 x_0.Weight, .str x_0.Surname, .str x_0.Given, .int .i64 x_0.Exception, .str x_0.Node, .lst 1 (x_0.List.map iA)]) (by (conv=>lhs;whnf)<;>rfl) (fun hb=>?_)
     have hbd_k_14 : x_0.Onward.length ≤ 9223372036854775807 := bnd_len (enc := encLeg) ((bnd_at hb.cell 16 rfl))
     refine sw_loop tab_ok follows_ok (fun y : Nat => y ≤ x_0.Onward.length ∧ message_shaped_L1 (x_0.Onward.drop y) y = some c_1) (fun y => ⟨eL [(1, .ptr 0 0), (32, .lst 6 (x_0.Onward.map encLeg)), (33, .int .i64 (x_0.Onward.length : Int)), (34, .int .i64 (y : Int))], hL [(0, .box [.int .i64 x_0.Kind, .int .i64 x_0.Do, .str x_0.Port, .int .i64 x_0.Number, .str x_0.In.Flight.Carrier, .int .i64 x_0.In.Flight.Number, .str x_0.In.Flight.Suffix, .int .i64 x_0.In.Flight.Day, .str x_0.In.Port, .str x_0.In.Class, .str x_0.Out.Flight.Carrier, .int .i64 x_0.Out.Flight.Number, .str x_0.Out.Flight.Suffix, .int .i64 x_0.Out.Flight.Day, .str x_0.Out.Port, .str x_0.Out.Class, .lst 6 (x_0.Onward.map encLeg), .int .i64 x_0.First.Lead, .int .i64 x_0.First.Airline, .int .i64 x_0.First.Serial, .int .i64 x_0.Count, .bool x_0.Load, .int .i64 x_0.Status, .int .i64 x_0.Sequence, .int .i64 x_0.Weight, .str x_0.Surname, .str x_0.Given, .int .i64 x_0.Exception, .str x_0.Node, .lst 1 (x_0.List.map iA)])], 1⟩) (fun y => x_0.Onward.length - y) 0 ⟨Nat.zero_le _, hc_1⟩ (wk_mk [0] [] [] rfl ⟨argP (id := 0) (by (conv=>lhs;whnf)<;>rfl) rfl, aq, aq, aq,trivial⟩ ⟨boxL rfl rfl rfl ⟨(.ni _ rfl), (.ni _ rfl), (.ni _ rfl), (.ni _ rfl), (.ni _ rfl), (.ni _ rfl), (.ni _ rfl), (.ni _ rfl), (.ni _ rfl), (.ni _ rfl), (.ni _ rfl), (.ni _ rfl), (.ni _ rfl), (.ni _ rfl), (.ni _ rfl), (.ni _ rfl), (.ni _ rfl), (.ni _ rfl), (.ni _ rfl), (.ni _ rfl), (.ni _ rfl), (.ni _ rfl), (.ni _ rfl), (.ni _ rfl), (.ni _ rfl), (.ni _ rfl), (.ni _ rfl), (.ni _ rfl), (.ni _ rfl), (.ni _ rfl),trivial⟩,trivial⟩) ?_
     rintro k_14 ⟨hk_k_14, hL1⟩
     try dsimp only at hk_k_14 hL1
     show awp _ _ _ _ _ _ ⟨eL [(1, .ptr 0 0), (32, .lst 6 (x_0.Onward.map encLeg)), (33, .int .i64 (x_0.Onward.length : Int)), (34, .int .i64 (k_14 : Int))], hL [(0, .box [.int .i64 x_0.Kind, .int .i64 x_0.Do, .str x_0.Port, .int .i64 x_0.Number, .str x_0.In.Flight.Carrier, .int .i64 x_0.In.Flight.Number, .str x_0.In.Flight.Suffix, .int .i64 x_0.In.Flight.Day, .str x_0.In.Port, .str x_0.In.Class, .str x_0.Out.Flight.Carrier, .int .i64 x_0.Out.Flight.Number, .str x_0.Out.Flight.Suffix, .int .i64 x_0.Out.Flight.Day, .str x_0.Out.Port, .str x_0.Out.Class, .lst 6 (x_0.Onward.map encLeg), .int .i64 x_0.First.Lead, .int .i64 x_0.First.Airline, .int .i64 x_0.First.Serial, .int .i64 x_0.Count, .bool x_0.Load, .int .i64 x_0.Status, .int .i64 x_0.Sequence, .int .i64 x_0.Weight, .str x_0.Surname, .str x_0.Given, .int .i64 x_0.Exception, .str x_0.Node, .lst 1 (x_0.List.map iA)])], 1⟩
     conv=>whnf
     refine ⟨fun h=>?_,fun h=>?_⟩
     ·
      have lk14 : k_14 < x_0.Onward.length := by have h := of_decide_eq_true h; omega
      obtain ⟨e_15, he15⟩ : ∃ y, x_0.Onward[k_14]? = some y := ⟨_, List.getElem?_eq_getElem lk14⟩
      rw [drop_cons he15, message_shaped_L1.eq_2] at hL1
      conv=>whnf
      refine ⟨k_14, _, rfl, ix_map he15, ?_⟩
      conv=>whnf
      obtain ⟨r_16, hr16, hL1⟩ := bs hL1
      refine ⟨_,_,_,_,_,_,_,_,_,callX false [] [] 0 Tryz.func94 (by decide) rfl (flight_ValidLeg_ac e_15 r_16 hr16) rfl ⟨aq,trivial⟩ rfl trivial rfl rfl rfl lend0 trivial rfl, ?_⟩
      conv=>whnf
      refine ⟨fun b53=>?_,fun b53=>?_⟩
      ·
       replace hL1 := ct b53 hL1
       conv=>whnf
       obtain rfl := si hL1
       replace hF := fin_ret hF
       obtain rfl := si hF
       exact ret_gz [] [] [] rfl (argFl (by (conv=>lhs;whnf)<;>rfl)) trivial
      ·
       replace hL1 := cf b53 hL1
       conv=>whnf
       refine ⟨((k_14 + 1 : Nat) : Int), wrapE (by omega) (by omega) (by omega), ?_⟩
       conv=>whnf
       exact ⟨k_14 + 1, [0], [], [], ⟨lk14, hL1⟩, by show x_0.Onward.length - (k_14 + 1) < x_0.Onward.length - k_14; omega, wk_mk [0] [] [] rfl ⟨argP (id := 0) (by (conv=>lhs;whnf)<;>rfl) rfl, aq, aq, aq,trivial⟩ ⟨boxL rfl rfl rfl ⟨(.ni _ rfl), (.ni _ rfl), (.ni _ rfl), (.ni _ rfl), (.ni _ rfl), (.ni _ rfl), (.ni _ rfl), (.ni _ rfl), (.ni _ rfl), (.ni _ rfl), (.ni _ rfl), (.ni _ rfl), (.ni _ rfl), (.ni _ rfl), (.ni _ rfl), (.ni _ rfl), (.ni _ rfl), (.ni _ rfl), (.ni _ rfl), (.ni _ rfl), (.ni _ rfl), (.ni _ rfl), (.ni _ rfl), (.ni _ rfl), (.ni _ rfl), (.ni _ rfl), (.ni _ rfl), (.ni _ rfl), (.ni _ rfl), (.ni _ rfl),trivial⟩,trivial⟩⟩
     ·
      rw [drop_nil (show x_0.Onward.length ≤ k_14 by have h := of_decide_eq_false h; omega), message_shaped_L1.eq_1] at hL1
      conv=>whnf
      obtain rfl := si hL1
      replace hF := fin_brk hF
      try dsimp only at hF
      obtain ⟨r_19, hr19, hF⟩ := bs hF
      refine ⟨_,_,_,_,_,_,_,_,_,callX false [] [] 0 Tryz.func95 (by decide) rfl (message_describes_ac x_0.Kind r_19 hr19) rfl ⟨aq,trivial⟩ rfl trivial rfl rfl rfl lend0 trivial rfl, ?_⟩
      conv=>whnf
      refine ⟨fun b54=>?_,fun b54=>?_⟩
      ·
       replace hF := ct b54 hF
       conv=>whnf
       obtain ⟨r_20, hr20, hF⟩ := bs hF
       refine ⟨_,_,_,_,_,_,_,_,_,callX false [] [] 0 Tryz.func96 (by decide) rfl (fields_Letters_ac x_0.Surname (1 : Int) (20 : Int) r_20 hr20) rfl ⟨aq, aq, aq,trivial⟩ rfl trivial rfl rfl rfl lend0 trivial rfl, ?_⟩
       conv=>whnf
       refine ⟨fun b55=>?_,fun b55=>?_⟩
       ·
        replace hF := cf b55 hF
        conv=>whnf
        obtain ⟨r_21, hr21, hF⟩ := bs hF
        refine ⟨_,_,_,_,_,_,_,_,_,callX false [] [] 0 Tryz.func96 (by decide) rfl (fields_Letters_ac x_0.Given (0 : Int) (20 : Int) r_21 hr21) rfl ⟨aq, aq, aq,trivial⟩ rfl trivial rfl rfl rfl lend0 trivial rfl, ?_⟩
        conv=>whnf
        refine ⟨fun b56=>?_,fun b56=>?_⟩
        ·
         replace hF := ct b56 hF
         conv=>whnf
         obtain rfl := si hF
         exact ret_gz [] [] [] rfl (argFl (by (conv=>lhs;whnf)<;>rfl)) trivial
        ·
         replace hF := cf b56 hF
         conv=>whnf
         refine ⟨fun h=>?_,fun h=>?_⟩
         ·
          conv=>whnf
          obtain ⟨r_22, hr22, hF⟩ := bs hF
          refine ⟨_,_,_,_,_,_,_,_,_,callX false [] [] 0 Tryz.func97 (by decide) rfl (fields_Name_ac x_0.Node (12 : Int) r_22 hr22) rfl ⟨aq, aq,trivial⟩ rfl trivial rfl rfl rfl lend0 trivial rfl, ?_⟩
          conv=>whnf
          obtain rfl := si hF
          exact ret_gz [] [] [] rfl aq trivial
         ·
          cases (b47).symm.trans h
       ·
        replace hF := ct b55 hF
        conv=>whnf
        obtain rfl := si hF
        exact ret_gz [] [] [] rfl (argFl (by (conv=>lhs;whnf)<;>rfl)) trivial
      ·
       replace hF := cf b54 hF
       conv=>whnf
       refine ⟨fun h=>?_,fun h=>?_⟩
       ·
        conv=>whnf
        obtain ⟨r_23, hr23, hF⟩ := bs hF
        refine ⟨_,_,_,_,_,_,_,_,_,callX false [] [] 0 Tryz.func97 (by decide) rfl (fields_Name_ac x_0.Node (12 : Int) r_23 hr23) rfl ⟨aq, aq,trivial⟩ rfl trivial rfl rfl rfl lend0 trivial rfl, ?_⟩
        conv=>whnf
        obtain rfl := si hF
        exact ret_gz [] [] [] rfl aq trivial
       ·
        cases (b47).symm.trans h
   ·
    replace hF := ct b46 hF
    conv=>whnf
    obtain rfl := si hF
    exact ret_gz [] [] [] rfl (argFl (by (conv=>lhs;whnf)<;>rfl)) trivial
  ·
   replace hF := cf b45 hF
   conv=>whnf
   refine ⟨fun b57=>?_,fun b57=>?_⟩
   ·
    replace hF := ct b57 hF
    conv=>whnf
    obtain ⟨r_24, hr24, hF⟩ := bs hF
    refine ⟨_,_,_,_,_,_,_,_,_,callX false [] [] 0 Tryz.func94 (by decide) rfl (flight_ValidLeg_ac x_0.Out r_24 hr24) rfl ⟨aq,trivial⟩ rfl trivial rfl rfl rfl lend0 trivial rfl, ?_⟩
    conv=>whnf
    refine ⟨fun b58=>?_,fun b58=>?_⟩
    ·
     replace hF := ct b58 hF
     conv=>whnf
     obtain rfl := si hF
     exact ret_gz [] [] [] rfl (argFl (by (conv=>lhs;whnf)<;>rfl)) trivial
    ·
     replace hF := cf b58 hF
     conv=>whnf
     refine len_q (enc := encLeg) (l := x_0.Onward) rfl ?_
     conv=>whnf
     obtain ⟨c_1, hc_1, hF⟩ := fin_some hF
     refine sw_bv 0 (v := .agg [.int .i64 x_0.Kind, .int .i64 x_0.Do, .str x_0.Port, .int .i64 x_0.Number, .str x_0.In.Flight.Carrier, .int .i64 x_0.In.Flight.Number, .str x_0.In.Flight.Suffix, .int .i64 x_0.In.Flight.Day, .str x_0.In.Port, .str x_0.In.Class, .str x_0.Out.Flight.Carrier, .int .i64 x_0.Out.Flight.Number, .str x_0.Out.Flight.Suffix, .int .i64 x_0.Out.Flight.Day, .str x_0.Out.Port, .str x_0.Out.Class, .lst 6 (x_0.Onward.map encLeg), .int .i64 x_0.First.Lead, .int .i64 x_0.First.Airline, .int .i64 x_0.First.Serial, .int .i64 x_0.Count, .bool x_0.Load, .int .i64 x_0.Status, .int .i64 x_0.Sequence, .int .i64 x_0.Weight, .str x_0.Surname, .str x_0.Given, .int .i64 x_0.Exception, .str x_0.Node, .lst 1 (x_0.List.map iA)]) (by (conv=>lhs;whnf)<;>rfl) (fun hb=>?_)
     have hbd_k_26 : x_0.Onward.length ≤ 9223372036854775807 := bnd_len (enc := encLeg) ((bnd_at hb.cell 16 rfl))
     refine sw_loop tab_ok follows_ok (fun y : Nat => y ≤ x_0.Onward.length ∧ message_shaped_L1 (x_0.Onward.drop y) y = some c_1) (fun y => ⟨eL [(1, .ptr 0 0), (32, .lst 6 (x_0.Onward.map encLeg)), (33, .int .i64 (x_0.Onward.length : Int)), (34, .int .i64 (y : Int))], hL [(0, .box [.int .i64 x_0.Kind, .int .i64 x_0.Do, .str x_0.Port, .int .i64 x_0.Number, .str x_0.In.Flight.Carrier, .int .i64 x_0.In.Flight.Number, .str x_0.In.Flight.Suffix, .int .i64 x_0.In.Flight.Day, .str x_0.In.Port, .str x_0.In.Class, .str x_0.Out.Flight.Carrier, .int .i64 x_0.Out.Flight.Number, .str x_0.Out.Flight.Suffix, .int .i64 x_0.Out.Flight.Day, .str x_0.Out.Port, .str x_0.Out.Class, .lst 6 (x_0.Onward.map encLeg), .int .i64 x_0.First.Lead, .int .i64 x_0.First.Airline, .int .i64 x_0.First.Serial, .int .i64 x_0.Count, .bool x_0.Load, .int .i64 x_0.Status, .int .i64 x_0.Sequence, .int .i64 x_0.Weight, .str x_0.Surname, .str x_0.Given, .int .i64 x_0.Exception, .str x_0.Node, .lst 1 (x_0.List.map iA)])], 1⟩) (fun y => x_0.Onward.length - y) 0 ⟨Nat.zero_le _, hc_1⟩ (wk_mk [0] [] [] rfl ⟨argP (id := 0) (by (conv=>lhs;whnf)<;>rfl) rfl, aq, aq, aq,trivial⟩ ⟨boxL rfl rfl rfl ⟨(.ni _ rfl), (.ni _ rfl), (.ni _ rfl), (.ni _ rfl), (.ni _ rfl), (.ni _ rfl), (.ni _ rfl), (.ni _ rfl), (.ni _ rfl), (.ni _ rfl), (.ni _ rfl), (.ni _ rfl), (.ni _ rfl), (.ni _ rfl), (.ni _ rfl), (.ni _ rfl), (.ni _ rfl), (.ni _ rfl), (.ni _ rfl), (.ni _ rfl), (.ni _ rfl), (.ni _ rfl), (.ni _ rfl), (.ni _ rfl), (.ni _ rfl), (.ni _ rfl), (.ni _ rfl), (.ni _ rfl), (.ni _ rfl), (.ni _ rfl),trivial⟩,trivial⟩) ?_
     rintro k_26 ⟨hk_k_26, hL1⟩
     try dsimp only at hk_k_26 hL1
     show awp _ _ _ _ _ _ ⟨eL [(1, .ptr 0 0), (32, .lst 6 (x_0.Onward.map encLeg)), (33, .int .i64 (x_0.Onward.length : Int)), (34, .int .i64 (k_26 : Int))], hL [(0, .box [.int .i64 x_0.Kind, .int .i64 x_0.Do, .str x_0.Port, .int .i64 x_0.Number, .str x_0.In.Flight.Carrier, .int .i64 x_0.In.Flight.Number, .str x_0.In.Flight.Suffix, .int .i64 x_0.In.Flight.Day, .str x_0.In.Port, .str x_0.In.Class, .str x_0.Out.Flight.Carrier, .int .i64 x_0.Out.Flight.Number, .str x_0.Out.Flight.Suffix, .int .i64 x_0.Out.Flight.Day, .str x_0.Out.Port, .str x_0.Out.Class, .lst 6 (x_0.Onward.map encLeg), .int .i64 x_0.First.Lead, .int .i64 x_0.First.Airline, .int .i64 x_0.First.Serial, .int .i64 x_0.Count, .bool x_0.Load, .int .i64 x_0.Status, .int .i64 x_0.Sequence, .int .i64 x_0.Weight, .str x_0.Surname, .str x_0.Given, .int .i64 x_0.Exception, .str x_0.Node, .lst 1 (x_0.List.map iA)])], 1⟩
     conv=>whnf
     refine ⟨fun h=>?_,fun h=>?_⟩
     ·
      have lk26 : k_26 < x_0.Onward.length := by have h := of_decide_eq_true h; omega
      obtain ⟨e_27, he27⟩ : ∃ y, x_0.Onward[k_26]? = some y := ⟨_, List.getElem?_eq_getElem lk26⟩
      rw [drop_cons he27, message_shaped_L1.eq_2] at hL1
      conv=>whnf
      refine ⟨k_26, _, rfl, ix_map he27, ?_⟩
      conv=>whnf
      obtain ⟨r_28, hr28, hL1⟩ := bs hL1
      refine ⟨_,_,_,_,_,_,_,_,_,callX false [] [] 0 Tryz.func94 (by decide) rfl (flight_ValidLeg_ac e_27 r_28 hr28) rfl ⟨aq,trivial⟩ rfl trivial rfl rfl rfl lend0 trivial rfl, ?_⟩
      conv=>whnf
      refine ⟨fun b59=>?_,fun b59=>?_⟩
      ·
       replace hL1 := ct b59 hL1
       conv=>whnf
       obtain rfl := si hL1
       replace hF := fin_ret hF
       obtain rfl := si hF
       exact ret_gz [] [] [] rfl (argFl (by (conv=>lhs;whnf)<;>rfl)) trivial
      ·
       replace hL1 := cf b59 hL1
       conv=>whnf
       refine ⟨((k_26 + 1 : Nat) : Int), wrapE (by omega) (by omega) (by omega), ?_⟩
       conv=>whnf
       exact ⟨k_26 + 1, [0], [], [], ⟨lk26, hL1⟩, by show x_0.Onward.length - (k_26 + 1) < x_0.Onward.length - k_26; omega, wk_mk [0] [] [] rfl ⟨argP (id := 0) (by (conv=>lhs;whnf)<;>rfl) rfl, aq, aq, aq,trivial⟩ ⟨boxL rfl rfl rfl ⟨(.ni _ rfl), (.ni _ rfl), (.ni _ rfl), (.ni _ rfl), (.ni _ rfl), (.ni _ rfl), (.ni _ rfl), (.ni _ rfl), (.ni _ rfl), (.ni _ rfl), (.ni _ rfl), (.ni _ rfl), (.ni _ rfl), (.ni _ rfl), (.ni _ rfl), (.ni _ rfl), (.ni _ rfl), (.ni _ rfl), (.ni _ rfl), (.ni _ rfl), (.ni _ rfl), (.ni _ rfl), (.ni _ rfl), (.ni _ rfl), (.ni _ rfl), (.ni _ rfl), (.ni _ rfl), (.ni _ rfl), (.ni _ rfl), (.ni _ rfl),trivial⟩,trivial⟩⟩
     ·
      rw [drop_nil (show x_0.Onward.length ≤ k_26 by have h := of_decide_eq_false h; omega), message_shaped_L1.eq_1] at hL1
      conv=>whnf
      obtain rfl := si hL1
      replace hF := fin_brk hF
      try dsimp only at hF
      obtain ⟨r_31, hr31, hF⟩ := bs hF
      refine ⟨_,_,_,_,_,_,_,_,_,callX false [] [] 0 Tryz.func95 (by decide) rfl (message_describes_ac x_0.Kind r_31 hr31) rfl ⟨aq,trivial⟩ rfl trivial rfl rfl rfl lend0 trivial rfl, ?_⟩
      conv=>whnf
      refine ⟨fun b60=>?_,fun b60=>?_⟩
      ·
       replace hF := ct b60 hF
       conv=>whnf
       obtain ⟨r_32, hr32, hF⟩ := bs hF
       refine ⟨_,_,_,_,_,_,_,_,_,callX false [] [] 0 Tryz.func96 (by decide) rfl (fields_Letters_ac x_0.Surname (1 : Int) (20 : Int) r_32 hr32) rfl ⟨aq, aq, aq,trivial⟩ rfl trivial rfl rfl rfl lend0 trivial rfl, ?_⟩
       conv=>whnf
       refine ⟨fun b61=>?_,fun b61=>?_⟩
       ·
        replace hF := cf b61 hF
        conv=>whnf
        obtain ⟨r_33, hr33, hF⟩ := bs hF
        refine ⟨_,_,_,_,_,_,_,_,_,callX false [] [] 0 Tryz.func96 (by decide) rfl (fields_Letters_ac x_0.Given (0 : Int) (20 : Int) r_33 hr33) rfl ⟨aq, aq, aq,trivial⟩ rfl trivial rfl rfl rfl lend0 trivial rfl, ?_⟩
        conv=>whnf
        refine ⟨fun b62=>?_,fun b62=>?_⟩
        ·
         replace hF := ct b62 hF
         conv=>whnf
         obtain rfl := si hF
         exact ret_gz [] [] [] rfl (argFl (by (conv=>lhs;whnf)<;>rfl)) trivial
        ·
         replace hF := cf b62 hF
         conv=>whnf
         refine ⟨fun h=>?_,fun h=>?_⟩
         ·
          cases (b57).symm.trans h
         ·
          conv=>whnf
          obtain rfl := si hF
          exact ret_gz [] [] [] rfl (argT (by (conv=>lhs;whnf)<;>rfl)) trivial
       ·
        replace hF := ct b61 hF
        conv=>whnf
        obtain rfl := si hF
        exact ret_gz [] [] [] rfl (argFl (by (conv=>lhs;whnf)<;>rfl)) trivial
      ·
       replace hF := cf b60 hF
       conv=>whnf
       refine ⟨fun h=>?_,fun h=>?_⟩
       ·
        cases (b57).symm.trans h
       ·
        conv=>whnf
        obtain rfl := si hF
        exact ret_gz [] [] [] rfl (argT (by (conv=>lhs;whnf)<;>rfl)) trivial
   ·
    replace hF := cf b57 hF
    conv=>whnf
    refine len_q (enc := encLeg) (l := x_0.Onward) rfl ?_
    conv=>whnf
    obtain ⟨c_1, hc_1, hF⟩ := fin_some hF
    refine sw_bv 0 (v := .agg [.int .i64 x_0.Kind, .int .i64 x_0.Do, .str x_0.Port, .int .i64 x_0.Number, .str x_0.In.Flight.Carrier, .int .i64 x_0.In.Flight.Number, .str x_0.In.Flight.Suffix, .int .i64 x_0.In.Flight.Day, .str x_0.In.Port, .str x_0.In.Class, .str x_0.Out.Flight.Carrier, .int .i64 x_0.Out.Flight.Number, .str x_0.Out.Flight.Suffix, .int .i64 x_0.Out.Flight.Day, .str x_0.Out.Port, .str x_0.Out.Class, .lst 6 (x_0.Onward.map encLeg), .int .i64 x_0.First.Lead, .int .i64 x_0.First.Airline, .int .i64 x_0.First.Serial, .int .i64 x_0.Count, .bool x_0.Load, .int .i64 x_0.Status, .int .i64 x_0.Sequence, .int .i64 x_0.Weight, .str x_0.Surname, .str x_0.Given, .int .i64 x_0.Exception, .str x_0.Node, .lst 1 (x_0.List.map iA)]) (by (conv=>lhs;whnf)<;>rfl) (fun hb=>?_)
    have hbd_k_35 : x_0.Onward.length ≤ 9223372036854775807 := bnd_len (enc := encLeg) ((bnd_at hb.cell 16 rfl))
    refine sw_loop tab_ok follows_ok (fun y : Nat => y ≤ x_0.Onward.length ∧ message_shaped_L1 (x_0.Onward.drop y) y = some c_1) (fun y => ⟨eL [(1, .ptr 0 0), (32, .lst 6 (x_0.Onward.map encLeg)), (33, .int .i64 (x_0.Onward.length : Int)), (34, .int .i64 (y : Int))], hL [(0, .box [.int .i64 x_0.Kind, .int .i64 x_0.Do, .str x_0.Port, .int .i64 x_0.Number, .str x_0.In.Flight.Carrier, .int .i64 x_0.In.Flight.Number, .str x_0.In.Flight.Suffix, .int .i64 x_0.In.Flight.Day, .str x_0.In.Port, .str x_0.In.Class, .str x_0.Out.Flight.Carrier, .int .i64 x_0.Out.Flight.Number, .str x_0.Out.Flight.Suffix, .int .i64 x_0.Out.Flight.Day, .str x_0.Out.Port, .str x_0.Out.Class, .lst 6 (x_0.Onward.map encLeg), .int .i64 x_0.First.Lead, .int .i64 x_0.First.Airline, .int .i64 x_0.First.Serial, .int .i64 x_0.Count, .bool x_0.Load, .int .i64 x_0.Status, .int .i64 x_0.Sequence, .int .i64 x_0.Weight, .str x_0.Surname, .str x_0.Given, .int .i64 x_0.Exception, .str x_0.Node, .lst 1 (x_0.List.map iA)])], 1⟩) (fun y => x_0.Onward.length - y) 0 ⟨Nat.zero_le _, hc_1⟩ (wk_mk [0] [] [] rfl ⟨argP (id := 0) (by (conv=>lhs;whnf)<;>rfl) rfl, aq, aq, aq,trivial⟩ ⟨boxL rfl rfl rfl ⟨(.ni _ rfl), (.ni _ rfl), (.ni _ rfl), (.ni _ rfl), (.ni _ rfl), (.ni _ rfl), (.ni _ rfl), (.ni _ rfl), (.ni _ rfl), (.ni _ rfl), (.ni _ rfl), (.ni _ rfl), (.ni _ rfl), (.ni _ rfl), (.ni _ rfl), (.ni _ rfl), (.ni _ rfl), (.ni _ rfl), (.ni _ rfl), (.ni _ rfl), (.ni _ rfl), (.ni _ rfl), (.ni _ rfl), (.ni _ rfl), (.ni _ rfl), (.ni _ rfl), (.ni _ rfl), (.ni _ rfl), (.ni _ rfl), (.ni _ rfl),trivial⟩,trivial⟩) ?_
    rintro k_35 ⟨hk_k_35, hL1⟩
    try dsimp only at hk_k_35 hL1
    show awp _ _ _ _ _ _ ⟨eL [(1, .ptr 0 0), (32, .lst 6 (x_0.Onward.map encLeg)), (33, .int .i64 (x_0.Onward.length : Int)), (34, .int .i64 (k_35 : Int))], hL [(0, .box [.int .i64 x_0.Kind, .int .i64 x_0.Do, .str x_0.Port, .int .i64 x_0.Number, .str x_0.In.Flight.Carrier, .int .i64 x_0.In.Flight.Number, .str x_0.In.Flight.Suffix, .int .i64 x_0.In.Flight.Day, .str x_0.In.Port, .str x_0.In.Class, .str x_0.Out.Flight.Carrier, .int .i64 x_0.Out.Flight.Number, .str x_0.Out.Flight.Suffix, .int .i64 x_0.Out.Flight.Day, .str x_0.Out.Port, .str x_0.Out.Class, .lst 6 (x_0.Onward.map encLeg), .int .i64 x_0.First.Lead, .int .i64 x_0.First.Airline, .int .i64 x_0.First.Serial, .int .i64 x_0.Count, .bool x_0.Load, .int .i64 x_0.Status, .int .i64 x_0.Sequence, .int .i64 x_0.Weight, .str x_0.Surname, .str x_0.Given, .int .i64 x_0.Exception, .str x_0.Node, .lst 1 (x_0.List.map iA)])], 1⟩
    conv=>whnf
    refine ⟨fun h=>?_,fun h=>?_⟩
    ·
     have lk35 : k_35 < x_0.Onward.length := by have h := of_decide_eq_true h; omega
     obtain ⟨e_36, he36⟩ : ∃ y, x_0.Onward[k_35]? = some y := ⟨_, List.getElem?_eq_getElem lk35⟩
     rw [drop_cons he36, message_shaped_L1.eq_2] at hL1
     conv=>whnf
     refine ⟨k_35, _, rfl, ix_map he36, ?_⟩
     conv=>whnf
     obtain ⟨r_37, hr37, hL1⟩ := bs hL1
     refine ⟨_,_,_,_,_,_,_,_,_,callX false [] [] 0 Tryz.func94 (by decide) rfl (flight_ValidLeg_ac e_36 r_37 hr37) rfl ⟨aq,trivial⟩ rfl trivial rfl rfl rfl lend0 trivial rfl, ?_⟩
     conv=>whnf
     refine ⟨fun b63=>?_,fun b63=>?_⟩
     ·
      replace hL1 := ct b63 hL1
      conv=>whnf
      obtain rfl := si hL1
      replace hF := fin_ret hF
      obtain rfl := si hF
      exact ret_gz [] [] [] rfl (argFl (by (conv=>lhs;whnf)<;>rfl)) trivial
     ·
      replace hL1 := cf b63 hL1
      conv=>whnf
      refine ⟨((k_35 + 1 : Nat) : Int), wrapE (by omega) (by omega) (by omega), ?_⟩
      conv=>whnf
      exact ⟨k_35 + 1, [0], [], [], ⟨lk35, hL1⟩, by show x_0.Onward.length - (k_35 + 1) < x_0.Onward.length - k_35; omega, wk_mk [0] [] [] rfl ⟨argP (id := 0) (by (conv=>lhs;whnf)<;>rfl) rfl, aq, aq, aq,trivial⟩ ⟨boxL rfl rfl rfl ⟨(.ni _ rfl), (.ni _ rfl), (.ni _ rfl), (.ni _ rfl), (.ni _ rfl), (.ni _ rfl), (.ni _ rfl), (.ni _ rfl), (.ni _ rfl), (.ni _ rfl), (.ni _ rfl), (.ni _ rfl), (.ni _ rfl), (.ni _ rfl), (.ni _ rfl), (.ni _ rfl), (.ni _ rfl), (.ni _ rfl), (.ni _ rfl), (.ni _ rfl), (.ni _ rfl), (.ni _ rfl), (.ni _ rfl), (.ni _ rfl), (.ni _ rfl), (.ni _ rfl), (.ni _ rfl), (.ni _ rfl), (.ni _ rfl), (.ni _ rfl),trivial⟩,trivial⟩⟩
    ·
     rw [drop_nil (show x_0.Onward.length ≤ k_35 by have h := of_decide_eq_false h; omega), message_shaped_L1.eq_1] at hL1
     conv=>whnf
     obtain rfl := si hL1
     replace hF := fin_brk hF
     try dsimp only at hF
     obtain ⟨r_40, hr40, hF⟩ := bs hF
     refine ⟨_,_,_,_,_,_,_,_,_,callX false [] [] 0 Tryz.func95 (by decide) rfl (message_describes_ac x_0.Kind r_40 hr40) rfl ⟨aq,trivial⟩ rfl trivial rfl rfl rfl lend0 trivial rfl, ?_⟩
     conv=>whnf
     refine ⟨fun b64=>?_,fun b64=>?_⟩
     ·
      replace hF := ct b64 hF
      conv=>whnf
      obtain ⟨r_41, hr41, hF⟩ := bs hF
      refine ⟨_,_,_,_,_,_,_,_,_,callX false [] [] 0 Tryz.func96 (by decide) rfl (fields_Letters_ac x_0.Surname (1 : Int) (20 : Int) r_41 hr41) rfl ⟨aq, aq, aq,trivial⟩ rfl trivial rfl rfl rfl lend0 trivial rfl, ?_⟩
      conv=>whnf
      refine ⟨fun b65=>?_,fun b65=>?_⟩
      ·
       replace hF := cf b65 hF
       conv=>whnf
       obtain ⟨r_42, hr42, hF⟩ := bs hF
       refine ⟨_,_,_,_,_,_,_,_,_,callX false [] [] 0 Tryz.func96 (by decide) rfl (fields_Letters_ac x_0.Given (0 : Int) (20 : Int) r_42 hr42) rfl ⟨aq, aq, aq,trivial⟩ rfl trivial rfl rfl rfl lend0 trivial rfl, ?_⟩
       conv=>whnf
       refine ⟨fun b66=>?_,fun b66=>?_⟩
       ·
        replace hF := ct b66 hF
        conv=>whnf
        obtain rfl := si hF
        exact ret_gz [] [] [] rfl (argFl (by (conv=>lhs;whnf)<;>rfl)) trivial
       ·
        replace hF := cf b66 hF
        conv=>whnf
        refine ⟨fun h=>?_,fun h=>?_⟩
        ·
         conv=>whnf
         obtain ⟨r_43, hr43, hF⟩ := bs hF
         refine ⟨_,_,_,_,_,_,_,_,_,callX false [] [] 0 Tryz.func97 (by decide) rfl (fields_Name_ac x_0.Node (12 : Int) r_43 hr43) rfl ⟨aq, aq,trivial⟩ rfl trivial rfl rfl rfl lend0 trivial rfl, ?_⟩
         conv=>whnf
         obtain rfl := si hF
         exact ret_gz [] [] [] rfl aq trivial
        ·
         cases (b57).symm.trans h
      ·
       replace hF := ct b65 hF
       conv=>whnf
       obtain rfl := si hF
       exact ret_gz [] [] [] rfl (argFl (by (conv=>lhs;whnf)<;>rfl)) trivial
     ·
      replace hF := cf b64 hF
      conv=>whnf
      refine ⟨fun h=>?_,fun h=>?_⟩
      ·
       conv=>whnf
       obtain ⟨r_44, hr44, hF⟩ := bs hF
       refine ⟨_,_,_,_,_,_,_,_,_,callX false [] [] 0 Tryz.func97 (by decide) rfl (fields_Name_ac x_0.Node (12 : Int) r_44 hr44) rfl ⟨aq, aq,trivial⟩ rfl trivial rfl rfl rfl lend0 trivial rfl, ?_⟩
       conv=>whnf
       obtain rfl := si hF
       exact ret_gz [] [] [] rfl aq trivial
      ·
       cases (b57).symm.trans h
 ·
  replace hF := ct b44 hF
  conv=>whnf
  obtain rfl := si hF
  exact ret_gz [] [] [] rfl (argFl (by (conv=>lhs;whnf)<;>rfl)) trivial

theorem plate_Valid_ac (x_0 : Plate) (r : Bool) (hF : plate_Valid x_0 = some r) : AC Tryz.prog 79 [.agg (encPlate x_0)] [] (.bool r) [] := by
 refine ac_of tab_ok follows_ok Tryz.func79 rfl Tryz.ntmps79 rfl ?_
 unfold plate_Valid at hF
 conv=>whnf
 refine ⟨fun b6=>?_,fun b6=>?_⟩
 ·
  replace hF := ct b6 hF
  conv=>whnf
  refine ⟨fun b7=>?_,fun b7=>?_⟩
  ·
   replace hF := ct b7 hF
   conv=>whnf
   refine ⟨fun b8=>?_,fun b8=>?_⟩
   ·
    replace hF := ct b8 hF
    conv=>whnf
    refine ⟨fun b9=>?_,fun b9=>?_⟩
    ·
     replace hF := ct b9 hF
     conv=>whnf
     refine ⟨fun b10=>?_,fun b10=>?_⟩
     ·
      replace hF := ct b10 hF
      conv=>whnf
      obtain rfl := si hF
      exact ret_gz [] [] [] rfl aq trivial
     ·
      replace hF := cf b10 hF
      conv=>whnf
      obtain rfl := si hF
      exact ret_gz [] [] [] rfl (argFl (by (conv=>lhs;whnf)<;>rfl)) trivial
    ·
     replace hF := cf b9 hF
     conv=>whnf
     obtain rfl := si hF
     exact ret_gz [] [] [] rfl (argFl (by (conv=>lhs;whnf)<;>rfl)) trivial
   ·
    replace hF := cf b8 hF
    conv=>whnf
    obtain rfl := si hF
    exact ret_gz [] [] [] rfl (argFl (by (conv=>lhs;whnf)<;>rfl)) trivial
  ·
   replace hF := cf b7 hF
   conv=>whnf
   obtain rfl := si hF
   exact ret_gz [] [] [] rfl (argFl (by (conv=>lhs;whnf)<;>rfl)) trivial
 ·
  replace hF := cf b6 hF
  conv=>whnf
  obtain rfl := si hF
  exact ret_gz [] [] [] rfl (argFl (by (conv=>lhs;whnf)<;>rfl)) trivial

theorem message_ranged_f1_ac (x_0 : Int) (r : Bool) (hF : message_ranged_f1 x_0 = some r) : AC Tryz.prog 99 [.int .i64 x_0] [] (.bool r) [] := by
 refine ac_of tab_ok follows_ok Tryz.func99 rfl Tryz.ntmps99 rfl ?_
 unfold message_ranged_f1 at hF
 conv=>whnf
 obtain ⟨r_1, hr1, hF⟩ := bs hF
 refine ⟨_,_,_,_,_,_,_,_,_,callX false [] [] 0 Tryz.func62 (by decide) rfl (message_in_ac x_0 (1 : Int) (999 : Int) r_1 hr1) rfl ⟨aq, aq, aq,trivial⟩ rfl trivial rfl rfl rfl lend0 trivial rfl, ?_⟩
 conv=>whnf
 obtain rfl := si hF
 exact ret_gz [] [] [] rfl aq trivial

theorem slices_IndexFunc_int_ac (x_0 : (List Int)) (r : Int) (hF : slices_IndexFunc_int x_0 = some r) : AC Tryz.prog 113 [.lst 1 (x_0.map iA), .fn 99 []] [] (.int .i64 r) [] := by
 refine ac_of tab_ok follows_ok Tryz.func113 rfl Tryz.ntmps113 rfl ?_
 unfold slices_IndexFunc_int at hF
 conv=>whnf
 refine len_q (enc := iA) (l := x_0) rfl ?_
 conv=>whnf
 obtain ⟨c_1, hc_1, hF⟩ := fin_some hF
 refine sw_bv 0 (v := .lst 1 (x_0.map iA)) (by (conv=>lhs;whnf)<;>rfl) (fun hb=>?_)
 have hbd_k_2 : x_0.length ≤ 9223372036854775807 := bnd_len (enc := iA) (hb)
 refine sw_loop tab_ok follows_ok (fun y : Nat => y ≤ x_0.length ∧ slices_IndexFunc_int_L1 (x_0.drop y) y = some c_1) (fun y => ⟨eL [(0, .lst 1 (x_0.map iA)), (1, .fn 99 []), (7, .int .i64 (x_0.length : Int)), (8, .int .i64 (y : Int))], hL [], 0⟩) (fun y => x_0.length - y) 0 ⟨Nat.zero_le _, hc_1⟩ (wk_mk [] [] [] rfl ⟨aq, aq, aq, aq,trivial⟩ trivial) ?_
 rintro k_2 ⟨hk_k_2, hL1⟩
 try dsimp only at hk_k_2 hL1
 show awp _ _ _ _ _ _ ⟨eL [(0, .lst 1 (x_0.map iA)), (1, .fn 99 []), (7, .int .i64 (x_0.length : Int)), (8, .int .i64 (k_2 : Int))], hL [], 0⟩
 conv=>whnf
 refine ⟨fun h=>?_,fun h=>?_⟩
 ·
  have lk2 : k_2 < x_0.length := by have h := of_decide_eq_true h; omega
  obtain ⟨e_3, he3⟩ : ∃ y, x_0[k_2]? = some y := ⟨_, List.getElem?_eq_getElem lk2⟩
  rw [drop_cons he3, slices_IndexFunc_int_L1.eq_2] at hL1
  conv=>whnf
  refine ⟨k_2, _, rfl, ix_map he3, ?_⟩
  conv=>whnf
  obtain ⟨r_4, hr4, hL1⟩ := bs hL1
  refine ⟨_,_,_,_,_,_,_,_,_,callX false [] [] 0 Tryz.func99 (by decide) rfl (message_ranged_f1_ac e_3 r_4 hr4) rfl ⟨aq,trivial⟩ rfl trivial rfl rfl rfl lend0 trivial rfl, ?_⟩
  conv=>whnf
  refine ⟨fun b7=>?_,fun b7=>?_⟩
  ·
   replace hL1 := ct b7 hL1
   conv=>whnf
   obtain rfl := si hL1
   replace hF := fin_ret hF
   obtain rfl := si hF
   exact ret_gz [] [] [] rfl aq trivial
  ·
   replace hL1 := cf b7 hL1
   conv=>whnf
   refine ⟨((k_2 + 1 : Nat) : Int), wrapE (by omega) (by omega) (by omega), ?_⟩
   conv=>whnf
   exact ⟨k_2 + 1, [], [], [], ⟨lk2, hL1⟩, by show x_0.length - (k_2 + 1) < x_0.length - k_2; omega, wk_mk [] [] [] rfl ⟨aq, aq, aq, aq,trivial⟩ trivial⟩
 ·
  rw [drop_nil (show x_0.length ≤ k_2 by have h := of_decide_eq_false h; omega), slices_IndexFunc_int_L1.eq_1] at hL1
  conv=>whnf
  obtain rfl := si hL1
  replace hF := fin_brk hF
  try dsimp only at hF
  obtain rfl := si hF
  exact ret_gz [] [] [] rfl aq trivial

theorem slices_ContainsFunc_int_ac (x_0 : (List Int)) (r : Bool) (hF : slices_ContainsFunc_int x_0 = some r) : AC Tryz.prog 98 [.lst 1 (x_0.map iA), .fn 99 []] [] (.bool r) [] := by
 refine ac_of tab_ok follows_ok Tryz.func98 rfl Tryz.ntmps98 rfl ?_
 unfold slices_ContainsFunc_int at hF
 conv=>whnf
 obtain ⟨r_1, hr1, hF⟩ := bs hF
 refine ⟨_,_,_,_,_,_,_,_,_,callX false [] [] 0 Tryz.func113 (by decide) rfl (slices_IndexFunc_int_ac x_0 r_1 hr1) rfl ⟨aq, aq,trivial⟩ rfl trivial rfl rfl rfl lend0 trivial rfl, ?_⟩
 conv=>whnf
 obtain rfl := si hF
 exact ret_gz [] [] [] rfl aq trivial

theorem message_ranged_ac (x_0 : Message) (r : Bool) (hF : message_ranged x_0 = some r) : AC Tryz.prog 65 [.agg (encMessage x_0)] [] (.bool r) [] := by
 refine ac_of tab_ok follows_ok Tryz.func65 rfl Tryz.ntmps65 rfl ?_
 unfold message_ranged at hF
 conv=>whnf
 obtain ⟨r_1, hr1, hF⟩ := bs hF
 refine ⟨_,_,_,_,_,_,_,_,_,callX false [] [] 0 Tryz.func62 (by decide) rfl (message_in_ac x_0.Number (1 : Int) (9999 : Int) r_1 hr1) rfl ⟨aq, aq, aq,trivial⟩ rfl trivial rfl rfl rfl lend0 trivial rfl, ?_⟩
 conv=>whnf
 refine ⟨fun b14=>?_,fun b14=>?_⟩
 ·
  replace hF := cf b14 hF
  conv=>whnf
  obtain ⟨r_2, hr2, hF⟩ := bs hF
  refine ⟨_,_,_,_,_,_,_,_,_,callX false [] [] 0 Tryz.func62 (by decide) rfl (message_in_ac x_0.Do (0 : Int) (2 : Int) r_2 hr2) rfl ⟨aq, aq, aq,trivial⟩ rfl trivial rfl rfl rfl lend0 trivial rfl, ?_⟩
  conv=>whnf
  refine ⟨fun b15=>?_,fun b15=>?_⟩
  ·
   replace hF := cf b15 hF
   conv=>whnf
   obtain ⟨r_3, hr3, hF⟩ := bs hF
   refine ⟨_,_,_,_,_,_,_,_,_,callX false [] [] 0 Tryz.func62 (by decide) rfl (message_in_ac x_0.Weight (0 : Int) (999 : Int) r_3 hr3) rfl ⟨aq, aq, aq,trivial⟩ rfl trivial rfl rfl rfl lend0 trivial rfl, ?_⟩
   conv=>whnf
   refine ⟨fun b16=>?_,fun b16=>?_⟩
   ·
    replace hF := cf b16 hF
    conv=>whnf
    obtain ⟨r_4, hr4, hF⟩ := bs hF
    refine ⟨_,_,_,_,_,_,_,_,_,callX false [] [] 0 Tryz.func62 (by decide) rfl (message_in_ac x_0.Exception (0 : Int) (3 : Int) r_4 hr4) rfl ⟨aq, aq, aq,trivial⟩ rfl trivial rfl rfl rfl lend0 trivial rfl, ?_⟩
    conv=>whnf
    refine ⟨fun b17=>?_,fun b17=>?_⟩
    ·
     replace hF := ct b17 hF
     conv=>whnf
     obtain rfl := si hF
     exact ret_gz [] [] [] rfl (argFl (by (conv=>lhs;whnf)<;>rfl)) trivial
    ·
     replace hF := cf b17 hF
     conv=>whnf
     refine ⟨fun b18=>?_,fun b18=>?_⟩
     ·
      replace hF := ct b18 hF
      conv=>whnf
      obtain ⟨r_5, hr5, hF⟩ := bs hF
      refine ⟨_,_,_,_,_,_,_,_,_,callX false [] [] 0 Tryz.func79 (by decide) rfl (plate_Valid_ac x_0.First r_5 hr5) rfl ⟨aq,trivial⟩ rfl trivial rfl rfl rfl lend0 trivial rfl, ?_⟩
      conv=>whnf
      refine ⟨fun b19=>?_,fun b19=>?_⟩
      ·
       replace hF := cf b19 hF
       conv=>whnf
       obtain ⟨r_6, hr6, hF⟩ := bs hF
       refine ⟨_,_,_,_,_,_,_,_,_,callX false [] [] 0 Tryz.func62 (by decide) rfl (message_in_ac x_0.Count (1 : Int) (99 : Int) r_6 hr6) rfl ⟨aq, aq, aq,trivial⟩ rfl trivial rfl rfl rfl lend0 trivial rfl, ?_⟩
       conv=>whnf
       refine ⟨fun b20=>?_,fun b20=>?_⟩
       ·
        replace hF := ct b20 hF
        conv=>whnf
        obtain rfl := si hF
        exact ret_gz [] [] [] rfl (argFl (by (conv=>lhs;whnf)<;>rfl)) trivial
       ·
        replace hF := cf b20 hF
        conv=>whnf
        obtain ⟨r_7, hr7, hF⟩ := bs hF
        refine ⟨_,_,_,_,_,_,_,_,_,callX false [] [] 0 Tryz.func95 (by decide) rfl (message_describes_ac x_0.Kind r_7 hr7) rfl ⟨aq,trivial⟩ rfl trivial rfl rfl rfl lend0 trivial rfl, ?_⟩
        conv=>whnf
        refine ⟨fun b21=>?_,fun b21=>?_⟩
        ·
         replace hF := ct b21 hF
         conv=>whnf
         obtain ⟨r_8, hr8, hF⟩ := bs hF
         refine ⟨_,_,_,_,_,_,_,_,_,callX false [] [] 0 Tryz.func62 (by decide) rfl (message_in_ac x_0.Status (1 : Int) (4 : Int) r_8 hr8) rfl ⟨aq, aq, aq,trivial⟩ rfl trivial rfl rfl rfl lend0 trivial rfl, ?_⟩
         conv=>whnf
         refine ⟨fun b22=>?_,fun b22=>?_⟩
         ·
          replace hF := cf b22 hF
          conv=>whnf
          obtain ⟨r_9, hr9, hF⟩ := bs hF
          refine ⟨_,_,_,_,_,_,_,_,_,callX false [] [] 0 Tryz.func62 (by decide) rfl (message_in_ac x_0.Sequence (1 : Int) (999 : Int) r_9 hr9) rfl ⟨aq, aq, aq,trivial⟩ rfl trivial rfl rfl rfl lend0 trivial rfl, ?_⟩
          conv=>whnf
          refine ⟨fun b23=>?_,fun b23=>?_⟩
          ·
           replace hF := ct b23 hF
           conv=>whnf
           obtain rfl := si hF
           exact ret_gz [] [] [] rfl (argFl (by (conv=>lhs;whnf)<;>rfl)) trivial
          ·
           replace hF := cf b23 hF
           conv=>whnf
           obtain ⟨r_10, hr10, hF⟩ := bs hF
           refine ⟨_,_,_,_,_,_,_,_,_,callX false [] [] 0 Tryz.func98 (by decide) rfl (slices_ContainsFunc_int_ac x_0.List r_10 hr10) rfl ⟨aq, aq,trivial⟩ rfl trivial rfl rfl rfl lend0 trivial rfl, ?_⟩
           conv=>whnf
           obtain rfl := si hF
           exact ret_gz [] [] [] rfl aq trivial
         ·
          replace hF := ct b22 hF
          conv=>whnf
          obtain rfl := si hF
          exact ret_gz [] [] [] rfl (argFl (by (conv=>lhs;whnf)<;>rfl)) trivial
        ·
         replace hF := cf b21 hF
         conv=>whnf
         obtain ⟨r_11, hr11, hF⟩ := bs hF
         refine ⟨_,_,_,_,_,_,_,_,_,callX false [] [] 0 Tryz.func98 (by decide) rfl (slices_ContainsFunc_int_ac x_0.List r_11 hr11) rfl ⟨aq, aq,trivial⟩ rfl trivial rfl rfl rfl lend0 trivial rfl, ?_⟩
         conv=>whnf
         obtain rfl := si hF
         exact ret_gz [] [] [] rfl aq trivial
      ·
       replace hF := ct b19 hF
       conv=>whnf
       obtain rfl := si hF
       exact ret_gz [] [] [] rfl (argFl (by (conv=>lhs;whnf)<;>rfl)) trivial
     ·
      replace hF := cf b18 hF
      conv=>whnf
      obtain ⟨r_12, hr12, hF⟩ := bs hF
      refine ⟨_,_,_,_,_,_,_,_,_,callX false [] [] 0 Tryz.func95 (by decide) rfl (message_describes_ac x_0.Kind r_12 hr12) rfl ⟨aq,trivial⟩ rfl trivial rfl rfl rfl lend0 trivial rfl, ?_⟩
      conv=>whnf
      refine ⟨fun b24=>?_,fun b24=>?_⟩
      ·
       replace hF := ct b24 hF
       conv=>whnf
       obtain ⟨r_13, hr13, hF⟩ := bs hF
       refine ⟨_,_,_,_,_,_,_,_,_,callX false [] [] 0 Tryz.func62 (by decide) rfl (message_in_ac x_0.Status (1 : Int) (4 : Int) r_13 hr13) rfl ⟨aq, aq, aq,trivial⟩ rfl trivial rfl rfl rfl lend0 trivial rfl, ?_⟩
       conv=>whnf
       refine ⟨fun b25=>?_,fun b25=>?_⟩
       ·
        replace hF := cf b25 hF
        conv=>whnf
        obtain ⟨r_14, hr14, hF⟩ := bs hF
        refine ⟨_,_,_,_,_,_,_,_,_,callX false [] [] 0 Tryz.func62 (by decide) rfl (message_in_ac x_0.Sequence (1 : Int) (999 : Int) r_14 hr14) rfl ⟨aq, aq, aq,trivial⟩ rfl trivial rfl rfl rfl lend0 trivial rfl, ?_⟩
        conv=>whnf
        refine ⟨fun b26=>?_,fun b26=>?_⟩
        ·
         replace hF := ct b26 hF
         conv=>whnf
         obtain rfl := si hF
         exact ret_gz [] [] [] rfl (argFl (by (conv=>lhs;whnf)<;>rfl)) trivial
        ·
         replace hF := cf b26 hF
         conv=>whnf
         obtain ⟨r_15, hr15, hF⟩ := bs hF
         refine ⟨_,_,_,_,_,_,_,_,_,callX false [] [] 0 Tryz.func98 (by decide) rfl (slices_ContainsFunc_int_ac x_0.List r_15 hr15) rfl ⟨aq, aq,trivial⟩ rfl trivial rfl rfl rfl lend0 trivial rfl, ?_⟩
         conv=>whnf
         obtain rfl := si hF
         exact ret_gz [] [] [] rfl aq trivial
       ·
        replace hF := ct b25 hF
        conv=>whnf
        obtain rfl := si hF
        exact ret_gz [] [] [] rfl (argFl (by (conv=>lhs;whnf)<;>rfl)) trivial
      ·
       replace hF := cf b24 hF
       conv=>whnf
       obtain ⟨r_16, hr16, hF⟩ := bs hF
       refine ⟨_,_,_,_,_,_,_,_,_,callX false [] [] 0 Tryz.func98 (by decide) rfl (slices_ContainsFunc_int_ac x_0.List r_16 hr16) rfl ⟨aq, aq,trivial⟩ rfl trivial rfl rfl rfl lend0 trivial rfl, ?_⟩
       conv=>whnf
       obtain rfl := si hF
       exact ret_gz [] [] [] rfl aq trivial
   ·
    replace hF := ct b16 hF
    conv=>whnf
    obtain rfl := si hF
    exact ret_gz [] [] [] rfl (argFl (by (conv=>lhs;whnf)<;>rfl)) trivial
  ·
   replace hF := ct b15 hF
   conv=>whnf
   obtain rfl := si hF
   exact ret_gz [] [] [] rfl (argFl (by (conv=>lhs;whnf)<;>rfl)) trivial
 ·
  replace hF := ct b14 hF
  conv=>whnf
  obtain rfl := si hF
  exact ret_gz [] [] [] rfl (argFl (by (conv=>lhs;whnf)<;>rfl)) trivial

theorem message_Validate_ac (x_0 : Message) (r : Int) (hF : message_Validate x_0 = some r) : AC Tryz.prog 29 [.agg (encMessage x_0)] [] (.int .i64 r) [] := by
 refine ac_of tab_ok follows_ok Tryz.func29 rfl Tryz.ntmps29 rfl ?_
 unfold message_Validate at hF
 conv=>whnf
 obtain ⟨r_1, hr1, hF⟩ := bs hF
 refine ⟨_,_,_,_,_,_,_,_,_,callX false [] [] 0 Tryz.func62 (by decide) rfl (message_in_ac x_0.Kind (1 : Int) (5 : Int) r_1 hr1) rfl ⟨aq, aq, aq,trivial⟩ rfl trivial rfl rfl rfl lend0 trivial rfl, ?_⟩
 conv=>whnf
 refine ⟨fun b15=>?_,fun b15=>?_⟩
 ·
  replace hF := ct b15 hF
  conv=>whnf
  obtain rfl := si hF
  exact ret_gz [] [] [] rfl aq trivial
 ·
  replace hF := cf b15 hF
  conv=>whnf
  obtain ⟨r_2, hr2, hF⟩ := bs hF
  refine ⟨_,_,_,_,_,_,_,_,_,callX false [] [] 0 Tryz.func63 (by decide) rfl (message_own_ac x_0 r_2 hr2) rfl ⟨aq,trivial⟩ rfl trivial rfl rfl rfl lend0 trivial rfl, ?_⟩
  conv=>whnf
  obtain ⟨r_3, hr3, hF⟩ := bs hF
  refine ⟨_,_,_,_,_,_,_,_,_,callX false [] [] 0 Tryz.func35 (by decide) rfl (message_Same_ac x_0 r_2 r_3 hr3) rfl ⟨aq, aq,trivial⟩ rfl trivial rfl rfl rfl lend0 trivial rfl, ?_⟩
  conv=>whnf
  refine ⟨by kernel_rfl, ?_⟩
  conv=>whnf
  refine ⟨fun b16=>?_,fun b16=>?_⟩
  ·
   replace hF := ct b16 hF
   conv=>whnf
   obtain rfl := si hF
   exact ret_gz [] [] [] rfl aq trivial
  ·
   replace hF := cf b16 hF
   conv=>whnf
   refine len_q (enc := encLeg) (l := x_0.Onward) rfl ?_
   conv=>whnf
   refine ⟨fun b17=>?_,fun b17=>?_⟩
   ·
    replace hF := cf b17 hF
    conv=>whnf
    refine len_q (enc := iA) (l := x_0.List) rfl ?_
    conv=>whnf
    refine ⟨fun b18=>?_,fun b18=>?_⟩
    ·
     replace hF := ct b18 hF
     conv=>whnf
     obtain rfl := si hF
     exact ret_gz [] [] [] rfl aq trivial
    ·
     replace hF := cf b18 hF
     conv=>whnf
     obtain ⟨r_4, hr4, hF⟩ := bs hF
     refine ⟨_,_,_,_,_,_,_,_,_,callX false [] [] 0 Tryz.func64 (by decide) rfl (message_shaped_ac x_0 r_4 hr4) rfl ⟨aq,trivial⟩ rfl trivial rfl rfl rfl lend0 trivial rfl, ?_⟩
     conv=>whnf
     refine ⟨fun b19=>?_,fun b19=>?_⟩
     ·
      replace hF := ct b19 hF
      conv=>whnf
      obtain rfl := si hF
      exact ret_gz [] [] [] rfl aq trivial
     ·
      replace hF := cf b19 hF
      conv=>whnf
      obtain ⟨r_5, hr5, hF⟩ := bs hF
      refine ⟨_,_,_,_,_,_,_,_,_,callX false [] [] 0 Tryz.func65 (by decide) rfl (message_ranged_ac x_0 r_5 hr5) rfl ⟨aq,trivial⟩ rfl trivial rfl rfl rfl lend0 trivial rfl, ?_⟩
      conv=>whnf
      refine ⟨fun b20=>?_,fun b20=>?_⟩
      ·
       replace hF := ct b20 hF
       conv=>whnf
       obtain rfl := si hF
       exact ret_gz [] [] [] rfl aq trivial
      ·
       replace hF := cf b20 hF
       conv=>whnf
       obtain ⟨c_1, hc_1, hF⟩ := fin_some hF
       refine sw_loop tab_ok follows_ok (fun y : Nat × Int => message_Validate_L1 x_0 y.1 y.2 = some c_1) (fun y => ⟨eL [(1, .ptr 0 0), (3, .int .i64 y.2)], hL [(0, .box [.int .i64 x_0.Kind, .int .i64 x_0.Do, .str x_0.Port, .int .i64 x_0.Number, .str x_0.In.Flight.Carrier, .int .i64 x_0.In.Flight.Number, .str x_0.In.Flight.Suffix, .int .i64 x_0.In.Flight.Day, .str x_0.In.Port, .str x_0.In.Class, .str x_0.Out.Flight.Carrier, .int .i64 x_0.Out.Flight.Number, .str x_0.Out.Flight.Suffix, .int .i64 x_0.Out.Flight.Day, .str x_0.Out.Port, .str x_0.Out.Class, .lst 6 (x_0.Onward.map encLeg), .int .i64 x_0.First.Lead, .int .i64 x_0.First.Airline, .int .i64 x_0.First.Serial, .int .i64 x_0.Count, .bool x_0.Load, .int .i64 x_0.Status, .int .i64 x_0.Sequence, .int .i64 x_0.Weight, .str x_0.Surname, .str x_0.Given, .int .i64 x_0.Exception, .str x_0.Node, .lst 1 (x_0.List.map iA)])], 1⟩) (fun y => y.1) (9223372036854775807, (1 : Int)) hc_1 (wk_mk [0] [] [] rfl ⟨argP (id := 0) (by (conv=>lhs;whnf)<;>rfl) rfl, aq,trivial⟩ ⟨boxL rfl rfl rfl ⟨(.ni _ rfl), (.ni _ rfl), (.ni _ rfl), (.ni _ rfl), (.ni _ rfl), (.ni _ rfl), (.ni _ rfl), (.ni _ rfl), (.ni _ rfl), (.ni _ rfl), (.ni _ rfl), (.ni _ rfl), (.ni _ rfl), (.ni _ rfl), (.ni _ rfl), (.ni _ rfl), (.ni _ rfl), (.ni _ rfl), (.ni _ rfl), (.ni _ rfl), (.ni _ rfl), (.ni _ rfl), (.ni _ rfl), (.ni _ rfl), (.ni _ rfl), (.ni _ rfl), (.ni _ rfl), (.ni _ rfl), (.ni _ rfl), (.ni _ rfl),trivial⟩,trivial⟩) ?_
       rintro ⟨q_9, i_6⟩ hL1
       try dsimp only at hL1
       rcases q_9 with _ | q_9
       ·
        rw [message_Validate_L1.eq_1] at hL1
        cases hL1
       rw [message_Validate_L1.eq_2] at hL1
       show awp _ _ _ _ _ _ ⟨eL [(1, .ptr 0 0), (3, .int .i64 i_6)], hL [(0, .box [.int .i64 x_0.Kind, .int .i64 x_0.Do, .str x_0.Port, .int .i64 x_0.Number, .str x_0.In.Flight.Carrier, .int .i64 x_0.In.Flight.Number, .str x_0.In.Flight.Suffix, .int .i64 x_0.In.Flight.Day, .str x_0.In.Port, .str x_0.In.Class, .str x_0.Out.Flight.Carrier, .int .i64 x_0.Out.Flight.Number, .str x_0.Out.Flight.Suffix, .int .i64 x_0.Out.Flight.Day, .str x_0.Out.Port, .str x_0.Out.Class, .lst 6 (x_0.Onward.map encLeg), .int .i64 x_0.First.Lead, .int .i64 x_0.First.Airline, .int .i64 x_0.First.Serial, .int .i64 x_0.Count, .bool x_0.Load, .int .i64 x_0.Status, .int .i64 x_0.Sequence, .int .i64 x_0.Weight, .str x_0.Surname, .str x_0.Given, .int .i64 x_0.Exception, .str x_0.Node, .lst 1 (x_0.List.map iA)])], 1⟩
       conv=>whnf
       refine len_q (enc := iA) (l := x_0.List) rfl ?_
       conv=>whnf
       refine ⟨fun b21=>?_,fun b21=>?_⟩
       ·
        replace hL1 := ct b21 hL1
        conv=>whnf
        refine ⟨_, rfl, ?_⟩
        conv=>whnf
        obtain ⟨e_7, he7, hL1⟩ := bs hL1
        refine ix_q (enc := iA) (l := x_0.List) he7 rfl (fun m_e_7 hm_e_7 hx_e_7=>?_)
        conv=>whnf
        obtain ⟨e_8, he8, hL1⟩ := bs hL1
        refine ix_q (enc := iA) (l := x_0.List) he8 rfl (fun m_e_8 hm_e_8 hx_e_8=>?_)
        conv=>whnf
        refine ⟨by kernel_rfl, ?_⟩
        conv=>whnf
        refine ⟨fun b22=>?_,fun b22=>?_⟩
        ·
         replace hL1 := ct b22 hL1
         conv=>whnf
         obtain rfl := si hL1
         replace hF := fin_ret hF
         obtain rfl := si hF
         exact ret_gz [] [] [] rfl aq trivial
        ·
         replace hL1 := cf b22 hL1
         conv=>whnf
         refine ⟨_, rfl, ?_⟩
         conv=>whnf
         exact ⟨(q_9, (w64 (i_6 + (1 : Int)))), [0], [], [], hL1, Nat.lt_succ_self _, wk_mk [0] [] [] rfl ⟨argP (id := 0) (by (conv=>lhs;whnf)<;>rfl) rfl, aq,trivial⟩ ⟨boxL rfl rfl rfl ⟨(.ni _ rfl), (.ni _ rfl), (.ni _ rfl), (.ni _ rfl), (.ni _ rfl), (.ni _ rfl), (.ni _ rfl), (.ni _ rfl), (.ni _ rfl), (.ni _ rfl), (.ni _ rfl), (.ni _ rfl), (.ni _ rfl), (.ni _ rfl), (.ni _ rfl), (.ni _ rfl), (.ni _ rfl), (.ni _ rfl), (.ni _ rfl), (.ni _ rfl), (.ni _ rfl), (.ni _ rfl), (.ni _ rfl), (.ni _ rfl), (.ni _ rfl), (.ni _ rfl), (.ni _ rfl), (.ni _ rfl), (.ni _ rfl), (.ni _ rfl),trivial⟩,trivial⟩⟩
       ·
        replace hL1 := cf b21 hL1
        conv=>whnf
        obtain rfl := si hL1
        replace hF := fin_brk hF
        try dsimp only at hF
        obtain rfl := si hF
        exact ret_gz [] [] [] rfl aq trivial
   ·
    replace hF := ct b17 hF
    conv=>whnf
    obtain rfl := si hF
    exact ret_gz [] [] [] rfl aq trivial

theorem strings_Compare_ac (x_0 : ByteArray) (x_1 : ByteArray) (r : Int) (hF : strings_Compare x_0 x_1 = some r) : AC Tryz.prog 68 [.str x_0, .str x_1] [] (.int .i64 r) [] := by
 obtain rfl := si hF
 exact strings_Compare_ac0 x_0 x_1

theorem inbox_find_f1_ac (x_0 : Sender) (x_1 : ByteArray) (r : Int) (hF : inbox_find_f1 x_0 x_1 = some r) : AC Tryz.prog 67 [.agg (encSender x_0), .str x_1] [] (.int .i64 r) [] := by
 refine ac_of tab_ok follows_ok Tryz.func67 rfl Tryz.ntmps67 rfl ?_
 unfold inbox_find_f1 at hF
 conv=>whnf
 obtain ⟨r_1, hr1, hF⟩ := bs hF
 refine ⟨_,_,_,_,_,_,_,_,_,callX false [] [] 0 Tryz.func68 (by decide) rfl (strings_Compare_ac x_0.Port x_1 r_1 hr1) rfl ⟨aq, aq,trivial⟩ rfl trivial rfl rfl rfl lend0 trivial rfl, ?_⟩
 conv=>whnf
 obtain rfl := si hF
 exact ret_gz [] [] [] rfl aq trivial

theorem slices_BinarySearchFunc_string_ac (x_0 : (List Sender)) (x_1 : ByteArray) (r : Int × Bool) (hF : slices_BinarySearchFunc_string x_0 x_1 = some r) : AC Tryz.prog 66 [.lst 3 (x_0.map encSender), .str x_1, .fn 67 []] [] (.tup [.int .i64 r.1, .bool r.2]) [] := by
 refine ac_of tab_ok follows_ok Tryz.func66 rfl Tryz.ntmps66 rfl ?_
 unfold slices_BinarySearchFunc_string at hF
 conv=>whnf
 refine len_q (enc := encSender) (l := x_0) rfl ?_
 conv=>whnf
 obtain ⟨c_1, hc_1, hF⟩ := fin_some hF
 refine sw_loop tab_ok follows_ok (fun y : Nat × Int × Int => slices_BinarySearchFunc_string_L1 x_0 x_1 y.1 y.2.1 y.2.2 = some c_1) (fun y => ⟨eL [(0, .lst 3 (x_0.map encSender)), (1, .str x_1), (2, .fn 67 []), (8, .int .i64 (x_0.length : Int)), (9, .int .i64 y.2.1), (10, .int .i64 y.2.2)], hL [], 0⟩) (fun y => y.1) (9223372036854775807, (0 : Int), (x_0.length : Int)) hc_1 (wk_mk [] [] [] rfl ⟨aq, aq, aq, aq, aq, aq,trivial⟩ trivial) ?_
 rintro ⟨q_5, i_1, i_2⟩ hL1
 try dsimp only at hL1
 rcases q_5 with _ | q_5
 ·
  rw [slices_BinarySearchFunc_string_L1.eq_1] at hL1
  cases hL1
 rw [slices_BinarySearchFunc_string_L1.eq_2] at hL1
 show awp _ _ _ _ _ _ ⟨eL [(0, .lst 3 (x_0.map encSender)), (1, .str x_1), (2, .fn 67 []), (8, .int .i64 (x_0.length : Int)), (9, .int .i64 i_1), (10, .int .i64 i_2)], hL [], 0⟩
 conv=>whnf
 refine ⟨fun b10=>?_,fun b10=>?_⟩
 ·
  replace hL1 := ct b10 hL1
  conv=>whnf
  refine ⟨_, rfl, ?_⟩
  conv=>whnf
  refine ⟨_, rfl, ?_⟩
  conv=>whnf
  refine ⟨_, shr_q (by decide), ?_⟩
  conv=>whnf
  refine ⟨_, rfl, ?_⟩
  conv=>whnf
  obtain ⟨e_3, he3, hL1⟩ := bs hL1
  refine ix_q (enc := encSender) (l := x_0) he3 rfl (fun m_e_3 hm_e_3 hx_e_3=>?_)
  conv=>whnf
  obtain ⟨r_4, hr4, hL1⟩ := bs hL1
  refine ⟨_,_,_,_,_,_,_,_,_,callX false [] [] 0 Tryz.func67 (by decide) rfl (inbox_find_f1_ac e_3 x_1 r_4 hr4) rfl ⟨aq, aq,trivial⟩ rfl trivial rfl rfl rfl lend0 trivial rfl, ?_⟩
  conv=>whnf
  refine ⟨fun b11=>?_,fun b11=>?_⟩
  ·
   replace hL1 := ct b11 hL1
   conv=>whnf
   refine ⟨_, rfl, ?_⟩
   conv=>whnf
   exact ⟨(q_5, (w64 ((IntKind.i64.wrap (shrF .u64 (IntKind.u64.wrap (w64 (i_1 + i_2))) (1 : Int))) + (1 : Int))), i_2), [], [], [], hL1, Nat.lt_succ_self _, wk_mk [] [] [] rfl ⟨aq, aq, aq, aq, aq, aq,trivial⟩ trivial⟩
  ·
   replace hL1 := cf b11 hL1
   conv=>whnf
   exact ⟨(q_5, i_1, (IntKind.i64.wrap (shrF .u64 (IntKind.u64.wrap (w64 (i_1 + i_2))) (1 : Int)))), [], [], [], hL1, Nat.lt_succ_self _, wk_mk [] [] [] rfl ⟨aq, aq, aq, aq, aq, aq,trivial⟩ trivial⟩
 ·
  replace hL1 := cf b10 hL1
  conv=>whnf
  obtain rfl := si hL1
  replace hF := fin_brk hF
  try dsimp only at hF
  refine ⟨fun b12=>?_,fun b12=>?_⟩
  ·
   replace hF := ct b12 hF
   conv=>whnf
   obtain ⟨e_7, he7, hF⟩ := bs hF
   refine ix_q (enc := encSender) (l := x_0) he7 rfl (fun m_e_7 hm_e_7 hx_e_7=>?_)
   conv=>whnf
   obtain ⟨r_8, hr8, hF⟩ := bs hF
   refine ⟨_,_,_,_,_,_,_,_,_,callX false [] [] 0 Tryz.func67 (by decide) rfl (inbox_find_f1_ac e_7 x_1 r_8 hr8) rfl ⟨aq, aq,trivial⟩ rfl trivial rfl rfl rfl lend0 trivial rfl, ?_⟩
   conv=>whnf
   obtain rfl := si hF
   exact ret_gz [] [] [] rfl (tupL rfl ⟨aq, aq,trivial⟩) trivial
  ·
   replace hF := cf b12 hF
   conv=>whnf
   obtain rfl := si hF
   exact ret_gz [] [] [] rfl (tupL rfl ⟨aq, (argFl (by (conv=>lhs;whnf)<;>rfl)),trivial⟩) trivial

theorem inbox_find_ac (x_0 : Inbox) (x_1 : ByteArray) (r : Int × Bool) (hF : inbox_find x_0 x_1 = some r) : AC Tryz.prog 30 [.agg (encInbox x_0), .str x_1] [] (.tup [.int .i64 r.1, .bool r.2]) [] := by
 refine ac_of tab_ok follows_ok Tryz.func30 rfl Tryz.ntmps30 rfl ?_
 unfold inbox_find at hF
 conv=>whnf
 obtain ⟨r_1, hr1, hF⟩ := bs hF
 refine ⟨_,_,_,_,_,_,_,_,_,callX false [] [] 0 Tryz.func66 (by decide) rfl (slices_BinarySearchFunc_string_ac x_0.L x_1 r_1 hr1) rfl ⟨aq, aq, aq,trivial⟩ rfl trivial rfl rfl rfl lend0 trivial rfl, ?_⟩
 conv=>whnf
 obtain rfl := si hF
 exact ret_gz [] [] [] rfl (tupL rfl ⟨aq, aq,trivial⟩) trivial

theorem cmp_isNaN_int_ac (x_0 : Int) (r : Bool) (hF : cmp_isNaN_int x_0 = some r) : AC Tryz.prog 69 [.int .i64 x_0] [] (.bool r) [] := by
 refine ac_of tab_ok follows_ok Tryz.func69 rfl Tryz.ntmps69 rfl ?_
 unfold cmp_isNaN_int at hF
 conv=>whnf
 obtain rfl := si hF
 exact ret_gz [] [] [] rfl aq trivial

theorem cmp_Compare_int_ac (x_0 : Int) (x_1 : Int) (r : Int) (hF : cmp_Compare_int x_0 x_1 = some r) : AC Tryz.prog 33 [.int .i64 x_0, .int .i64 x_1] [] (.int .i64 r) [] := by
 refine ac_of tab_ok follows_ok Tryz.func33 rfl Tryz.ntmps33 rfl ?_
 unfold cmp_Compare_int at hF
 conv=>whnf
 obtain ⟨r_1, hr1, hF⟩ := bs hF
 refine ⟨_,_,_,_,_,_,_,_,_,callX false [] [] 0 Tryz.func69 (by decide) rfl (cmp_isNaN_int_ac x_0 r_1 hr1) rfl ⟨aq,trivial⟩ rfl trivial rfl rfl rfl lend0 trivial rfl, ?_⟩
 conv=>whnf
 obtain ⟨r_2, hr2, hF⟩ := bs hF
 refine ⟨_,_,_,_,_,_,_,_,_,callX false [] [] 0 Tryz.func69 (by decide) rfl (cmp_isNaN_int_ac x_1 r_2 hr2) rfl ⟨aq,trivial⟩ rfl trivial rfl rfl rfl lend0 trivial rfl, ?_⟩
 conv=>whnf
 refine ⟨fun b6=>?_,fun b6=>?_⟩
 ·
  replace hF := ct b6 hF
  conv=>whnf
  refine ⟨fun b7=>?_,fun b7=>?_⟩
  ·
   replace hF := ct b7 hF
   conv=>whnf
   obtain rfl := si hF
   exact ret_gz [] [] [] rfl aq trivial
  ·
   replace hF := cf b7 hF
   conv=>whnf
   obtain rfl := si hF
   exact ret_gz [] [] [] rfl aq trivial
 ·
  replace hF := cf b6 hF
  conv=>whnf
  refine ⟨fun b8=>?_,fun b8=>?_⟩
  ·
   replace hF := ct b8 hF
   conv=>whnf
   obtain rfl := si hF
   exact ret_gz [] [] [] rfl aq trivial
  ·
   replace hF := cf b8 hF
   conv=>whnf
   refine ⟨fun b9=>?_,fun b9=>?_⟩
   ·
    replace hF := ct b9 hF
    conv=>whnf
    obtain rfl := si hF
    exact ret_gz [] [] [] rfl aq trivial
   ·
    replace hF := cf b9 hF
    conv=>whnf
    refine ⟨fun b10=>?_,fun b10=>?_⟩
    ·
     replace hF := ct b10 hF
     conv=>whnf
     obtain rfl := si hF
     exact ret_gz [] [] [] rfl aq trivial
    ·
     replace hF := cf b10 hF
     conv=>whnf
     obtain rfl := si hF
     exact ret_gz [] [] [] rfl aq trivial

theorem inbox_Receive_f1_ac (x_0 : Message) (x_1 : Int) (r : Int) (hF : inbox_Receive_f1 x_0 x_1 = some r) : AC Tryz.prog 32 [.agg (encMessage x_0), .int .i64 x_1] [] (.int .i64 r) [] := by
 refine ac_of tab_ok follows_ok Tryz.func32 rfl Tryz.ntmps32 rfl ?_
 unfold inbox_Receive_f1 at hF
 conv=>whnf
 obtain ⟨r_1, hr1, hF⟩ := bs hF
 refine ⟨_,_,_,_,_,_,_,_,_,callX false [] [] 0 Tryz.func33 (by decide) rfl (cmp_Compare_int_ac x_0.Number x_1 r_1 hr1) rfl ⟨aq, aq,trivial⟩ rfl trivial rfl rfl rfl lend0 trivial rfl, ?_⟩
 conv=>whnf
 obtain rfl := si hF
 exact ret_gz [] [] [] rfl aq trivial

theorem slices_BinarySearchFunc_int_ac (x_0 : (List Message)) (x_1 : Int) (r : Int × Bool) (hF : slices_BinarySearchFunc_int x_0 x_1 = some r) : AC Tryz.prog 31 [.lst 30 (x_0.map encMessage), .int .i64 x_1, .fn 32 []] [] (.tup [.int .i64 r.1, .bool r.2]) [] := by
 refine ac_of tab_ok follows_ok Tryz.func31 rfl Tryz.ntmps31 rfl ?_
 unfold slices_BinarySearchFunc_int at hF
 conv=>whnf
 refine len_q (enc := encMessage) (l := x_0) rfl ?_
 conv=>whnf
 obtain ⟨c_1, hc_1, hF⟩ := fin_some hF
 refine sw_loop tab_ok follows_ok (fun y : Nat × Int × Int => slices_BinarySearchFunc_int_L1 x_0 x_1 y.1 y.2.1 y.2.2 = some c_1) (fun y => ⟨eL [(0, .lst 30 (x_0.map encMessage)), (1, .int .i64 x_1), (2, .fn 32 []), (8, .int .i64 (x_0.length : Int)), (9, .int .i64 y.2.1), (10, .int .i64 y.2.2)], hL [], 0⟩) (fun y => y.1) (9223372036854775807, (0 : Int), (x_0.length : Int)) hc_1 (wk_mk [] [] [] rfl ⟨aq, aq, aq, aq, aq, aq,trivial⟩ trivial) ?_
 rintro ⟨q_5, i_1, i_2⟩ hL1
 try dsimp only at hL1
 rcases q_5 with _ | q_5
 ·
  rw [slices_BinarySearchFunc_int_L1.eq_1] at hL1
  cases hL1
 rw [slices_BinarySearchFunc_int_L1.eq_2] at hL1
 show awp _ _ _ _ _ _ ⟨eL [(0, .lst 30 (x_0.map encMessage)), (1, .int .i64 x_1), (2, .fn 32 []), (8, .int .i64 (x_0.length : Int)), (9, .int .i64 i_1), (10, .int .i64 i_2)], hL [], 0⟩
 conv=>whnf
 refine ⟨fun b10=>?_,fun b10=>?_⟩
 ·
  replace hL1 := ct b10 hL1
  conv=>whnf
  refine ⟨_, rfl, ?_⟩
  conv=>whnf
  refine ⟨_, rfl, ?_⟩
  conv=>whnf
  refine ⟨_, shr_q (by decide), ?_⟩
  conv=>whnf
  refine ⟨_, rfl, ?_⟩
  conv=>whnf
  obtain ⟨e_3, he3, hL1⟩ := bs hL1
  refine ix_q (enc := encMessage) (l := x_0) he3 rfl (fun m_e_3 hm_e_3 hx_e_3=>?_)
  conv=>whnf
  obtain ⟨r_4, hr4, hL1⟩ := bs hL1
  refine ⟨_,_,_,_,_,_,_,_,_,callX false [] [] 0 Tryz.func32 (by decide) rfl (inbox_Receive_f1_ac e_3 x_1 r_4 hr4) rfl ⟨aq, aq,trivial⟩ rfl trivial rfl rfl rfl lend0 trivial rfl, ?_⟩
  conv=>whnf
  refine ⟨fun b11=>?_,fun b11=>?_⟩
  ·
   replace hL1 := ct b11 hL1
   conv=>whnf
   refine ⟨_, rfl, ?_⟩
   conv=>whnf
   exact ⟨(q_5, (w64 ((IntKind.i64.wrap (shrF .u64 (IntKind.u64.wrap (w64 (i_1 + i_2))) (1 : Int))) + (1 : Int))), i_2), [], [], [], hL1, Nat.lt_succ_self _, wk_mk [] [] [] rfl ⟨aq, aq, aq, aq, aq, aq,trivial⟩ trivial⟩
  ·
   replace hL1 := cf b11 hL1
   conv=>whnf
   exact ⟨(q_5, i_1, (IntKind.i64.wrap (shrF .u64 (IntKind.u64.wrap (w64 (i_1 + i_2))) (1 : Int)))), [], [], [], hL1, Nat.lt_succ_self _, wk_mk [] [] [] rfl ⟨aq, aq, aq, aq, aq, aq,trivial⟩ trivial⟩
 ·
  replace hL1 := cf b10 hL1
  conv=>whnf
  obtain rfl := si hL1
  replace hF := fin_brk hF
  try dsimp only at hF
  refine ⟨fun b12=>?_,fun b12=>?_⟩
  ·
   replace hF := ct b12 hF
   conv=>whnf
   obtain ⟨e_7, he7, hF⟩ := bs hF
   refine ix_q (enc := encMessage) (l := x_0) he7 rfl (fun m_e_7 hm_e_7 hx_e_7=>?_)
   conv=>whnf
   obtain ⟨r_8, hr8, hF⟩ := bs hF
   refine ⟨_,_,_,_,_,_,_,_,_,callX false [] [] 0 Tryz.func32 (by decide) rfl (inbox_Receive_f1_ac e_7 x_1 r_8 hr8) rfl ⟨aq, aq,trivial⟩ rfl trivial rfl rfl rfl lend0 trivial rfl, ?_⟩
   conv=>whnf
   obtain rfl := si hF
   exact ret_gz [] [] [] rfl (tupL rfl ⟨aq, aq,trivial⟩) trivial
  ·
   replace hF := cf b12 hF
   conv=>whnf
   obtain rfl := si hF
   exact ret_gz [] [] [] rfl (tupL rfl ⟨aq, (argFl (by (conv=>lhs;whnf)<;>rfl)),trivial⟩) trivial

theorem slices_Clone_Leg_ac (x_0 : (List Leg)) (r : (List Leg)) (hF : slices_Clone_Leg x_0 = some r) : AC Tryz.prog 76 [.lst 6 (x_0.map encLeg)] [] (.osl 0) [.row 6 (r.map encLeg)] := by
 refine ac_of tab_ok follows_ok Tryz.func76 rfl Tryz.ntmps76 rfl ?_
 unfold slices_Clone_Leg at hF
 conv=>whnf
 intro b hb
 conv=>whnf
 refine ⟨fun h=>?_,fun h=>?_⟩
 ·
  have hx : x_0 = [] := List.map_eq_nil_iff.1 (hb h)
  subst hx
  obtain ⟨h1, rfl⟩ := apL_some hF
  conv=>whnf
  exact ret_gz [] [0] [] rfl (argZ (by (conv=>lhs;whnf)<;>rfl) rfl) ⟨blkZ rfl,trivial⟩
 ·
  conv=>whnf
  refine ap_q (enc := encLeg) (l := ([] : List Leg)) (y := x_0) hF rfl rfl (by decide) ?_
  conv=>whnf
  exact ret_gz [1] [] [] rfl (argO (id := 1) (by (conv=>lhs;whnf)<;>rfl) rfl) ⟨blkR (fun _ => ⟨rfl, rfl⟩) rfl rfl,trivial⟩

theorem slices_Clone_int_ac (x_0 : (List Int)) (r : (List Int)) (hF : slices_Clone_int x_0 = some r) : AC Tryz.prog 77 [.lst 1 (x_0.map iA)] [] (.osl 0) [.row 1 (r.map iA)] := by
 refine ac_of tab_ok follows_ok Tryz.func77 rfl Tryz.ntmps77 rfl ?_
 unfold slices_Clone_int at hF
 conv=>whnf
 intro b hb
 conv=>whnf
 refine ⟨fun h=>?_,fun h=>?_⟩
 ·
  have hx : x_0 = [] := List.map_eq_nil_iff.1 (hb h)
  subst hx
  obtain ⟨h1, rfl⟩ := apL_some hF
  conv=>whnf
  exact ret_gz [] [0] [] rfl (argZ (by (conv=>lhs;whnf)<;>rfl) rfl) ⟨blkZ rfl,trivial⟩
 ·
  conv=>whnf
  refine ap_q (enc := iA) (l := ([] : List Int)) (y := x_0) hF rfl rfl (by decide) ?_
  conv=>whnf
  exact ret_gz [1] [] [] rfl (argO (id := 1) (by (conv=>lhs;whnf)<;>rfl) rfl) ⟨blkR (fun _ => ⟨rfl, rfl⟩) rfl rfl,trivial⟩

theorem inbox_copied_ac (x_0 : Message) (r : Message) (hF : inbox_copied x_0 = some r) : AC Tryz.prog 38 [.agg (encMessage x_0)] [] (.agg (encMessage r)) [] := by
 refine ac_of tab_ok follows_ok Tryz.func38 rfl Tryz.ntmps38 rfl ?_
 unfold inbox_copied at hF
 conv=>whnf
 obtain ⟨r_1, hr1, hF⟩ := bs hF
 refine ⟨_,_,_,_,_,_,_,_,_,callX false [] [] 1 Tryz.func76 (by decide) rfl (slices_Clone_Leg_ac x_0.Onward r_1 hr1) rfl ⟨aq,trivial⟩ rfl trivial rfl rfl rfl lend0 ⟨renR (fun _ => ⟨rfl, rfl⟩),trivial⟩ rfl, ?_⟩
 conv=>whnf
 obtain ⟨r_2, hr2, hF⟩ := bs hF
 refine ⟨_,_,_,_,_,_,_,_,_,callX false [] [] 1 Tryz.func77 (by decide) rfl (slices_Clone_int_ac x_0.List r_2 hr2) rfl ⟨aq,trivial⟩ rfl trivial rfl rfl rfl lend0 ⟨renR (fun _ => ⟨rfl, rfl⟩),trivial⟩ rfl, ?_⟩
 conv=>whnf
 refine ⟨by kernel_rfl, ?_⟩
 conv=>whnf
 obtain rfl := si hF
 exact ret_gz [] [] [2, 4] rfl (argA (c := [.int .i64 x_0.Kind, .int .i64 x_0.Do, .str x_0.Port, .int .i64 x_0.Number, .str x_0.In.Flight.Carrier, .int .i64 x_0.In.Flight.Number, .str x_0.In.Flight.Suffix, .int .i64 x_0.In.Flight.Day, .str x_0.In.Port, .str x_0.In.Class, .str x_0.Out.Flight.Carrier, .int .i64 x_0.Out.Flight.Number, .str x_0.Out.Flight.Suffix, .int .i64 x_0.Out.Flight.Day, .str x_0.Out.Port, .str x_0.Out.Class, .osl 2, .int .i64 x_0.First.Lead, .int .i64 x_0.First.Airline, .int .i64 x_0.First.Serial, .int .i64 x_0.Count, .bool x_0.Load, .int .i64 x_0.Status, .int .i64 x_0.Sequence, .int .i64 x_0.Weight, .str x_0.Surname, .str x_0.Given, .int .i64 x_0.Exception, .str x_0.Node, .osl 4]) (by (conv=>lhs;whnf)<;>rfl) rfl ⟨(.ni _ rfl), (.ni _ rfl), (.ni _ rfl), (.ni _ rfl), (.ni _ rfl), (.ni _ rfl), (.ni _ rfl), (.ni _ rfl), (.ni _ rfl), (.ni _ rfl), (.ni _ rfl), (.ni _ rfl), (.ni _ rfl), (.ni _ rfl), (.ni _ rfl), (.ni _ rfl), (.osl 2 6 _ (by simp) rfl (map_ni (fun _ => ⟨rfl, rfl⟩) _)), (.ni _ rfl), (.ni _ rfl), (.ni _ rfl), (.ni _ rfl), (.ni _ rfl), (.ni _ rfl), (.ni _ rfl), (.ni _ rfl), (.ni _ rfl), (.ni _ rfl), (.ni _ rfl), (.ni _ rfl), (.osl 4 1 _ (by simp) rfl (map_ni (fun _ => ⟨rfl, rfl⟩) _)),trivial⟩) trivial

theorem inbox_clone_ac (x_0 : Inbox) (r : Inbox) (hF : inbox_clone x_0 = some r) : AC Tryz.prog 34 [.agg (encInbox x_0)] [] (.agg [.int .i64 r.Window, .osl 0]) [.row 3 (r.L.map encSender)] := by
 refine ac_of tab_ok follows_ok Tryz.func34 rfl Tryz.ntmps34 rfl ?_
 unfold inbox_clone at hF
 conv=>whnf
 refine len_q (enc := encSender) (l := x_0.L) rfl ?_
 conv=>whnf
 obtain ⟨c_1, hc_1, hF⟩ := fin_some hF
 refine sw_bv 0 (v := .agg [.int .i64 x_0.Window, .lst 3 (x_0.L.map encSender)]) (by (conv=>lhs;whnf)<;>rfl) (fun hb=>?_)
 have hbd_k_3 : x_0.L.length ≤ 9223372036854775807 := bnd_len (enc := encSender) ((bnd_at hb.cell 1 rfl))
 refine sw_loop tab_ok follows_ok (fun y : Nat × (List Sender) => y.1 ≤ x_0.L.length ∧ inbox_clone_L1 (x_0.L.drop y.1) y.1 y.2 = some c_1) (fun y => ⟨eL [(2, .ptr 0 0), (3, .ptr 1 0), (13, .lst 3 (x_0.L.map encSender)), (14, .int .i64 (x_0.L.length : Int)), (15, .int .i64 (y.1 : Int))], hL [(0, .box [.int .i64 (0 : Int), .nils]), (1, .box [.int .i64 x_0.Window, .osl 2]), (2, .row 3 (y.2.map encSender))], 3⟩) (fun y => x_0.L.length - y.1) (0, ([] : List Sender)) ⟨Nat.zero_le _, hc_1⟩ (wk_mk [1, 2] [2] [] rfl ⟨argP (id := 1) (by (conv=>lhs;whnf)<;>rfl) rfl, argP (id := 2) (by (conv=>lhs;whnf)<;>rfl) rfl, aq, aq, aq,trivial⟩ ⟨boxL rfl rfl rfl ⟨(.ni _ rfl), (.ni _ rfl),trivial⟩, boxL rfl rfl rfl ⟨(.ni _ rfl), (.nilz 2 (by simp)),trivial⟩, blkZ rfl,trivial⟩) ?_
 rintro ⟨k_3, a_1⟩ ⟨hk_k_3, hL1⟩
 try dsimp only at hk_k_3 hL1
 show awp _ _ _ _ _ _ ⟨eL [(2, .ptr 0 0), (3, .ptr 1 0), (13, .lst 3 (x_0.L.map encSender)), (14, .int .i64 (x_0.L.length : Int)), (15, .int .i64 (k_3 : Int))], hL [(0, .box [.int .i64 (0 : Int), .nils]), (1, .box [.int .i64 x_0.Window, .osl 2]), (2, .row 3 (a_1.map encSender))], 3⟩
 conv=>whnf
 refine ⟨fun h=>?_,fun h=>?_⟩
 ·
  have lk3 : k_3 < x_0.L.length := by have h := of_decide_eq_true h; omega
  obtain ⟨e_4, he4⟩ : ∃ y, x_0.L[k_3]? = some y := ⟨_, List.getElem?_eq_getElem lk3⟩
  rw [drop_cons he4, inbox_clone_L1.eq_2] at hL1
  conv=>whnf
  refine ⟨k_3, _, rfl, ix_map he4, ?_⟩
  conv=>whnf
  refine len_q (enc := encMessage) (l := e_4.Held) rfl ?_
  conv=>whnf
  obtain ⟨c_2, hc_2, hL1⟩ := sub_some hL1
  refine sw_bv 6 (v := .lst 30 (e_4.Held.map encMessage)) (by (conv=>lhs;whnf)<;>rfl) (fun hb=>?_)
  have hbd_k_7 : e_4.Held.length ≤ 9223372036854775807 := bnd_len (enc := encMessage) (hb)
  refine sw_loop tab_ok follows_ok (fun y : Nat × (List Message) => y.1 ≤ e_4.Held.length ∧ inbox_clone_L2 (e_4.Held.drop y.1) y.1 y.2 = some c_2) (fun y => ⟨eL [(2, .ptr 0 0), (3, .ptr 1 0), (5, .ptr 3 0), (13, .lst 3 (x_0.L.map encSender)), (14, .int .i64 (x_0.L.length : Int)), (15, .int .i64 (k_3 : Int)), (22, .lst 30 (e_4.Held.map encMessage)), (23, .int .i64 (e_4.Held.length : Int)), (24, .int .i64 (y.1 : Int))], hL [(0, .box [.int .i64 (0 : Int), .nils]), (1, .box [.int .i64 x_0.Window, .osl 2]), (2, .row 3 (a_1.map encSender)), (3, .box [.str e_4.Port, .int .i64 e_4.Next, .osl 4]), (4, .row 30 (y.2.map encMessage))], 5⟩) (fun y => e_4.Held.length - y.1) (0, ([] : List Message)) ⟨Nat.zero_le _, hc_2⟩ (wk_mk [0, 1, 2, 3] [4] [] rfl ⟨argP (id := 0) (by (conv=>lhs;whnf)<;>rfl) rfl, argP (id := 1) (by (conv=>lhs;whnf)<;>rfl) rfl, argP (id := 3) (by (conv=>lhs;whnf)<;>rfl) rfl, aq, aq, aq, aq, aq, aq,trivial⟩ ⟨boxL rfl rfl rfl ⟨(.ni _ rfl), (.ni _ rfl),trivial⟩, boxL rfl rfl rfl ⟨(.ni _ rfl), (.oslg 2 2 rfl),trivial⟩, blkR (fun _ => ⟨rfl, rfl⟩) rfl rfl, boxL rfl rfl rfl ⟨(.ni _ rfl), (.ni _ rfl), (.nilz 4 (by simp)),trivial⟩, blkZ rfl,trivial⟩) ?_
  rintro ⟨k_7, a_5⟩ ⟨hk_k_7, hL2⟩
  try dsimp only at hk_k_7 hL2
  show awp _ _ _ _ _ _ ⟨eL [(2, .ptr 0 0), (3, .ptr 1 0), (5, .ptr 3 0), (13, .lst 3 (x_0.L.map encSender)), (14, .int .i64 (x_0.L.length : Int)), (15, .int .i64 (k_3 : Int)), (22, .lst 30 (e_4.Held.map encMessage)), (23, .int .i64 (e_4.Held.length : Int)), (24, .int .i64 (k_7 : Int))], hL [(0, .box [.int .i64 (0 : Int), .nils]), (1, .box [.int .i64 x_0.Window, .osl 2]), (2, .row 3 (a_1.map encSender)), (3, .box [.str e_4.Port, .int .i64 e_4.Next, .osl 4]), (4, .row 30 (a_5.map encMessage))], 5⟩
  conv=>whnf
  refine ⟨fun h=>?_,fun h=>?_⟩
  ·
   have lk7 : k_7 < e_4.Held.length := by have h := of_decide_eq_true h; omega
   obtain ⟨e_8, he8⟩ : ∃ y, e_4.Held[k_7]? = some y := ⟨_, List.getElem?_eq_getElem lk7⟩
   rw [drop_cons he8, inbox_clone_L2.eq_2] at hL2
   conv=>whnf
   refine ⟨k_7, _, rfl, ix_map he8, ?_⟩
   conv=>whnf
   obtain ⟨r_9, hr9, hL2⟩ := bs hL2
   refine ⟨_,_,_,_,_,_,_,_,_,callX false [] [] 0 Tryz.func38 (by decide) rfl (inbox_copied_ac e_8 r_9 hr9) rfl ⟨aq,trivial⟩ rfl trivial rfl rfl rfl lend0 trivial rfl, ?_⟩
   conv=>whnf
   obtain ⟨l_10, hl10, hL2⟩ := bs hL2
   refine ap_q (enc := encMessage) (l := a_5) (y := ([r_9] : List Message)) hl10 rfl rfl (by decide) ?_
   conv=>whnf
   refine ⟨by kernel_rfl, ?_⟩
   conv=>whnf
   refine ⟨((k_7 + 1 : Nat) : Int), wrapE (by omega) (by omega) (by omega), ?_⟩
   conv=>whnf
   exact ⟨(k_7 + 1, l_10), [0, 1, 2, 3, 8], [], [], ⟨lk7, hL2⟩, by show e_4.Held.length - (k_7 + 1) < e_4.Held.length - k_7; omega, wk_mk [0, 1, 2, 3, 8] [] [] rfl ⟨argP (id := 0) (by (conv=>lhs;whnf)<;>rfl) rfl, argP (id := 1) (by (conv=>lhs;whnf)<;>rfl) rfl, argP (id := 3) (by (conv=>lhs;whnf)<;>rfl) rfl, aq, aq, aq, aq, aq, aq,trivial⟩ ⟨boxL rfl rfl rfl ⟨(.ni _ rfl), (.ni _ rfl),trivial⟩, boxL rfl rfl rfl ⟨(.ni _ rfl), (.oslg 2 2 rfl),trivial⟩, blkR (fun _ => ⟨rfl, rfl⟩) rfl rfl, boxL rfl rfl rfl ⟨(.ni _ rfl), (.ni _ rfl), (.oslg 8 4 rfl),trivial⟩, blkR (fun _ => ⟨rfl, rfl⟩) rfl rfl,trivial⟩⟩
  ·
   rw [drop_nil (show e_4.Held.length ≤ k_7 by have h := of_decide_eq_false h; omega), inbox_clone_L2.eq_1] at hL2
   conv=>whnf
   obtain rfl := si hL2
   replace hL1 := sub_brk hL1
   try dsimp only at hL1
   obtain ⟨l_13, hl13, hL1⟩ := bs hL1
   refine ap_raw hl13 (by simp) (by simp [chunkA]) (by decide) ?_
   conv=>whnf
   refine ⟨((k_3 + 1 : Nat) : Int), wrapE (by omega) (by omega) (by omega), ?_⟩
   conv=>whnf
   exact ⟨(k_3 + 1, l_13), [0, 1, 6], [], [4], ⟨lk3, hL1⟩, by show x_0.L.length - (k_3 + 1) < x_0.L.length - k_3; omega, wk_mk [0, 1, 6] [] [4] rfl ⟨argP (id := 0) (by (conv=>lhs;whnf)<;>rfl) rfl, argP (id := 1) (by (conv=>lhs;whnf)<;>rfl) rfl, aq, aq, aq,trivial⟩ ⟨boxL rfl rfl rfl ⟨(.ni _ rfl), (.ni _ rfl),trivial⟩, boxL rfl rfl rfl ⟨(.ni _ rfl), (.oslg 6 2 rfl),trivial⟩, blk_rowsE rfl rfl (RowsA.app (RowsA.ni (map_ok (fun _ => ⟨rfl, rfl⟩) _)) (cellsL (c' := [.str e_4.Port, .int .i64 e_4.Next, .lst 30 (a_5.map encMessage)]) rfl rfl ⟨(.ni _ rfl), (.ni _ rfl), (.osl 4 30 _ (by simp) rfl (map_ni (fun _ => ⟨rfl, rfl⟩) _)),trivial⟩)) (by rw [(apL_some hl13).2, List.map_append]; rfl),trivial⟩⟩
 ·
  rw [drop_nil (show x_0.L.length ≤ k_3 by have h := of_decide_eq_false h; omega), inbox_clone_L1.eq_1] at hL1
  conv=>whnf
  obtain rfl := si hL1
  replace hF := fin_brk hF
  try dsimp only at hF
  obtain rfl := si hF
  exact ret_gz [2] [] [] rfl (argA (c := [.int .i64 x_0.Window, .osl 2]) (by (conv=>lhs;whnf)<;>rfl) rfl ⟨(.ni _ rfl), (.oslg 2 0 rfl),trivial⟩) ⟨blkR (fun _ => ⟨rfl, rfl⟩) rfl rfl,trivial⟩

theorem inbox_clone_foc2 (x_0 : Inbox) (r : Inbox) (P_0 : List Sender) (e_0 : Sender) (Q_0 : List Sender) (hE_ : r.L = P_0 ++ e_0 :: Q_0) (hF : inbox_clone x_0 = some r) : AC Tryz.prog 34 [.agg (encInbox x_0)] [] (.agg [.int .i64 r.Window, .osl 0]) [.row 3 (focR encSender P_0 [.str e_0.Port, .int .i64 e_0.Next, .osl 1] Q_0), .row 30 (e_0.Held.map encMessage)] := by
 refine ac_of tab_ok follows_ok Tryz.func34 rfl Tryz.ntmps34 rfl ?_
 unfold inbox_clone at hF
 conv=>whnf
 refine len_q (enc := encSender) (l := x_0.L) rfl ?_
 conv=>whnf
 obtain ⟨c_1, hc_1, hF⟩ := fin_some hF
 have hfn_ : ∀ z, c_1 = Ctl.brk z → P_0.length < z.length := by intro z hz; subst hz; have h2 := fin_brk hF; (try dsimp only at h2); obtain rfl := si h2; have h3 := congrArg List.length hE_; simp at h3; omega
 refine sw_bv 0 (v := .agg [.int .i64 x_0.Window, .lst 3 (x_0.L.map encSender)]) (by (conv=>lhs;whnf)<;>rfl) (fun hb=>?_)
 have hbd_k_3 : x_0.L.length ≤ 9223372036854775807 := bnd_len (enc := encSender) ((bnd_at hb.cell 1 rfl))
 refine sw_loop tab_ok follows_ok (fun y : (Nat × (List Sender)) ⊕ (Nat × (List Sender) × Sender × (List Sender)) => match y with | .inl y => (y.1 ≤ x_0.L.length ∧ inbox_clone_L1 (x_0.L.drop y.1) y.1 y.2 = some c_1) ∧ y.2.length ≤ P_0.length | .inr y => (y.1 ≤ x_0.L.length ∧ inbox_clone_L1 (x_0.L.drop y.1) y.1 (y.2.1 ++ y.2.2.1 :: y.2.2.2) = some c_1) ∧ y.2.1.length = P_0.length) (fun y : (Nat × (List Sender)) ⊕ (Nat × (List Sender) × Sender × (List Sender)) => match y with | .inl y => ⟨eL [(2, .ptr 0 0), (3, .ptr 1 0), (13, .lst 3 (x_0.L.map encSender)), (14, .int .i64 (x_0.L.length : Int)), (15, .int .i64 (y.1 : Int))], hL [(0, .box [.int .i64 (0 : Int), .nils]), (1, .box [.int .i64 x_0.Window, .osl 2]), (2, .row 3 (y.2.map encSender))], 3⟩ | .inr y => ⟨eL [(2, .ptr 0 0), (3, .ptr 1 0), (13, .lst 3 (x_0.L.map encSender)), (14, .int .i64 (x_0.L.length : Int)), (15, .int .i64 (y.1 : Int))], hL [(0, .box [.int .i64 (0 : Int), .nils]), (1, .box [.int .i64 x_0.Window, .osl 2]), (2, .row 3 (focR encSender y.2.1 [.str y.2.2.1.Port, .int .i64 y.2.2.1.Next, .osl 3] y.2.2.2)), (3, .row 30 (y.2.2.1.Held.map encMessage))], 4⟩) (fun y : (Nat × (List Sender)) ⊕ (Nat × (List Sender) × Sender × (List Sender)) => match y with | .inl y => x_0.L.length - y.1 | .inr y => x_0.L.length - y.1) (.inl (0, ([] : List Sender))) ⟨⟨Nat.zero_le _, hc_1⟩, Nat.zero_le _⟩ (wkS (σ1 := ⟨eL [(2, .ptr 0 0), (3, .ptr 1 0), (13, .lst 3 (x_0.L.map encSender)), (14, .int .i64 (x_0.L.length : Int)), (15, .int .i64 (0 : Int))], hL [(0, .box [.int .i64 (0 : Int), .nils]), (1, .box [.int .i64 x_0.Window, .osl 2]), (2, .row 3 (([] : List Sender).map encSender))], 3⟩) rfl (wk_mk [1, 2] [2] [] rfl ⟨argP (id := 1) (by (conv=>lhs;whnf)<;>rfl) rfl, argP (id := 2) (by (conv=>lhs;whnf)<;>rfl) rfl, aq, aq, aq,trivial⟩ ⟨boxL rfl rfl rfl ⟨(.ni _ rfl), (.ni _ rfl),trivial⟩, boxL rfl rfl rfl ⟨(.ni _ rfl), (.nilz 2 (by simp)),trivial⟩, blkZ rfl,trivial⟩)) ?_
 rintro (⟨k_3, a_1⟩ | ⟨k_3, p_16, g_17, q_18⟩) ⟨⟨hk_k_3, hL1⟩, hp_p_16⟩
 ·
  try dsimp only at hk_k_3 hL1 hp_p_16
  show awp _ _ _ _ _ _ ⟨eL [(2, .ptr 0 0), (3, .ptr 1 0), (13, .lst 3 (x_0.L.map encSender)), (14, .int .i64 (x_0.L.length : Int)), (15, .int .i64 (k_3 : Int))], hL [(0, .box [.int .i64 (0 : Int), .nils]), (1, .box [.int .i64 x_0.Window, .osl 2]), (2, .row 3 (a_1.map encSender))], 3⟩
  conv=>whnf
  refine ⟨fun h=>?_,fun h=>?_⟩
  ·
   have lk3 : k_3 < x_0.L.length := by have h := of_decide_eq_true h; omega
   obtain ⟨e_4, he4⟩ : ∃ y, x_0.L[k_3]? = some y := ⟨_, List.getElem?_eq_getElem lk3⟩
   rw [drop_cons he4, inbox_clone_L1.eq_2] at hL1
   conv=>whnf
   refine ⟨k_3, _, rfl, ix_map he4, ?_⟩
   conv=>whnf
   refine len_q (enc := encMessage) (l := e_4.Held) rfl ?_
   conv=>whnf
   obtain ⟨c_2, hc_2, hL1⟩ := sub_some hL1
   refine sw_bv 6 (v := .lst 30 (e_4.Held.map encMessage)) (by (conv=>lhs;whnf)<;>rfl) (fun hb=>?_)
   have hbd_k_7 : e_4.Held.length ≤ 9223372036854775807 := bnd_len (enc := encMessage) (hb)
   refine sw_loop tab_ok follows_ok (fun y : Nat × (List Message) => y.1 ≤ e_4.Held.length ∧ inbox_clone_L2 (e_4.Held.drop y.1) y.1 y.2 = some c_2) (fun y => ⟨eL [(2, .ptr 0 0), (3, .ptr 1 0), (5, .ptr 3 0), (13, .lst 3 (x_0.L.map encSender)), (14, .int .i64 (x_0.L.length : Int)), (15, .int .i64 (k_3 : Int)), (22, .lst 30 (e_4.Held.map encMessage)), (23, .int .i64 (e_4.Held.length : Int)), (24, .int .i64 (y.1 : Int))], hL [(0, .box [.int .i64 (0 : Int), .nils]), (1, .box [.int .i64 x_0.Window, .osl 2]), (2, .row 3 (a_1.map encSender)), (3, .box [.str e_4.Port, .int .i64 e_4.Next, .osl 4]), (4, .row 30 (y.2.map encMessage))], 5⟩) (fun y => e_4.Held.length - y.1) (0, ([] : List Message)) ⟨Nat.zero_le _, hc_2⟩ (wk_mk [0, 1, 2, 3] [4] [] rfl ⟨argP (id := 0) (by (conv=>lhs;whnf)<;>rfl) rfl, argP (id := 1) (by (conv=>lhs;whnf)<;>rfl) rfl, argP (id := 3) (by (conv=>lhs;whnf)<;>rfl) rfl, aq, aq, aq, aq, aq, aq,trivial⟩ ⟨boxL rfl rfl rfl ⟨(.ni _ rfl), (.ni _ rfl),trivial⟩, boxL rfl rfl rfl ⟨(.ni _ rfl), (.oslg 2 2 rfl),trivial⟩, blkR (fun _ => ⟨rfl, rfl⟩) rfl rfl, boxL rfl rfl rfl ⟨(.ni _ rfl), (.ni _ rfl), (.nilz 4 (by simp)),trivial⟩, blkZ rfl,trivial⟩) ?_
   rintro ⟨k_7, a_5⟩ ⟨hk_k_7, hL2⟩
   try dsimp only at hk_k_7 hL2
   show awp _ _ _ _ _ _ ⟨eL [(2, .ptr 0 0), (3, .ptr 1 0), (5, .ptr 3 0), (13, .lst 3 (x_0.L.map encSender)), (14, .int .i64 (x_0.L.length : Int)), (15, .int .i64 (k_3 : Int)), (22, .lst 30 (e_4.Held.map encMessage)), (23, .int .i64 (e_4.Held.length : Int)), (24, .int .i64 (k_7 : Int))], hL [(0, .box [.int .i64 (0 : Int), .nils]), (1, .box [.int .i64 x_0.Window, .osl 2]), (2, .row 3 (a_1.map encSender)), (3, .box [.str e_4.Port, .int .i64 e_4.Next, .osl 4]), (4, .row 30 (a_5.map encMessage))], 5⟩
   conv=>whnf
   refine ⟨fun h=>?_,fun h=>?_⟩
   ·
    have lk7 : k_7 < e_4.Held.length := by have h := of_decide_eq_true h; omega
    obtain ⟨e_8, he8⟩ : ∃ y, e_4.Held[k_7]? = some y := ⟨_, List.getElem?_eq_getElem lk7⟩
    rw [drop_cons he8, inbox_clone_L2.eq_2] at hL2
    conv=>whnf
    refine ⟨k_7, _, rfl, ix_map he8, ?_⟩
    conv=>whnf
    obtain ⟨r_9, hr9, hL2⟩ := bs hL2
    refine ⟨_,_,_,_,_,_,_,_,_,callX false [] [] 0 Tryz.func38 (by decide) rfl (inbox_copied_ac e_8 r_9 hr9) rfl ⟨aq,trivial⟩ rfl trivial rfl rfl rfl lend0 trivial rfl, ?_⟩
    conv=>whnf
    obtain ⟨l_10, hl10, hL2⟩ := bs hL2
    refine ap_q (enc := encMessage) (l := a_5) (y := ([r_9] : List Message)) hl10 rfl rfl (by decide) ?_
    conv=>whnf
    refine ⟨by kernel_rfl, ?_⟩
    conv=>whnf
    refine ⟨((k_7 + 1 : Nat) : Int), wrapE (by omega) (by omega) (by omega), ?_⟩
    conv=>whnf
    exact ⟨(k_7 + 1, l_10), [0, 1, 2, 3, 8], [], [], ⟨lk7, hL2⟩, by show e_4.Held.length - (k_7 + 1) < e_4.Held.length - k_7; omega, wk_mk [0, 1, 2, 3, 8] [] [] rfl ⟨argP (id := 0) (by (conv=>lhs;whnf)<;>rfl) rfl, argP (id := 1) (by (conv=>lhs;whnf)<;>rfl) rfl, argP (id := 3) (by (conv=>lhs;whnf)<;>rfl) rfl, aq, aq, aq, aq, aq, aq,trivial⟩ ⟨boxL rfl rfl rfl ⟨(.ni _ rfl), (.ni _ rfl),trivial⟩, boxL rfl rfl rfl ⟨(.ni _ rfl), (.oslg 2 2 rfl),trivial⟩, blkR (fun _ => ⟨rfl, rfl⟩) rfl rfl, boxL rfl rfl rfl ⟨(.ni _ rfl), (.ni _ rfl), (.oslg 8 4 rfl),trivial⟩, blkR (fun _ => ⟨rfl, rfl⟩) rfl rfl,trivial⟩⟩
   ·
    rw [drop_nil (show e_4.Held.length ≤ k_7 by have h := of_decide_eq_false h; omega), inbox_clone_L2.eq_1] at hL2
    conv=>whnf
    obtain rfl := si hL2
    replace hL1 := sub_brk hL1
    try dsimp only at hL1
    obtain ⟨l_13, hl13, hL1⟩ := bs hL1
    refine ap_raw hl13 (by simp) (by simp [chunkA]) (by decide) ?_
    conv=>whnf
    refine ⟨((k_3 + 1 : Nat) : Int), wrapE (by omega) (by omega) (by omega), ?_⟩
    conv=>whnf
    rcases Nat.lt_or_ge a_1.length P_0.length with hlt_ | hge_
    ·
     exact ⟨.inl (k_3 + 1, l_13), [0, 1, 6], [], [4], ⟨⟨lk3, hL1⟩, foc_ap1 hl13 hlt_⟩, by show x_0.L.length - (k_3 + 1) < x_0.L.length - k_3; omega, wkS (σ1 := ⟨eL [(2, .ptr 0 0), (3, .ptr 1 0), (13, .lst 3 (x_0.L.map encSender)), (14, .int .i64 (x_0.L.length : Int)), (15, .int .i64 ((k_3 + 1) : Int))], hL [(0, .box [.int .i64 (0 : Int), .nils]), (1, .box [.int .i64 x_0.Window, .osl 2]), (2, .row 3 (l_13.map encSender))], 3⟩) rfl (wk_mk [0, 1, 6] [] [4] rfl ⟨argP (id := 0) (by (conv=>lhs;whnf)<;>rfl) rfl, argP (id := 1) (by (conv=>lhs;whnf)<;>rfl) rfl, aq, aq, aq,trivial⟩ ⟨boxL rfl rfl rfl ⟨(.ni _ rfl), (.ni _ rfl),trivial⟩, boxL rfl rfl rfl ⟨(.ni _ rfl), (.oslg 6 2 rfl),trivial⟩, blk_rowsE rfl rfl (RowsA.app (RowsA.ni (map_ok (fun _ => ⟨rfl, rfl⟩) _)) (cellsL (c' := [.str e_4.Port, .int .i64 e_4.Next, .lst 30 (a_5.map encMessage)]) rfl rfl ⟨(.ni _ rfl), (.ni _ rfl), (.osl 4 30 _ (by simp) rfl (map_ni (fun _ => ⟨rfl, rfl⟩) _)),trivial⟩)) (by rw [(apL_some hl13).2, List.map_append]; rfl),trivial⟩)⟩
    ·
     have he_ := foc_ap2 hl13
     subst he_
     exact ⟨.inr (k_3 + 1, a_1, (⟨e_4.Port, e_4.Next, a_5⟩ : Sender), []), [0, 1, 6, 4], [], [], ⟨⟨lk3, hL1⟩, by show a_1.length = P_0.length; omega⟩, by show x_0.L.length - (k_3 + 1) < x_0.L.length - k_3; omega, wkS (σ1 := ⟨eL [(2, .ptr 0 0), (3, .ptr 1 0), (13, .lst 3 (x_0.L.map encSender)), (14, .int .i64 (x_0.L.length : Int)), (15, .int .i64 ((k_3 + 1) : Int))], hL [(0, .box [.int .i64 (0 : Int), .nils]), (1, .box [.int .i64 x_0.Window, .osl 2]), (2, .row 3 (focR encSender a_1 [.str ((⟨e_4.Port, e_4.Next, a_5⟩ : Sender).Port), .int .i64 ((⟨e_4.Port, e_4.Next, a_5⟩ : Sender).Next), .osl 3] [])), (3, .row 30 (((⟨e_4.Port, e_4.Next, a_5⟩ : Sender).Held).map encMessage))], 4⟩) rfl (wk_mk [0, 1, 6, 4] [] [] rfl ⟨argP (id := 0) (by (conv=>lhs;whnf)<;>rfl) rfl, argP (id := 1) (by (conv=>lhs;whnf)<;>rfl) rfl, aq, aq, aq,trivial⟩ ⟨boxL rfl rfl rfl ⟨(.ni _ rfl), (.ni _ rfl),trivial⟩, boxL rfl rfl rfl ⟨(.ni _ rfl), (.oslg 6 2 rfl),trivial⟩, blk_rowsE rfl rfl (focM (enc := encSender) (fun _ => ⟨rfl, rfl⟩) (cellsL (c' := [.str ((⟨e_4.Port, e_4.Next, a_5⟩ : Sender).Port), .int .i64 ((⟨e_4.Port, e_4.Next, a_5⟩ : Sender).Next), .osl 3]) rfl rfl ⟨(.ni _ rfl), (.ni _ rfl), (.oslg 4 3 rfl),trivial⟩)) rfl, blkR (fun _ => ⟨rfl, rfl⟩) rfl rfl,trivial⟩)⟩
  ·
   rw [drop_nil (show x_0.L.length ≤ k_3 by have h := of_decide_eq_false h; omega), inbox_clone_L1.eq_1] at hL1
   conv=>whnf
   obtain rfl := si hL1
   exact (Nat.lt_irrefl _ (Nat.lt_of_lt_of_le (hfn_ _ rfl) hp_p_16)).elim
 ·
  try dsimp only at hk_k_3 hL1 hp_p_16
  show awp _ _ _ _ _ _ ⟨eL [(2, .ptr 0 0), (3, .ptr 1 0), (13, .lst 3 (x_0.L.map encSender)), (14, .int .i64 (x_0.L.length : Int)), (15, .int .i64 (k_3 : Int))], hL [(0, .box [.int .i64 (0 : Int), .nils]), (1, .box [.int .i64 x_0.Window, .osl 2]), (2, .row 3 (focR encSender p_16 [.str g_17.Port, .int .i64 g_17.Next, .osl 3] q_18)), (3, .row 30 (g_17.Held.map encMessage))], 4⟩
  conv=>whnf
  refine ⟨fun h=>?_,fun h=>?_⟩
  ·
   have lk3 : k_3 < x_0.L.length := by have h := of_decide_eq_true h; omega
   obtain ⟨e_4, he4⟩ : ∃ y, x_0.L[k_3]? = some y := ⟨_, List.getElem?_eq_getElem lk3⟩
   rw [drop_cons he4, inbox_clone_L1.eq_2] at hL1
   conv=>whnf
   refine ⟨k_3, _, rfl, ix_map he4, ?_⟩
   conv=>whnf
   refine len_q (enc := encMessage) (l := e_4.Held) rfl ?_
   conv=>whnf
   obtain ⟨c_2, hc_2, hL1⟩ := sub_some hL1
   refine sw_bv 6 (v := .lst 30 (e_4.Held.map encMessage)) (by (conv=>lhs;whnf)<;>rfl) (fun hb=>?_)
   have hbd_k_7 : e_4.Held.length ≤ 9223372036854775807 := bnd_len (enc := encMessage) (hb)
   refine sw_loop tab_ok follows_ok (fun y : Nat × (List Message) => y.1 ≤ e_4.Held.length ∧ inbox_clone_L2 (e_4.Held.drop y.1) y.1 y.2 = some c_2) (fun y => ⟨eL [(2, .ptr 0 0), (3, .ptr 1 0), (5, .ptr 3 0), (13, .lst 3 (x_0.L.map encSender)), (14, .int .i64 (x_0.L.length : Int)), (15, .int .i64 (k_3 : Int)), (22, .lst 30 (e_4.Held.map encMessage)), (23, .int .i64 (e_4.Held.length : Int)), (24, .int .i64 (y.1 : Int))], hL [(0, .box [.int .i64 (0 : Int), .nils]), (1, .box [.int .i64 x_0.Window, .osl 2]), (2, .row 3 (focR encSender p_16 [.str g_17.Port, .int .i64 g_17.Next, .osl 4] q_18)), (3, .box [.str e_4.Port, .int .i64 e_4.Next, .osl 5]), (4, .row 30 (g_17.Held.map encMessage)), (5, .row 30 (y.2.map encMessage))], 6⟩) (fun y => e_4.Held.length - y.1) (0, ([] : List Message)) ⟨Nat.zero_le _, hc_2⟩ (wk_mk [0, 1, 2, 4, 3] [5] [] rfl ⟨argP (id := 0) (by (conv=>lhs;whnf)<;>rfl) rfl, argP (id := 1) (by (conv=>lhs;whnf)<;>rfl) rfl, argP (id := 4) (by (conv=>lhs;whnf)<;>rfl) rfl, aq, aq, aq, aq, aq, aq,trivial⟩ ⟨boxL rfl rfl rfl ⟨(.ni _ rfl), (.ni _ rfl),trivial⟩, boxL rfl rfl rfl ⟨(.ni _ rfl), (.oslg 2 2 rfl),trivial⟩, blk_rowsE rfl rfl (focA (enc := encSender) (fun _ => ⟨rfl, rfl⟩) (cellsL (c' := [.str g_17.Port, .int .i64 g_17.Next, .osl 4]) rfl rfl ⟨(.ni _ rfl), (.ni _ rfl), (.oslg 3 4 rfl),trivial⟩)) rfl, boxL rfl rfl rfl ⟨(.ni _ rfl), (.ni _ rfl), (.nilz 5 (by simp)),trivial⟩, blkR (fun _ => ⟨rfl, rfl⟩) rfl rfl, blkZ rfl,trivial⟩) ?_
   rintro ⟨k_7, a_5⟩ ⟨hk_k_7, hL2⟩
   try dsimp only at hk_k_7 hL2
   show awp _ _ _ _ _ _ ⟨eL [(2, .ptr 0 0), (3, .ptr 1 0), (5, .ptr 3 0), (13, .lst 3 (x_0.L.map encSender)), (14, .int .i64 (x_0.L.length : Int)), (15, .int .i64 (k_3 : Int)), (22, .lst 30 (e_4.Held.map encMessage)), (23, .int .i64 (e_4.Held.length : Int)), (24, .int .i64 (k_7 : Int))], hL [(0, .box [.int .i64 (0 : Int), .nils]), (1, .box [.int .i64 x_0.Window, .osl 2]), (2, .row 3 (focR encSender p_16 [.str g_17.Port, .int .i64 g_17.Next, .osl 4] q_18)), (3, .box [.str e_4.Port, .int .i64 e_4.Next, .osl 5]), (4, .row 30 (g_17.Held.map encMessage)), (5, .row 30 (a_5.map encMessage))], 6⟩
   conv=>whnf
   refine ⟨fun h=>?_,fun h=>?_⟩
   ·
    have lk7 : k_7 < e_4.Held.length := by have h := of_decide_eq_true h; omega
    obtain ⟨e_8, he8⟩ : ∃ y, e_4.Held[k_7]? = some y := ⟨_, List.getElem?_eq_getElem lk7⟩
    rw [drop_cons he8, inbox_clone_L2.eq_2] at hL2
    conv=>whnf
    refine ⟨k_7, _, rfl, ix_map he8, ?_⟩
    conv=>whnf
    obtain ⟨r_9, hr9, hL2⟩ := bs hL2
    refine ⟨_,_,_,_,_,_,_,_,_,callX false [] [] 0 Tryz.func38 (by decide) rfl (inbox_copied_ac e_8 r_9 hr9) rfl ⟨aq,trivial⟩ rfl trivial rfl rfl rfl lend0 trivial rfl, ?_⟩
    conv=>whnf
    obtain ⟨l_10, hl10, hL2⟩ := bs hL2
    refine ap_q (enc := encMessage) (l := a_5) (y := ([r_9] : List Message)) hl10 rfl rfl (by decide) ?_
    conv=>whnf
    refine ⟨by kernel_rfl, ?_⟩
    conv=>whnf
    refine ⟨((k_7 + 1 : Nat) : Int), wrapE (by omega) (by omega) (by omega), ?_⟩
    conv=>whnf
    exact ⟨(k_7 + 1, l_10), [0, 1, 2, 3, 4, 9], [], [], ⟨lk7, hL2⟩, by show e_4.Held.length - (k_7 + 1) < e_4.Held.length - k_7; omega, wk_mk [0, 1, 2, 3, 4, 9] [] [] rfl ⟨argP (id := 0) (by (conv=>lhs;whnf)<;>rfl) rfl, argP (id := 1) (by (conv=>lhs;whnf)<;>rfl) rfl, argP (id := 3) (by (conv=>lhs;whnf)<;>rfl) rfl, aq, aq, aq, aq, aq, aq,trivial⟩ ⟨boxL rfl rfl rfl ⟨(.ni _ rfl), (.ni _ rfl),trivial⟩, boxL rfl rfl rfl ⟨(.ni _ rfl), (.oslg 2 2 rfl),trivial⟩, blk_rowsE rfl rfl (focA (enc := encSender) (fun _ => ⟨rfl, rfl⟩) (cellsL (c' := [.str g_17.Port, .int .i64 g_17.Next, .osl 4]) rfl rfl ⟨(.ni _ rfl), (.ni _ rfl), (.oslg 4 4 rfl),trivial⟩)) rfl, boxL rfl rfl rfl ⟨(.ni _ rfl), (.ni _ rfl), (.oslg 9 5 rfl),trivial⟩, blkR (fun _ => ⟨rfl, rfl⟩) rfl rfl, blkR (fun _ => ⟨rfl, rfl⟩) rfl rfl,trivial⟩⟩
   ·
    rw [drop_nil (show e_4.Held.length ≤ k_7 by have h := of_decide_eq_false h; omega), inbox_clone_L2.eq_1] at hL2
    conv=>whnf
    obtain rfl := si hL2
    replace hL1 := sub_brk hL1
    try dsimp only at hL1
    obtain ⟨l_13, hl13, hL1⟩ := bs hL1
    refine ap_raw hl13 (by rw [foc_len]; simp; omega) (by simp [chunkA]) (by decide) ?_
    conv=>whnf
    refine ⟨((k_3 + 1 : Nat) : Int), wrapE (by omega) (by omega) (by omega), ?_⟩
    conv=>whnf
    have he_ := foc_ap3 hl13
    subst he_
    exact ⟨.inr (k_3 + 1, p_16, g_17, (q_18 ++ [(⟨e_4.Port, e_4.Next, a_5⟩ : Sender)])), [0, 1, 7, 4], [], [5], ⟨⟨lk3, hL1⟩, hp_p_16⟩, by show x_0.L.length - (k_3 + 1) < x_0.L.length - k_3; omega, wkS (σ1 := ⟨eL [(2, .ptr 0 0), (3, .ptr 1 0), (13, .lst 3 (x_0.L.map encSender)), (14, .int .i64 (x_0.L.length : Int)), (15, .int .i64 ((k_3 + 1) : Int))], hL [(0, .box [.int .i64 (0 : Int), .nils]), (1, .box [.int .i64 x_0.Window, .osl 2]), (2, .row 3 (focR encSender p_16 [.str g_17.Port, .int .i64 g_17.Next, .osl 3] (q_18 ++ [(⟨e_4.Port, e_4.Next, a_5⟩ : Sender)]))), (3, .row 30 (g_17.Held.map encMessage))], 4⟩) rfl (wk_mk [0, 1, 7, 4] [] [5] rfl ⟨argP (id := 0) (by (conv=>lhs;whnf)<;>rfl) rfl, argP (id := 1) (by (conv=>lhs;whnf)<;>rfl) rfl, aq, aq, aq,trivial⟩ ⟨boxL rfl rfl rfl ⟨(.ni _ rfl), (.ni _ rfl),trivial⟩, boxL rfl rfl rfl ⟨(.ni _ rfl), (.oslg 7 2 rfl),trivial⟩, blk_rowsE rfl rfl (focN (enc := encSender) (fun _ => ⟨rfl, rfl⟩) (cellsL (c' := [.str g_17.Port, .int .i64 g_17.Next, .osl 3]) rfl rfl ⟨(.ni _ rfl), (.ni _ rfl), (.oslg 4 3 rfl),trivial⟩) (cellsL (c' := [.str e_4.Port, .int .i64 e_4.Next, .lst 30 (a_5.map encMessage)]) rfl rfl ⟨(.ni _ rfl), (.ni _ rfl), (.osl 5 30 _ (by simp) rfl (map_ni (fun _ => ⟨rfl, rfl⟩) _)),trivial⟩) rfl) rfl, blkR (fun _ => ⟨rfl, rfl⟩) rfl rfl,trivial⟩)⟩
  ·
   rw [drop_nil (show x_0.L.length ≤ k_3 by have h := of_decide_eq_false h; omega), inbox_clone_L1.eq_1] at hL1
   conv=>whnf
   obtain rfl := si hL1
   replace hF := fin_brk hF
   try dsimp only at hF
   obtain rfl := si hF
   obtain ⟨h1_, h2_, h3_⟩ := foc_inj hE_ hp_p_16
   subst h1_ h2_ h3_
   exact ret_gz [2, 3] [] [] rfl (argA (c := [.int .i64 x_0.Window, .osl 2]) (by (conv=>lhs;whnf)<;>rfl) rfl ⟨(.ni _ rfl), (.oslg 2 0 rfl),trivial⟩) ⟨blk_rowsE rfl rfl (focA (enc := encSender) (fun _ => ⟨rfl, rfl⟩) (cellsL (c' := [.str e_0.Port, .int .i64 e_0.Next, .osl 1]) rfl rfl ⟨(.ni _ rfl), (.ni _ rfl), (.oslg 3 1 rfl),trivial⟩)) rfl, blkR (fun _ => ⟨rfl, rfl⟩) rfl rfl,trivial⟩

theorem slices_Insert_Message_ac (x_0 : (List Message)) (x_1 : Int) (x_2 : (List Message)) (r : (List Message)) (hF : slices_Insert_Message x_0 x_1 x_2 = some r) : AC Tryz.prog 37 [.osl 0, .int .i64 x_1, .osl 1] [.row 30 (x_0.map encMessage), .row 30 (x_2.map encMessage)] (.osl 2) [.dead, .dead, .row 30 (r.map encMessage)] := by
 exact InsMessage.insert_ac encMessage x_0 x_2 x_1 r hF

theorem slices_Clone_Message_ac (x_0 : (List Message)) (r : (List Message)) (hF : slices_Clone_Message x_0 = some r) : AC Tryz.prog 78 [.lst 30 (x_0.map encMessage)] [] (.osl 0) [.row 30 (r.map encMessage)] := by
 refine ac_of tab_ok follows_ok Tryz.func78 rfl Tryz.ntmps78 rfl ?_
 unfold slices_Clone_Message at hF
 conv=>whnf
 intro b hb
 conv=>whnf
 refine ⟨fun h=>?_,fun h=>?_⟩
 ·
  have hx : x_0 = [] := List.map_eq_nil_iff.1 (hb h)
  subst hx
  obtain ⟨h1, rfl⟩ := apL_some hF
  conv=>whnf
  exact ret_gz [] [0] [] rfl (argZ (by (conv=>lhs;whnf)<;>rfl) rfl) ⟨blkZ rfl,trivial⟩
 ·
  conv=>whnf
  refine ap_q (enc := encMessage) (l := ([] : List Message)) (y := x_0) hF rfl rfl (by decide) ?_
  conv=>whnf
  exact ret_gz [1] [] [] rfl (argO (id := 1) (by (conv=>lhs;whnf)<;>rfl) rfl) ⟨blkR (fun _ => ⟨rfl, rfl⟩) rfl rfl,trivial⟩

theorem inbox_release_ac (x_0 : (List Sender)) (x_1 : Nat) (r : (List Message) × (List Sender)) (hF : inbox_release x_0 x_1 = some r) : AC Tryz.prog 39 [.eptr 0 3 x_1 0] [.row 3 (x_0.map encSender)] (.lst 30 (r.1.map encMessage)) [.row 3 (r.2.map encSender)] := by
 refine ac_of tab_ok follows_ok Tryz.func39 rfl Tryz.ntmps39 rfl ?_
 unfold inbox_release at hF
 conv=>whnf
 obtain ⟨c_1, hc_1, hF⟩ := fin_some hF
 refine sw_loop tab_ok follows_ok (fun y : Nat × (List Sender) × Int => inbox_release_L1 x_1 y.1 y.2.1 y.2.2 = some c_1) (fun y => ⟨eL [(0, .eptr 0 3 x_1 0), (3, .int .i64 y.2.2)], hL [(0, .row 3 (y.2.1.map encSender))], 1⟩) (fun y => y.1) (9223372036854775807, x_0, (0 : Int)) hc_1 (wk_mk [0] [] [] rfl ⟨argEp (id := 0) (by (conv=>lhs;whnf)<;>rfl) rfl, aq,trivial⟩ ⟨blkR (fun _ => ⟨rfl, rfl⟩) rfl rfl,trivial⟩) ?_
 rintro ⟨q_5, a_1, i_2⟩ hL1
 try dsimp only at hL1
 rcases q_5 with _ | q_5
 ·
  rw [inbox_release_L1.eq_1] at hL1
  cases hL1
 rw [inbox_release_L1.eq_2] at hL1
 show awp _ _ _ _ _ _ ⟨eL [(0, .eptr 0 3 x_1 0), (3, .int .i64 i_2)], hL [(0, .row 3 (a_1.map encSender))], 1⟩
 conv=>whnf
 obtain ⟨v_3, hv3, hL1⟩ := bs hL1
 refine ⟨_, ix_map (enc := encSender) (ixL_at hv3 rfl), ?_⟩
 conv=>whnf
 refine len_q (enc := encMessage) (l := v_3.Held) rfl ?_
 conv=>whnf
 refine ⟨fun b9=>?_,fun b9=>?_⟩
 ·
  replace hL1 := ct b9 hL1
  conv=>whnf
  refine ⟨_, ix_map (enc := encSender) (ixL_at hv3 rfl), ?_⟩
  conv=>whnf
  obtain ⟨e_4, he4, hL1⟩ := bs hL1
  refine ix_q (enc := encMessage) (l := v_3.Held) he4 rfl (fun m_e_4 hm_e_4 hx_e_4=>?_)
  conv=>whnf
  refine ⟨_, ix_map (enc := encSender) (ixL_at hv3 rfl), ?_⟩
  conv=>whnf
  refine ⟨by kernel_rfl, ?_⟩
  conv=>whnf
  refine ⟨fun b10=>?_,fun b10=>?_⟩
  ·
   replace hL1 := ct b10 hL1
   conv=>whnf
   refine ⟨_, ix_map (enc := encSender) (ixL_at hv3 rfl), ?_⟩
   conv=>whnf
   refine ⟨_, rfl, ?_⟩
   conv=>whnf
   refine st_q (enc := encSender) (l := a_1) (x' := (⟨v_3.Port, (w64 (v_3.Next + (1 : Int))), v_3.Held⟩ : Sender)) (i := (x_1 : Int)) rfl (ixL_at hv3 rfl) rfl (Nat.le_of_ble_eq_true rfl) rfl ?_
   conv=>whnf
   refine ⟨_, rfl, ?_⟩
   conv=>whnf
   exact ⟨(q_5, (a_1.set (x_1 : Int).toNat (⟨v_3.Port, (w64 (v_3.Next + (1 : Int))), v_3.Held⟩ : Sender)), (w64 (i_2 + (1 : Int)))), [0], [], [], hL1, Nat.lt_succ_self _, wk_mk [0] [] [] rfl ⟨argEp (id := 0) (by (conv=>lhs;whnf)<;>rfl) rfl, aq,trivial⟩ ⟨blkR (fun _ => ⟨rfl, rfl⟩) rfl rfl,trivial⟩⟩
  ·
   replace hL1 := cf b10 hL1
   conv=>whnf
   obtain rfl := si hL1
   replace hF := fin_brk hF
   try dsimp only at hF
   obtain ⟨v_7, hv7, hF⟩ := bs hF
   refine ⟨_, ix_map (enc := encSender) (ixL_at hv7 rfl), ?_⟩
   conv=>whnf
   obtain ⟨l_8, hl8, hF⟩ := bs hF
   refine sl_q0 (enc := encMessage) (l := v_7.Held) hl8 rfl ?_
   conv=>whnf
   obtain ⟨r_9, hr9, hF⟩ := bs hF
   refine ⟨_,_,_,_,_,_,_,_,_,callX false [] [] 1 Tryz.func78 (by decide) rfl (slices_Clone_Message_ac l_8 r_9 hr9) rfl ⟨aq,trivial⟩ rfl trivial rfl rfl rfl lend0 ⟨renR (fun _ => ⟨rfl, rfl⟩),trivial⟩ rfl, ?_⟩
   conv=>whnf
   refine ⟨_, ix_map (enc := encSender) (ixL_at hv7 rfl), ?_⟩
   conv=>whnf
   obtain ⟨l_10, hl10, hF⟩ := bs hF
   refine sl_q1 (enc := encMessage) (l := v_7.Held) hl10 rfl ?_
   conv=>whnf
   obtain ⟨r_11, hr11, hF⟩ := bs hF
   refine ⟨_,_,_,_,_,_,_,_,_,callX false [] [] 1 Tryz.func78 (by decide) rfl (slices_Clone_Message_ac l_10 r_11 hr11) rfl ⟨aq,trivial⟩ rfl trivial rfl rfl rfl lend0 ⟨renR (fun _ => ⟨rfl, rfl⟩),trivial⟩ rfl, ?_⟩
   conv=>whnf
   refine ⟨map_ni (fun _ => ⟨rfl, rfl⟩) _, ?_⟩
   conv=>whnf
   refine st_q (enc := encSender) (l := a_1) (x' := (⟨v_7.Port, v_7.Next, r_11⟩ : Sender)) (i := (x_1 : Int)) rfl (ixL_at hv7 rfl) rfl (Nat.le_of_ble_eq_true rfl) rfl ?_
   conv=>whnf
   obtain rfl := si hF
   exact ret_gz [0] [] [1] rfl (argOL 1 (by (conv=>lhs;whnf)<;>rfl) rfl rfl (map_ni (fun _ => ⟨rfl, rfl⟩) _)) ⟨blkR (fun _ => ⟨rfl, rfl⟩) rfl rfl,trivial⟩
 ·
  replace hL1 := cf b9 hL1
  conv=>whnf
  refine ⟨by kernel_rfl, ?_⟩
  conv=>whnf
  obtain rfl := si hL1
  replace hF := fin_brk hF
  try dsimp only at hF
  obtain ⟨v_7, hv7, hF⟩ := bs hF
  refine ⟨_, ix_map (enc := encSender) (ixL_at hv7 rfl), ?_⟩
  conv=>whnf
  obtain ⟨l_8, hl8, hF⟩ := bs hF
  refine sl_q0 (enc := encMessage) (l := v_7.Held) hl8 rfl ?_
  conv=>whnf
  obtain ⟨r_9, hr9, hF⟩ := bs hF
  refine ⟨_,_,_,_,_,_,_,_,_,callX false [] [] 1 Tryz.func78 (by decide) rfl (slices_Clone_Message_ac l_8 r_9 hr9) rfl ⟨aq,trivial⟩ rfl trivial rfl rfl rfl lend0 ⟨renR (fun _ => ⟨rfl, rfl⟩),trivial⟩ rfl, ?_⟩
  conv=>whnf
  refine ⟨_, ix_map (enc := encSender) (ixL_at hv7 rfl), ?_⟩
  conv=>whnf
  obtain ⟨l_10, hl10, hF⟩ := bs hF
  refine sl_q1 (enc := encMessage) (l := v_7.Held) hl10 rfl ?_
  conv=>whnf
  obtain ⟨r_11, hr11, hF⟩ := bs hF
  refine ⟨_,_,_,_,_,_,_,_,_,callX false [] [] 1 Tryz.func78 (by decide) rfl (slices_Clone_Message_ac l_10 r_11 hr11) rfl ⟨aq,trivial⟩ rfl trivial rfl rfl rfl lend0 ⟨renR (fun _ => ⟨rfl, rfl⟩),trivial⟩ rfl, ?_⟩
  conv=>whnf
  refine ⟨map_ni (fun _ => ⟨rfl, rfl⟩) _, ?_⟩
  conv=>whnf
  refine st_q (enc := encSender) (l := a_1) (x' := (⟨v_7.Port, v_7.Next, r_11⟩ : Sender)) (i := (x_1 : Int)) rfl (ixL_at hv7 rfl) rfl (Nat.le_of_ble_eq_true rfl) rfl ?_
  conv=>whnf
  obtain rfl := si hF
  exact ret_gz [0] [] [1] rfl (argOL 1 (by (conv=>lhs;whnf)<;>rfl) rfl rfl (map_ni (fun _ => ⟨rfl, rfl⟩) _)) ⟨blkR (fun _ => ⟨rfl, rfl⟩) rfl rfl,trivial⟩

theorem slices_Insert_Message_v2_ac (x_0 : Int) (x_1 : (List Message)) (r : (List Message)) (hF : slices_Insert_Message_v2 x_0 x_1 = some r) : AC Tryz.prog 37 [.nils, .int .i64 x_0, .osl 0] [.row 30 (x_1.map encMessage)] (.osl 1) [.dead, .row 30 (r.map encMessage)] := by
 exact InsMessage.insnil_ac encMessage (fun _ => ⟨rfl, rfl⟩) x_1 x_0 r hF

theorem inbox_Receive_ac (x_0 : Inbox) (x_1 : Message) (r : Inbox × (List Message) × Int × Int) (hF : inbox_Receive x_0 x_1 = some r) : AC Tryz.prog 10 [.agg (encInbox x_0), .agg (encMessage x_1)] [] (.tup [.agg (encInbox r.1), .lst 30 (r.2.1.map encMessage), .int .i64 r.2.2.1, .int .i64 r.2.2.2]) [] := by
 refine ac_of tab_ok follows_ok Tryz.func10 rfl Tryz.ntmps10 rfl ?_
 unfold inbox_Receive at hF
 conv=>whnf
 obtain ⟨r_1, hr1, hF⟩ := bs hF
 refine ⟨_,_,_,_,_,_,_,_,_,callX false [] [] 0 Tryz.func29 (by decide) rfl (message_Validate_ac x_1 r_1 hr1) rfl ⟨aq,trivial⟩ rfl trivial rfl rfl rfl lend0 trivial rfl, ?_⟩
 conv=>whnf
 refine ⟨fun b13=>?_,fun b13=>?_⟩
 ·
  replace hF := ct b13 hF
  conv=>whnf
  obtain rfl := si hF
  exact ret_gz [] [] [] rfl (tupL rfl ⟨(argA (c := [.int .i64 (0 : Int), .nils]) (by (conv=>lhs;whnf)<;>rfl) rfl ⟨(.ni _ rfl), (.nils _),trivial⟩), (argN (by (conv=>lhs;whnf)<;>rfl)), aq, aq,trivial⟩) trivial
 ·
  replace hF := cf b13 hF
  conv=>whnf
  obtain ⟨r_2, hr2, hF⟩ := bs hF
  refine ⟨_,_,_,_,_,_,_,_,_,callX false [] [] 0 Tryz.func30 (by decide) rfl (inbox_find_ac x_0 x_1.Port r_2 hr2) rfl ⟨aq, aq,trivial⟩ rfl trivial rfl rfl rfl lend0 trivial rfl, ?_⟩
  conv=>whnf
  refine ⟨fun b14=>?_,fun b14=>?_⟩
  ·
   replace hF := ct b14 hF
   conv=>whnf
   obtain ⟨e_3, he3, hF⟩ := bs hF
   refine ix_q (enc := encSender) (l := x_0.L) he3 rfl (fun m_e_3 hm_e_3 hx_e_3=>?_)
   conv=>whnf
   obtain ⟨r_4, hr4, hF⟩ := bs hF
   refine ⟨_,_,_,_,_,_,_,_,_,callX false [] [] 0 Tryz.func31 (by decide) rfl (slices_BinarySearchFunc_int_ac e_3.Held x_1.Number r_4 hr4) rfl ⟨aq, aq, aq,trivial⟩ rfl trivial rfl rfl rfl lend0 trivial rfl, ?_⟩
   conv=>whnf
   refine ⟨fun b15=>?_,fun b15=>?_⟩
   ·
    replace hF := ct b15 hF
    conv=>whnf
    obtain ⟨r_5, hr5, hF⟩ := bs hF
    refine ⟨_,_,_,_,_,_,_,_,_,callX false [] [] 1 Tryz.func34 (by decide) rfl (inbox_clone_ac x_0 r_5 hr5) rfl ⟨aq,trivial⟩ rfl trivial rfl rfl rfl lend0 ⟨renR (fun _ => ⟨rfl, rfl⟩),trivial⟩ rfl, ?_⟩
    conv=>whnf
    obtain rfl := si hF
    exact ret_gz [] [] [7] rfl (tupL rfl ⟨(argA (c := [.int .i64 r_5.Window, .osl 7]) (by (conv=>lhs;whnf)<;>rfl) rfl ⟨(.ni _ rfl), (.osl 7 3 _ (by simp) rfl (map_ni (fun _ => ⟨rfl, rfl⟩) _)),trivial⟩), (argN (by (conv=>lhs;whnf)<;>rfl)), aq, aq,trivial⟩) trivial
   ·
    replace hF := cf b15 hF
    conv=>whnf
    refine ⟨_, rfl, ?_⟩
    conv=>whnf
    refine ⟨fun b16=>?_,fun b16=>?_⟩
    ·
     replace hF := ct b16 hF
     conv=>whnf
     obtain ⟨r_6, hr6, hF⟩ := bs hF
     refine ⟨_,_,_,_,_,_,_,_,_,callX false [] [] 1 Tryz.func34 (by decide) rfl (inbox_clone_ac x_0 r_6 hr6) rfl ⟨aq,trivial⟩ rfl trivial rfl rfl rfl lend0 ⟨renR (fun _ => ⟨rfl, rfl⟩),trivial⟩ rfl, ?_⟩
     conv=>whnf
     obtain rfl := si hF
     exact ret_gz [] [] [7] rfl (tupL rfl ⟨(argA (c := [.int .i64 r_6.Window, .osl 7]) (by (conv=>lhs;whnf)<;>rfl) rfl ⟨(.ni _ rfl), (.osl 7 3 _ (by simp) rfl (map_ni (fun _ => ⟨rfl, rfl⟩) _)),trivial⟩), (argN (by (conv=>lhs;whnf)<;>rfl)), aq, aq,trivial⟩) trivial
    ·
     replace hF := cf b16 hF
     conv=>whnf
     refine ⟨fun b17=>?_,fun b17=>?_⟩
     ·
      replace hF := ct b17 hF
      conv=>whnf
      obtain ⟨e_7, he7, hF⟩ := bs hF
      refine ix_q (enc := encMessage) (l := e_3.Held) he7 rfl (fun m_e_7 hm_e_7 hx_e_7=>?_)
      conv=>whnf
      obtain ⟨r_8, hr8, hF⟩ := bs hF
      refine ⟨_,_,_,_,_,_,_,_,_,callX false [] [] 0 Tryz.func35 (by decide) rfl (message_Same_ac e_7 x_1 r_8 hr8) rfl ⟨aq, aq,trivial⟩ rfl trivial rfl rfl rfl lend0 trivial rfl, ?_⟩
      conv=>whnf
      refine ⟨by kernel_rfl, ?_⟩
      conv=>whnf
      refine ⟨fun b18=>?_,fun b18=>?_⟩
      ·
       replace hF := ct b18 hF
       conv=>whnf
       obtain ⟨r_9, hr9, hF⟩ := bs hF
       refine ⟨_,_,_,_,_,_,_,_,_,callX false [] [] 1 Tryz.func34 (by decide) rfl (inbox_clone_ac x_0 r_9 hr9) rfl ⟨aq,trivial⟩ rfl trivial rfl rfl rfl lend0 ⟨renR (fun _ => ⟨rfl, rfl⟩),trivial⟩ rfl, ?_⟩
       conv=>whnf
       obtain rfl := si hF
       exact ret_gz [] [] [8] rfl (tupL rfl ⟨(argA (c := [.int .i64 r_9.Window, .osl 8]) (by (conv=>lhs;whnf)<;>rfl) rfl ⟨(.ni _ rfl), (.osl 8 3 _ (by simp) rfl (map_ni (fun _ => ⟨rfl, rfl⟩) _)),trivial⟩), (argN (by (conv=>lhs;whnf)<;>rfl)), aq, aq,trivial⟩) trivial
      ·
       replace hF := cf b18 hF
       conv=>whnf
       refine ⟨fun h=>?_,fun h=>?_⟩
       ·
        conv=>whnf
        obtain ⟨r_10, hr10, hF⟩ := bs hF
        refine ⟨_,_,_,_,_,_,_,_,_,callX false [] [] 1 Tryz.func34 (by decide) rfl (inbox_clone_ac x_0 r_10 hr10) rfl ⟨aq,trivial⟩ rfl trivial rfl rfl rfl lend0 ⟨renR (fun _ => ⟨rfl, rfl⟩),trivial⟩ rfl, ?_⟩
        conv=>whnf
        obtain rfl := si hF
        exact ret_gz [] [] [8] rfl (tupL rfl ⟨(argA (c := [.int .i64 r_10.Window, .osl 8]) (by (conv=>lhs;whnf)<;>rfl) rfl ⟨(.ni _ rfl), (.osl 8 3 _ (by simp) rfl (map_ni (fun _ => ⟨rfl, rfl⟩) _)),trivial⟩), (argN (by (conv=>lhs;whnf)<;>rfl)), aq, aq,trivial⟩) trivial
       ·
        cases (b17).symm.trans h
     ·
      replace hF := cf b17 hF
      conv=>whnf
      refine ⟨by kernel_rfl, ?_⟩
      conv=>whnf
      refine ⟨fun h=>?_,fun h=>?_⟩
      ·
       cases (b17).symm.trans h
      ·
       conv=>whnf
       refine ⟨fun h=>?_,fun h=>?_⟩
       ·
        cases (not_kn (b14)).symm.trans h
       ·
        conv=>whnf
        obtain ⟨r_11, hr11, hF⟩ := bs hF
        obtain ⟨hr11, p_fr_11, q_fr_11, n_fr_11, hi_fr_11, hE_fr_11, hp_fr_11⟩ := focE_some hr11
        refine ⟨_,_,_,_,_,_,_,_,_,callY false [.row 3 (focR encSender p_fr_11 [.str r_11.2.Port, .int .i64 r_11.2.Next, .osl 8] q_fr_11), .row 30 (r_11.2.Held.map encMessage)] [] [] 2 Tryz.func34 (by decide) rfl (inbox_clone_foc2 x_0 r_11.1 p_fr_11 r_11.2 q_fr_11 hE_fr_11 hr11) rfl ⟨aq,trivial⟩ rfl trivial rfl rfl rfl lend0 rfl ⟨renF (fun _ => ⟨rfl, rfl⟩) rfl, renR (fun _ => ⟨rfl, rfl⟩),trivial⟩ rfl, ?_⟩
        conv=>whnf
        refine ⟨fun h=>?_,fun h=>?_⟩
        ·
         cases (not_kn (b14)).symm.trans h
        ·
         conv=>whnf
         refine fix_q (enc := encSender) hp_fr_11 hi_fr_11 rfl ?_
         conv=>whnf
         refine fld_q (enc := encSender) hp_fr_11 rfl ?_
         conv=>whnf
         obtain ⟨r_12, hr12, hF⟩ := bs hF
         refine ⟨_,_,_,_,_,_,_,_,_,callX false [] [] 0 Tryz.func38 (by decide) rfl (inbox_copied_ac x_1 r_12 hr12) rfl ⟨aq,trivial⟩ rfl trivial rfl rfl rfl lend0 trivial rfl, ?_⟩
         conv=>whnf
         obtain ⟨r_13, hr13, hF⟩ := bs hF
         refine ⟨_,_,_,_,_,_,_,_,_,callY false [.dead, .dead, .row 30 (r_13.map encMessage)] [8, 12] [] 1 Tryz.func37 (by decide) rfl (slices_Insert_Message_ac r_11.2.Held r_4.1 ([r_12] : List Message) r_13 hr13) rfl ⟨(argO (id := 8) (by (conv=>lhs;whnf)<;>rfl) rfl), aq, (argO (id := 12) (by (conv=>lhs;whnf)<;>rfl) rfl),trivial⟩ rfl ⟨(grR (fun _ => ⟨rfl, rfl⟩) rfl), (grR (fun _ => ⟨rfl, rfl⟩) rfl),trivial⟩ rfl rfl rfl lend0 rfl ⟨rfl, rfl, renR (fun _ => ⟨rfl, rfl⟩),trivial⟩ rfl, ?_⟩
         conv=>whnf
         refine ⟨map_ni (fun _ => ⟨rfl, rfl⟩) _, ?_⟩
         conv=>whnf
         refine fst_q (enc := encSender) (l := r_11.1.L) (x' := (⟨r_11.2.Port, r_11.2.Next, r_13⟩ : Sender)) hE_fr_11 hp_fr_11 hi_fr_11 rfl (Nat.le_of_ble_eq_true rfl) rfl ?_
         conv=>whnf
         refine ⟨by kernel_rfl, ?_⟩
         conv=>whnf
         obtain ⟨v_14, hv14, hF⟩ := bs hF
         refine ⟨_, ix_map (enc := encSender) (ixL_at hv14 hi_fr_11), ?_⟩
         conv=>whnf
         refine ⟨by kernel_rfl, ?_⟩
         conv=>whnf
         refine ⟨fun b19=>?_,fun b19=>?_⟩
         ·
          replace hF := ct b19 hF
          conv=>whnf
          obtain rfl := si hF
          exact ret_gz [] [] [7] rfl (tupL rfl ⟨(argA (c := [.int .i64 r_11.1.Window, .osl 7]) (by (conv=>lhs;whnf)<;>rfl) rfl ⟨(.ni _ rfl), (.osl 7 3 _ (by simp) rfl (map_ni (fun _ => ⟨rfl, rfl⟩) _)),trivial⟩), (argN (by (conv=>lhs;whnf)<;>rfl)), aq, aq,trivial⟩) trivial
         ·
          replace hF := cf b19 hF
          conv=>whnf
          obtain ⟨r_15, hr15, hF⟩ := bs hF
          refine ⟨_,_,_,_,_,_,_,_,_,callX false [7] [] 0 Tryz.func39 (by decide) rfl (inbox_release_ac (r_11.1.L.set r_2.1.toNat (⟨r_11.2.Port, r_11.2.Next, r_13⟩ : Sender)) ((r_2.1).toNat) r_15 hr15) rfl ⟨(argEp (id := 7) (by (conv => lhs; whnf); rw [show (r_2.1).toNat = n_fr_11 from toNat_of hi_fr_11]) rfl),trivial⟩ rfl ⟨(grR (fun _ => ⟨rfl, rfl⟩) rfl),trivial⟩ rfl rfl rfl lend0 ⟨renR (fun _ => ⟨rfl, rfl⟩),trivial⟩ rfl, ?_⟩
          conv=>whnf
          refine ⟨by kernel_rfl, ?_⟩
          conv=>whnf
          obtain rfl := si hF
          exact ret_gz [] [] [7] rfl (tupL rfl ⟨(argA (c := [.int .i64 r_11.1.Window, .osl 7]) (by (conv=>lhs;whnf)<;>rfl) rfl ⟨(.ni _ rfl), (.osl 7 3 _ (by simp) rfl (map_ni (fun _ => ⟨rfl, rfl⟩) _)),trivial⟩), aq, aq, aq,trivial⟩) trivial
  ·
   replace hF := cf b14 hF
   conv=>whnf
   obtain ⟨r_16, hr16, hF⟩ := bs hF
   refine ⟨_,_,_,_,_,_,_,_,_,callX false [] [] 0 Tryz.func31 (by decide) rfl (slices_BinarySearchFunc_int_ac ([] : (List Message)) x_1.Number r_16 hr16) rfl ⟨(argN (by (conv=>lhs;whnf)<;>rfl)), aq, aq,trivial⟩ rfl trivial rfl rfl rfl lend0 trivial rfl, ?_⟩
   conv=>whnf
   refine ⟨fun b20=>?_,fun b20=>?_⟩
   ·
    replace hF := ct b20 hF
    conv=>whnf
    obtain ⟨r_17, hr17, hF⟩ := bs hF
    refine ⟨_,_,_,_,_,_,_,_,_,callX false [] [] 1 Tryz.func34 (by decide) rfl (inbox_clone_ac x_0 r_17 hr17) rfl ⟨aq,trivial⟩ rfl trivial rfl rfl rfl lend0 ⟨renR (fun _ => ⟨rfl, rfl⟩),trivial⟩ rfl, ?_⟩
    conv=>whnf
    obtain rfl := si hF
    exact ret_gz [] [] [7] rfl (tupL rfl ⟨(argA (c := [.int .i64 r_17.Window, .osl 7]) (by (conv=>lhs;whnf)<;>rfl) rfl ⟨(.ni _ rfl), (.osl 7 3 _ (by simp) rfl (map_ni (fun _ => ⟨rfl, rfl⟩) _)),trivial⟩), (argN (by (conv=>lhs;whnf)<;>rfl)), aq, aq,trivial⟩) trivial
   ·
    replace hF := cf b20 hF
    conv=>whnf
    refine ⟨_, rfl, ?_⟩
    conv=>whnf
    refine ⟨fun b21=>?_,fun b21=>?_⟩
    ·
     replace hF := ct b21 hF
     conv=>whnf
     obtain ⟨r_18, hr18, hF⟩ := bs hF
     refine ⟨_,_,_,_,_,_,_,_,_,callX false [] [] 1 Tryz.func34 (by decide) rfl (inbox_clone_ac x_0 r_18 hr18) rfl ⟨aq,trivial⟩ rfl trivial rfl rfl rfl lend0 ⟨renR (fun _ => ⟨rfl, rfl⟩),trivial⟩ rfl, ?_⟩
     conv=>whnf
     obtain rfl := si hF
     exact ret_gz [] [] [7] rfl (tupL rfl ⟨(argA (c := [.int .i64 r_18.Window, .osl 7]) (by (conv=>lhs;whnf)<;>rfl) rfl ⟨(.ni _ rfl), (.osl 7 3 _ (by simp) rfl (map_ni (fun _ => ⟨rfl, rfl⟩) _)),trivial⟩), (argN (by (conv=>lhs;whnf)<;>rfl)), aq, aq,trivial⟩) trivial
    ·
     replace hF := cf b21 hF
     conv=>whnf
     refine ⟨fun b22=>?_,fun b22=>?_⟩
     ·
      replace hF := ct b22 hF
      conv=>whnf
      cases hF
     ·
      replace hF := cf b22 hF
      conv=>whnf
      refine ⟨by kernel_rfl, ?_⟩
      conv=>whnf
      refine ⟨fun h=>?_,fun h=>?_⟩
      ·
       cases (b22).symm.trans h
      ·
       conv=>whnf
       refine ⟨fun h=>?_,fun h=>?_⟩
       ·
        conv=>whnf
        refine len_q (enc := encSender) (l := x_0.L) rfl ?_
        conv=>whnf
        refine ⟨fun b23=>?_,fun b23=>?_⟩
        ·
         replace hF := ct b23 hF
         conv=>whnf
         obtain rfl := si hF
         exact ret_gz [] [] [] rfl (tupL rfl ⟨(argA (c := [.int .i64 (0 : Int), .nils]) (by (conv=>lhs;whnf)<;>rfl) rfl ⟨(.ni _ rfl), (.nils _),trivial⟩), (argN (by (conv=>lhs;whnf)<;>rfl)), aq, aq,trivial⟩) trivial
        ·
         replace hF := cf b23 hF
         conv=>whnf
         obtain ⟨r_19, hr19, hF⟩ := bs hF
         refine ⟨_,_,_,_,_,_,_,_,_,callX false [] [] 1 Tryz.func34 (by decide) rfl (inbox_clone_ac x_0 r_19 hr19) rfl ⟨aq,trivial⟩ rfl trivial rfl rfl rfl lend0 ⟨renR (fun _ => ⟨rfl, rfl⟩),trivial⟩ rfl, ?_⟩
         conv=>whnf
         refine ⟨fun h=>?_,fun h=>?_⟩
         ·
          conv=>whnf
          obtain ⟨r_20, hr20, hF⟩ := bs hF
          obtain ⟨p_fr_20, q_fr_20, n_fr_20, hi_fr_20, hE_fr_20, hp_fr_20, hac_r_20⟩ := InsSender.insert_foc encSender hr20
          refine ⟨_,_,_,_,_,_,_,_,_,callY false [.dead, .dead, .row 3 (focR encSender p_fr_20 [.str x_1.Port, .int .i64 (1 : Int), .nils] q_fr_20)] [7, 10] [] 1 Tryz.func36 (by decide) rfl (hac_r_20 _) rfl ⟨(argO (id := 7) (by (conv=>lhs;whnf)<;>rfl) rfl), aq, (argO (id := 10) (by (conv=>lhs;whnf)<;>rfl) rfl),trivial⟩ rfl ⟨(grR (fun _ => ⟨rfl, rfl⟩) rfl), rfl,trivial⟩ rfl rfl rfl lend0 rfl ⟨rfl, rfl, renF (fun _ => ⟨rfl, rfl⟩) rfl,trivial⟩ rfl, ?_⟩
          conv=>whnf
          refine fix_q (enc := encSender) hp_fr_20 hi_fr_20 rfl ?_
          conv=>whnf
          refine fld_q (enc := encSender) hp_fr_20 rfl ?_
          conv=>whnf
          obtain ⟨r_21, hr21, hF⟩ := bs hF
          refine ⟨_,_,_,_,_,_,_,_,_,callX false [] [] 0 Tryz.func38 (by decide) rfl (inbox_copied_ac x_1 r_21 hr21) rfl ⟨aq,trivial⟩ rfl trivial rfl rfl rfl lend0 trivial rfl, ?_⟩
          conv=>whnf
          obtain ⟨r_22, hr22, hF⟩ := bs hF
          refine ⟨_,_,_,_,_,_,_,_,_,callY false [.dead, .row 30 (r_22.map encMessage)] [14] [] 1 Tryz.func37 (by decide) rfl (slices_Insert_Message_v2_ac r_16.1 ([r_21] : List Message) r_22 hr22) rfl ⟨aq, aq, (argO (id := 14) (by (conv=>lhs;whnf)<;>rfl) rfl),trivial⟩ rfl ⟨(grR (fun _ => ⟨rfl, rfl⟩) rfl),trivial⟩ rfl rfl rfl lend0 rfl ⟨rfl, renR (fun _ => ⟨rfl, rfl⟩),trivial⟩ rfl, ?_⟩
          conv=>whnf
          refine ⟨map_ni (fun _ => ⟨rfl, rfl⟩) _, ?_⟩
          conv=>whnf
          refine fst_q (enc := encSender) (l := r_20) (x' := (⟨x_1.Port, (1 : Int), r_22⟩ : Sender)) hE_fr_20 hp_fr_20 hi_fr_20 rfl (Nat.le_of_ble_eq_true rfl) rfl ?_
          conv=>whnf
          refine ⟨by kernel_rfl, ?_⟩
          conv=>whnf
          obtain ⟨v_23, hv23, hF⟩ := bs hF
          refine ⟨_, ix_map (enc := encSender) (ixL_at hv23 hi_fr_20), ?_⟩
          conv=>whnf
          refine ⟨by kernel_rfl, ?_⟩
          conv=>whnf
          refine ⟨fun b24=>?_,fun b24=>?_⟩
          ·
           replace hF := ct b24 hF
           conv=>whnf
           obtain rfl := si hF
           exact ret_gz [] [] [11] rfl (tupL rfl ⟨(argA (c := [.int .i64 r_19.Window, .osl 11]) (by (conv=>lhs;whnf)<;>rfl) rfl ⟨(.ni _ rfl), (.osl 11 3 _ (by simp) rfl (map_ni (fun _ => ⟨rfl, rfl⟩) _)),trivial⟩), (argN (by (conv=>lhs;whnf)<;>rfl)), aq, aq,trivial⟩) trivial
          ·
           replace hF := cf b24 hF
           conv=>whnf
           obtain ⟨r_24, hr24, hF⟩ := bs hF
           refine ⟨_,_,_,_,_,_,_,_,_,callX false [11] [] 0 Tryz.func39 (by decide) rfl (inbox_release_ac (r_20.set r_2.1.toNat (⟨x_1.Port, (1 : Int), r_22⟩ : Sender)) ((r_2.1).toNat) r_24 hr24) rfl ⟨(argEp (id := 11) (by (conv => lhs; whnf); rw [show (r_2.1).toNat = n_fr_20 from toNat_of hi_fr_20]) rfl),trivial⟩ rfl ⟨(grR (fun _ => ⟨rfl, rfl⟩) rfl),trivial⟩ rfl rfl rfl lend0 ⟨renR (fun _ => ⟨rfl, rfl⟩),trivial⟩ rfl, ?_⟩
           conv=>whnf
           refine ⟨by kernel_rfl, ?_⟩
           conv=>whnf
           obtain rfl := si hF
           exact ret_gz [] [] [11] rfl (tupL rfl ⟨(argA (c := [.int .i64 r_19.Window, .osl 11]) (by (conv=>lhs;whnf)<;>rfl) rfl ⟨(.ni _ rfl), (.osl 11 3 _ (by simp) rfl (map_ni (fun _ => ⟨rfl, rfl⟩) _)),trivial⟩), aq, aq, aq,trivial⟩) trivial
         ·
          cases (not_kn (b14)).symm.trans h
       ·
        cases (not_kn (b14)).symm.trans h

theorem cmp_Or_int_ac (x_0 : (List Int)) (r : Int) (hF : cmp_Or_int x_0 = some r) : AC Tryz.prog 103 [.lst 1 (x_0.map iA)] [] (.int .i64 r) [] := by
 refine ac_of tab_ok follows_ok Tryz.func103 rfl Tryz.ntmps103 rfl ?_
 unfold cmp_Or_int at hF
 conv=>whnf
 refine len_q (enc := iA) (l := x_0) rfl ?_
 conv=>whnf
 obtain ⟨c_1, hc_1, hF⟩ := fin_some hF
 refine sw_bv 0 (v := .lst 1 (x_0.map iA)) (by (conv=>lhs;whnf)<;>rfl) (fun hb=>?_)
 have hbd_k_2 : x_0.length ≤ 9223372036854775807 := bnd_len (enc := iA) (hb)
 refine sw_loop tab_ok follows_ok (fun y : Nat => y ≤ x_0.length ∧ cmp_Or_int_L1 (x_0.drop y) y = some c_1) (fun y => ⟨eL [(3, .int .i64 (0 : Int)), (6, .lst 1 (x_0.map iA)), (7, .int .i64 (x_0.length : Int)), (8, .int .i64 (y : Int))], hL [], 0⟩) (fun y => x_0.length - y) 0 ⟨Nat.zero_le _, hc_1⟩ (wk_mk [] [] [] rfl ⟨aq, aq, aq, aq,trivial⟩ trivial) ?_
 rintro k_2 ⟨hk_k_2, hL1⟩
 try dsimp only at hk_k_2 hL1
 show awp _ _ _ _ _ _ ⟨eL [(3, .int .i64 (0 : Int)), (6, .lst 1 (x_0.map iA)), (7, .int .i64 (x_0.length : Int)), (8, .int .i64 (k_2 : Int))], hL [], 0⟩
 conv=>whnf
 refine ⟨fun h=>?_,fun h=>?_⟩
 ·
  have lk2 : k_2 < x_0.length := by have h := of_decide_eq_true h; omega
  obtain ⟨e_3, he3⟩ : ∃ y, x_0[k_2]? = some y := ⟨_, List.getElem?_eq_getElem lk2⟩
  rw [drop_cons he3, cmp_Or_int_L1.eq_2] at hL1
  conv=>whnf
  refine ⟨k_2, _, rfl, ix_map he3, ?_⟩
  conv=>whnf
  refine ⟨fun b7=>?_,fun b7=>?_⟩
  ·
   replace hL1 := ct b7 hL1
   conv=>whnf
   obtain rfl := si hL1
   replace hF := fin_ret hF
   obtain rfl := si hF
   exact ret_gz [] [] [] rfl aq trivial
  ·
   replace hL1 := cf b7 hL1
   conv=>whnf
   refine ⟨((k_2 + 1 : Nat) : Int), wrapE (by omega) (by omega) (by omega), ?_⟩
   conv=>whnf
   exact ⟨k_2 + 1, [], [], [], ⟨lk2, hL1⟩, by show x_0.length - (k_2 + 1) < x_0.length - k_2; omega, wk_mk [] [] [] rfl ⟨aq, aq, aq, aq,trivial⟩ trivial⟩
 ·
  rw [drop_nil (show x_0.length ≤ k_2 by have h := of_decide_eq_false h; omega), cmp_Or_int_L1.eq_1] at hL1
  conv=>whnf
  obtain rfl := si hL1
  replace hF := fin_brk hF
  try dsimp only at hF
  obtain rfl := si hF
  exact ret_gz [] [] [] rfl aq trivial

theorem plate_Compare_ac (x_0 : Plate) (x_1 : Plate) (r : Int) (hF : plate_Compare x_0 x_1 = some r) : AC Tryz.prog 80 [.agg (encPlate x_0), .agg (encPlate x_1)] [] (.int .i64 r) [] := by
 refine ac_of tab_ok follows_ok Tryz.func80 rfl Tryz.ntmps80 rfl ?_
 unfold plate_Compare at hF
 conv=>whnf
 obtain ⟨r_1, hr1, hF⟩ := bs hF
 refine ⟨_,_,_,_,_,_,_,_,_,callX false [] [] 0 Tryz.func33 (by decide) rfl (cmp_Compare_int_ac x_0.Lead x_1.Lead r_1 hr1) rfl ⟨aq, aq,trivial⟩ rfl trivial rfl rfl rfl lend0 trivial rfl, ?_⟩
 conv=>whnf
 obtain ⟨r_2, hr2, hF⟩ := bs hF
 refine ⟨_,_,_,_,_,_,_,_,_,callX false [] [] 0 Tryz.func33 (by decide) rfl (cmp_Compare_int_ac x_0.Airline x_1.Airline r_2 hr2) rfl ⟨aq, aq,trivial⟩ rfl trivial rfl rfl rfl lend0 trivial rfl, ?_⟩
 conv=>whnf
 obtain ⟨r_3, hr3, hF⟩ := bs hF
 refine ⟨_,_,_,_,_,_,_,_,_,callX false [] [] 0 Tryz.func33 (by decide) rfl (cmp_Compare_int_ac x_0.Serial x_1.Serial r_3 hr3) rfl ⟨aq, aq,trivial⟩ rfl trivial rfl rfl rfl lend0 trivial rfl, ?_⟩
 conv=>whnf
 obtain ⟨r_4, hr4, hF⟩ := bs hF
 refine ⟨_,_,_,_,_,_,_,_,_,callX false [] [5] 0 Tryz.func103 (by decide) rfl (cmp_Or_int_ac ([r_1, r_2, r_3] : List Int) r_4 hr4) rfl ⟨(argOL 5 (by (conv=>lhs;whnf)<;>rfl) rfl rfl (map_ni (fun _ => ⟨rfl, rfl⟩) _)),trivial⟩ rfl trivial rfl rfl rfl (lendF rfl) trivial rfl, ?_⟩
 conv=>whnf
 refine ⟨by kernel_rfl, ?_⟩
 conv=>whnf
 obtain rfl := si hF
 exact ret_gz [] [] [] rfl aq trivial
end Go.Proofs.YtkliakcegihikaaGreat.Ex
