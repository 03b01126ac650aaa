/- The functions of the program compute what was printed; walks printed by a program. -/
import Derived.Test.YtkliakcegihikaaGreatExF
import Derived.Test.YtkliakcegihikaaGreatSq
import Derived.Test.YtkliakcegihikaaGreatExP1
import Derived.Test.YtkliakcegihikaaGreatExP2
namespace Go.Proofs.YtkliakcegihikaaGreat.Ex
open Go.RowKit Go.Proofs.YtkliakcegihikaaGreat.Ax
set_option linter.unusedVariables false
set_option linter.unusedSimpArgs false
set_option maxRecDepth 100000
set_option maxHeartbeats 40000000
theorem ref06_possible_ac (x_0 : Registry) (x_1 : Message) (x_2 : (List Plate)) (r : Int) (hF : ref06_possible x_0 x_1 x_2 = some r) : AC Tryz.prog 23 [.agg (encRegistry x_0), .agg (encMessage x_1), .lst 3 (x_2.map encPlate)] [] (.int .i64 r) [] := by
 refine ac_of tab_ok follows_ok Tryz.func23 rfl Tryz.ntmps23 rfl ?_
 unfold ref06_possible at hF
 conv=>whnf
 obtain ⟨r_1, hr1, hF⟩ := bs hF
 refine ⟨_,_,_,_,_,_,_,_,_,callX false [] [] 0 Tryz.func25 (by decide) rfl (ref04_Bag_ac x_1.Kind r_1 hr1) rfl ⟨aq,trivial⟩ rfl trivial rfl rfl rfl lend0 trivial rfl, ?_⟩
 conv=>whnf
 refine ⟨fun b54=>?_,fun b54=>?_⟩
 ·
  replace hF := ct b54 hF
  conv=>whnf
  obtain ⟨c_1, hc_1, hF⟩ := fin_some hF
  refine sw_bv 2 (v := .lst 3 (x_2.map encPlate)) (by (conv=>lhs;whnf)<;>rfl) (fun hb=>?_)
  have hbd_k_3 : x_2.length ≤ 9223372036854775807 := bnd_len (enc := encPlate) (hb)
  refine sw_loop tab_ok follows_ok (fun y : Nat => y ≤ x_2.length ∧ ref06_possible_L1 x_0 x_1 (x_2.drop y) y = some c_1) (fun y => ⟨eL [(2, .lst 3 (x_2.map encPlate)), (3, .ptr 0 0), (4, .ptr 1 0), (7, .bool (x_1.Do == (0 : Int))), (8, .int .i64 (y : Int))], hL [(0, .box [.lst 25 (x_0.L.map encBag)]), (1, .box [.int .i64 x_1.Kind, .int .i64 x_1.Do, .str x_1.Port, .int .i64 x_1.Number, .str x_1.In.Flight.Carrier, .int .i64 x_1.In.Flight.Number, .str x_1.In.Flight.Suffix, .int .i64 x_1.In.Flight.Day, .str x_1.In.Port, .str x_1.In.Class, .str x_1.Out.Flight.Carrier, .int .i64 x_1.Out.Flight.Number, .str x_1.Out.Flight.Suffix, .int .i64 x_1.Out.Flight.Day, .str x_1.Out.Port, .str x_1.Out.Class, .lst 6 (x_1.Onward.map encLeg), .int .i64 x_1.First.Lead, .int .i64 x_1.First.Airline, .int .i64 x_1.First.Serial, .int .i64 x_1.Count, .bool x_1.Load, .int .i64 x_1.Status, .int .i64 x_1.Sequence, .int .i64 x_1.Weight, .str x_1.Surname, .str x_1.Given, .int .i64 x_1.Exception, .str x_1.Node, .lst 1 (x_1.List.map iA)])], 2⟩) (fun y => x_2.length - y) 0 ⟨Nat.zero_le _, hc_1⟩ (wk_mk [0, 1] [] [] rfl ⟨aq, argP (id := 0) (by (conv=>lhs;whnf)<;>rfl) rfl, argP (id := 1) (by (conv=>lhs;whnf)<;>rfl) rfl, aq, aq,trivial⟩ ⟨boxL rfl rfl rfl ⟨(.ni _ rfl),trivial⟩, boxL rfl rfl rfl ⟨(.ni _ rfl), (.ni _ rfl), (.ni _ rfl), (.ni _ rfl), (.ni _ rfl), (.ni _ rfl), (.ni _ rfl), (.ni _ rfl), (.ni _ rfl), (.ni _ rfl), (.ni _ rfl), (.ni _ rfl), (.ni _ rfl), (.ni _ rfl), (.ni _ rfl), (.ni _ rfl), (.ni _ rfl), (.ni _ rfl), (.ni _ rfl), (.ni _ rfl), (.ni _ rfl), (.ni _ rfl), (.ni _ rfl), (.ni _ rfl), (.ni _ rfl), (.ni _ rfl), (.ni _ rfl), (.ni _ rfl), (.ni _ rfl), (.ni _ rfl),trivial⟩,trivial⟩) ?_
  rintro k_3 ⟨hk_k_3, hL1⟩
  try dsimp only at hk_k_3 hL1
  show awp _ _ _ _ _ _ ⟨eL [(2, .lst 3 (x_2.map encPlate)), (3, .ptr 0 0), (4, .ptr 1 0), (7, .bool (x_1.Do == (0 : Int))), (8, .int .i64 (k_3 : Int))], hL [(0, .box [.lst 25 (x_0.L.map encBag)]), (1, .box [.int .i64 x_1.Kind, .int .i64 x_1.Do, .str x_1.Port, .int .i64 x_1.Number, .str x_1.In.Flight.Carrier, .int .i64 x_1.In.Flight.Number, .str x_1.In.Flight.Suffix, .int .i64 x_1.In.Flight.Day, .str x_1.In.Port, .str x_1.In.Class, .str x_1.Out.Flight.Carrier, .int .i64 x_1.Out.Flight.Number, .str x_1.Out.Flight.Suffix, .int .i64 x_1.Out.Flight.Day, .str x_1.Out.Port, .str x_1.Out.Class, .lst 6 (x_1.Onward.map encLeg), .int .i64 x_1.First.Lead, .int .i64 x_1.First.Airline, .int .i64 x_1.First.Serial, .int .i64 x_1.Count, .bool x_1.Load, .int .i64 x_1.Status, .int .i64 x_1.Sequence, .int .i64 x_1.Weight, .str x_1.Surname, .str x_1.Given, .int .i64 x_1.Exception, .str x_1.Node, .lst 1 (x_1.List.map iA)])], 2⟩
  conv=>whnf
  refine len_q (enc := encPlate) (l := x_2) rfl ?_
  conv=>whnf
  refine ⟨fun h=>?_,fun h=>?_⟩
  ·
   have lk3 : k_3 < x_2.length := by have h := of_decide_eq_true h; omega
   obtain ⟨e_4, he4⟩ : ∃ y, x_2[k_3]? = some y := ⟨_, List.getElem?_eq_getElem lk3⟩
   rw [drop_cons he4, ref06_possible_L1.eq_2] at hL1
   conv=>whnf
   refine ⟨k_3, _, rfl, ix_map he4, ?_⟩
   conv=>whnf
   obtain ⟨r_5, hr5, hL1⟩ := bs hL1
   refine ⟨_,_,_,_,_,_,_,_,_,callX false [] [] 0 Tryz.func61 (by decide) rfl (ref06_index_ac x_0 e_4 r_5 hr5) rfl ⟨aq, aq,trivial⟩ rfl trivial rfl rfl rfl lend0 trivial rfl, ?_⟩
   conv=>whnf
   refine ⟨by kernel_rfl, ?_⟩
   conv=>whnf
   refine ⟨fun b55=>?_,fun b55=>?_⟩
   ·
    replace hL1 := ct b55 hL1
    conv=>whnf
    refine ⟨fun b56=>?_,fun b56=>?_⟩
    ·
     replace hL1 := ct b56 hL1
     conv=>whnf
     obtain rfl := si hL1
     replace hF := fin_ret hF
     obtain rfl := si hF
     exact ret_gz [] [] [] rfl aq trivial
    ·
     replace hL1 := cf b56 hL1
     conv=>whnf
     refine ⟨fun h=>?_,fun h=>?_⟩
     ·
      cases (not_kn (b55)).symm.trans h
     ·
      conv=>whnf
      refine ⟨((k_3 + 1 : Nat) : Int), wrapE (by omega) (by omega) (by omega), ?_⟩
      conv=>whnf
      exact ⟨k_3 + 1, [0, 1], [], [], ⟨lk3, hL1⟩, by show x_2.length - (k_3 + 1) < x_2.length - k_3; omega, wk_mk [0, 1] [] [] rfl ⟨aq, argP (id := 0) (by (conv=>lhs;whnf)<;>rfl) rfl, argP (id := 1) (by (conv=>lhs;whnf)<;>rfl) rfl, aq, aq,trivial⟩ ⟨boxL rfl rfl rfl ⟨(.ni _ rfl),trivial⟩, boxL rfl rfl rfl ⟨(.ni _ rfl), (.ni _ rfl), (.ni _ rfl), (.ni _ rfl), (.ni _ rfl), (.ni _ rfl), (.ni _ rfl), (.ni _ rfl), (.ni _ rfl), (.ni _ rfl), (.ni _ rfl), (.ni _ rfl), (.ni _ rfl), (.ni _ rfl), (.ni _ rfl), (.ni _ rfl), (.ni _ rfl), (.ni _ rfl), (.ni _ rfl), (.ni _ rfl), (.ni _ rfl), (.ni _ rfl), (.ni _ rfl), (.ni _ rfl), (.ni _ rfl), (.ni _ rfl), (.ni _ rfl), (.ni _ rfl), (.ni _ rfl), (.ni _ rfl),trivial⟩,trivial⟩⟩
   ·
    replace hL1 := cf b55 hL1
    conv=>whnf
    refine ⟨fun h=>?_,fun h=>?_⟩
    ·
     conv=>whnf
     refine ⟨fun b57=>?_,fun b57=>?_⟩
     ·
      replace hL1 := ct b57 hL1
      conv=>whnf
      obtain rfl := si hL1
      replace hF := fin_ret hF
      obtain rfl := si hF
      exact ret_gz [] [] [] rfl aq trivial
     ·
      replace hL1 := cf b57 hL1
      conv=>whnf
      refine ⟨((k_3 + 1 : Nat) : Int), wrapE (by omega) (by omega) (by omega), ?_⟩
      conv=>whnf
      exact ⟨k_3 + 1, [0, 1], [], [], ⟨lk3, hL1⟩, by show x_2.length - (k_3 + 1) < x_2.length - k_3; omega, wk_mk [0, 1] [] [] rfl ⟨aq, argP (id := 0) (by (conv=>lhs;whnf)<;>rfl) rfl, argP (id := 1) (by (conv=>lhs;whnf)<;>rfl) rfl, aq, aq,trivial⟩ ⟨boxL rfl rfl rfl ⟨(.ni _ rfl),trivial⟩, boxL rfl rfl rfl ⟨(.ni _ rfl), (.ni _ rfl), (.ni _ rfl), (.ni _ rfl), (.ni _ rfl), (.ni _ rfl), (.ni _ rfl), (.ni _ rfl), (.ni _ rfl), (.ni _ rfl), (.ni _ rfl), (.ni _ rfl), (.ni _ rfl), (.ni _ rfl), (.ni _ rfl), (.ni _ rfl), (.ni _ rfl), (.ni _ rfl), (.ni _ rfl), (.ni _ rfl), (.ni _ rfl), (.ni _ rfl), (.ni _ rfl), (.ni _ rfl), (.ni _ rfl), (.ni _ rfl), (.ni _ rfl), (.ni _ rfl), (.ni _ rfl), (.ni _ rfl),trivial⟩,trivial⟩⟩
    ·
     cases (not_kn (b55)).symm.trans h
  ·
   rw [drop_nil (show x_2.length ≤ k_3 by have h := of_decide_eq_false h; omega), ref06_possible_L1.eq_1] at hL1
   conv=>whnf
   obtain rfl := si hL1
   replace hF := fin_brk hF
   try dsimp only at hF
   refine ⟨fun b58=>?_,fun b58=>?_⟩
   ·
    replace hF := ct b58 hF
    conv=>whnf
    refine len_q (enc := encBag) (l := x_0.L) rfl ?_
    conv=>whnf
    refine len_q (enc := encPlate) (l := x_2) rfl ?_
    conv=>whnf
    refine ⟨_, rfl, ?_⟩
    conv=>whnf
    refine ⟨fun b59=>?_,fun b59=>?_⟩
    ·
     replace hF := ct b59 hF
     conv=>whnf
     obtain rfl := si hF
     exact ret_gz [] [] [] rfl aq trivial
    ·
     replace hF := cf b59 hF
     conv=>whnf
     obtain ⟨c_2, hc_2, hF⟩ := fin_some hF
     refine sw_bv 2 (v := .lst 3 (x_2.map encPlate)) (by (conv=>lhs;whnf)<;>rfl) (fun hb=>?_)
     have hbd_k_9 : x_2.length ≤ 9223372036854775807 := bnd_len (enc := encPlate) (hb)
     refine sw_loop tab_ok follows_ok (fun y : Nat => y ≤ x_2.length ∧ ref06_possible_L2 x_0 x_1 (x_2.drop y) y = some c_2) (fun y => ⟨eL [(2, .lst 3 (x_2.map encPlate)), (3, .ptr 0 0), (4, .ptr 1 0), (10, .int .i64 (y : Int))], hL [(0, .box [.lst 25 (x_0.L.map encBag)]), (1, .box [.int .i64 x_1.Kind, .int .i64 x_1.Do, .str x_1.Port, .int .i64 x_1.Number, .str x_1.In.Flight.Carrier, .int .i64 x_1.In.Flight.Number, .str x_1.In.Flight.Suffix, .int .i64 x_1.In.Flight.Day, .str x_1.In.Port, .str x_1.In.Class, .str x_1.Out.Flight.Carrier, .int .i64 x_1.Out.Flight.Number, .str x_1.Out.Flight.Suffix, .int .i64 x_1.Out.Flight.Day, .str x_1.Out.Port, .str x_1.Out.Class, .lst 6 (x_1.Onward.map encLeg), .int .i64 x_1.First.Lead, .int .i64 x_1.First.Airline, .int .i64 x_1.First.Serial, .int .i64 x_1.Count, .bool x_1.Load, .int .i64 x_1.Status, .int .i64 x_1.Sequence, .int .i64 x_1.Weight, .str x_1.Surname, .str x_1.Given, .int .i64 x_1.Exception, .str x_1.Node, .lst 1 (x_1.List.map iA)])], 2⟩) (fun y => x_2.length - y) 0 ⟨Nat.zero_le _, hc_2⟩ (wk_mk [0, 1] [] [] rfl ⟨aq, argP (id := 0) (by (conv=>lhs;whnf)<;>rfl) rfl, argP (id := 1) (by (conv=>lhs;whnf)<;>rfl) rfl, aq,trivial⟩ ⟨boxL rfl rfl rfl ⟨(.ni _ rfl),trivial⟩, boxL rfl rfl rfl ⟨(.ni _ rfl), (.ni _ rfl), (.ni _ rfl), (.ni _ rfl), (.ni _ rfl), (.ni _ rfl), (.ni _ rfl), (.ni _ rfl), (.ni _ rfl), (.ni _ rfl), (.ni _ rfl), (.ni _ rfl), (.ni _ rfl), (.ni _ rfl), (.ni _ rfl), (.ni _ rfl), (.ni _ rfl), (.ni _ rfl), (.ni _ rfl), (.ni _ rfl), (.ni _ rfl), (.ni _ rfl), (.ni _ rfl), (.ni _ rfl), (.ni _ rfl), (.ni _ rfl), (.ni _ rfl), (.ni _ rfl), (.ni _ rfl), (.ni _ rfl),trivial⟩,trivial⟩) ?_
     rintro k_9 ⟨hk_k_9, hL1⟩
     try dsimp only at hk_k_9 hL1
     show awp _ _ _ _ _ _ ⟨eL [(2, .lst 3 (x_2.map encPlate)), (3, .ptr 0 0), (4, .ptr 1 0), (10, .int .i64 (k_9 : Int))], hL [(0, .box [.lst 25 (x_0.L.map encBag)]), (1, .box [.int .i64 x_1.Kind, .int .i64 x_1.Do, .str x_1.Port, .int .i64 x_1.Number, .str x_1.In.Flight.Carrier, .int .i64 x_1.In.Flight.Number, .str x_1.In.Flight.Suffix, .int .i64 x_1.In.Flight.Day, .str x_1.In.Port, .str x_1.In.Class, .str x_1.Out.Flight.Carrier, .int .i64 x_1.Out.Flight.Number, .str x_1.Out.Flight.Suffix, .int .i64 x_1.Out.Flight.Day, .str x_1.Out.Port, .str x_1.Out.Class, .lst 6 (x_1.Onward.map encLeg), .int .i64 x_1.First.Lead, .int .i64 x_1.First.Airline, .int .i64 x_1.First.Serial, .int .i64 x_1.Count, .bool x_1.Load, .int .i64 x_1.Status, .int .i64 x_1.Sequence, .int .i64 x_1.Weight, .str x_1.Surname, .str x_1.Given, .int .i64 x_1.Exception, .str x_1.Node, .lst 1 (x_1.List.map iA)])], 2⟩
     conv=>whnf
     refine len_q (enc := encPlate) (l := x_2) rfl ?_
     conv=>whnf
     refine ⟨fun h=>?_,fun h=>?_⟩
     ·
      have lk9 : k_9 < x_2.length := by have h := of_decide_eq_true h; omega
      obtain ⟨e_10, he10⟩ : ∃ y, x_2[k_9]? = some y := ⟨_, List.getElem?_eq_getElem lk9⟩
      rw [drop_cons he10, ref06_possible_L2.eq_2] at hL1
      conv=>whnf
      refine ⟨fun b60=>?_,fun b60=>?_⟩
      ·
       replace hL1 := ct b60 hL1
       conv=>whnf
       refine ⟨k_9, _, rfl, ix_map he10, ?_⟩
       conv=>whnf
       obtain ⟨r_11, hr11, hL1⟩ := bs hL1
       refine ⟨_,_,_,_,_,_,_,_,_,callX false [] [] 0 Tryz.func61 (by decide) rfl (ref06_index_ac x_0 e_10 r_11 hr11) rfl ⟨aq, aq,trivial⟩ rfl trivial rfl rfl rfl lend0 trivial rfl, ?_⟩
       conv=>whnf
       obtain ⟨e_12, he12, hL1⟩ := bs hL1
       refine ix_q (enc := encBag) (l := x_0.L) he12 rfl (fun m_e_12 hm_e_12 hx_e_12=>?_)
       conv=>whnf
       refine ⟨by kernel_rfl, ?_⟩
       conv=>whnf
       refine ⟨fun b61=>?_,fun b61=>?_⟩
       ·
        replace hL1 := ct b61 hL1
        conv=>whnf
        obtain rfl := si hL1
        replace hF := fin_ret hF
        obtain rfl := si hF
        exact ret_gz [] [] [] rfl aq trivial
       ·
        replace hL1 := cf b61 hL1
        conv=>whnf
        refine ⟨((k_9 + 1 : Nat) : Int), wrapE (by omega) (by omega) (by omega), ?_⟩
        conv=>whnf
        exact ⟨k_9 + 1, [0, 1], [], [], ⟨lk9, hL1⟩, by show x_2.length - (k_9 + 1) < x_2.length - k_9; omega, wk_mk [0, 1] [] [] rfl ⟨aq, argP (id := 0) (by (conv=>lhs;whnf)<;>rfl) rfl, argP (id := 1) (by (conv=>lhs;whnf)<;>rfl) rfl, aq,trivial⟩ ⟨boxL rfl rfl rfl ⟨(.ni _ rfl),trivial⟩, boxL rfl rfl rfl ⟨(.ni _ rfl), (.ni _ rfl), (.ni _ rfl), (.ni _ rfl), (.ni _ rfl), (.ni _ rfl), (.ni _ rfl), (.ni _ rfl), (.ni _ rfl), (.ni _ rfl), (.ni _ rfl), (.ni _ rfl), (.ni _ rfl), (.ni _ rfl), (.ni _ rfl), (.ni _ rfl), (.ni _ rfl), (.ni _ rfl), (.ni _ rfl), (.ni _ rfl), (.ni _ rfl), (.ni _ rfl), (.ni _ rfl), (.ni _ rfl), (.ni _ rfl), (.ni _ rfl), (.ni _ rfl), (.ni _ rfl), (.ni _ rfl), (.ni _ rfl),trivial⟩,trivial⟩⟩
      ·
       replace hL1 := cf b60 hL1
       conv=>whnf
       obtain rfl := si hL1
       replace hF := fin_brk hF
       try dsimp only at hF
       obtain rfl := si hF
       exact ret_gz [] [] [] rfl aq trivial
     ·
      rw [drop_nil (show x_2.length ≤ k_9 by have h := of_decide_eq_false h; omega), ref06_possible_L2.eq_1] at hL1
      conv=>whnf
      obtain rfl := si hL1
      replace hF := fin_brk hF
      try dsimp only at hF
      obtain rfl := si hF
      exact ret_gz [] [] [] rfl aq trivial
   ·
    replace hF := cf b58 hF
    conv=>whnf
    obtain ⟨c_2, hc_2, hF⟩ := fin_some hF
    refine sw_bv 2 (v := .lst 3 (x_2.map encPlate)) (by (conv=>lhs;whnf)<;>rfl) (fun hb=>?_)
    have hbd_k_16 : x_2.length ≤ 9223372036854775807 := bnd_len (enc := encPlate) (hb)
    refine sw_loop tab_ok follows_ok (fun y : Nat => y ≤ x_2.length ∧ ref06_possible_L2 x_0 x_1 (x_2.drop y) y = some c_2) (fun y => ⟨eL [(2, .lst 3 (x_2.map encPlate)), (3, .ptr 0 0), (4, .ptr 1 0), (10, .int .i64 (y : Int))], hL [(0, .box [.lst 25 (x_0.L.map encBag)]), (1, .box [.int .i64 x_1.Kind, .int .i64 x_1.Do, .str x_1.Port, .int .i64 x_1.Number, .str x_1.In.Flight.Carrier, .int .i64 x_1.In.Flight.Number, .str x_1.In.Flight.Suffix, .int .i64 x_1.In.Flight.Day, .str x_1.In.Port, .str x_1.In.Class, .str x_1.Out.Flight.Carrier, .int .i64 x_1.Out.Flight.Number, .str x_1.Out.Flight.Suffix, .int .i64 x_1.Out.Flight.Day, .str x_1.Out.Port, .str x_1.Out.Class, .lst 6 (x_1.Onward.map encLeg), .int .i64 x_1.First.Lead, .int .i64 x_1.First.Airline, .int .i64 x_1.First.Serial, .int .i64 x_1.Count, .bool x_1.Load, .int .i64 x_1.Status, .int .i64 x_1.Sequence, .int .i64 x_1.Weight, .str x_1.Surname, .str x_1.Given, .int .i64 x_1.Exception, .str x_1.Node, .lst 1 (x_1.List.map iA)])], 2⟩) (fun y => x_2.length - y) 0 ⟨Nat.zero_le _, hc_2⟩ (wk_mk [0, 1] [] [] rfl ⟨aq, argP (id := 0) (by (conv=>lhs;whnf)<;>rfl) rfl, argP (id := 1) (by (conv=>lhs;whnf)<;>rfl) rfl, aq,trivial⟩ ⟨boxL rfl rfl rfl ⟨(.ni _ rfl),trivial⟩, boxL rfl rfl rfl ⟨(.ni _ rfl), (.ni _ rfl), (.ni _ rfl), (.ni _ rfl), (.ni _ rfl), (.ni _ rfl), (.ni _ rfl), (.ni _ rfl), (.ni _ rfl), (.ni _ rfl), (.ni _ rfl), (.ni _ rfl), (.ni _ rfl), (.ni _ rfl), (.ni _ rfl), (.ni _ rfl), (.ni _ rfl), (.ni _ rfl), (.ni _ rfl), (.ni _ rfl), (.ni _ rfl), (.ni _ rfl), (.ni _ rfl), (.ni _ rfl), (.ni _ rfl), (.ni _ rfl), (.ni _ rfl), (.ni _ rfl), (.ni _ rfl), (.ni _ rfl),trivial⟩,trivial⟩) ?_
    rintro k_16 ⟨hk_k_16, hL1⟩
    try dsimp only at hk_k_16 hL1
    show awp _ _ _ _ _ _ ⟨eL [(2, .lst 3 (x_2.map encPlate)), (3, .ptr 0 0), (4, .ptr 1 0), (10, .int .i64 (k_16 : Int))], hL [(0, .box [.lst 25 (x_0.L.map encBag)]), (1, .box [.int .i64 x_1.Kind, .int .i64 x_1.Do, .str x_1.Port, .int .i64 x_1.Number, .str x_1.In.Flight.Carrier, .int .i64 x_1.In.Flight.Number, .str x_1.In.Flight.Suffix, .int .i64 x_1.In.Flight.Day, .str x_1.In.Port, .str x_1.In.Class, .str x_1.Out.Flight.Carrier, .int .i64 x_1.Out.Flight.Number, .str x_1.Out.Flight.Suffix, .int .i64 x_1.Out.Flight.Day, .str x_1.Out.Port, .str x_1.Out.Class, .lst 6 (x_1.Onward.map encLeg), .int .i64 x_1.First.Lead, .int .i64 x_1.First.Airline, .int .i64 x_1.First.Serial, .int .i64 x_1.Count, .bool x_1.Load, .int .i64 x_1.Status, .int .i64 x_1.Sequence, .int .i64 x_1.Weight, .str x_1.Surname, .str x_1.Given, .int .i64 x_1.Exception, .str x_1.Node, .lst 1 (x_1.List.map iA)])], 2⟩
    conv=>whnf
    refine len_q (enc := encPlate) (l := x_2) rfl ?_
    conv=>whnf
    refine ⟨fun h=>?_,fun h=>?_⟩
    ·
     have lk16 : k_16 < x_2.length := by have h := of_decide_eq_true h; omega
     obtain ⟨e_17, he17⟩ : ∃ y, x_2[k_16]? = some y := ⟨_, List.getElem?_eq_getElem lk16⟩
     rw [drop_cons he17, ref06_possible_L2.eq_2] at hL1
     conv=>whnf
     refine ⟨fun b62=>?_,fun b62=>?_⟩
     ·
      replace hL1 := ct b62 hL1
      conv=>whnf
      refine ⟨k_16, _, rfl, ix_map he17, ?_⟩
      conv=>whnf
      obtain ⟨r_18, hr18, hL1⟩ := bs hL1
      refine ⟨_,_,_,_,_,_,_,_,_,callX false [] [] 0 Tryz.func61 (by decide) rfl (ref06_index_ac x_0 e_17 r_18 hr18) rfl ⟨aq, aq,trivial⟩ rfl trivial rfl rfl rfl lend0 trivial rfl, ?_⟩
      conv=>whnf
      obtain ⟨e_19, he19, hL1⟩ := bs hL1
      refine ix_q (enc := encBag) (l := x_0.L) he19 rfl (fun m_e_19 hm_e_19 hx_e_19=>?_)
      conv=>whnf
      refine ⟨by kernel_rfl, ?_⟩
      conv=>whnf
      refine ⟨fun b63=>?_,fun b63=>?_⟩
      ·
       replace hL1 := ct b63 hL1
       conv=>whnf
       obtain rfl := si hL1
       replace hF := fin_ret hF
       obtain rfl := si hF
       exact ret_gz [] [] [] rfl aq trivial
      ·
       replace hL1 := cf b63 hL1
       conv=>whnf
       refine ⟨((k_16 + 1 : Nat) : Int), wrapE (by omega) (by omega) (by omega), ?_⟩
       conv=>whnf
       exact ⟨k_16 + 1, [0, 1], [], [], ⟨lk16, hL1⟩, by show x_2.length - (k_16 + 1) < x_2.length - k_16; omega, wk_mk [0, 1] [] [] rfl ⟨aq, argP (id := 0) (by (conv=>lhs;whnf)<;>rfl) rfl, argP (id := 1) (by (conv=>lhs;whnf)<;>rfl) rfl, aq,trivial⟩ ⟨boxL rfl rfl rfl ⟨(.ni _ rfl),trivial⟩, boxL rfl rfl rfl ⟨(.ni _ rfl), (.ni _ rfl), (.ni _ rfl), (.ni _ rfl), (.ni _ rfl), (.ni _ rfl), (.ni _ rfl), (.ni _ rfl), (.ni _ rfl), (.ni _ rfl), (.ni _ rfl), (.ni _ rfl), (.ni _ rfl), (.ni _ rfl), (.ni _ rfl), (.ni _ rfl), (.ni _ rfl), (.ni _ rfl), (.ni _ rfl), (.ni _ rfl), (.ni _ rfl), (.ni _ rfl), (.ni _ rfl), (.ni _ rfl), (.ni _ rfl), (.ni _ rfl), (.ni _ rfl), (.ni _ rfl), (.ni _ rfl), (.ni _ rfl),trivial⟩,trivial⟩⟩
     ·
      replace hL1 := cf b62 hL1
      conv=>whnf
      obtain rfl := si hL1
      replace hF := fin_brk hF
      try dsimp only at hF
      obtain rfl := si hF
      exact ret_gz [] [] [] rfl aq trivial
    ·
     rw [drop_nil (show x_2.length ≤ k_16 by have h := of_decide_eq_false h; omega), ref06_possible_L2.eq_1] at hL1
     conv=>whnf
     obtain rfl := si hL1
     replace hF := fin_brk hF
     try dsimp only at hF
     obtain rfl := si hF
     exact ret_gz [] [] [] rfl aq trivial
 ·
  replace hF := cf b54 hF
  conv=>whnf
  obtain ⟨c_4, hc_4, hF⟩ := fin_some hF
  refine sw_bv 2 (v := .lst 3 (x_2.map encPlate)) (by (conv=>lhs;whnf)<;>rfl) (fun hb=>?_)
  have hbd_k_23 : x_2.length ≤ 9223372036854775807 := bnd_len (enc := encPlate) (hb)
  refine sw_loop tab_ok follows_ok (fun y : Nat => y ≤ x_2.length ∧ ref06_possible_L4 x_0 (x_2.drop y) y = some c_4) (fun y => ⟨eL [(2, .lst 3 (x_2.map encPlate)), (3, .ptr 0 0), (4, .ptr 1 0), (7, .fls), (8, .int .i64 (y : Int))], hL [(0, .box [.lst 25 (x_0.L.map encBag)]), (1, .box [.int .i64 x_1.Kind, .int .i64 x_1.Do, .str x_1.Port, .int .i64 x_1.Number, .str x_1.In.Flight.Carrier, .int .i64 x_1.In.Flight.Number, .str x_1.In.Flight.Suffix, .int .i64 x_1.In.Flight.Day, .str x_1.In.Port, .str x_1.In.Class, .str x_1.Out.Flight.Carrier, .int .i64 x_1.Out.Flight.Number, .str x_1.Out.Flight.Suffix, .int .i64 x_1.Out.Flight.Day, .str x_1.Out.Port, .str x_1.Out.Class, .lst 6 (x_1.Onward.map encLeg), .int .i64 x_1.First.Lead, .int .i64 x_1.First.Airline, .int .i64 x_1.First.Serial, .int .i64 x_1.Count, .bool x_1.Load, .int .i64 x_1.Status, .int .i64 x_1.Sequence, .int .i64 x_1.Weight, .str x_1.Surname, .str x_1.Given, .int .i64 x_1.Exception, .str x_1.Node, .lst 1 (x_1.List.map iA)])], 2⟩) (fun y => x_2.length - y) 0 ⟨Nat.zero_le _, hc_4⟩ (wk_mk [0, 1] [] [] rfl ⟨aq, argP (id := 0) (by (conv=>lhs;whnf)<;>rfl) rfl, argP (id := 1) (by (conv=>lhs;whnf)<;>rfl) rfl, aq, aq,trivial⟩ ⟨boxL rfl rfl rfl ⟨(.ni _ rfl),trivial⟩, boxL rfl rfl rfl ⟨(.ni _ rfl), (.ni _ rfl), (.ni _ rfl), (.ni _ rfl), (.ni _ rfl), (.ni _ rfl), (.ni _ rfl), (.ni _ rfl), (.ni _ rfl), (.ni _ rfl), (.ni _ rfl), (.ni _ rfl), (.ni _ rfl), (.ni _ rfl), (.ni _ rfl), (.ni _ rfl), (.ni _ rfl), (.ni _ rfl), (.ni _ rfl), (.ni _ rfl), (.ni _ rfl), (.ni _ rfl), (.ni _ rfl), (.ni _ rfl), (.ni _ rfl), (.ni _ rfl), (.ni _ rfl), (.ni _ rfl), (.ni _ rfl), (.ni _ rfl),trivial⟩,trivial⟩) ?_
  rintro k_23 ⟨hk_k_23, hL1⟩
  try dsimp only at hk_k_23 hL1
  show awp _ _ _ _ _ _ ⟨eL [(2, .lst 3 (x_2.map encPlate)), (3, .ptr 0 0), (4, .ptr 1 0), (7, .fls), (8, .int .i64 (k_23 : Int))], hL [(0, .box [.lst 25 (x_0.L.map encBag)]), (1, .box [.int .i64 x_1.Kind, .int .i64 x_1.Do, .str x_1.Port, .int .i64 x_1.Number, .str x_1.In.Flight.Carrier, .int .i64 x_1.In.Flight.Number, .str x_1.In.Flight.Suffix, .int .i64 x_1.In.Flight.Day, .str x_1.In.Port, .str x_1.In.Class, .str x_1.Out.Flight.Carrier, .int .i64 x_1.Out.Flight.Number, .str x_1.Out.Flight.Suffix, .int .i64 x_1.Out.Flight.Day, .str x_1.Out.Port, .str x_1.Out.Class, .lst 6 (x_1.Onward.map encLeg), .int .i64 x_1.First.Lead, .int .i64 x_1.First.Airline, .int .i64 x_1.First.Serial, .int .i64 x_1.Count, .bool x_1.Load, .int .i64 x_1.Status, .int .i64 x_1.Sequence, .int .i64 x_1.Weight, .str x_1.Surname, .str x_1.Given, .int .i64 x_1.Exception, .str x_1.Node, .lst 1 (x_1.List.map iA)])], 2⟩
  conv=>whnf
  refine len_q (enc := encPlate) (l := x_2) rfl ?_
  conv=>whnf
  refine ⟨fun h=>?_,fun h=>?_⟩
  ·
   have lk23 : k_23 < x_2.length := by have h := of_decide_eq_true h; omega
   obtain ⟨e_24, he24⟩ : ∃ y, x_2[k_23]? = some y := ⟨_, List.getElem?_eq_getElem lk23⟩
   rw [drop_cons he24, ref06_possible_L4.eq_2] at hL1
   conv=>whnf
   refine ⟨k_23, _, rfl, ix_map he24, ?_⟩
   conv=>whnf
   obtain ⟨r_25, hr25, hL1⟩ := bs hL1
   refine ⟨_,_,_,_,_,_,_,_,_,callX false [] [] 0 Tryz.func61 (by decide) rfl (ref06_index_ac x_0 e_24 r_25 hr25) rfl ⟨aq, aq,trivial⟩ rfl trivial rfl rfl rfl lend0 trivial rfl, ?_⟩
   conv=>whnf
   refine ⟨by kernel_rfl, ?_⟩
   conv=>whnf
   refine ⟨fun b64=>?_,fun b64=>?_⟩
   ·
    replace hL1 := ct b64 hL1
    conv=>whnf
    obtain rfl := si hL1
    replace hF := fin_ret hF
    obtain rfl := si hF
    exact ret_gz [] [] [] rfl aq trivial
   ·
    replace hL1 := cf b64 hL1
    conv=>whnf
    refine ⟨((k_23 + 1 : Nat) : Int), wrapE (by omega) (by omega) (by omega), ?_⟩
    conv=>whnf
    exact ⟨k_23 + 1, [0, 1], [], [], ⟨lk23, hL1⟩, by show x_2.length - (k_23 + 1) < x_2.length - k_23; omega, wk_mk [0, 1] [] [] rfl ⟨aq, argP (id := 0) (by (conv=>lhs;whnf)<;>rfl) rfl, argP (id := 1) (by (conv=>lhs;whnf)<;>rfl) rfl, aq, aq,trivial⟩ ⟨boxL rfl rfl rfl ⟨(.ni _ rfl),trivial⟩, boxL rfl rfl rfl ⟨(.ni _ rfl), (.ni _ rfl), (.ni _ rfl), (.ni _ rfl), (.ni _ rfl), (.ni _ rfl), (.ni _ rfl), (.ni _ rfl), (.ni _ rfl), (.ni _ rfl), (.ni _ rfl), (.ni _ rfl), (.ni _ rfl), (.ni _ rfl), (.ni _ rfl), (.ni _ rfl), (.ni _ rfl), (.ni _ rfl), (.ni _ rfl), (.ni _ rfl), (.ni _ rfl), (.ni _ rfl), (.ni _ rfl), (.ni _ rfl), (.ni _ rfl), (.ni _ rfl), (.ni _ rfl), (.ni _ rfl), (.ni _ rfl), (.ni _ rfl),trivial⟩,trivial⟩⟩
  ·
   rw [drop_nil (show x_2.length ≤ k_23 by have h := of_decide_eq_false h; omega), ref06_possible_L4.eq_1] at hL1
   conv=>whnf
   obtain rfl := si hL1
   replace hF := fin_brk hF
   try dsimp only at hF
   obtain ⟨c_2, hc_2, hF⟩ := fin_some hF
   refine sw_bv 2 (v := .lst 3 (x_2.map encPlate)) (by (conv=>lhs;whnf)<;>rfl) (fun hb=>?_)
   have hbd_k_29 : x_2.length ≤ 9223372036854775807 := bnd_len (enc := encPlate) (hb)
   refine sw_loop tab_ok follows_ok (fun y : Nat => y ≤ x_2.length ∧ ref06_possible_L2 x_0 x_1 (x_2.drop y) y = some c_2) (fun y => ⟨eL [(2, .lst 3 (x_2.map encPlate)), (3, .ptr 0 0), (4, .ptr 1 0), (10, .int .i64 (y : Int))], hL [(0, .box [.lst 25 (x_0.L.map encBag)]), (1, .box [.int .i64 x_1.Kind, .int .i64 x_1.Do, .str x_1.Port, .int .i64 x_1.Number, .str x_1.In.Flight.Carrier, .int .i64 x_1.In.Flight.Number, .str x_1.In.Flight.Suffix, .int .i64 x_1.In.Flight.Day, .str x_1.In.Port, .str x_1.In.Class, .str x_1.Out.Flight.Carrier, .int .i64 x_1.Out.Flight.Number, .str x_1.Out.Flight.Suffix, .int .i64 x_1.Out.Flight.Day, .str x_1.Out.Port, .str x_1.Out.Class, .lst 6 (x_1.Onward.map encLeg), .int .i64 x_1.First.Lead, .int .i64 x_1.First.Airline, .int .i64 x_1.First.Serial, .int .i64 x_1.Count, .bool x_1.Load, .int .i64 x_1.Status, .int .i64 x_1.Sequence, .int .i64 x_1.Weight, .str x_1.Surname, .str x_1.Given, .int .i64 x_1.Exception, .str x_1.Node, .lst 1 (x_1.List.map iA)])], 2⟩) (fun y => x_2.length - y) 0 ⟨Nat.zero_le _, hc_2⟩ (wk_mk [0, 1] [] [] rfl ⟨aq, argP (id := 0) (by (conv=>lhs;whnf)<;>rfl) rfl, argP (id := 1) (by (conv=>lhs;whnf)<;>rfl) rfl, aq,trivial⟩ ⟨boxL rfl rfl rfl ⟨(.ni _ rfl),trivial⟩, boxL rfl rfl rfl ⟨(.ni _ rfl), (.ni _ rfl), (.ni _ rfl), (.ni _ rfl), (.ni _ rfl), (.ni _ rfl), (.ni _ rfl), (.ni _ rfl), (.ni _ rfl), (.ni _ rfl), (.ni _ rfl), (.ni _ rfl), (.ni _ rfl), (.ni _ rfl), (.ni _ rfl), (.ni _ rfl), (.ni _ rfl), (.ni _ rfl), (.ni _ rfl), (.ni _ rfl), (.ni _ rfl), (.ni _ rfl), (.ni _ rfl), (.ni _ rfl), (.ni _ rfl), (.ni _ rfl), (.ni _ rfl), (.ni _ rfl), (.ni _ rfl), (.ni _ rfl),trivial⟩,trivial⟩) ?_
   rintro k_29 ⟨hk_k_29, hL1⟩
   try dsimp only at hk_k_29 hL1
   show awp _ _ _ _ _ _ ⟨eL [(2, .lst 3 (x_2.map encPlate)), (3, .ptr 0 0), (4, .ptr 1 0), (10, .int .i64 (k_29 : Int))], hL [(0, .box [.lst 25 (x_0.L.map encBag)]), (1, .box [.int .i64 x_1.Kind, .int .i64 x_1.Do, .str x_1.Port, .int .i64 x_1.Number, .str x_1.In.Flight.Carrier, .int .i64 x_1.In.Flight.Number, .str x_1.In.Flight.Suffix, .int .i64 x_1.In.Flight.Day, .str x_1.In.Port, .str x_1.In.Class, .str x_1.Out.Flight.Carrier, .int .i64 x_1.Out.Flight.Number, .str x_1.Out.Flight.Suffix, .int .i64 x_1.Out.Flight.Day, .str x_1.Out.Port, .str x_1.Out.Class, .lst 6 (x_1.Onward.map encLeg), .int .i64 x_1.First.Lead, .int .i64 x_1.First.Airline, .int .i64 x_1.First.Serial, .int .i64 x_1.Count, .bool x_1.Load, .int .i64 x_1.Status, .int .i64 x_1.Sequence, .int .i64 x_1.Weight, .str x_1.Surname, .str x_1.Given, .int .i64 x_1.Exception, .str x_1.Node, .lst 1 (x_1.List.map iA)])], 2⟩
   conv=>whnf
   refine len_q (enc := encPlate) (l := x_2) rfl ?_
   conv=>whnf
   refine ⟨fun h=>?_,fun h=>?_⟩
   ·
    have lk29 : k_29 < x_2.length := by have h := of_decide_eq_true h; omega
    obtain ⟨e_30, he30⟩ : ∃ y, x_2[k_29]? = some y := ⟨_, List.getElem?_eq_getElem lk29⟩
    rw [drop_cons he30, ref06_possible_L2.eq_2] at hL1
    conv=>whnf
    refine ⟨fun b65=>?_,fun b65=>?_⟩
    ·
     replace hL1 := ct b65 hL1
     conv=>whnf
     refine ⟨k_29, _, rfl, ix_map he30, ?_⟩
     conv=>whnf
     obtain ⟨r_31, hr31, hL1⟩ := bs hL1
     refine ⟨_,_,_,_,_,_,_,_,_,callX false [] [] 0 Tryz.func61 (by decide) rfl (ref06_index_ac x_0 e_30 r_31 hr31) rfl ⟨aq, aq,trivial⟩ rfl trivial rfl rfl rfl lend0 trivial rfl, ?_⟩
     conv=>whnf
     obtain ⟨e_32, he32, hL1⟩ := bs hL1
     refine ix_q (enc := encBag) (l := x_0.L) he32 rfl (fun m_e_32 hm_e_32 hx_e_32=>?_)
     conv=>whnf
     refine ⟨by kernel_rfl, ?_⟩
     conv=>whnf
     refine ⟨fun b66=>?_,fun b66=>?_⟩
     ·
      replace hL1 := ct b66 hL1
      conv=>whnf
      obtain rfl := si hL1
      replace hF := fin_ret hF
      obtain rfl := si hF
      exact ret_gz [] [] [] rfl aq trivial
     ·
      replace hL1 := cf b66 hL1
      conv=>whnf
      refine ⟨((k_29 + 1 : Nat) : Int), wrapE (by omega) (by omega) (by omega), ?_⟩
      conv=>whnf
      exact ⟨k_29 + 1, [0, 1], [], [], ⟨lk29, hL1⟩, by show x_2.length - (k_29 + 1) < x_2.length - k_29; omega, wk_mk [0, 1] [] [] rfl ⟨aq, argP (id := 0) (by (conv=>lhs;whnf)<;>rfl) rfl, argP (id := 1) (by (conv=>lhs;whnf)<;>rfl) rfl, aq,trivial⟩ ⟨boxL rfl rfl rfl ⟨(.ni _ rfl),trivial⟩, boxL rfl rfl rfl ⟨(.ni _ rfl), (.ni _ rfl), (.ni _ rfl), (.ni _ rfl), (.ni _ rfl), (.ni _ rfl), (.ni _ rfl), (.ni _ rfl), (.ni _ rfl), (.ni _ rfl), (.ni _ rfl), (.ni _ rfl), (.ni _ rfl), (.ni _ rfl), (.ni _ rfl), (.ni _ rfl), (.ni _ rfl), (.ni _ rfl), (.ni _ rfl), (.ni _ rfl), (.ni _ rfl), (.ni _ rfl), (.ni _ rfl), (.ni _ rfl), (.ni _ rfl), (.ni _ rfl), (.ni _ rfl), (.ni _ rfl), (.ni _ rfl), (.ni _ rfl),trivial⟩,trivial⟩⟩
    ·
     replace hL1 := cf b65 hL1
     conv=>whnf
     obtain rfl := si hL1
     replace hF := fin_brk hF
     try dsimp only at hF
     obtain rfl := si hF
     exact ret_gz [] [] [] rfl aq trivial
   ·
    rw [drop_nil (show x_2.length ≤ k_29 by have h := of_decide_eq_false h; omega), ref06_possible_L2.eq_1] at hL1
    conv=>whnf
    obtain rfl := si hL1
    replace hF := fin_brk hF
    try dsimp only at hF
    obtain rfl := si hF
    exact ret_gz [] [] [] rfl aq trivial

theorem ref06_Find_ac (x_0 : Registry) (x_1 : Plate) (r : Bag × Bool) (hF : ref06_Find x_0 x_1 = some r) : AC Tryz.prog 24 [.agg (encRegistry x_0), .agg (encPlate x_1)] [] (.tup [.agg (encBag r.1), .bool r.2]) [] := by
 refine ac_of tab_ok follows_ok Tryz.func24 rfl Tryz.ntmps24 rfl ?_
 unfold ref06_Find at hF
 conv=>whnf
 obtain ⟨r_1, hr1, hF⟩ := bs hF
 refine ⟨_,_,_,_,_,_,_,_,_,callX false [] [] 0 Tryz.func61 (by decide) rfl (ref06_index_ac x_0 x_1 r_1 hr1) rfl ⟨aq, aq,trivial⟩ rfl trivial rfl rfl rfl lend0 trivial rfl, ?_⟩
 conv=>whnf
 obtain ⟨r_2, hr2, hF⟩ := bs hF
 refine ⟨_,_,_,_,_,_,_,_,_,callX false [] [] 0 Tryz.func20 (by decide) rfl (ref06_Validate_ac x_0 r_2 hr2) rfl ⟨aq,trivial⟩ rfl trivial rfl rfl rfl lend0 trivial rfl, ?_⟩
 conv=>whnf
 refine ⟨fun b3=>?_,fun b3=>?_⟩
 ·
  replace hF := cf b3 hF
  conv=>whnf
  refine ⟨fun b4=>?_,fun b4=>?_⟩
  ·
   replace hF := ct b4 hF
   conv=>whnf
   obtain rfl := si hF
   exact ret_gz [] [] [] rfl (tupL rfl ⟨(argA (c := [.int .i64 (0 : Int), .int .i64 (0 : Int), .int .i64 (0 : Int), .str (⟨#[]⟩ : ByteArray), .int .i64 (0 : Int), .str (⟨#[]⟩ : ByteArray), .int .i64 (0 : Int), .str (⟨#[]⟩ : ByteArray), .str (⟨#[]⟩ : ByteArray), .str (⟨#[]⟩ : ByteArray), .int .i64 (0 : Int), .str (⟨#[]⟩ : ByteArray), .int .i64 (0 : Int), .str (⟨#[]⟩ : ByteArray), .str (⟨#[]⟩ : ByteArray), .nils, .int .i64 (0 : Int), .int .i64 (0 : Int), .int .i64 (0 : Int), .fls, .str (⟨#[]⟩ : ByteArray), .str (⟨#[]⟩ : ByteArray), .int .i64 (0 : Int), .str (⟨#[]⟩ : ByteArray), .fls]) (by (conv=>lhs;whnf)<;>rfl) rfl ⟨(.ni _ rfl), (.ni _ rfl), (.ni _ rfl), (.ni _ rfl), (.ni _ rfl), (.ni _ rfl), (.ni _ rfl), (.ni _ rfl), (.ni _ rfl), (.ni _ rfl), (.ni _ rfl), (.ni _ rfl), (.ni _ rfl), (.ni _ rfl), (.ni _ rfl), (.nils _), (.ni _ rfl), (.ni _ rfl), (.ni _ rfl), .fls, (.ni _ rfl), (.ni _ rfl), (.ni _ rfl), (.ni _ rfl), .fls,trivial⟩), (argFl (by (conv=>lhs;whnf)<;>rfl)),trivial⟩) trivial
  ·
   replace hF := cf b4 hF
   conv=>whnf
   obtain ⟨e_3, he3, hF⟩ := bs hF
   refine ix_q (enc := encBag) (l := x_0.L) he3 rfl (fun m_e_3 hm_e_3 hx_e_3=>?_)
   conv=>whnf
   obtain rfl := si hF
   exact ret_gz [] [] [] rfl (tupL rfl ⟨aq, (argT (by (conv=>lhs;whnf)<;>rfl)),trivial⟩) trivial
 ·
  replace hF := ct b3 hF
  conv=>whnf
  obtain rfl := si hF
  exact ret_gz [] [] [] rfl (tupL rfl ⟨(argA (c := [.int .i64 (0 : Int), .int .i64 (0 : Int), .int .i64 (0 : Int), .str (⟨#[]⟩ : ByteArray), .int .i64 (0 : Int), .str (⟨#[]⟩ : ByteArray), .int .i64 (0 : Int), .str (⟨#[]⟩ : ByteArray), .str (⟨#[]⟩ : ByteArray), .str (⟨#[]⟩ : ByteArray), .int .i64 (0 : Int), .str (⟨#[]⟩ : ByteArray), .int .i64 (0 : Int), .str (⟨#[]⟩ : ByteArray), .str (⟨#[]⟩ : ByteArray), .nils, .int .i64 (0 : Int), .int .i64 (0 : Int), .int .i64 (0 : Int), .fls, .str (⟨#[]⟩ : ByteArray), .str (⟨#[]⟩ : ByteArray), .int .i64 (0 : Int), .str (⟨#[]⟩ : ByteArray), .fls]) (by (conv=>lhs;whnf)<;>rfl) rfl ⟨(.ni _ rfl), (.ni _ rfl), (.ni _ rfl), (.ni _ rfl), (.ni _ rfl), (.ni _ rfl), (.ni _ rfl), (.ni _ rfl), (.ni _ rfl), (.ni _ rfl), (.ni _ rfl), (.ni _ rfl), (.ni _ rfl), (.ni _ rfl), (.ni _ rfl), (.nils _), (.ni _ rfl), (.ni _ rfl), (.ni _ rfl), .fls, (.ni _ rfl), (.ni _ rfl), (.ni _ rfl), (.ni _ rfl), .fls,trivial⟩), (argFl (by (conv=>lhs;whnf)<;>rfl)),trivial⟩) trivial

theorem ref06_without_ac (x_0 : Registry) (x_1 : Plate) (r : Registry) (hF : ref06_without x_0 x_1 = some r) : AC Tryz.prog 26 [.agg (encRegistry x_0), .agg (encPlate x_1)] [] (.agg (encRegistry r)) [] := by
 refine ac_of tab_ok follows_ok Tryz.func26 rfl Tryz.ntmps26 rfl ?_
 unfold ref06_without at hF
 conv=>whnf
 obtain ⟨c_1, hc_1, hF⟩ := fin_some hF
 refine sw_bv 0 (v := .agg [.lst 25 (x_0.L.map encBag)]) (by (conv=>lhs;whnf)<;>rfl) (fun hb=>?_)
 have hbd_k_3 : x_0.L.length ≤ 9223372036854775807 := bnd_len (enc := encBag) ((bnd_at hb.cell 0 rfl))
 refine sw_loop tab_ok follows_ok (fun y : Nat × (List Bag) => y.1 ≤ x_0.L.length ∧ ref06_without_L1 x_1 (x_0.L.drop y.1) y.1 y.2 = some c_1) (fun y => ⟨eL [(2, .ptr 0 0), (3, .ptr 1 0), (4, .ptr 2 0), (5, .ptr 3 0), (6, .int .i64 (y.1 : Int))], hL [(0, .box [.lst 25 (x_0.L.map encBag)]), (1, .box [.int .i64 x_1.Lead, .int .i64 x_1.Airline, .int .i64 x_1.Serial]), (2, .box [.nils]), (3, .box [.osl 4]), (4, .row 25 (y.2.map encBag))], 5⟩) (fun y => x_0.L.length - y.1) (0, ([] : List Bag)) ⟨Nat.zero_le _, hc_1⟩ (wk_mk [0, 1, 2, 3] [4] [] rfl ⟨argP (id := 0) (by (conv=>lhs;whnf)<;>rfl) rfl, argP (id := 1) (by (conv=>lhs;whnf)<;>rfl) rfl, argP (id := 2) (by (conv=>lhs;whnf)<;>rfl) rfl, argP (id := 3) (by (conv=>lhs;whnf)<;>rfl) rfl, aq,trivial⟩ ⟨boxL rfl rfl rfl ⟨(.ni _ rfl),trivial⟩, boxL rfl rfl rfl ⟨(.ni _ rfl), (.ni _ rfl), (.ni _ rfl),trivial⟩, boxL rfl rfl rfl ⟨(.ni _ rfl),trivial⟩, boxL rfl rfl rfl ⟨(.nilz 4 (by simp)),trivial⟩, blkZ rfl,trivial⟩) ?_
 rintro ⟨k_3, a_1⟩ ⟨hk_k_3, hL1⟩
 try dsimp only at hk_k_3 hL1
 show awp _ _ _ _ _ _ ⟨eL [(2, .ptr 0 0), (3, .ptr 1 0), (4, .ptr 2 0), (5, .ptr 3 0), (6, .int .i64 (k_3 : Int))], hL [(0, .box [.lst 25 (x_0.L.map encBag)]), (1, .box [.int .i64 x_1.Lead, .int .i64 x_1.Airline, .int .i64 x_1.Serial]), (2, .box [.nils]), (3, .box [.osl 4]), (4, .row 25 (a_1.map encBag))], 5⟩
 conv=>whnf
 refine len_q (enc := encBag) (l := x_0.L) rfl ?_
 conv=>whnf
 refine ⟨fun h=>?_,fun h=>?_⟩
 ·
  have lk3 : k_3 < x_0.L.length := by have h := of_decide_eq_true h; omega
  obtain ⟨e_4, he4⟩ : ∃ y, x_0.L[k_3]? = some y := ⟨_, List.getElem?_eq_getElem lk3⟩
  rw [drop_cons he4, ref06_without_L1.eq_2] at hL1
  conv=>whnf
  refine ⟨k_3, _, rfl, ix_map he4, ?_⟩
  conv=>whnf
  refine ⟨by kernel_rfl, ?_⟩
  conv=>whnf
  refine ⟨fun b7=>?_,fun b7=>?_⟩
  ·
   replace hL1 := ct b7 hL1
   conv=>whnf
   refine ⟨k_3, _, rfl, ix_map he4, ?_⟩
   conv=>whnf
   obtain ⟨l_5, hl5, hL1⟩ := bs hL1
   refine ap_q (enc := encBag) (l := a_1) (y := ([e_4] : List Bag)) hl5 rfl rfl (by decide) ?_
   conv=>whnf
   refine ⟨by kernel_rfl, ?_⟩
   conv=>whnf
   refine ⟨((k_3 + 1 : Nat) : Int), wrapE (by omega) (by omega) (by omega), ?_⟩
   conv=>whnf
   exact ⟨(k_3 + 1, l_5), [0, 1, 2, 3, 6], [], [], ⟨lk3, hL1⟩, by show x_0.L.length - (k_3 + 1) < x_0.L.length - k_3; omega, wk_mk [0, 1, 2, 3, 6] [] [] rfl ⟨argP (id := 0) (by (conv=>lhs;whnf)<;>rfl) rfl, argP (id := 1) (by (conv=>lhs;whnf)<;>rfl) rfl, argP (id := 2) (by (conv=>lhs;whnf)<;>rfl) rfl, argP (id := 3) (by (conv=>lhs;whnf)<;>rfl) rfl, aq,trivial⟩ ⟨boxL rfl rfl rfl ⟨(.ni _ rfl),trivial⟩, boxL rfl rfl rfl ⟨(.ni _ rfl), (.ni _ rfl), (.ni _ rfl),trivial⟩, boxL rfl rfl rfl ⟨(.ni _ rfl),trivial⟩, boxL rfl rfl rfl ⟨(.oslg 6 4 rfl),trivial⟩, blkR (fun _ => ⟨rfl, rfl⟩) rfl rfl,trivial⟩⟩
  ·
   replace hL1 := cf b7 hL1
   conv=>whnf
   refine ⟨((k_3 + 1 : Nat) : Int), wrapE (by omega) (by omega) (by omega), ?_⟩
   conv=>whnf
   exact ⟨(k_3 + 1, a_1), [0, 1, 2, 3, 4], [], [], ⟨lk3, hL1⟩, by show x_0.L.length - (k_3 + 1) < x_0.L.length - k_3; omega, wk_mk [0, 1, 2, 3, 4] [] [] rfl ⟨argP (id := 0) (by (conv=>lhs;whnf)<;>rfl) rfl, argP (id := 1) (by (conv=>lhs;whnf)<;>rfl) rfl, argP (id := 2) (by (conv=>lhs;whnf)<;>rfl) rfl, argP (id := 3) (by (conv=>lhs;whnf)<;>rfl) rfl, aq,trivial⟩ ⟨boxL rfl rfl rfl ⟨(.ni _ rfl),trivial⟩, boxL rfl rfl rfl ⟨(.ni _ rfl), (.ni _ rfl), (.ni _ rfl),trivial⟩, boxL rfl rfl rfl ⟨(.ni _ rfl),trivial⟩, boxL rfl rfl rfl ⟨(.oslg 4 4 rfl),trivial⟩, blkR (fun _ => ⟨rfl, rfl⟩) rfl rfl,trivial⟩⟩
 ·
  rw [drop_nil (show x_0.L.length ≤ k_3 by have h := of_decide_eq_false h; omega), ref06_without_L1.eq_1] at hL1
  conv=>whnf
  obtain rfl := si hL1
  replace hF := fin_brk hF
  try dsimp only at hF
  obtain rfl := si hF
  exact ret_gz [] [] [4] rfl (argA (c := [.osl 4]) (by (conv=>lhs;whnf)<;>rfl) rfl ⟨(.osl 4 25 _ (by simp) rfl (map_ni (fun _ => ⟨rfl, rfl⟩) _)),trivial⟩) trivial

theorem ref06_data_ac (x_0 : Bag) (x_1 : Message) (r : Bag) (hF : ref06_data x_0 x_1 = some r) : AC Tryz.prog 27 [.agg (encBag x_0), .agg (encMessage x_1)] [] (.agg (encBag r)) [] := by
 refine ac_of tab_ok follows_ok Tryz.func27 rfl Tryz.ntmps27 rfl ?_
 unfold ref06_data at hF
 conv=>whnf
 obtain ⟨l_1, hl1, hF⟩ := bs hF
 refine ap_q (enc := encLeg) (l := ([] : List Leg)) (y := x_1.Onward) hl1 rfl rfl (by decide) ?_
 conv=>whnf
 refine ⟨by kernel_rfl, ?_⟩
 conv=>whnf
 refine ⟨by kernel_rfl, ?_⟩
 conv=>whnf
 refine ⟨by kernel_rfl, ?_⟩
 conv=>whnf
 obtain rfl := si hF
 exact ret_gz [] [] [3] rfl (argA (c := [.int .i64 x_0.Plate.Lead, .int .i64 x_0.Plate.Airline, .int .i64 x_0.Plate.Serial, .str x_1.In.Flight.Carrier, .int .i64 x_1.In.Flight.Number, .str x_1.In.Flight.Suffix, .int .i64 x_1.In.Flight.Day, .str x_1.In.Port, .str x_1.In.Class, .str x_1.Out.Flight.Carrier, .int .i64 x_1.Out.Flight.Number, .str x_1.Out.Flight.Suffix, .int .i64 x_1.Out.Flight.Day, .str x_1.Out.Port, .str x_1.Out.Class, .osl 3, .int .i64 x_1.Sequence, .int .i64 x_1.Status, .int .i64 x_1.Weight, .bool x_1.Load, .str x_1.Surname, .str x_1.Given, .int .i64 x_1.Exception, .str x_0.Node, .bool x_0.Unloaded]) (by (conv=>lhs;whnf)<;>rfl) rfl ⟨(.ni _ rfl), (.ni _ rfl), (.ni _ rfl), (.ni _ rfl), (.ni _ rfl), (.ni _ rfl), (.ni _ rfl), (.ni _ rfl), (.ni _ rfl), (.ni _ rfl), (.ni _ rfl), (.ni _ rfl), (.ni _ rfl), (.ni _ rfl), (.ni _ rfl), (.osl 3 6 _ (by simp) rfl (map_ni (fun _ => ⟨rfl, rfl⟩) _)), (.ni _ rfl), (.ni _ rfl), (.ni _ rfl), (.ni _ rfl), (.ni _ rfl), (.ni _ rfl), (.ni _ rfl), (.ni _ rfl), (.ni _ rfl),trivial⟩) trivial

theorem ref06_with_ac (x_0 : Registry) (x_1 : Bag) (r : Registry) (hF : ref06_with x_0 x_1 = some r) : AC Tryz.prog 28 [.agg (encRegistry x_0), .agg (encBag x_1)] [] (.agg (encRegistry r)) [] := by
 refine ac_of tab_ok follows_ok Tryz.func28 rfl Tryz.ntmps28 rfl ?_
 unfold ref06_with at hF
 conv=>whnf
 obtain ⟨c_1, hc_1, hF⟩ := fin_some hF
 refine sw_bv 0 (v := .agg [.lst 25 (x_0.L.map encBag)]) (by (conv=>lhs;whnf)<;>rfl) (fun hb=>?_)
 have hbd_k_3 : x_0.L.length ≤ 9223372036854775807 := bnd_len (enc := encBag) ((bnd_at hb.cell 0 rfl))
 refine sw_loop tab_ok follows_ok (fun y : Nat × (List Bag) => y.1 ≤ x_0.L.length ∧ ref06_with_L1 x_1 (x_0.L.drop y.1) y.1 y.2 = some c_1) (fun y => ⟨eL [(2, .ptr 0 0), (3, .ptr 1 0), (4, .ptr 2 0), (5, .ptr 3 0), (6, .int .i64 (y.1 : Int))], hL [(0, .box [.lst 25 (x_0.L.map encBag)]), (1, .box [.int .i64 x_1.Plate.Lead, .int .i64 x_1.Plate.Airline, .int .i64 x_1.Plate.Serial, .str x_1.In.Flight.Carrier, .int .i64 x_1.In.Flight.Number, .str x_1.In.Flight.Suffix, .int .i64 x_1.In.Flight.Day, .str x_1.In.Port, .str x_1.In.Class, .str x_1.Out.Flight.Carrier, .int .i64 x_1.Out.Flight.Number, .str x_1.Out.Flight.Suffix, .int .i64 x_1.Out.Flight.Day, .str x_1.Out.Port, .str x_1.Out.Class, .lst 6 (x_1.Onward.map encLeg), .int .i64 x_1.Sequence, .int .i64 x_1.Status, .int .i64 x_1.Weight, .bool x_1.Load, .str x_1.Surname, .str x_1.Given, .int .i64 x_1.Exception, .str x_1.Node, .bool x_1.Unloaded]), (2, .box [.nils]), (3, .box [.osl 4]), (4, .row 25 (y.2.map encBag))], 5⟩) (fun y => x_0.L.length - y.1) (0, ([] : List Bag)) ⟨Nat.zero_le _, hc_1⟩ (wk_mk [0, 1, 2, 3] [4] [] rfl ⟨argP (id := 0) (by (conv=>lhs;whnf)<;>rfl) rfl, argP (id := 1) (by (conv=>lhs;whnf)<;>rfl) rfl, argP (id := 2) (by (conv=>lhs;whnf)<;>rfl) rfl, argP (id := 3) (by (conv=>lhs;whnf)<;>rfl) rfl, aq,trivial⟩ ⟨boxL rfl rfl rfl ⟨(.ni _ rfl),trivial⟩, boxL rfl rfl rfl ⟨(.ni _ rfl), (.ni _ rfl), (.ni _ rfl), (.ni _ rfl), (.ni _ rfl), (.ni _ rfl), (.ni _ rfl), (.ni _ rfl), (.ni _ rfl), (.ni _ rfl), (.ni _ rfl), (.ni _ rfl), (.ni _ rfl), (.ni _ rfl), (.ni _ rfl), (.ni _ rfl), (.ni _ rfl), (.ni _ rfl), (.ni _ rfl), (.ni _ rfl), (.ni _ rfl), (.ni _ rfl), (.ni _ rfl), (.ni _ rfl), (.ni _ rfl),trivial⟩, boxL rfl rfl rfl ⟨(.ni _ rfl),trivial⟩, boxL rfl rfl rfl ⟨(.nilz 4 (by simp)),trivial⟩, blkZ rfl,trivial⟩) ?_
 rintro ⟨k_3, a_1⟩ ⟨hk_k_3, hL1⟩
 try dsimp only at hk_k_3 hL1
 show awp _ _ _ _ _ _ ⟨eL [(2, .ptr 0 0), (3, .ptr 1 0), (4, .ptr 2 0), (5, .ptr 3 0), (6, .int .i64 (k_3 : Int))], hL [(0, .box [.lst 25 (x_0.L.map encBag)]), (1, .box [.int .i64 x_1.Plate.Lead, .int .i64 x_1.Plate.Airline, .int .i64 x_1.Plate.Serial, .str x_1.In.Flight.Carrier, .int .i64 x_1.In.Flight.Number, .str x_1.In.Flight.Suffix, .int .i64 x_1.In.Flight.Day, .str x_1.In.Port, .str x_1.In.Class, .str x_1.Out.Flight.Carrier, .int .i64 x_1.Out.Flight.Number, .str x_1.Out.Flight.Suffix, .int .i64 x_1.Out.Flight.Day, .str x_1.Out.Port, .str x_1.Out.Class, .lst 6 (x_1.Onward.map encLeg), .int .i64 x_1.Sequence, .int .i64 x_1.Status, .int .i64 x_1.Weight, .bool x_1.Load, .str x_1.Surname, .str x_1.Given, .int .i64 x_1.Exception, .str x_1.Node, .bool x_1.Unloaded]), (2, .box [.nils]), (3, .box [.osl 4]), (4, .row 25 (a_1.map encBag))], 5⟩
 conv=>whnf
 refine len_q (enc := encBag) (l := x_0.L) rfl ?_
 conv=>whnf
 refine ⟨fun h=>?_,fun h=>?_⟩
 ·
  have lk3 : k_3 < x_0.L.length := by have h := of_decide_eq_true h; omega
  obtain ⟨e_4, he4⟩ : ∃ y, x_0.L[k_3]? = some y := ⟨_, List.getElem?_eq_getElem lk3⟩
  rw [drop_cons he4, ref06_with_L1.eq_2] at hL1
  conv=>whnf
  refine ⟨k_3, _, rfl, ix_map he4, ?_⟩
  conv=>whnf
  obtain ⟨r_5, hr5, hL1⟩ := bs hL1
  refine ⟨_,_,_,_,_,_,_,_,_,callX false [] [] 0 Tryz.func54 (by decide) rfl (ref01_Compare_ac e_4.Plate x_1.Plate r_5 hr5) rfl ⟨aq, aq,trivial⟩ rfl trivial rfl rfl rfl lend0 trivial rfl, ?_⟩
  conv=>whnf
  refine ⟨by kernel_rfl, ?_⟩
  conv=>whnf
  refine ⟨fun b9=>?_,fun b9=>?_⟩
  ·
   replace hL1 := ct b9 hL1
   conv=>whnf
   refine ⟨k_3, _, rfl, ix_map he4, ?_⟩
   conv=>whnf
   obtain ⟨l_6, hl6, hL1⟩ := bs hL1
   refine ap_q (enc := encBag) (l := a_1) (y := ([e_4] : List Bag)) hl6 rfl rfl (by decide) ?_
   conv=>whnf
   refine ⟨by kernel_rfl, ?_⟩
   conv=>whnf
   refine ⟨((k_3 + 1 : Nat) : Int), wrapE (by omega) (by omega) (by omega), ?_⟩
   conv=>whnf
   exact ⟨(k_3 + 1, l_6), [0, 1, 2, 3, 7], [], [], ⟨lk3, hL1⟩, by show x_0.L.length - (k_3 + 1) < x_0.L.length - k_3; omega, wk_mk [0, 1, 2, 3, 7] [] [] rfl ⟨argP (id := 0) (by (conv=>lhs;whnf)<;>rfl) rfl, argP (id := 1) (by (conv=>lhs;whnf)<;>rfl) rfl, argP (id := 2) (by (conv=>lhs;whnf)<;>rfl) rfl, argP (id := 3) (by (conv=>lhs;whnf)<;>rfl) rfl, aq,trivial⟩ ⟨boxL rfl rfl rfl ⟨(.ni _ rfl),trivial⟩, boxL rfl rfl rfl ⟨(.ni _ rfl), (.ni _ rfl), (.ni _ rfl), (.ni _ rfl), (.ni _ rfl), (.ni _ rfl), (.ni _ rfl), (.ni _ rfl), (.ni _ rfl), (.ni _ rfl), (.ni _ rfl), (.ni _ rfl), (.ni _ rfl), (.ni _ rfl), (.ni _ rfl), (.ni _ rfl), (.ni _ rfl), (.ni _ rfl), (.ni _ rfl), (.ni _ rfl), (.ni _ rfl), (.ni _ rfl), (.ni _ rfl), (.ni _ rfl), (.ni _ rfl),trivial⟩, boxL rfl rfl rfl ⟨(.ni _ rfl),trivial⟩, boxL rfl rfl rfl ⟨(.oslg 7 4 rfl),trivial⟩, blkR (fun _ => ⟨rfl, rfl⟩) rfl rfl,trivial⟩⟩
  ·
   replace hL1 := cf b9 hL1
   conv=>whnf
   obtain rfl := si hL1
   replace hF := fin_brk hF
   try dsimp only at hF
   obtain ⟨l_9, hl9, hF⟩ := bs hF
   refine ap_q (enc := encBag) (l := a_1) (y := ([x_1] : List Bag)) hl9 rfl rfl (by decide) ?_
   conv=>whnf
   refine len_q (enc := encBag) (l := x_0.L) rfl ?_
   conv=>whnf
   refine ⟨fun b10=>?_,fun b10=>?_⟩
   ·
    replace hF := ct b10 hF
    conv=>whnf
    obtain ⟨e_10, he10, hF⟩ := bs hF
    refine ix_q (enc := encBag) (l := x_0.L) he10 rfl (fun m_e_10 hm_e_10 hx_e_10=>?_)
    conv=>whnf
    refine ⟨by kernel_rfl, ?_⟩
    conv=>whnf
    refine ⟨fun b11=>?_,fun b11=>?_⟩
    ·
     replace hF := ct b11 hF
     conv=>whnf
     refine ⟨_, rfl, ?_⟩
     conv=>whnf
     obtain ⟨l_11, hl11, hF⟩ := bs hF
     refine sl_q1 (enc := encBag) (l := x_0.L) hl11 rfl ?_
     conv=>whnf
     obtain ⟨l_12, hl12, hF⟩ := bs hF
     refine ap_q (enc := encBag) (l := l_9) (y := l_11) hl12 rfl rfl (by decide) ?_
     conv=>whnf
     refine ⟨by kernel_rfl, ?_⟩
     conv=>whnf
     obtain rfl := si hF
     exact ret_gz [] [] [8] rfl (argA (c := [.osl 8]) (by (conv=>lhs;whnf)<;>rfl) rfl ⟨(.osl 8 25 _ (by simp) rfl (map_ni (fun _ => ⟨rfl, rfl⟩) _)),trivial⟩) trivial
    ·
     replace hF := cf b11 hF
     conv=>whnf
     obtain ⟨l_13, hl13, hF⟩ := bs hF
     refine sl_q1 (enc := encBag) (l := x_0.L) hl13 rfl ?_
     conv=>whnf
     obtain ⟨l_14, hl14, hF⟩ := bs hF
     refine ap_q (enc := encBag) (l := l_9) (y := l_13) hl14 rfl rfl (by decide) ?_
     conv=>whnf
     refine ⟨by kernel_rfl, ?_⟩
     conv=>whnf
     obtain rfl := si hF
     exact ret_gz [] [] [8] rfl (argA (c := [.osl 8]) (by (conv=>lhs;whnf)<;>rfl) rfl ⟨(.osl 8 25 _ (by simp) rfl (map_ni (fun _ => ⟨rfl, rfl⟩) _)),trivial⟩) trivial
   ·
    replace hF := cf b10 hF
    conv=>whnf
    refine ⟨by kernel_rfl, ?_⟩
    conv=>whnf
    obtain ⟨l_15, hl15, hF⟩ := bs hF
    refine sl_q1 (enc := encBag) (l := x_0.L) hl15 rfl ?_
    conv=>whnf
    obtain ⟨l_16, hl16, hF⟩ := bs hF
    refine ap_q (enc := encBag) (l := l_9) (y := l_15) hl16 rfl rfl (by decide) ?_
    conv=>whnf
    refine ⟨by kernel_rfl, ?_⟩
    conv=>whnf
    obtain rfl := si hF
    exact ret_gz [] [] [8] rfl (argA (c := [.osl 8]) (by (conv=>lhs;whnf)<;>rfl) rfl ⟨(.osl 8 25 _ (by simp) rfl (map_ni (fun _ => ⟨rfl, rfl⟩) _)),trivial⟩) trivial
 ·
  rw [drop_nil (show x_0.L.length ≤ k_3 by have h := of_decide_eq_false h; omega), ref06_with_L1.eq_1] at hL1
  conv=>whnf
  refine ⟨by kernel_rfl, ?_⟩
  conv=>whnf
  obtain rfl := si hL1
  replace hF := fin_brk hF
  try dsimp only at hF
  obtain ⟨l_9, hl9, hF⟩ := bs hF
  refine ap_q (enc := encBag) (l := a_1) (y := ([x_1] : List Bag)) hl9 rfl rfl (by decide) ?_
  conv=>whnf
  refine len_q (enc := encBag) (l := x_0.L) rfl ?_
  conv=>whnf
  refine ⟨fun b12=>?_,fun b12=>?_⟩
  ·
   replace hF := ct b12 hF
   conv=>whnf
   obtain ⟨e_10, he10, hF⟩ := bs hF
   refine ix_q (enc := encBag) (l := x_0.L) he10 rfl (fun m_e_10 hm_e_10 hx_e_10=>?_)
   conv=>whnf
   refine ⟨by kernel_rfl, ?_⟩
   conv=>whnf
   refine ⟨fun b13=>?_,fun b13=>?_⟩
   ·
    replace hF := ct b13 hF
    conv=>whnf
    refine ⟨_, rfl, ?_⟩
    conv=>whnf
    obtain ⟨l_11, hl11, hF⟩ := bs hF
    refine sl_q1 (enc := encBag) (l := x_0.L) hl11 rfl ?_
    conv=>whnf
    obtain ⟨l_12, hl12, hF⟩ := bs hF
    refine ap_q (enc := encBag) (l := l_9) (y := l_11) hl12 rfl rfl (by decide) ?_
    conv=>whnf
    refine ⟨by kernel_rfl, ?_⟩
    conv=>whnf
    obtain rfl := si hF
    exact ret_gz [] [] [7] rfl (argA (c := [.osl 7]) (by (conv=>lhs;whnf)<;>rfl) rfl ⟨(.osl 7 25 _ (by simp) rfl (map_ni (fun _ => ⟨rfl, rfl⟩) _)),trivial⟩) trivial
   ·
    replace hF := cf b13 hF
    conv=>whnf
    obtain ⟨l_13, hl13, hF⟩ := bs hF
    refine sl_q1 (enc := encBag) (l := x_0.L) hl13 rfl ?_
    conv=>whnf
    obtain ⟨l_14, hl14, hF⟩ := bs hF
    refine ap_q (enc := encBag) (l := l_9) (y := l_13) hl14 rfl rfl (by decide) ?_
    conv=>whnf
    refine ⟨by kernel_rfl, ?_⟩
    conv=>whnf
    obtain rfl := si hF
    exact ret_gz [] [] [7] rfl (argA (c := [.osl 7]) (by (conv=>lhs;whnf)<;>rfl) rfl ⟨(.osl 7 25 _ (by simp) rfl (map_ni (fun _ => ⟨rfl, rfl⟩) _)),trivial⟩) trivial
  ·
   replace hF := cf b12 hF
   conv=>whnf
   refine ⟨by kernel_rfl, ?_⟩
   conv=>whnf
   obtain ⟨l_15, hl15, hF⟩ := bs hF
   refine sl_q1 (enc := encBag) (l := x_0.L) hl15 rfl ?_
   conv=>whnf
   obtain ⟨l_16, hl16, hF⟩ := bs hF
   refine ap_q (enc := encBag) (l := l_9) (y := l_15) hl16 rfl rfl (by decide) ?_
   conv=>whnf
   refine ⟨by kernel_rfl, ?_⟩
   conv=>whnf
   obtain rfl := si hF
   exact ret_gz [] [] [7] rfl (argA (c := [.osl 7]) (by (conv=>lhs;whnf)<;>rfl) rfl ⟨(.osl 7 25 _ (by simp) rfl (map_ni (fun _ => ⟨rfl, rfl⟩) _)),trivial⟩) trivial

theorem ref06_Apply_ac (x_0 : Registry) (x_1 : Message) (r : Registry × Int) (hF : ref06_Apply x_0 x_1 = some r) : AC Tryz.prog 6 [.agg (encRegistry x_0), .agg (encMessage x_1)] [] (.tup [.agg (encRegistry r.1), .int .i64 r.2]) [] := by
 refine ac_of tab_ok follows_ok Tryz.func6 rfl Tryz.ntmps6 rfl ?_
 unfold ref06_Apply at hF
 conv=>whnf
 obtain ⟨r_1, hr1, hF⟩ := bs hF
 refine ⟨_,_,_,_,_,_,_,_,_,callX false [] [] 0 Tryz.func20 (by decide) rfl (ref06_Validate_ac x_0 r_1 hr1) rfl ⟨aq,trivial⟩ rfl trivial rfl rfl rfl lend0 trivial rfl, ?_⟩
 conv=>whnf
 refine ⟨fun b32=>?_,fun b32=>?_⟩
 ·
  replace hF := ct b32 hF
  conv=>whnf
  obtain rfl := si hF
  exact ret_gz [] [] [] rfl (tupL rfl ⟨(argA (c := [.nils]) (by (conv=>lhs;whnf)<;>rfl) rfl ⟨(.nils _),trivial⟩), aq,trivial⟩) trivial
 ·
  replace hF := cf b32 hF
  conv=>whnf
  obtain ⟨r_2, hr2, hF⟩ := bs hF
  refine ⟨_,_,_,_,_,_,_,_,_,callX false [] [] 0 Tryz.func21 (by decide) rfl (ref04_Validate_ac x_1 r_2 hr2) rfl ⟨aq,trivial⟩ rfl trivial rfl rfl rfl lend0 trivial rfl, ?_⟩
  conv=>whnf
  refine ⟨fun b33=>?_,fun b33=>?_⟩
  ·
   replace hF := ct b33 hF
   conv=>whnf
   obtain rfl := si hF
   exact ret_gz [] [] [] rfl (tupL rfl ⟨(argA (c := [.nils]) (by (conv=>lhs;whnf)<;>rfl) rfl ⟨(.nils _),trivial⟩), aq,trivial⟩) trivial
  ·
   replace hF := cf b33 hF
   conv=>whnf
   obtain ⟨r_3, hr3, hF⟩ := bs hF
   refine ⟨_,_,_,_,_,_,_,_,_,callX false [] [] 0 Tryz.func22 (by decide) rfl (ref04_Plates_ac x_1 r_3 hr3) rfl ⟨aq,trivial⟩ rfl trivial rfl rfl rfl lend0 trivial rfl, ?_⟩
   conv=>whnf
   refine ⟨fun b34=>?_,fun b34=>?_⟩
   ·
    replace hF := ct b34 hF
    conv=>whnf
    obtain ⟨r_4, hr4, hF⟩ := bs hF
    refine ⟨_,_,_,_,_,_,_,_,_,callX false [] [] 0 Tryz.func23 (by decide) rfl (ref06_possible_ac x_0 x_1 ([] : (List Plate)) r_4 hr4) rfl ⟨aq, aq, (argN (by (conv=>lhs;whnf)<;>rfl)),trivial⟩ rfl trivial rfl rfl rfl lend0 trivial rfl, ?_⟩
    conv=>whnf
    refine ⟨fun b35=>?_,fun b35=>?_⟩
    ·
     replace hF := ct b35 hF
     conv=>whnf
     obtain rfl := si hF
     exact ret_gz [] [] [] rfl (tupL rfl ⟨(argA (c := [.nils]) (by (conv=>lhs;whnf)<;>rfl) rfl ⟨(.nils _),trivial⟩), aq,trivial⟩) trivial
    ·
     replace hF := cf b35 hF
     conv=>whnf
     obtain ⟨c_1, hc_1, hF⟩ := fin_some hF
     refine sw_loop tab_ok follows_ok (fun y : Nat => ref06_Apply_L1 y = some c_1) (fun y => ⟨eL [(2, .ptr 0 0), (3, .ptr 1 0), (4, .ptr 2 0), (8, .nils), (10, .int .i64 (0 : Int))], hL [(0, .box [.lst 25 (x_0.L.map encBag)]), (1, .box [.int .i64 x_1.Kind, .int .i64 x_1.Do, .str x_1.Port, .int .i64 x_1.Number, .str x_1.In.Flight.Carrier, .int .i64 x_1.In.Flight.Number, .str x_1.In.Flight.Suffix, .int .i64 x_1.In.Flight.Day, .str x_1.In.Port, .str x_1.In.Class, .str x_1.Out.Flight.Carrier, .int .i64 x_1.Out.Flight.Number, .str x_1.Out.Flight.Suffix, .int .i64 x_1.Out.Flight.Day, .str x_1.Out.Port, .str x_1.Out.Class, .lst 6 (x_1.Onward.map encLeg), .int .i64 x_1.First.Lead, .int .i64 x_1.First.Airline, .int .i64 x_1.First.Serial, .int .i64 x_1.Count, .bool x_1.Load, .int .i64 x_1.Status, .int .i64 x_1.Sequence, .int .i64 x_1.Weight, .str x_1.Surname, .str x_1.Given, .int .i64 x_1.Exception, .str x_1.Node, .lst 1 (x_1.List.map iA)]), (2, .box [.nils])], 3⟩) (fun y => y) 9223372036854775807 hc_1 (wk_mk [0, 1, 2] [] [] rfl ⟨argP (id := 0) (by (conv=>lhs;whnf)<;>rfl) rfl, argP (id := 1) (by (conv=>lhs;whnf)<;>rfl) rfl, argP (id := 2) (by (conv=>lhs;whnf)<;>rfl) rfl, aq, aq,trivial⟩ ⟨boxL rfl rfl rfl ⟨(.ni _ rfl),trivial⟩, boxL rfl rfl rfl ⟨(.ni _ rfl), (.ni _ rfl), (.ni _ rfl), (.ni _ rfl), (.ni _ rfl), (.ni _ rfl), (.ni _ rfl), (.ni _ rfl), (.ni _ rfl), (.ni _ rfl), (.ni _ rfl), (.ni _ rfl), (.ni _ rfl), (.ni _ rfl), (.ni _ rfl), (.ni _ rfl), (.ni _ rfl), (.ni _ rfl), (.ni _ rfl), (.ni _ rfl), (.ni _ rfl), (.ni _ rfl), (.ni _ rfl), (.ni _ rfl), (.ni _ rfl), (.ni _ rfl), (.ni _ rfl), (.ni _ rfl), (.ni _ rfl), (.ni _ rfl),trivial⟩, boxL rfl rfl rfl ⟨(.ni _ rfl),trivial⟩,trivial⟩) ?_
     rintro q_5 hL1
     try dsimp only at hL1
     rcases q_5 with _ | q_5
     ·
      rw [ref06_Apply_L1.eq_1] at hL1
      cases hL1
     rw [ref06_Apply_L1.eq_2] at hL1
     show awp _ _ _ _ _ _ ⟨eL [(2, .ptr 0 0), (3, .ptr 1 0), (4, .ptr 2 0), (8, .nils), (10, .int .i64 (0 : Int))], hL [(0, .box [.lst 25 (x_0.L.map encBag)]), (1, .box [.int .i64 x_1.Kind, .int .i64 x_1.Do, .str x_1.Port, .int .i64 x_1.Number, .str x_1.In.Flight.Carrier, .int .i64 x_1.In.Flight.Number, .str x_1.In.Flight.Suffix, .int .i64 x_1.In.Flight.Day, .str x_1.In.Port, .str x_1.In.Class, .str x_1.Out.Flight.Carrier, .int .i64 x_1.Out.Flight.Number, .str x_1.Out.Flight.Suffix, .int .i64 x_1.Out.Flight.Day, .str x_1.Out.Port, .str x_1.Out.Class, .lst 6 (x_1.Onward.map encLeg), .int .i64 x_1.First.Lead, .int .i64 x_1.First.Airline, .int .i64 x_1.First.Serial, .int .i64 x_1.Count, .bool x_1.Load, .int .i64 x_1.Status, .int .i64 x_1.Sequence, .int .i64 x_1.Weight, .str x_1.Surname, .str x_1.Given, .int .i64 x_1.Exception, .str x_1.Node, .lst 1 (x_1.List.map iA)]), (2, .box [.nils])], 3⟩
     conv=>whnf
     refine ⟨fun h=>?_,fun h=>?_⟩
     ·
      cases (show (decide ((0 : Int) < (0 : Int))) = false from rfl).symm.trans h
     ·
      conv=>whnf
      obtain rfl := si hL1
      replace hF := fin_brk hF
      try dsimp only at hF
      obtain rfl := si hF
      exact ret_gz [] [] [] rfl (tupL rfl ⟨aq, aq,trivial⟩) trivial
   ·
    replace hF := cf b34 hF
    conv=>whnf
    obtain ⟨r_7, hr7, hF⟩ := bs hF
    refine ⟨_,_,_,_,_,_,_,_,_,callX false [] [] 0 Tryz.func23 (by decide) rfl (ref06_possible_ac x_0 x_1 r_3 r_7 hr7) rfl ⟨aq, aq, aq,trivial⟩ rfl trivial rfl rfl rfl lend0 trivial rfl, ?_⟩
    conv=>whnf
    refine ⟨fun b36=>?_,fun b36=>?_⟩
    ·
     replace hF := ct b36 hF
     conv=>whnf
     obtain rfl := si hF
     exact ret_gz [] [] [] rfl (tupL rfl ⟨(argA (c := [.nils]) (by (conv=>lhs;whnf)<;>rfl) rfl ⟨(.nils _),trivial⟩), aq,trivial⟩) trivial
    ·
     replace hF := cf b36 hF
     conv=>whnf
     obtain ⟨c_2, hc_2, hF⟩ := fin_some hF
     refine sw_bv 8 (v := .lst 3 (r_3.map encPlate)) (by (conv=>lhs;whnf)<;>rfl) (fun hb=>?_)
     have hbd_k_10 : r_3.length ≤ 9223372036854775807 := bnd_len (enc := encPlate) (hb)
     refine sw_loop tab_ok follows_ok (fun y : Nat × (List Bag) => y.1 ≤ r_3.length ∧ ref06_Apply_L2 x_1 (r_3.drop y.1) y.1 y.2 = some c_2) (fun y => ⟨eL [(2, .ptr 0 0), (3, .ptr 1 0), (4, .ptr 2 0), (8, .lst 3 (r_3.map encPlate)), (10, .int .i64 (y.1 : Int))], hL [(0, .box [.lst 25 (y.2.map encBag)]), (1, .box [.int .i64 x_1.Kind, .int .i64 x_1.Do, .str x_1.Port, .int .i64 x_1.Number, .str x_1.In.Flight.Carrier, .int .i64 x_1.In.Flight.Number, .str x_1.In.Flight.Suffix, .int .i64 x_1.In.Flight.Day, .str x_1.In.Port, .str x_1.In.Class, .str x_1.Out.Flight.Carrier, .int .i64 x_1.Out.Flight.Number, .str x_1.Out.Flight.Suffix, .int .i64 x_1.Out.Flight.Day, .str x_1.Out.Port, .str x_1.Out.Class, .lst 6 (x_1.Onward.map encLeg), .int .i64 x_1.First.Lead, .int .i64 x_1.First.Airline, .int .i64 x_1.First.Serial, .int .i64 x_1.Count, .bool x_1.Load, .int .i64 x_1.Status, .int .i64 x_1.Sequence, .int .i64 x_1.Weight, .str x_1.Surname, .str x_1.Given, .int .i64 x_1.Exception, .str x_1.Node, .lst 1 (x_1.List.map iA)]), (2, .box [.nils])], 3⟩) (fun y => r_3.length - y.1) (0, x_0.L) ⟨Nat.zero_le _, hc_2⟩ (wk_mk [0, 1, 2] [] [] rfl ⟨argP (id := 0) (by (conv=>lhs;whnf)<;>rfl) rfl, argP (id := 1) (by (conv=>lhs;whnf)<;>rfl) rfl, argP (id := 2) (by (conv=>lhs;whnf)<;>rfl) rfl, aq, aq,trivial⟩ ⟨boxL rfl rfl rfl ⟨(.ni _ rfl),trivial⟩, boxL rfl rfl rfl ⟨(.ni _ rfl), (.ni _ rfl), (.ni _ rfl), (.ni _ rfl), (.ni _ rfl), (.ni _ rfl), (.ni _ rfl), (.ni _ rfl), (.ni _ rfl), (.ni _ rfl), (.ni _ rfl), (.ni _ rfl), (.ni _ rfl), (.ni _ rfl), (.ni _ rfl), (.ni _ rfl), (.ni _ rfl), (.ni _ rfl), (.ni _ rfl), (.ni _ rfl), (.ni _ rfl), (.ni _ rfl), (.ni _ rfl), (.ni _ rfl), (.ni _ rfl), (.ni _ rfl), (.ni _ rfl), (.ni _ rfl), (.ni _ rfl), (.ni _ rfl),trivial⟩, boxL rfl rfl rfl ⟨(.ni _ rfl),trivial⟩,trivial⟩) ?_
     rintro ⟨k_10, a_8⟩ ⟨hk_k_10, hL1⟩
     try dsimp only at hk_k_10 hL1
     show awp _ _ _ _ _ _ ⟨eL [(2, .ptr 0 0), (3, .ptr 1 0), (4, .ptr 2 0), (8, .lst 3 (r_3.map encPlate)), (10, .int .i64 (k_10 : Int))], hL [(0, .box [.lst 25 (a_8.map encBag)]), (1, .box [.int .i64 x_1.Kind, .int .i64 x_1.Do, .str x_1.Port, .int .i64 x_1.Number, .str x_1.In.Flight.Carrier, .int .i64 x_1.In.Flight.Number, .str x_1.In.Flight.Suffix, .int .i64 x_1.In.Flight.Day, .str x_1.In.Port, .str x_1.In.Class, .str x_1.Out.Flight.Carrier, .int .i64 x_1.Out.Flight.Number, .str x_1.Out.Flight.Suffix, .int .i64 x_1.Out.Flight.Day, .str x_1.Out.Port, .str x_1.Out.Class, .lst 6 (x_1.Onward.map encLeg), .int .i64 x_1.First.Lead, .int .i64 x_1.First.Airline, .int .i64 x_1.First.Serial, .int .i64 x_1.Count, .bool x_1.Load, .int .i64 x_1.Status, .int .i64 x_1.Sequence, .int .i64 x_1.Weight, .str x_1.Surname, .str x_1.Given, .int .i64 x_1.Exception, .str x_1.Node, .lst 1 (x_1.List.map iA)]), (2, .box [.nils])], 3⟩
     conv=>whnf
     refine len_q (enc := encPlate) (l := r_3) rfl ?_
     conv=>whnf
     refine ⟨fun h=>?_,fun h=>?_⟩
     ·
      have lk10 : k_10 < r_3.length := by have h := of_decide_eq_true h; omega
      obtain ⟨e_11, he11⟩ : ∃ y, r_3[k_10]? = some y := ⟨_, List.getElem?_eq_getElem lk10⟩
      rw [drop_cons he11, ref06_Apply_L2.eq_2] at hL1
      conv=>whnf
      refine ⟨k_10, _, rfl, ix_map he11, ?_⟩
      conv=>whnf
      obtain ⟨r_12, hr12, hL1⟩ := bs hL1
      refine ⟨_,_,_,_,_,_,_,_,_,callX false [] [] 0 Tryz.func24 (by decide) rfl (ref06_Find_ac (⟨a_8⟩ : Registry) e_11 r_12 hr12) rfl ⟨aq, aq,trivial⟩ rfl trivial rfl rfl rfl lend0 trivial rfl, ?_⟩
      conv=>whnf
      refine ⟨by kernel_rfl, ?_⟩
      conv=>whnf
      refine ⟨k_10, _, rfl, ix_map he11, ?_⟩
      conv=>whnf
      obtain ⟨r_13, hr13, hL1⟩ := bs hL1
      refine ⟨_,_,_,_,_,_,_,_,_,callX false [] [] 0 Tryz.func25 (by decide) rfl (ref04_Bag_ac x_1.Kind r_13 hr13) rfl ⟨aq,trivial⟩ rfl trivial rfl rfl rfl lend0 trivial rfl, ?_⟩
      conv=>whnf
      refine ⟨fun b37=>?_,fun b37=>?_⟩
      ·
       replace hL1 := ct b37 hL1
       conv=>whnf
       refine ⟨fun b38=>?_,fun b38=>?_⟩
       ·
        replace hL1 := ct b38 hL1
        conv=>whnf
        refine ⟨k_10, _, rfl, ix_map he11, ?_⟩
        conv=>whnf
        obtain ⟨r_14, hr14, hL1⟩ := bs hL1
        refine ⟨_,_,_,_,_,_,_,_,_,callX false [] [] 0 Tryz.func26 (by decide) rfl (ref06_without_ac (⟨a_8⟩ : Registry) e_11 r_14 hr14) rfl ⟨aq, aq,trivial⟩ rfl trivial rfl rfl rfl lend0 trivial rfl, ?_⟩
        conv=>whnf
        refine ⟨by kernel_rfl, ?_⟩
        conv=>whnf
        refine ⟨((k_10 + 1 : Nat) : Int), wrapE (by omega) (by omega) (by omega), ?_⟩
        conv=>whnf
        exact ⟨(k_10 + 1, r_14.L), [0, 1, 2], [], [], ⟨lk10, hL1⟩, by show r_3.length - (k_10 + 1) < r_3.length - k_10; omega, wk_mk [0, 1, 2] [] [] rfl ⟨argP (id := 0) (by (conv=>lhs;whnf)<;>rfl) rfl, argP (id := 1) (by (conv=>lhs;whnf)<;>rfl) rfl, argP (id := 2) (by (conv=>lhs;whnf)<;>rfl) rfl, aq, aq,trivial⟩ ⟨boxL rfl rfl rfl ⟨(.ni _ rfl),trivial⟩, boxL rfl rfl rfl ⟨(.ni _ rfl), (.ni _ rfl), (.ni _ rfl), (.ni _ rfl), (.ni _ rfl), (.ni _ rfl), (.ni _ rfl), (.ni _ rfl), (.ni _ rfl), (.ni _ rfl), (.ni _ rfl), (.ni _ rfl), (.ni _ rfl), (.ni _ rfl), (.ni _ rfl), (.ni _ rfl), (.ni _ rfl), (.ni _ rfl), (.ni _ rfl), (.ni _ rfl), (.ni _ rfl), (.ni _ rfl), (.ni _ rfl), (.ni _ rfl), (.ni _ rfl), (.ni _ rfl), (.ni _ rfl), (.ni _ rfl), (.ni _ rfl), (.ni _ rfl),trivial⟩, boxL rfl rfl rfl ⟨(.ni _ rfl),trivial⟩,trivial⟩⟩
       ·
        replace hL1 := cf b38 hL1
        conv=>whnf
        obtain ⟨r_15, hr15, hL1⟩ := bs hL1
        refine ⟨_,_,_,_,_,_,_,_,_,callX false [] [] 0 Tryz.func25 (by decide) rfl (ref04_Bag_ac x_1.Kind r_15 hr15) rfl ⟨aq,trivial⟩ rfl trivial rfl rfl rfl lend0 trivial rfl, ?_⟩
        conv=>whnf
        refine ⟨fun b39=>?_,fun b39=>?_⟩
        ·
         replace hL1 := ct b39 hL1
         conv=>whnf
         obtain ⟨r_16, hr16, hL1⟩ := bs hL1
         refine ⟨_,_,_,_,_,_,_,_,_,callX false [] [] 0 Tryz.func27 (by decide) rfl (ref06_data_ac (⟨e_11, r_12.1.In, r_12.1.Out, r_12.1.Onward, r_12.1.Sequence, r_12.1.Status, r_12.1.Weight, r_12.1.Load, r_12.1.Surname, r_12.1.Given, r_12.1.Exception, r_12.1.Node, r_12.1.Unloaded⟩ : Bag) x_1 r_16 hr16) rfl ⟨aq, aq,trivial⟩ rfl trivial rfl rfl rfl lend0 trivial rfl, ?_⟩
         conv=>whnf
         obtain ⟨r_17, hr17, hL1⟩ := bs hL1
         refine ⟨_,_,_,_,_,_,_,_,_,callX false [] [] 0 Tryz.func28 (by decide) rfl (ref06_with_ac (⟨a_8⟩ : Registry) r_16 r_17 hr17) rfl ⟨aq, aq,trivial⟩ rfl trivial rfl rfl rfl lend0 trivial rfl, ?_⟩
         conv=>whnf
         refine ⟨((k_10 + 1 : Nat) : Int), wrapE (by omega) (by omega) (by omega), ?_⟩
         conv=>whnf
         exact ⟨(k_10 + 1, r_17.L), [0, 1, 2], [], [], ⟨lk10, hL1⟩, by show r_3.length - (k_10 + 1) < r_3.length - k_10; omega, wk_mk [0, 1, 2] [] [] rfl ⟨argP (id := 0) (by (conv=>lhs;whnf)<;>rfl) rfl, argP (id := 1) (by (conv=>lhs;whnf)<;>rfl) rfl, argP (id := 2) (by (conv=>lhs;whnf)<;>rfl) rfl, aq, aq,trivial⟩ ⟨boxL rfl rfl rfl ⟨(.ni _ rfl),trivial⟩, boxL rfl rfl rfl ⟨(.ni _ rfl), (.ni _ rfl), (.ni _ rfl), (.ni _ rfl), (.ni _ rfl), (.ni _ rfl), (.ni _ rfl), (.ni _ rfl), (.ni _ rfl), (.ni _ rfl), (.ni _ rfl), (.ni _ rfl), (.ni _ rfl), (.ni _ rfl), (.ni _ rfl), (.ni _ rfl), (.ni _ rfl), (.ni _ rfl), (.ni _ rfl), (.ni _ rfl), (.ni _ rfl), (.ni _ rfl), (.ni _ rfl), (.ni _ rfl), (.ni _ rfl), (.ni _ rfl), (.ni _ rfl), (.ni _ rfl), (.ni _ rfl), (.ni _ rfl),trivial⟩, boxL rfl rfl rfl ⟨(.ni _ rfl),trivial⟩,trivial⟩⟩
        ·
         replace hL1 := cf b39 hL1
         conv=>whnf
         refine ⟨fun b40=>?_,fun b40=>?_⟩
         ·
          replace hL1 := ct b40 hL1
          conv=>whnf
          obtain ⟨r_18, hr18, hL1⟩ := bs hL1
          refine ⟨_,_,_,_,_,_,_,_,_,callX false [] [] 0 Tryz.func28 (by decide) rfl (ref06_with_ac (⟨a_8⟩ : Registry) (⟨e_11, r_12.1.In, r_12.1.Out, r_12.1.Onward, r_12.1.Sequence, r_12.1.Status, r_12.1.Weight, r_12.1.Load, r_12.1.Surname, r_12.1.Given, r_12.1.Exception, x_1.Node, r_12.1.Unloaded⟩ : Bag) r_18 hr18) rfl ⟨aq, aq,trivial⟩ rfl trivial rfl rfl rfl lend0 trivial rfl, ?_⟩
          conv=>whnf
          refine ⟨((k_10 + 1 : Nat) : Int), wrapE (by omega) (by omega) (by omega), ?_⟩
          conv=>whnf
          exact ⟨(k_10 + 1, r_18.L), [0, 1, 2], [], [], ⟨lk10, hL1⟩, by show r_3.length - (k_10 + 1) < r_3.length - k_10; omega, wk_mk [0, 1, 2] [] [] rfl ⟨argP (id := 0) (by (conv=>lhs;whnf)<;>rfl) rfl, argP (id := 1) (by (conv=>lhs;whnf)<;>rfl) rfl, argP (id := 2) (by (conv=>lhs;whnf)<;>rfl) rfl, aq, aq,trivial⟩ ⟨boxL rfl rfl rfl ⟨(.ni _ rfl),trivial⟩, boxL rfl rfl rfl ⟨(.ni _ rfl), (.ni _ rfl), (.ni _ rfl), (.ni _ rfl), (.ni _ rfl), (.ni _ rfl), (.ni _ rfl), (.ni _ rfl), (.ni _ rfl), (.ni _ rfl), (.ni _ rfl), (.ni _ rfl), (.ni _ rfl), (.ni _ rfl), (.ni _ rfl), (.ni _ rfl), (.ni _ rfl), (.ni _ rfl), (.ni _ rfl), (.ni _ rfl), (.ni _ rfl), (.ni _ rfl), (.ni _ rfl), (.ni _ rfl), (.ni _ rfl), (.ni _ rfl), (.ni _ rfl), (.ni _ rfl), (.ni _ rfl), (.ni _ rfl),trivial⟩, boxL rfl rfl rfl ⟨(.ni _ rfl),trivial⟩,trivial⟩⟩
         ·
          replace hL1 := cf b40 hL1
          conv=>whnf
          obtain ⟨r_19, hr19, hL1⟩ := bs hL1
          refine ⟨_,_,_,_,_,_,_,_,_,callX false [] [] 0 Tryz.func28 (by decide) rfl (ref06_with_ac (⟨a_8⟩ : Registry) (⟨e_11, r_12.1.In, r_12.1.Out, r_12.1.Onward, r_12.1.Sequence, r_12.1.Status, r_12.1.Weight, false, r_12.1.Surname, r_12.1.Given, r_12.1.Exception, r_12.1.Node, true⟩ : Bag) r_19 hr19) rfl ⟨aq, (argA (c := [.int .i64 e_11.Lead, .int .i64 e_11.Airline, .int .i64 e_11.Serial, .str r_12.1.In.Flight.Carrier, .int .i64 r_12.1.In.Flight.Number, .str r_12.1.In.Flight.Suffix, .int .i64 r_12.1.In.Flight.Day, .str r_12.1.In.Port, .str r_12.1.In.Class, .str r_12.1.Out.Flight.Carrier, .int .i64 r_12.1.Out.Flight.Number, .str r_12.1.Out.Flight.Suffix, .int .i64 r_12.1.Out.Flight.Day, .str r_12.1.Out.Port, .str r_12.1.Out.Class, .lst 6 (r_12.1.Onward.map encLeg), .int .i64 r_12.1.Sequence, .int .i64 r_12.1.Status, .int .i64 r_12.1.Weight, .fls, .str r_12.1.Surname, .str r_12.1.Given, .int .i64 r_12.1.Exception, .str r_12.1.Node, .tru]) (by (conv=>lhs;whnf)<;>rfl) rfl ⟨(.ni _ rfl), (.ni _ rfl), (.ni _ rfl), (.ni _ rfl), (.ni _ rfl), (.ni _ rfl), (.ni _ rfl), (.ni _ rfl), (.ni _ rfl), (.ni _ rfl), (.ni _ rfl), (.ni _ rfl), (.ni _ rfl), (.ni _ rfl), (.ni _ rfl), (.ni _ rfl), (.ni _ rfl), (.ni _ rfl), (.ni _ rfl), .fls, (.ni _ rfl), (.ni _ rfl), (.ni _ rfl), (.ni _ rfl), .tru,trivial⟩),trivial⟩ rfl trivial rfl rfl rfl lend0 trivial rfl, ?_⟩
          conv=>whnf
          refine ⟨((k_10 + 1 : Nat) : Int), wrapE (by omega) (by omega) (by omega), ?_⟩
          conv=>whnf
          exact ⟨(k_10 + 1, r_19.L), [0, 1, 2], [], [], ⟨lk10, hL1⟩, by show r_3.length - (k_10 + 1) < r_3.length - k_10; omega, wk_mk [0, 1, 2] [] [] rfl ⟨argP (id := 0) (by (conv=>lhs;whnf)<;>rfl) rfl, argP (id := 1) (by (conv=>lhs;whnf)<;>rfl) rfl, argP (id := 2) (by (conv=>lhs;whnf)<;>rfl) rfl, aq, aq,trivial⟩ ⟨boxL rfl rfl rfl ⟨(.ni _ rfl),trivial⟩, boxL rfl rfl rfl ⟨(.ni _ rfl), (.ni _ rfl), (.ni _ rfl), (.ni _ rfl), (.ni _ rfl), (.ni _ rfl), (.ni _ rfl), (.ni _ rfl), (.ni _ rfl), (.ni _ rfl), (.ni _ rfl), (.ni _ rfl), (.ni _ rfl), (.ni _ rfl), (.ni _ rfl), (.ni _ rfl), (.ni _ rfl), (.ni _ rfl), (.ni _ rfl), (.ni _ rfl), (.ni _ rfl), (.ni _ rfl), (.ni _ rfl), (.ni _ rfl), (.ni _ rfl), (.ni _ rfl), (.ni _ rfl), (.ni _ rfl), (.ni _ rfl), (.ni _ rfl),trivial⟩, boxL rfl rfl rfl ⟨(.ni _ rfl),trivial⟩,trivial⟩⟩
      ·
       replace hL1 := cf b37 hL1
       conv=>whnf
       obtain ⟨r_20, hr20, hL1⟩ := bs hL1
       refine ⟨_,_,_,_,_,_,_,_,_,callX false [] [] 0 Tryz.func25 (by decide) rfl (ref04_Bag_ac x_1.Kind r_20 hr20) rfl ⟨aq,trivial⟩ rfl trivial rfl rfl rfl lend0 trivial rfl, ?_⟩
       conv=>whnf
       refine ⟨fun b41=>?_,fun b41=>?_⟩
       ·
        replace hL1 := ct b41 hL1
        conv=>whnf
        obtain ⟨r_21, hr21, hL1⟩ := bs hL1
        refine ⟨_,_,_,_,_,_,_,_,_,callX false [] [] 0 Tryz.func27 (by decide) rfl (ref06_data_ac (⟨e_11, r_12.1.In, r_12.1.Out, r_12.1.Onward, r_12.1.Sequence, r_12.1.Status, r_12.1.Weight, r_12.1.Load, r_12.1.Surname, r_12.1.Given, r_12.1.Exception, r_12.1.Node, r_12.1.Unloaded⟩ : Bag) x_1 r_21 hr21) rfl ⟨aq, aq,trivial⟩ rfl trivial rfl rfl rfl lend0 trivial rfl, ?_⟩
        conv=>whnf
        obtain ⟨r_22, hr22, hL1⟩ := bs hL1
        refine ⟨_,_,_,_,_,_,_,_,_,callX false [] [] 0 Tryz.func28 (by decide) rfl (ref06_with_ac (⟨a_8⟩ : Registry) r_21 r_22 hr22) rfl ⟨aq, aq,trivial⟩ rfl trivial rfl rfl rfl lend0 trivial rfl, ?_⟩
        conv=>whnf
        refine ⟨((k_10 + 1 : Nat) : Int), wrapE (by omega) (by omega) (by omega), ?_⟩
        conv=>whnf
        exact ⟨(k_10 + 1, r_22.L), [0, 1, 2], [], [], ⟨lk10, hL1⟩, by show r_3.length - (k_10 + 1) < r_3.length - k_10; omega, wk_mk [0, 1, 2] [] [] rfl ⟨argP (id := 0) (by (conv=>lhs;whnf)<;>rfl) rfl, argP (id := 1) (by (conv=>lhs;whnf)<;>rfl) rfl, argP (id := 2) (by (conv=>lhs;whnf)<;>rfl) rfl, aq, aq,trivial⟩ ⟨boxL rfl rfl rfl ⟨(.ni _ rfl),trivial⟩, boxL rfl rfl rfl ⟨(.ni _ rfl), (.ni _ rfl), (.ni _ rfl), (.ni _ rfl), (.ni _ rfl), (.ni _ rfl), (.ni _ rfl), (.ni _ rfl), (.ni _ rfl), (.ni _ rfl), (.ni _ rfl), (.ni _ rfl), (.ni _ rfl), (.ni _ rfl), (.ni _ rfl), (.ni _ rfl), (.ni _ rfl), (.ni _ rfl), (.ni _ rfl), (.ni _ rfl), (.ni _ rfl), (.ni _ rfl), (.ni _ rfl), (.ni _ rfl), (.ni _ rfl), (.ni _ rfl), (.ni _ rfl), (.ni _ rfl), (.ni _ rfl), (.ni _ rfl),trivial⟩, boxL rfl rfl rfl ⟨(.ni _ rfl),trivial⟩,trivial⟩⟩
       ·
        replace hL1 := cf b41 hL1
        conv=>whnf
        refine ⟨fun b42=>?_,fun b42=>?_⟩
        ·
         replace hL1 := ct b42 hL1
         conv=>whnf
         obtain ⟨r_23, hr23, hL1⟩ := bs hL1
         refine ⟨_,_,_,_,_,_,_,_,_,callX false [] [] 0 Tryz.func28 (by decide) rfl (ref06_with_ac (⟨a_8⟩ : Registry) (⟨e_11, r_12.1.In, r_12.1.Out, r_12.1.Onward, r_12.1.Sequence, r_12.1.Status, r_12.1.Weight, r_12.1.Load, r_12.1.Surname, r_12.1.Given, r_12.1.Exception, x_1.Node, r_12.1.Unloaded⟩ : Bag) r_23 hr23) rfl ⟨aq, aq,trivial⟩ rfl trivial rfl rfl rfl lend0 trivial rfl, ?_⟩
         conv=>whnf
         refine ⟨((k_10 + 1 : Nat) : Int), wrapE (by omega) (by omega) (by omega), ?_⟩
         conv=>whnf
         exact ⟨(k_10 + 1, r_23.L), [0, 1, 2], [], [], ⟨lk10, hL1⟩, by show r_3.length - (k_10 + 1) < r_3.length - k_10; omega, wk_mk [0, 1, 2] [] [] rfl ⟨argP (id := 0) (by (conv=>lhs;whnf)<;>rfl) rfl, argP (id := 1) (by (conv=>lhs;whnf)<;>rfl) rfl, argP (id := 2) (by (conv=>lhs;whnf)<;>rfl) rfl, aq, aq,trivial⟩ ⟨boxL rfl rfl rfl ⟨(.ni _ rfl),trivial⟩, boxL rfl rfl rfl ⟨(.ni _ rfl), (.ni _ rfl), (.ni _ rfl), (.ni _ rfl), (.ni _ rfl), (.ni _ rfl), (.ni _ rfl), (.ni _ rfl), (.ni _ rfl), (.ni _ rfl), (.ni _ rfl), (.ni _ rfl), (.ni _ rfl), (.ni _ rfl), (.ni _ rfl), (.ni _ rfl), (.ni _ rfl), (.ni _ rfl), (.ni _ rfl), (.ni _ rfl), (.ni _ rfl), (.ni _ rfl), (.ni _ rfl), (.ni _ rfl), (.ni _ rfl), (.ni _ rfl), (.ni _ rfl), (.ni _ rfl), (.ni _ rfl), (.ni _ rfl),trivial⟩, boxL rfl rfl rfl ⟨(.ni _ rfl),trivial⟩,trivial⟩⟩
        ·
         replace hL1 := cf b42 hL1
         conv=>whnf
         obtain ⟨r_24, hr24, hL1⟩ := bs hL1
         refine ⟨_,_,_,_,_,_,_,_,_,callX false [] [] 0 Tryz.func28 (by decide) rfl (ref06_with_ac (⟨a_8⟩ : Registry) (⟨e_11, r_12.1.In, r_12.1.Out, r_12.1.Onward, r_12.1.Sequence, r_12.1.Status, r_12.1.Weight, false, r_12.1.Surname, r_12.1.Given, r_12.1.Exception, r_12.1.Node, true⟩ : Bag) r_24 hr24) rfl ⟨aq, (argA (c := [.int .i64 e_11.Lead, .int .i64 e_11.Airline, .int .i64 e_11.Serial, .str r_12.1.In.Flight.Carrier, .int .i64 r_12.1.In.Flight.Number, .str r_12.1.In.Flight.Suffix, .int .i64 r_12.1.In.Flight.Day, .str r_12.1.In.Port, .str r_12.1.In.Class, .str r_12.1.Out.Flight.Carrier, .int .i64 r_12.1.Out.Flight.Number, .str r_12.1.Out.Flight.Suffix, .int .i64 r_12.1.Out.Flight.Day, .str r_12.1.Out.Port, .str r_12.1.Out.Class, .lst 6 (r_12.1.Onward.map encLeg), .int .i64 r_12.1.Sequence, .int .i64 r_12.1.Status, .int .i64 r_12.1.Weight, .fls, .str r_12.1.Surname, .str r_12.1.Given, .int .i64 r_12.1.Exception, .str r_12.1.Node, .tru]) (by (conv=>lhs;whnf)<;>rfl) rfl ⟨(.ni _ rfl), (.ni _ rfl), (.ni _ rfl), (.ni _ rfl), (.ni _ rfl), (.ni _ rfl), (.ni _ rfl), (.ni _ rfl), (.ni _ rfl), (.ni _ rfl), (.ni _ rfl), (.ni _ rfl), (.ni _ rfl), (.ni _ rfl), (.ni _ rfl), (.ni _ rfl), (.ni _ rfl), (.ni _ rfl), (.ni _ rfl), .fls, (.ni _ rfl), (.ni _ rfl), (.ni _ rfl), (.ni _ rfl), .tru,trivial⟩),trivial⟩ rfl trivial rfl rfl rfl lend0 trivial rfl, ?_⟩
         conv=>whnf
         refine ⟨((k_10 + 1 : Nat) : Int), wrapE (by omega) (by omega) (by omega), ?_⟩
         conv=>whnf
         exact ⟨(k_10 + 1, r_24.L), [0, 1, 2], [], [], ⟨lk10, hL1⟩, by show r_3.length - (k_10 + 1) < r_3.length - k_10; omega, wk_mk [0, 1, 2] [] [] rfl ⟨argP (id := 0) (by (conv=>lhs;whnf)<;>rfl) rfl, argP (id := 1) (by (conv=>lhs;whnf)<;>rfl) rfl, argP (id := 2) (by (conv=>lhs;whnf)<;>rfl) rfl, aq, aq,trivial⟩ ⟨boxL rfl rfl rfl ⟨(.ni _ rfl),trivial⟩, boxL rfl rfl rfl ⟨(.ni _ rfl), (.ni _ rfl), (.ni _ rfl), (.ni _ rfl), (.ni _ rfl), (.ni _ rfl), (.ni _ rfl), (.ni _ rfl), (.ni _ rfl), (.ni _ rfl), (.ni _ rfl), (.ni _ rfl), (.ni _ rfl), (.ni _ rfl), (.ni _ rfl), (.ni _ rfl), (.ni _ rfl), (.ni _ rfl), (.ni _ rfl), (.ni _ rfl), (.ni _ rfl), (.ni _ rfl), (.ni _ rfl), (.ni _ rfl), (.ni _ rfl), (.ni _ rfl), (.ni _ rfl), (.ni _ rfl), (.ni _ rfl), (.ni _ rfl),trivial⟩, boxL rfl rfl rfl ⟨(.ni _ rfl),trivial⟩,trivial⟩⟩
     ·
      rw [drop_nil (show r_3.length ≤ k_10 by have h := of_decide_eq_false h; omega), ref06_Apply_L2.eq_1] at hL1
      conv=>whnf
      obtain rfl := si hL1
      replace hF := fin_brk hF
      try dsimp only at hF
      obtain rfl := si hF
      exact ret_gz [] [] [] rfl (tupL rfl ⟨aq, aq,trivial⟩) trivial

theorem inbox_New_ac (x_0 : Int) (r : Inbox × Int) (hF : inbox_New x_0 = some r) : AC Tryz.prog 7 [.int .i64 x_0] [] (.tup [.agg (encInbox r.1), .int .i64 r.2]) [] := by
 refine ac_of tab_ok follows_ok Tryz.func7 rfl Tryz.ntmps7 rfl ?_
 unfold inbox_New at hF
 conv=>whnf
 refine ⟨fun b3=>?_,fun b3=>?_⟩
 ·
  replace hF := cf b3 hF
  conv=>whnf
  refine ⟨fun b4=>?_,fun b4=>?_⟩
  ·
   replace hF := ct b4 hF
   conv=>whnf
   obtain rfl := si hF
   exact ret_gz [] [] [] rfl (tupL rfl ⟨(argA (c := [.int .i64 (0 : Int), .nils]) (by (conv=>lhs;whnf)<;>rfl) rfl ⟨(.ni _ rfl), (.nils _),trivial⟩), aq,trivial⟩) trivial
  ·
   replace hF := cf b4 hF
   conv=>whnf
   obtain rfl := si hF
   exact ret_gz [] [] [] rfl (tupL rfl ⟨(argA (c := [.int .i64 x_0, .nils]) (by (conv=>lhs;whnf)<;>rfl) rfl ⟨(.ni _ rfl), (.nils _),trivial⟩), aq,trivial⟩) trivial
 ·
  replace hF := ct b3 hF
  conv=>whnf
  obtain rfl := si hF
  exact ret_gz [] [] [] rfl (tupL rfl ⟨(argA (c := [.int .i64 (0 : Int), .nils]) (by (conv=>lhs;whnf)<;>rfl) rfl ⟨(.ni _ rfl), (.nils _),trivial⟩), aq,trivial⟩) trivial

theorem keep_Src_More_ac (x_0 : Src) (r : Bool) (hF : keep_Src_More x_0 = some r) : AC Tryz.prog 9 [.iptr [.lst 1 (x_0.L.map iA), .int .i64 x_0.At]] [] (.bool r) [] := by
 refine ac_of tab_ok follows_ok Tryz.func9 rfl Tryz.ntmps9 rfl ?_
 unfold keep_Src_More at hF
 conv=>whnf
 refine len_q (enc := iA) (l := x_0.L) rfl ?_
 conv=>whnf
 refine ⟨by kernel_rfl, ?_⟩
 conv=>whnf
 obtain rfl := si hF
 exact ret_gz [] [] [] rfl aq trivial

theorem message_in_ac (x_0 : Int) (x_1 : Int) (x_2 : Int) (r : Bool) (hF : message_in x_0 x_1 x_2 = some r) : AC Tryz.prog 62 [.int .i64 x_0, .int .i64 x_1, .int .i64 x_2] [] (.bool r) [] := by
 refine ac_of tab_ok follows_ok Tryz.func62 rfl Tryz.ntmps62 rfl ?_
 unfold message_in at hF
 conv=>whnf
 refine ⟨fun b2=>?_,fun b2=>?_⟩
 ·
  replace hF := ct b2 hF
  conv=>whnf
  obtain rfl := si hF
  exact ret_gz [] [] [] rfl aq trivial
 ·
  replace hF := cf b2 hF
  conv=>whnf
  obtain rfl := si hF
  exact ret_gz [] [] [] rfl (argFl (by (conv=>lhs;whnf)<;>rfl)) trivial

theorem message_own_ac (x_0 : Message) (r : Message) (hF : message_own x_0 = some r) : AC Tryz.prog 63 [.agg (encMessage x_0)] [] (.agg (encMessage r)) [] := by
 refine ac_of tab_ok follows_ok Tryz.func63 rfl Tryz.ntmps63 rfl ?_
 unfold message_own at hF
 conv=>whnf
 refine ⟨fun b6=>?_,fun b6=>?_⟩
 ·
  replace hF := ct b6 hF
  conv=>whnf
  refine ⟨fun h=>?_,fun h=>?_⟩
  ·
   conv=>whnf
   refine ⟨fun h=>?_,fun h=>?_⟩
   ·
    conv=>whnf
    obtain rfl := si hF
    exact ret_gz [] [] [] rfl (argA (c := [.int .i64 x_0.Kind, .int .i64 x_0.Do, .str x_0.Port, .int .i64 x_0.Number, .str (⟨#[]⟩ : ByteArray), .int .i64 (0 : Int), .str (⟨#[]⟩ : ByteArray), .int .i64 (0 : Int), .str (⟨#[]⟩ : ByteArray), .str (⟨#[]⟩ : ByteArray), .str x_0.Out.Flight.Carrier, .int .i64 x_0.Out.Flight.Number, .str x_0.Out.Flight.Suffix, .int .i64 x_0.Out.Flight.Day, .str x_0.Out.Port, .str x_0.Out.Class, .lst 6 (x_0.Onward.map encLeg), .int .i64 x_0.First.Lead, .int .i64 x_0.First.Airline, .int .i64 x_0.First.Serial, .int .i64 x_0.Count, .bool x_0.Load, .int .i64 x_0.Status, .int .i64 x_0.Sequence, .int .i64 x_0.Weight, .str x_0.Surname, .str x_0.Given, .int .i64 x_0.Exception, .str (⟨#[]⟩ : ByteArray), .nils]) (by (conv=>lhs;whnf)<;>rfl) rfl ⟨(.ni _ rfl), (.ni _ rfl), (.ni _ rfl), (.ni _ rfl), (.ni _ rfl), (.ni _ rfl), (.ni _ rfl), (.ni _ rfl), (.ni _ rfl), (.ni _ rfl), (.ni _ rfl), (.ni _ rfl), (.ni _ rfl), (.ni _ rfl), (.ni _ rfl), (.ni _ rfl), (.ni _ rfl), (.ni _ rfl), (.ni _ rfl), (.ni _ rfl), (.ni _ rfl), (.ni _ rfl), (.ni _ rfl), (.ni _ rfl), (.ni _ rfl), (.ni _ rfl), (.ni _ rfl), (.ni _ rfl), (.ni _ rfl), (.nils _),trivial⟩) trivial
   ·
    cases (b6).symm.trans h
  ·
   cases (b6).symm.trans h
 ·
  replace hF := cf b6 hF
  conv=>whnf
  refine ⟨fun b7=>?_,fun b7=>?_⟩
  ·
   replace hF := ct b7 hF
   conv=>whnf
   refine ⟨fun h=>?_,fun h=>?_⟩
   ·
    cases (b6).symm.trans h
   ·
    conv=>whnf
    obtain rfl := si hF
    exact ret_gz [] [] [] rfl (argA (c := [.int .i64 x_0.Kind, .int .i64 x_0.Do, .str x_0.Port, .int .i64 x_0.Number, .str x_0.In.Flight.Carrier, .int .i64 x_0.In.Flight.Number, .str x_0.In.Flight.Suffix, .int .i64 x_0.In.Flight.Day, .str x_0.In.Port, .str x_0.In.Class, .str x_0.Out.Flight.Carrier, .int .i64 x_0.Out.Flight.Number, .str x_0.Out.Flight.Suffix, .int .i64 x_0.Out.Flight.Day, .str x_0.Out.Port, .str x_0.Out.Class, .lst 6 (x_0.Onward.map encLeg), .int .i64 x_0.First.Lead, .int .i64 x_0.First.Airline, .int .i64 x_0.First.Serial, .int .i64 x_0.Count, .bool x_0.Load, .int .i64 x_0.Status, .int .i64 x_0.Sequence, .int .i64 x_0.Weight, .str x_0.Surname, .str x_0.Given, .int .i64 x_0.Exception, .str (⟨#[]⟩ : ByteArray), .nils]) (by (conv=>lhs;whnf)<;>rfl) rfl ⟨(.ni _ rfl), (.ni _ rfl), (.ni _ rfl), (.ni _ rfl), (.ni _ rfl), (.ni _ rfl), (.ni _ rfl), (.ni _ rfl), (.ni _ rfl), (.ni _ rfl), (.ni _ rfl), (.ni _ rfl), (.ni _ rfl), (.ni _ rfl), (.ni _ rfl), (.ni _ rfl), (.ni _ rfl), (.ni _ rfl), (.ni _ rfl), (.ni _ rfl), (.ni _ rfl), (.ni _ rfl), (.ni _ rfl), (.ni _ rfl), (.ni _ rfl), (.ni _ rfl), (.ni _ rfl), (.ni _ rfl), (.ni _ rfl), (.nils _),trivial⟩) trivial
  ·
   replace hF := cf b7 hF
   conv=>whnf
   refine ⟨fun b8=>?_,fun b8=>?_⟩
   ·
    replace hF := ct b8 hF
    conv=>whnf
    refine ⟨by kernel_rfl, ?_⟩
    conv=>whnf
    obtain rfl := si hF
    exact ret_gz [] [] [] rfl (argA (c := [.int .i64 x_0.Kind, .int .i64 (0 : Int), .str x_0.Port, .int .i64 x_0.Number, .str (⟨#[]⟩ : ByteArray), .int .i64 (0 : Int), .str (⟨#[]⟩ : ByteArray), .int .i64 (0 : Int), .str (⟨#[]⟩ : ByteArray), .str (⟨#[]⟩ : ByteArray), .str (⟨#[]⟩ : ByteArray), .int .i64 (0 : Int), .str (⟨#[]⟩ : ByteArray), .int .i64 (0 : Int), .str (⟨#[]⟩ : ByteArray), .str (⟨#[]⟩ : ByteArray), .nils, .int .i64 x_0.First.Lead, .int .i64 x_0.First.Airline, .int .i64 x_0.First.Serial, .int .i64 x_0.Count, .fls, .int .i64 (0 : Int), .int .i64 (0 : Int), .int .i64 (0 : Int), .str (⟨#[]⟩ : ByteArray), .str (⟨#[]⟩ : ByteArray), .int .i64 (0 : Int), .str x_0.Node, .nils]) (by (conv=>lhs;whnf)<;>rfl) rfl ⟨(.ni _ rfl), (.ni _ rfl), (.ni _ rfl), (.ni _ rfl), (.ni _ rfl), (.ni _ rfl), (.ni _ rfl), (.ni _ rfl), (.ni _ rfl), (.ni _ rfl), (.ni _ rfl), (.ni _ rfl), (.ni _ rfl), (.ni _ rfl), (.ni _ rfl), (.ni _ rfl), (.nils _), (.ni _ rfl), (.ni _ rfl), (.ni _ rfl), (.ni _ rfl), .fls, (.ni _ rfl), (.ni _ rfl), (.ni _ rfl), (.ni _ rfl), (.ni _ rfl), (.ni _ rfl), (.ni _ rfl), (.nils _),trivial⟩) trivial
   ·
    replace hF := cf b8 hF
    conv=>whnf
    refine ⟨fun b9=>?_,fun b9=>?_⟩
    ·
     replace hF := ct b9 hF
     conv=>whnf
     refine ⟨by kernel_rfl, ?_⟩
     conv=>whnf
     obtain rfl := si hF
     exact ret_gz [] [] [] rfl (argA (c := [.int .i64 x_0.Kind, .int .i64 (0 : Int), .str x_0.Port, .int .i64 x_0.Number, .str (⟨#[]⟩ : ByteArray), .int .i64 (0 : Int), .str (⟨#[]⟩ : ByteArray), .int .i64 (0 : Int), .str (⟨#[]⟩ : ByteArray), .str (⟨#[]⟩ : ByteArray), .str x_0.Out.Flight.Carrier, .int .i64 x_0.Out.Flight.Number, .str x_0.Out.Flight.Suffix, .int .i64 x_0.Out.Flight.Day, .str x_0.Out.Port, .str x_0.Out.Class, .nils, .int .i64 x_0.First.Lead, .int .i64 x_0.First.Airline, .int .i64 x_0.First.Serial, .int .i64 x_0.Count, .fls, .int .i64 (0 : Int), .int .i64 (0 : Int), .int .i64 (0 : Int), .str (⟨#[]⟩ : ByteArray), .str (⟨#[]⟩ : ByteArray), .int .i64 (0 : Int), .str (⟨#[]⟩ : ByteArray), .nils]) (by (conv=>lhs;whnf)<;>rfl) rfl ⟨(.ni _ rfl), (.ni _ rfl), (.ni _ rfl), (.ni _ rfl), (.ni _ rfl), (.ni _ rfl), (.ni _ rfl), (.ni _ rfl), (.ni _ rfl), (.ni _ rfl), (.ni _ rfl), (.ni _ rfl), (.ni _ rfl), (.ni _ rfl), (.ni _ rfl), (.ni _ rfl), (.nils _), (.ni _ rfl), (.ni _ rfl), (.ni _ rfl), (.ni _ rfl), .fls, (.ni _ rfl), (.ni _ rfl), (.ni _ rfl), (.ni _ rfl), (.ni _ rfl), (.ni _ rfl), (.ni _ rfl), (.nils _),trivial⟩) trivial
    ·
     replace hF := cf b9 hF
     conv=>whnf
     refine ⟨fun b10=>?_,fun b10=>?_⟩
     ·
      replace hF := ct b10 hF
      conv=>whnf
      refine ⟨by kernel_rfl, ?_⟩
      conv=>whnf
      obtain rfl := si hF
      exact ret_gz [] [] [] rfl (argA (c := [.int .i64 x_0.Kind, .int .i64 (0 : Int), .str x_0.Port, .int .i64 x_0.Number, .str (⟨#[]⟩ : ByteArray), .int .i64 (0 : Int), .str (⟨#[]⟩ : ByteArray), .int .i64 (0 : Int), .str (⟨#[]⟩ : ByteArray), .str (⟨#[]⟩ : ByteArray), .str x_0.Out.Flight.Carrier, .int .i64 x_0.Out.Flight.Number, .str x_0.Out.Flight.Suffix, .int .i64 x_0.Out.Flight.Day, .str x_0.Out.Port, .str x_0.Out.Class, .nils, .int .i64 (0 : Int), .int .i64 (0 : Int), .int .i64 (0 : Int), .int .i64 (0 : Int), .fls, .int .i64 (0 : Int), .int .i64 (0 : Int), .int .i64 (0 : Int), .str (⟨#[]⟩ : ByteArray), .str (⟨#[]⟩ : ByteArray), .int .i64 (0 : Int), .str (⟨#[]⟩ : ByteArray), .lst 1 (x_0.List.map iA)]) (by (conv=>lhs;whnf)<;>rfl) rfl ⟨(.ni _ rfl), (.ni _ rfl), (.ni _ rfl), (.ni _ rfl), (.ni _ rfl), (.ni _ rfl), (.ni _ rfl), (.ni _ rfl), (.ni _ rfl), (.ni _ rfl), (.ni _ rfl), (.ni _ rfl), (.ni _ rfl), (.ni _ rfl), (.ni _ rfl), (.ni _ rfl), (.nils _), (.ni _ rfl), (.ni _ rfl), (.ni _ rfl), (.ni _ rfl), .fls, (.ni _ rfl), (.ni _ rfl), (.ni _ rfl), (.ni _ rfl), (.ni _ rfl), (.ni _ rfl), (.ni _ rfl), (.ni _ rfl),trivial⟩) trivial
     ·
      replace hF := cf b10 hF
      conv=>whnf
      obtain rfl := si hF
      exact ret_gz [] [] [] rfl (argA (c := [.int .i64 x_0.Kind, .int .i64 (0 : Int), .str x_0.Port, .int .i64 x_0.Number, .str (⟨#[]⟩ : ByteArray), .int .i64 (0 : Int), .str (⟨#[]⟩ : ByteArray), .int .i64 (0 : Int), .str (⟨#[]⟩ : ByteArray), .str (⟨#[]⟩ : ByteArray), .str (⟨#[]⟩ : ByteArray), .int .i64 (0 : Int), .str (⟨#[]⟩ : ByteArray), .int .i64 (0 : Int), .str (⟨#[]⟩ : ByteArray), .str (⟨#[]⟩ : ByteArray), .nils, .int .i64 (0 : Int), .int .i64 (0 : Int), .int .i64 (0 : Int), .int .i64 (0 : Int), .fls, .int .i64 (0 : Int), .int .i64 (0 : Int), .int .i64 (0 : Int), .str (⟨#[]⟩ : ByteArray), .str (⟨#[]⟩ : ByteArray), .int .i64 (0 : Int), .str (⟨#[]⟩ : ByteArray), .nils]) (by (conv=>lhs;whnf)<;>rfl) rfl ⟨(.ni _ rfl), (.ni _ rfl), (.ni _ rfl), (.ni _ rfl), (.ni _ rfl), (.ni _ rfl), (.ni _ rfl), (.ni _ rfl), (.ni _ rfl), (.ni _ rfl), (.ni _ rfl), (.ni _ rfl), (.ni _ rfl), (.ni _ rfl), (.ni _ rfl), (.ni _ rfl), (.nils _), (.ni _ rfl), (.ni _ rfl), (.ni _ rfl), (.ni _ rfl), .fls, (.ni _ rfl), (.ni _ rfl), (.ni _ rfl), (.ni _ rfl), (.ni _ rfl), (.ni _ rfl), (.ni _ rfl), (.nils _),trivial⟩) trivial

theorem slices_Equal_Leg_ac (x_0 : (List Leg)) (x_1 : (List Leg)) (r : Bool) (hF : slices_Equal_Leg x_0 x_1 = some r) : AC Tryz.prog 70 [.lst 6 (x_0.map encLeg), .lst 6 (x_1.map encLeg)] [] (.bool r) [] := by
 refine ac_of tab_ok follows_ok Tryz.func70 rfl Tryz.ntmps70 rfl ?_
 unfold slices_Equal_Leg at hF
 conv=>whnf
 refine len_q (enc := encLeg) (l := x_0) rfl ?_
 conv=>whnf
 refine len_q (enc := encLeg) (l := x_1) rfl ?_
 conv=>whnf
 refine ⟨fun b8=>?_,fun b8=>?_⟩
 ·
  replace hF := ct b8 hF
  conv=>whnf
  obtain rfl := si hF
  exact ret_gz [] [] [] rfl (argFl (by (conv=>lhs;whnf)<;>rfl)) trivial
 ·
  replace hF := cf b8 hF
  conv=>whnf
  refine len_q (enc := encLeg) (l := x_0) rfl ?_
  conv=>whnf
  obtain ⟨c_1, hc_1, hF⟩ := fin_some hF
  refine sw_bv 0 (v := .lst 6 (x_0.map encLeg)) (by (conv=>lhs;whnf)<;>rfl) (fun hb=>?_)
  have hbd_k_2 : x_0.length ≤ 9223372036854775807 := bnd_len (enc := encLeg) (hb)
  refine sw_loop tab_ok follows_ok (fun y : Nat => y ≤ x_0.length ∧ slices_Equal_Leg_L1 x_1 (x_0.drop y) y = some c_1) (fun y => ⟨eL [(0, .lst 6 (x_0.map encLeg)), (1, .lst 6 (x_1.map encLeg)), (12, .int .i64 (x_0.length : Int)), (13, .int .i64 (y : Int))], hL [], 0⟩) (fun y => x_0.length - y) 0 ⟨Nat.zero_le _, hc_1⟩ (wk_mk [] [] [] rfl ⟨aq, aq, aq, aq,trivial⟩ trivial) ?_
  rintro k_2 ⟨hk_k_2, hL1⟩
  try dsimp only at hk_k_2 hL1
  show awp _ _ _ _ _ _ ⟨eL [(0, .lst 6 (x_0.map encLeg)), (1, .lst 6 (x_1.map encLeg)), (12, .int .i64 (x_0.length : Int)), (13, .int .i64 (k_2 : Int))], hL [], 0⟩
  conv=>whnf
  refine ⟨fun h=>?_,fun h=>?_⟩
  ·
   have lk2 : k_2 < x_0.length := by have h := of_decide_eq_true h; omega
   obtain ⟨e_3, he3⟩ : ∃ y, x_0[k_2]? = some y := ⟨_, List.getElem?_eq_getElem lk2⟩
   rw [drop_cons he3, slices_Equal_Leg_L1.eq_2] at hL1
   conv=>whnf
   refine ⟨k_2, _, rfl, ix_map he3, ?_⟩
   conv=>whnf
   obtain ⟨e_4, he4, hL1⟩ := bs hL1
   refine ix_q (enc := encLeg) (l := x_1) he4 rfl (fun m_e_4 hm_e_4 hx_e_4=>?_)
   conv=>whnf
   refine ⟨by kernel_rfl, ?_⟩
   conv=>whnf
   refine ⟨fun b9=>?_,fun b9=>?_⟩
   ·
    replace hL1 := ct b9 hL1
    conv=>whnf
    obtain rfl := si hL1
    replace hF := fin_ret hF
    obtain rfl := si hF
    exact ret_gz [] [] [] rfl (argFl (by (conv=>lhs;whnf)<;>rfl)) trivial
   ·
    replace hL1 := cf b9 hL1
    conv=>whnf
    refine ⟨((k_2 + 1 : Nat) : Int), wrapE (by omega) (by omega) (by omega), ?_⟩
    conv=>whnf
    exact ⟨k_2 + 1, [], [], [], ⟨lk2, hL1⟩, by show x_0.length - (k_2 + 1) < x_0.length - k_2; omega, wk_mk [] [] [] rfl ⟨aq, aq, aq, aq,trivial⟩ trivial⟩
  ·
   rw [drop_nil (show x_0.length ≤ k_2 by have h := of_decide_eq_false h; omega), slices_Equal_Leg_L1.eq_1] at hL1
   conv=>whnf
   obtain rfl := si hL1
   replace hF := fin_brk hF
   try dsimp only at hF
   obtain rfl := si hF
   exact ret_gz [] [] [] rfl (argT (by (conv=>lhs;whnf)<;>rfl)) trivial

theorem slices_Equal_int_ac (x_0 : (List Int)) (x_1 : (List Int)) (r : Bool) (hF : slices_Equal_int x_0 x_1 = some r) : AC Tryz.prog 71 [.lst 1 (x_0.map iA), .lst 1 (x_1.map iA)] [] (.bool r) [] := by
 refine ac_of tab_ok follows_ok Tryz.func71 rfl Tryz.ntmps71 rfl ?_
 unfold slices_Equal_int at hF
 conv=>whnf
 refine len_q (enc := iA) (l := x_0) rfl ?_
 conv=>whnf
 refine len_q (enc := iA) (l := x_1) rfl ?_
 conv=>whnf
 refine ⟨fun b8=>?_,fun b8=>?_⟩
 ·
  replace hF := ct b8 hF
  conv=>whnf
  obtain rfl := si hF
  exact ret_gz [] [] [] rfl (argFl (by (conv=>lhs;whnf)<;>rfl)) trivial
 ·
  replace hF := cf b8 hF
  conv=>whnf
  refine len_q (enc := iA) (l := x_0) rfl ?_
  conv=>whnf
  obtain ⟨c_1, hc_1, hF⟩ := fin_some hF
  refine sw_bv 0 (v := .lst 1 (x_0.map iA)) (by (conv=>lhs;whnf)<;>rfl) (fun hb=>?_)
  have hbd_k_2 : x_0.length ≤ 9223372036854775807 := bnd_len (enc := iA) (hb)
  refine sw_loop tab_ok follows_ok (fun y : Nat => y ≤ x_0.length ∧ slices_Equal_int_L1 x_1 (x_0.drop y) y = some c_1) (fun y => ⟨eL [(0, .lst 1 (x_0.map iA)), (1, .lst 1 (x_1.map iA)), (12, .int .i64 (x_0.length : Int)), (13, .int .i64 (y : Int))], hL [], 0⟩) (fun y => x_0.length - y) 0 ⟨Nat.zero_le _, hc_1⟩ (wk_mk [] [] [] rfl ⟨aq, aq, aq, aq,trivial⟩ trivial) ?_
  rintro k_2 ⟨hk_k_2, hL1⟩
  try dsimp only at hk_k_2 hL1
  show awp _ _ _ _ _ _ ⟨eL [(0, .lst 1 (x_0.map iA)), (1, .lst 1 (x_1.map iA)), (12, .int .i64 (x_0.length : Int)), (13, .int .i64 (k_2 : Int))], hL [], 0⟩
  conv=>whnf
  refine ⟨fun h=>?_,fun h=>?_⟩
  ·
   have lk2 : k_2 < x_0.length := by have h := of_decide_eq_true h; omega
   obtain ⟨e_3, he3⟩ : ∃ y, x_0[k_2]? = some y := ⟨_, List.getElem?_eq_getElem lk2⟩
   rw [drop_cons he3, slices_Equal_int_L1.eq_2] at hL1
   conv=>whnf
   refine ⟨k_2, _, rfl, ix_map he3, ?_⟩
   conv=>whnf
   obtain ⟨e_4, he4, hL1⟩ := bs hL1
   refine ix_q (enc := iA) (l := x_1) he4 rfl (fun m_e_4 hm_e_4 hx_e_4=>?_)
   conv=>whnf
   refine ⟨by kernel_rfl, ?_⟩
   conv=>whnf
   refine ⟨fun b9=>?_,fun b9=>?_⟩
   ·
    replace hL1 := ct b9 hL1
    conv=>whnf
    obtain rfl := si hL1
    replace hF := fin_ret hF
    obtain rfl := si hF
    exact ret_gz [] [] [] rfl (argFl (by (conv=>lhs;whnf)<;>rfl)) trivial
   ·
    replace hL1 := cf b9 hL1
    conv=>whnf
    refine ⟨((k_2 + 1 : Nat) : Int), wrapE (by omega) (by omega) (by omega), ?_⟩
    conv=>whnf
    exact ⟨k_2 + 1, [], [], [], ⟨lk2, hL1⟩, by show x_0.length - (k_2 + 1) < x_0.length - k_2; omega, wk_mk [] [] [] rfl ⟨aq, aq, aq, aq,trivial⟩ trivial⟩
  ·
   rw [drop_nil (show x_0.length ≤ k_2 by have h := of_decide_eq_false h; omega), slices_Equal_int_L1.eq_1] at hL1
   conv=>whnf
   obtain rfl := si hL1
   replace hF := fin_brk hF
   try dsimp only at hF
   obtain rfl := si hF
   exact ret_gz [] [] [] rfl (argT (by (conv=>lhs;whnf)<;>rfl)) trivial

theorem message_Same_ac (x_0 : Message) (x_1 : Message) (r : Bool) (hF : message_Same x_0 x_1 = some r) : AC Tryz.prog 35 [.agg (encMessage x_0), .agg (encMessage x_1)] [] (.bool r) [] := by
 refine ac_of tab_ok follows_ok Tryz.func35 rfl Tryz.ntmps35 rfl ?_
 unfold message_Same at hF
 conv=>whnf
 refine ⟨fun b18=>?_,fun b18=>?_⟩
 ·
  replace hF := ct b18 hF
  conv=>whnf
  refine ⟨fun b19=>?_,fun b19=>?_⟩
  ·
   replace hF := ct b19 hF
   conv=>whnf
   refine ⟨fun b20=>?_,fun b20=>?_⟩
   ·
    replace hF := ct b20 hF
    conv=>whnf
    refine ⟨fun b21=>?_,fun b21=>?_⟩
    ·
     replace hF := ct b21 hF
     conv=>whnf
     refine ⟨fun b22=>?_,fun b22=>?_⟩
     ·
      replace hF := ct b22 hF
      conv=>whnf
      refine ⟨fun b23=>?_,fun b23=>?_⟩
      ·
       replace hF := ct b23 hF
       conv=>whnf
       obtain ⟨r_1, hr1, hF⟩ := bs hF
       refine ⟨_,_,_,_,_,_,_,_,_,callX false [] [] 0 Tryz.func70 (by decide) rfl (slices_Equal_Leg_ac x_0.Onward x_1.Onward r_1 hr1) rfl ⟨aq, aq,trivial⟩ rfl trivial rfl rfl rfl lend0 trivial rfl, ?_⟩
       conv=>whnf
       refine ⟨fun b24=>?_,fun b24=>?_⟩
       ·
        replace hF := ct b24 hF
        conv=>whnf
        refine ⟨fun b25=>?_,fun b25=>?_⟩
        ·
         replace hF := ct b25 hF
         conv=>whnf
         refine ⟨fun b26=>?_,fun b26=>?_⟩
         ·
          replace hF := ct b26 hF
          conv=>whnf
          refine ⟨fun b27=>?_,fun b27=>?_⟩
          ·
           replace hF := ct b27 hF
           conv=>whnf
           refine ⟨fun b28=>?_,fun b28=>?_⟩
           ·
            replace hF := ct b28 hF
            conv=>whnf
            refine ⟨fun b29=>?_,fun b29=>?_⟩
            ·
             replace hF := ct b29 hF
             conv=>whnf
             refine ⟨fun b30=>?_,fun b30=>?_⟩
             ·
              replace hF := ct b30 hF
              conv=>whnf
              refine ⟨fun b31=>?_,fun b31=>?_⟩
              ·
               replace hF := ct b31 hF
               conv=>whnf
               refine ⟨fun b32=>?_,fun b32=>?_⟩
               ·
                replace hF := ct b32 hF
                conv=>whnf
                refine ⟨fun b33=>?_,fun b33=>?_⟩
                ·
                 replace hF := ct b33 hF
                 conv=>whnf
                 refine ⟨fun b34=>?_,fun b34=>?_⟩
                 ·
                  replace hF := ct b34 hF
                  conv=>whnf
                  obtain ⟨r_2, hr2, hF⟩ := bs hF
                  refine ⟨_,_,_,_,_,_,_,_,_,callX false [] [] 0 Tryz.func71 (by decide) rfl (slices_Equal_int_ac x_0.List x_1.List r_2 hr2) rfl ⟨aq, aq,trivial⟩ rfl trivial rfl rfl rfl lend0 trivial rfl, ?_⟩
                  conv=>whnf
                  obtain rfl := si hF
                  exact ret_gz [] [] [] rfl aq trivial
                 ·
                  replace hF := cf b34 hF
                  conv=>whnf
                  obtain rfl := si hF
                  exact ret_gz [] [] [] rfl (argFl (by (conv=>lhs;whnf)<;>rfl)) trivial
                ·
                 replace hF := cf b33 hF
                 conv=>whnf
                 obtain rfl := si hF
                 exact ret_gz [] [] [] rfl (argFl (by (conv=>lhs;whnf)<;>rfl)) trivial
               ·
                replace hF := cf b32 hF
                conv=>whnf
                obtain rfl := si hF
                exact ret_gz [] [] [] rfl (argFl (by (conv=>lhs;whnf)<;>rfl)) trivial
              ·
               replace hF := cf b31 hF
               conv=>whnf
               obtain rfl := si hF
               exact ret_gz [] [] [] rfl (argFl (by (conv=>lhs;whnf)<;>rfl)) trivial
             ·
              replace hF := cf b30 hF
              conv=>whnf
              obtain rfl := si hF
              exact ret_gz [] [] [] rfl (argFl (by (conv=>lhs;whnf)<;>rfl)) trivial
            ·
             replace hF := cf b29 hF
             conv=>whnf
             obtain rfl := si hF
             exact ret_gz [] [] [] rfl (argFl (by (conv=>lhs;whnf)<;>rfl)) trivial
           ·
            replace hF := cf b28 hF
            conv=>whnf
            obtain rfl := si hF
            exact ret_gz [] [] [] rfl (argFl (by (conv=>lhs;whnf)<;>rfl)) trivial
          ·
           replace hF := cf b27 hF
           conv=>whnf
           obtain rfl := si hF
           exact ret_gz [] [] [] rfl (argFl (by (conv=>lhs;whnf)<;>rfl)) trivial
         ·
          replace hF := cf b26 hF
          conv=>whnf
          obtain rfl := si hF
          exact ret_gz [] [] [] rfl (argFl (by (conv=>lhs;whnf)<;>rfl)) trivial
        ·
         replace hF := cf b25 hF
         conv=>whnf
         obtain rfl := si hF
         exact ret_gz [] [] [] rfl (argFl (by (conv=>lhs;whnf)<;>rfl)) trivial
       ·
        replace hF := cf b24 hF
        conv=>whnf
        obtain rfl := si hF
        exact ret_gz [] [] [] rfl (argFl (by (conv=>lhs;whnf)<;>rfl)) trivial
      ·
       replace hF := cf b23 hF
       conv=>whnf
       obtain rfl := si hF
       exact ret_gz [] [] [] rfl (argFl (by (conv=>lhs;whnf)<;>rfl)) trivial
     ·
      replace hF := cf b22 hF
      conv=>whnf
      obtain rfl := si hF
      exact ret_gz [] [] [] rfl (argFl (by (conv=>lhs;whnf)<;>rfl)) trivial
    ·
     replace hF := cf b21 hF
     conv=>whnf
     obtain rfl := si hF
     exact ret_gz [] [] [] rfl (argFl (by (conv=>lhs;whnf)<;>rfl)) trivial
   ·
    replace hF := cf b20 hF
    conv=>whnf
    obtain rfl := si hF
    exact ret_gz [] [] [] rfl (argFl (by (conv=>lhs;whnf)<;>rfl)) trivial
  ·
   replace hF := cf b19 hF
   conv=>whnf
   obtain rfl := si hF
   exact ret_gz [] [] [] rfl (argFl (by (conv=>lhs;whnf)<;>rfl)) trivial
 ·
  replace hF := cf b18 hF
  conv=>whnf
  obtain rfl := si hF
  exact ret_gz [] [] [] rfl (argFl (by (conv=>lhs;whnf)<;>rfl)) trivial

theorem fields_Letter_ac (x_0 : Int) (r : Bool) (hF : fields_Letter x_0 = some r) : AC Tryz.prog 110 [.int .u8 x_0] [] (.bool r) [] := by
 refine ac_of tab_ok follows_ok Tryz.func110 rfl Tryz.ntmps110 rfl ?_
 unfold fields_Letter at hF
 conv=>whnf
 refine ⟨fun b2=>?_,fun b2=>?_⟩
 ·
  replace hF := ct b2 hF
  conv=>whnf
  obtain rfl := si hF
  exact ret_gz [] [] [] rfl aq trivial
 ·
  replace hF := cf b2 hF
  conv=>whnf
  obtain rfl := si hF
  exact ret_gz [] [] [] rfl (argFl (by (conv=>lhs;whnf)<;>rfl)) trivial

theorem fields_All_ac (x_0 : ByteArray) (r : Bool) (hF : fields_All x_0 = some r) : AC Tryz.prog 109 [.str x_0, .fn 110 []] [] (.bool r) [] := by
 refine ac_of tab_ok follows_ok Tryz.func109 rfl Tryz.ntmps109 rfl ?_
 unfold fields_All at hF
 conv=>whnf
 obtain ⟨c_1, hc_1, hF⟩ := fin_some hF
 refine sw_loop tab_ok follows_ok (fun y : Nat × Int => fields_All_L1 x_0 y.1 y.2 = some c_1) (fun y => ⟨eL [(0, .str x_0), (1, .fn 110 []), (7, .int .i64 (x_0.size : Int)), (8, .int .i64 y.2)], hL [], 0⟩) (fun y => y.1) (9223372036854775807, (0 : Int)) hc_1 (wk_mk [] [] [] rfl ⟨aq, aq, aq, aq,trivial⟩ trivial) ?_
 rintro ⟨q_4, i_1⟩ hL1
 try dsimp only at hL1
 rcases q_4 with _ | q_4
 ·
  rw [fields_All_L1.eq_1] at hL1
  cases hL1
 rw [fields_All_L1.eq_2] at hL1
 show awp _ _ _ _ _ _ ⟨eL [(0, .str x_0), (1, .fn 110 []), (7, .int .i64 (x_0.size : Int)), (8, .int .i64 i_1)], hL [], 0⟩
 conv=>whnf
 refine ⟨fun b9=>?_,fun b9=>?_⟩
 ·
  replace hL1 := ct b9 hL1
  conv=>whnf
  obtain ⟨b_2, hb2, hL1⟩ := bs hL1
  refine ixs_q hb2 (fun m_b_2 u_b_2 hm_b_2 hb_b_2 hz_b_2=>?_)
  subst hz_b_2
  conv=>whnf
  obtain ⟨r_3, hr3, hL1⟩ := bs hL1
  refine ⟨_,_,_,_,_,_,_,_,_,callX false [] [] 0 Tryz.func110 (by decide) rfl (fields_Letter_ac ((u_b_2.toNat : Nat) : Int) r_3 hr3) rfl ⟨aq,trivial⟩ rfl trivial rfl rfl rfl lend0 trivial rfl, ?_⟩
  conv=>whnf
  refine ⟨fun b10=>?_,fun b10=>?_⟩
  ·
   replace hL1 := ct b10 hL1
   conv=>whnf
   obtain rfl := si hL1
   replace hF := fin_ret hF
   obtain rfl := si hF
   exact ret_gz [] [] [] rfl (argFl (by (conv=>lhs;whnf)<;>rfl)) trivial
  ·
   replace hL1 := cf b10 hL1
   conv=>whnf
   refine ⟨_, rfl, ?_⟩
   conv=>whnf
   exact ⟨(q_4, (w64 (i_1 + (1 : Int)))), [], [], [], hL1, Nat.lt_succ_self _, wk_mk [] [] [] rfl ⟨aq, aq, aq, aq,trivial⟩ trivial⟩
 ·
  replace hL1 := cf b9 hL1
  conv=>whnf
  obtain rfl := si hL1
  replace hF := fin_brk hF
  try dsimp only at hF
  obtain rfl := si hF
  exact ret_gz [] [] [] rfl (argT (by (conv=>lhs;whnf)<;>rfl)) trivial

theorem fields_Letters_ac (x_0 : ByteArray) (x_1 : Int) (x_2 : Int) (r : Bool) (hF : fields_Letters x_0 x_1 x_2 = some r) : AC Tryz.prog 96 [.str x_0, .int .i64 x_1, .int .i64 x_2] [] (.bool r) [] := by
 refine ac_of tab_ok follows_ok Tryz.func96 rfl Tryz.ntmps96 rfl ?_
 unfold fields_Letters at hF
 conv=>whnf
 refine ⟨fun b3=>?_,fun b3=>?_⟩
 ·
  replace hF := ct b3 hF
  conv=>whnf
  refine ⟨fun b4=>?_,fun b4=>?_⟩
  ·
   replace hF := ct b4 hF
   conv=>whnf
   obtain ⟨r_1, hr1, hF⟩ := bs hF
   refine ⟨_,_,_,_,_,_,_,_,_,callX false [] [] 0 Tryz.func109 (by decide) rfl (fields_All_ac x_0 r_1 hr1) rfl ⟨aq, aq,trivial⟩ rfl trivial rfl rfl rfl lend0 trivial rfl, ?_⟩
   conv=>whnf
   obtain rfl := si hF
   exact ret_gz [] [] [] rfl aq trivial
  ·
   replace hF := cf b4 hF
   conv=>whnf
   obtain rfl := si hF
   exact ret_gz [] [] [] rfl (argFl (by (conv=>lhs;whnf)<;>rfl)) trivial
 ·
  replace hF := cf b3 hF
  conv=>whnf
  obtain rfl := si hF
  exact ret_gz [] [] [] rfl (argFl (by (conv=>lhs;whnf)<;>rfl)) trivial

theorem flight_ValidPort_ac (x_0 : ByteArray) (r : Bool) (hF : flight_ValidPort x_0 = some r) : AC Tryz.prog 93 [.str x_0] [] (.bool r) [] := by
 refine ac_of tab_ok follows_ok Tryz.func93 rfl Tryz.ntmps93 rfl ?_
 unfold flight_ValidPort at hF
 conv=>whnf
 obtain ⟨r_1, hr1, hF⟩ := bs hF
 refine ⟨_,_,_,_,_,_,_,_,_,callX false [] [] 0 Tryz.func96 (by decide) rfl (fields_Letters_ac x_0 (3 : Int) (3 : Int) r_1 hr1) rfl ⟨aq, aq, aq,trivial⟩ rfl trivial rfl rfl rfl lend0 trivial rfl, ?_⟩
 conv=>whnf
 obtain rfl := si hF
 exact ret_gz [] [] [] rfl aq trivial

theorem fields_Digit_ac (x_0 : Int) (r : Bool) (hF : fields_Digit x_0 = some r) : AC Tryz.prog 112 [.int .u8 x_0] [] (.bool r) [] := by
 refine ac_of tab_ok follows_ok Tryz.func112 rfl Tryz.ntmps112 rfl ?_
 unfold fields_Digit at hF
 conv=>whnf
 refine ⟨fun b2=>?_,fun b2=>?_⟩
 ·
  replace hF := ct b2 hF
  conv=>whnf
  obtain rfl := si hF
  exact ret_gz [] [] [] rfl aq trivial
 ·
  replace hF := cf b2 hF
  conv=>whnf
  obtain rfl := si hF
  exact ret_gz [] [] [] rfl (argFl (by (conv=>lhs;whnf)<;>rfl)) trivial

theorem flight_carrier_ac (x_0 : ByteArray) (r : Bool) (hF : flight_carrier x_0 = some r) : AC Tryz.prog 119 [.str x_0] [] (.bool r) [] := by
 refine ac_of tab_ok follows_ok Tryz.func119 rfl Tryz.ntmps119 rfl ?_
 unfold flight_carrier at hF
 conv=>whnf
 refine ⟨fun b14=>?_,fun b14=>?_⟩
 ·
  replace hF := ct b14 hF
  conv=>whnf
  obtain rfl := si hF
  exact ret_gz [] [] [] rfl (argFl (by (conv=>lhs;whnf)<;>rfl)) trivial
 ·
  replace hF := cf b14 hF
  conv=>whnf
  obtain ⟨c_1, hc_1, hF⟩ := fin_some hF
  refine sw_loop tab_ok follows_ok (fun y : Nat × Int × Int => flight_carrier_L1 x_0 y.1 y.2.1 y.2.2 = some c_1) (fun y => ⟨eL [(0, .str x_0), (3, .int .i64 y.2.1), (9, .int .i64 (x_0.size : Int)), (10, .int .i64 y.2.2)], hL [], 0⟩) (fun y => y.1) (9223372036854775807, (0 : Int), (0 : Int)) hc_1 (wk_mk [] [] [] rfl ⟨aq, aq, aq, aq,trivial⟩ trivial) ?_
  rintro ⟨q_7, i_1, i_2⟩ hL1
  try dsimp only at hL1
  rcases q_7 with _ | q_7
  ·
   rw [flight_carrier_L1.eq_1] at hL1
   cases hL1
  rw [flight_carrier_L1.eq_2] at hL1
  show awp _ _ _ _ _ _ ⟨eL [(0, .str x_0), (3, .int .i64 i_1), (9, .int .i64 (x_0.size : Int)), (10, .int .i64 i_2)], hL [], 0⟩
  conv=>whnf
  refine ⟨fun b15=>?_,fun b15=>?_⟩
  ·
   replace hL1 := ct b15 hL1
   conv=>whnf
   obtain ⟨b_3, hb3, hL1⟩ := bs hL1
   refine ixs_q hb3 (fun m_b_3 u_b_3 hm_b_3 hb_b_3 hz_b_3=>?_)
   subst hz_b_3
   conv=>whnf
   obtain ⟨r_4, hr4, hL1⟩ := bs hL1
   refine ⟨_,_,_,_,_,_,_,_,_,callX false [] [] 0 Tryz.func110 (by decide) rfl (fields_Letter_ac ((u_b_3.toNat : Nat) : Int) r_4 hr4) rfl ⟨aq,trivial⟩ rfl trivial rfl rfl rfl lend0 trivial rfl, ?_⟩
   conv=>whnf
   refine ⟨fun b16=>?_,fun b16=>?_⟩
   ·
    replace hL1 := ct b16 hL1
    conv=>whnf
    refine ⟨_, rfl, ?_⟩
    conv=>whnf
    refine ⟨_, rfl, ?_⟩
    conv=>whnf
    exact ⟨(q_7, (w64 (i_1 + (1 : Int))), (w64 (i_2 + (1 : Int)))), [], [], [], hL1, Nat.lt_succ_self _, wk_mk [] [] [] rfl ⟨aq, aq, aq, aq,trivial⟩ trivial⟩
   ·
    replace hL1 := cf b16 hL1
    conv=>whnf
    obtain ⟨b_5, hb5, hL1⟩ := bs hL1
    refine ixs_q hb5 (fun m_b_5 u_b_5 hm_b_5 hb_b_5 hz_b_5=>?_)
    subst hz_b_5
    conv=>whnf
    obtain ⟨r_6, hr6, hL1⟩ := bs hL1
    refine ⟨_,_,_,_,_,_,_,_,_,callX false [] [] 0 Tryz.func112 (by decide) rfl (fields_Digit_ac ((u_b_5.toNat : Nat) : Int) r_6 hr6) rfl ⟨aq,trivial⟩ rfl trivial rfl rfl rfl lend0 trivial rfl, ?_⟩
    conv=>whnf
    refine ⟨fun b17=>?_,fun b17=>?_⟩
    ·
     replace hL1 := ct b17 hL1
     conv=>whnf
     obtain rfl := si hL1
     replace hF := fin_ret hF
     obtain rfl := si hF
     exact ret_gz [] [] [] rfl (argFl (by (conv=>lhs;whnf)<;>rfl)) trivial
    ·
     replace hL1 := cf b17 hL1
     conv=>whnf
     refine ⟨_, rfl, ?_⟩
     conv=>whnf
     exact ⟨(q_7, i_1, (w64 (i_2 + (1 : Int)))), [], [], [], hL1, Nat.lt_succ_self _, wk_mk [] [] [] rfl ⟨aq, aq, aq, aq,trivial⟩ trivial⟩
  ·
   replace hL1 := cf b15 hL1
   conv=>whnf
   obtain rfl := si hL1
   replace hF := fin_brk hF
   try dsimp only at hF
   obtain rfl := si hF
   exact ret_gz [] [] [] rfl aq trivial

theorem flight_Valid_ac (x_0 : Flight) (r : Bool) (hF : flight_Valid x_0 = some r) : AC Tryz.prog 108 [.agg (encFlight x_0)] [] (.bool r) [] := by
 refine ac_of tab_ok follows_ok Tryz.func108 rfl Tryz.ntmps108 rfl ?_
 unfold flight_Valid at hF
 conv=>whnf
 obtain ⟨r_1, hr1, hF⟩ := bs hF
 refine ⟨_,_,_,_,_,_,_,_,_,callX false [] [] 0 Tryz.func119 (by decide) rfl (flight_carrier_ac x_0.Carrier r_1 hr1) rfl ⟨aq,trivial⟩ rfl trivial rfl rfl rfl lend0 trivial rfl, ?_⟩
 conv=>whnf
 refine ⟨fun b6=>?_,fun b6=>?_⟩
 ·
  replace hF := ct b6 hF
  conv=>whnf
  refine ⟨fun b7=>?_,fun b7=>?_⟩
  ·
   replace hF := ct b7 hF
   conv=>whnf
   refine ⟨fun b8=>?_,fun b8=>?_⟩
   ·
    replace hF := ct b8 hF
    conv=>whnf
    obtain ⟨r_2, hr2, hF⟩ := bs hF
    refine ⟨_,_,_,_,_,_,_,_,_,callX false [] [] 0 Tryz.func96 (by decide) rfl (fields_Letters_ac x_0.Suffix (0 : Int) (1 : Int) r_2 hr2) rfl ⟨aq, aq, aq,trivial⟩ rfl trivial rfl rfl rfl lend0 trivial rfl, ?_⟩
    conv=>whnf
    refine ⟨fun b9=>?_,fun b9=>?_⟩
    ·
     replace hF := ct b9 hF
     conv=>whnf
     refine ⟨fun b10=>?_,fun b10=>?_⟩
     ·
      replace hF := ct b10 hF
      conv=>whnf
      obtain rfl := si hF
      exact ret_gz [] [] [] rfl aq trivial
     ·
      replace hF := cf b10 hF
      conv=>whnf
      obtain rfl := si hF
      exact ret_gz [] [] [] rfl (argFl (by (conv=>lhs;whnf)<;>rfl)) trivial
    ·
     replace hF := cf b9 hF
     conv=>whnf
     obtain rfl := si hF
     exact ret_gz [] [] [] rfl (argFl (by (conv=>lhs;whnf)<;>rfl)) trivial
   ·
    replace hF := cf b8 hF
    conv=>whnf
    obtain rfl := si hF
    exact ret_gz [] [] [] rfl (argFl (by (conv=>lhs;whnf)<;>rfl)) trivial
  ·
   replace hF := cf b7 hF
   conv=>whnf
   obtain rfl := si hF
   exact ret_gz [] [] [] rfl (argFl (by (conv=>lhs;whnf)<;>rfl)) trivial
 ·
  replace hF := cf b6 hF
  conv=>whnf
  obtain rfl := si hF
  exact ret_gz [] [] [] rfl (argFl (by (conv=>lhs;whnf)<;>rfl)) trivial

theorem flight_ValidLeg_ac (x_0 : Leg) (r : Bool) (hF : flight_ValidLeg x_0 = some r) : AC Tryz.prog 94 [.agg (encLeg x_0)] [] (.bool r) [] := by
 refine ac_of tab_ok follows_ok Tryz.func94 rfl Tryz.ntmps94 rfl ?_
 unfold flight_ValidLeg at hF
 conv=>whnf
 obtain ⟨r_1, hr1, hF⟩ := bs hF
 refine ⟨_,_,_,_,_,_,_,_,_,callX false [] [] 0 Tryz.func108 (by decide) rfl (flight_Valid_ac x_0.Flight r_1 hr1) rfl ⟨aq,trivial⟩ rfl trivial rfl rfl rfl lend0 trivial rfl, ?_⟩
 conv=>whnf
 refine ⟨fun b5=>?_,fun b5=>?_⟩
 ·
  replace hF := ct b5 hF
  conv=>whnf
  obtain ⟨r_2, hr2, hF⟩ := bs hF
  refine ⟨_,_,_,_,_,_,_,_,_,callX false [] [] 0 Tryz.func93 (by decide) rfl (flight_ValidPort_ac x_0.Port r_2 hr2) rfl ⟨aq,trivial⟩ rfl trivial rfl rfl rfl lend0 trivial rfl, ?_⟩
  conv=>whnf
  refine ⟨fun b6=>?_,fun b6=>?_⟩
  ·
   replace hF := ct b6 hF
   conv=>whnf
   refine ⟨fun b7=>?_,fun b7=>?_⟩
   ·
    replace hF := cf b7 hF
    conv=>whnf
    refine ⟨fun b8=>?_,fun b8=>?_⟩
    ·
     replace hF := cf b8 hF
     conv=>whnf
     obtain rfl := si hF
     exact ret_gz [] [] [] rfl aq trivial
    ·
     replace hF := ct b8 hF
     conv=>whnf
     obtain rfl := si hF
     exact ret_gz [] [] [] rfl (argT (by (conv=>lhs;whnf)<;>rfl)) trivial
   ·
    replace hF := ct b7 hF
    conv=>whnf
    obtain rfl := si hF
    exact ret_gz [] [] [] rfl (argT (by (conv=>lhs;whnf)<;>rfl)) trivial
  ·
   replace hF := cf b6 hF
   conv=>whnf
   obtain rfl := si hF
   exact ret_gz [] [] [] rfl (argFl (by (conv=>lhs;whnf)<;>rfl)) trivial
 ·
  replace hF := cf b5 hF
  conv=>whnf
  obtain rfl := si hF
  exact ret_gz [] [] [] rfl (argFl (by (conv=>lhs;whnf)<;>rfl)) trivial

theorem message_describes_ac (x_0 : Int) (r : Bool) (hF : message_describes x_0 = some r) : AC Tryz.prog 95 [.int .i64 x_0] [] (.bool r) [] := by
 refine ac_of tab_ok follows_ok Tryz.func95 rfl Tryz.ntmps95 rfl ?_
 unfold message_describes at hF
 conv=>whnf
 refine ⟨fun b2=>?_,fun b2=>?_⟩
 ·
  replace hF := cf b2 hF
  conv=>whnf
  obtain rfl := si hF
  exact ret_gz [] [] [] rfl aq trivial
 ·
  replace hF := ct b2 hF
  conv=>whnf
  obtain rfl := si hF
  exact ret_gz [] [] [] rfl (argT (by (conv=>lhs;whnf)<;>rfl)) trivial

theorem fields_Name_f1_ac (x_0 : Int) (r : Bool) (hF : fields_Name_f1 x_0 = some r) : AC Tryz.prog 111 [.int .u8 x_0] [] (.bool r) [] := by
 refine ac_of tab_ok follows_ok Tryz.func111 rfl Tryz.ntmps111 rfl ?_
 unfold fields_Name_f1 at hF
 conv=>whnf
 obtain ⟨r_1, hr1, hF⟩ := bs hF
 refine ⟨_,_,_,_,_,_,_,_,_,callX false [] [] 0 Tryz.func110 (by decide) rfl (fields_Letter_ac x_0 r_1 hr1) rfl ⟨aq,trivial⟩ rfl trivial rfl rfl rfl lend0 trivial rfl, ?_⟩
 conv=>whnf
 refine ⟨fun b2=>?_,fun b2=>?_⟩
 ·
  replace hF := cf b2 hF
  conv=>whnf
  obtain ⟨r_2, hr2, hF⟩ := bs hF
  refine ⟨_,_,_,_,_,_,_,_,_,callX false [] [] 0 Tryz.func112 (by decide) rfl (fields_Digit_ac x_0 r_2 hr2) rfl ⟨aq,trivial⟩ rfl trivial rfl rfl rfl lend0 trivial rfl, ?_⟩
  conv=>whnf
  obtain rfl := si hF
  exact ret_gz [] [] [] rfl aq trivial
 ·
  replace hF := ct b2 hF
  conv=>whnf
  obtain rfl := si hF
  exact ret_gz [] [] [] rfl (argT (by (conv=>lhs;whnf)<;>rfl)) trivial

theorem fields_All_v2_ac (x_0 : ByteArray) (r : Bool) (hF : fields_All_v2 x_0 = some r) : AC Tryz.prog 109 [.str x_0, .fn 111 []] [] (.bool r) [] := by
 refine ac_of tab_ok follows_ok Tryz.func109 rfl Tryz.ntmps109 rfl ?_
 unfold fields_All_v2 at hF
 conv=>whnf
 obtain ⟨c_1, hc_1, hF⟩ := fin_some hF
 refine sw_loop tab_ok follows_ok (fun y : Nat × Int => fields_All_v2_L1 x_0 y.1 y.2 = some c_1) (fun y => ⟨eL [(0, .str x_0), (1, .fn 111 []), (7, .int .i64 (x_0.size : Int)), (8, .int .i64 y.2)], hL [], 0⟩) (fun y => y.1) (9223372036854775807, (0 : Int)) hc_1 (wk_mk [] [] [] rfl ⟨aq, aq, aq, aq,trivial⟩ trivial) ?_
 rintro ⟨q_4, i_1⟩ hL1
 try dsimp only at hL1
 rcases q_4 with _ | q_4
 ·
  rw [fields_All_v2_L1.eq_1] at hL1
  cases hL1
 rw [fields_All_v2_L1.eq_2] at hL1
 show awp _ _ _ _ _ _ ⟨eL [(0, .str x_0), (1, .fn 111 []), (7, .int .i64 (x_0.size : Int)), (8, .int .i64 i_1)], hL [], 0⟩
 conv=>whnf
 refine ⟨fun b9=>?_,fun b9=>?_⟩
 ·
  replace hL1 := ct b9 hL1
  conv=>whnf
  obtain ⟨b_2, hb2, hL1⟩ := bs hL1
  refine ixs_q hb2 (fun m_b_2 u_b_2 hm_b_2 hb_b_2 hz_b_2=>?_)
  subst hz_b_2
  conv=>whnf
  obtain ⟨r_3, hr3, hL1⟩ := bs hL1
  refine ⟨_,_,_,_,_,_,_,_,_,callX false [] [] 0 Tryz.func111 (by decide) rfl (fields_Name_f1_ac ((u_b_2.toNat : Nat) : Int) r_3 hr3) rfl ⟨aq,trivial⟩ rfl trivial rfl rfl rfl lend0 trivial rfl, ?_⟩
  conv=>whnf
  refine ⟨fun b10=>?_,fun b10=>?_⟩
  ·
   replace hL1 := ct b10 hL1
   conv=>whnf
   obtain rfl := si hL1
   replace hF := fin_ret hF
   obtain rfl := si hF
   exact ret_gz [] [] [] rfl (argFl (by (conv=>lhs;whnf)<;>rfl)) trivial
  ·
   replace hL1 := cf b10 hL1
   conv=>whnf
   refine ⟨_, rfl, ?_⟩
   conv=>whnf
   exact ⟨(q_4, (w64 (i_1 + (1 : Int)))), [], [], [], hL1, Nat.lt_succ_self _, wk_mk [] [] [] rfl ⟨aq, aq, aq, aq,trivial⟩ trivial⟩
 ·
  replace hL1 := cf b9 hL1
  conv=>whnf
  obtain rfl := si hL1
  replace hF := fin_brk hF
  try dsimp only at hF
  obtain rfl := si hF
  exact ret_gz [] [] [] rfl (argT (by (conv=>lhs;whnf)<;>rfl)) trivial

theorem fields_Name_ac (x_0 : ByteArray) (x_1 : Int) (r : Bool) (hF : fields_Name x_0 x_1 = some r) : AC Tryz.prog 97 [.str x_0, .int .i64 x_1] [] (.bool r) [] := by
 refine ac_of tab_ok follows_ok Tryz.func97 rfl Tryz.ntmps97 rfl ?_
 unfold fields_Name at hF
 conv=>whnf
 refine ⟨fun b4=>?_,fun b4=>?_⟩
 ·
  replace hF := ct b4 hF
  conv=>whnf
  refine ⟨fun b5=>?_,fun b5=>?_⟩
  ·
   replace hF := ct b5 hF
   conv=>whnf
   obtain ⟨b_1, hb1, hF⟩ := bs hF
   refine ixs_q hb1 (fun m_b_1 u_b_1 hm_b_1 hb_b_1 hz_b_1=>?_)
   subst hz_b_1
   conv=>whnf
   obtain ⟨r_2, hr2, hF⟩ := bs hF
   refine ⟨_,_,_,_,_,_,_,_,_,callX false [] [] 0 Tryz.func110 (by decide) rfl (fields_Letter_ac ((u_b_1.toNat : Nat) : Int) r_2 hr2) rfl ⟨aq,trivial⟩ rfl trivial rfl rfl rfl lend0 trivial rfl, ?_⟩
   conv=>whnf
   refine ⟨fun b6=>?_,fun b6=>?_⟩
   ·
    replace hF := ct b6 hF
    conv=>whnf
    obtain ⟨r_3, hr3, hF⟩ := bs hF
    refine ⟨_,_,_,_,_,_,_,_,_,callX false [] [] 0 Tryz.func109 (by decide) rfl (fields_All_v2_ac x_0 r_3 hr3) rfl ⟨aq, aq,trivial⟩ rfl trivial rfl rfl rfl lend0 trivial rfl, ?_⟩
    conv=>whnf
    obtain rfl := si hF
    exact ret_gz [] [] [] rfl aq trivial
   ·
    replace hF := cf b6 hF
    conv=>whnf
    obtain rfl := si hF
    exact ret_gz [] [] [] rfl (argFl (by (conv=>lhs;whnf)<;>rfl)) trivial
  ·
   replace hF := cf b5 hF
   conv=>whnf
   obtain rfl := si hF
   exact ret_gz [] [] [] rfl (argFl (by (conv=>lhs;whnf)<;>rfl)) trivial
 ·
  replace hF := cf b4 hF
  conv=>whnf
  obtain rfl := si hF
  exact ret_gz [] [] [] rfl (argFl (by (conv=>lhs;whnf)<;>rfl)) trivial
end Go.Proofs.YtkliakcegihikaaGreat.Ex
