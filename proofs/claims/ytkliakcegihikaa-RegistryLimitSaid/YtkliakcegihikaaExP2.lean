/- The functions of the program compute what was printed; walks printed by a program. -/
import Derived.Test.YtkliakcegihikaaExF
namespace Go.Proofs.Ytkliakcegihikaa.Ex
open Go.RowKit Go.Proofs.Ytkliakcegihikaa.Ax
set_option linter.unusedVariables false
set_option linter.unusedSimpArgs false
set_option maxRecDepth 100000 in
set_option maxHeartbeats 40000000 in
theorem message_own_ac (x_0 : Message) (r : Message) (hF : message_own x_0 = some r) : AC Try.prog 66 [.agg (encMessage x_0)] [] (.agg (encMessage r)) [] := by
  refine ac_of tab_ok follows_ok Try.func66 rfl Try.ntmps66 rfl ?_
  unfold message_own at hF
  conv => whnf
  refine ⟨fun hb_6 => ?_, fun hb_6 => ?_⟩
  · replace hF := cond_t hb_6 hF
    conv => whnf
    refine ⟨fun h => ?_, fun h => ?_⟩
    · conv => whnf
      refine ⟨fun h => ?_, fun h => ?_⟩
      · conv => whnf
        obtain rfl := Option.some.inj hF
        exact ret_gz [] [] [] rfl (argA (c := [.int .i64 x_0.Kind, .int .i64 x_0.Do, .str x_0.Port, .int .i64 x_0.Number, .str (⟨#[]⟩ : ByteArray), .int .i64 (0 : Int), .str (⟨#[]⟩ : ByteArray), .int .i64 (0 : Int), .str (⟨#[]⟩ : ByteArray), .str (⟨#[]⟩ : ByteArray), .str x_0.Out.Flight.Carrier, .int .i64 x_0.Out.Flight.Number, .str x_0.Out.Flight.Suffix, .int .i64 x_0.Out.Flight.Day, .str x_0.Out.Port, .str x_0.Out.Class, .lst 6 (x_0.Onward.map encLeg), .int .i64 x_0.First.Lead, .int .i64 x_0.First.Airline, .int .i64 x_0.First.Serial, .int .i64 x_0.Count, .bool x_0.Load, .int .i64 x_0.Status, .int .i64 x_0.Sequence, .int .i64 x_0.Weight, .str x_0.Surname, .str x_0.Given, .int .i64 x_0.Exception, .str (⟨#[]⟩ : ByteArray), .nils]) (by (conv => lhs; whnf); all_goals rfl) rfl ⟨(.ni _ rfl), (.ni _ rfl), (.ni _ rfl), (.ni _ rfl), (.ni _ rfl), (.ni _ rfl), (.ni _ rfl), (.ni _ rfl), (.ni _ rfl), (.ni _ rfl), (.ni _ rfl), (.ni _ rfl), (.ni _ rfl), (.ni _ rfl), (.ni _ rfl), (.ni _ rfl), (.ni _ rfl), (.ni _ rfl), (.ni _ rfl), (.ni _ rfl), (.ni _ rfl), (.ni _ rfl), (.ni _ rfl), (.ni _ rfl), (.ni _ rfl), (.ni _ rfl), (.ni _ rfl), (.ni _ rfl), (.ni _ rfl), (.nils _), trivial⟩) trivial
      · cases (hb_6).symm.trans h
    · cases (hb_6).symm.trans h
  · replace hF := cond_f hb_6 hF
    conv => whnf
    refine ⟨fun hb_7 => ?_, fun hb_7 => ?_⟩
    · replace hF := cond_t hb_7 hF
      conv => whnf
      refine ⟨fun h => ?_, fun h => ?_⟩
      · cases (hb_6).symm.trans h
      · conv => whnf
        obtain rfl := Option.some.inj hF
        exact ret_gz [] [] [] rfl (argA (c := [.int .i64 x_0.Kind, .int .i64 x_0.Do, .str x_0.Port, .int .i64 x_0.Number, .str x_0.In.Flight.Carrier, .int .i64 x_0.In.Flight.Number, .str x_0.In.Flight.Suffix, .int .i64 x_0.In.Flight.Day, .str x_0.In.Port, .str x_0.In.Class, .str x_0.Out.Flight.Carrier, .int .i64 x_0.Out.Flight.Number, .str x_0.Out.Flight.Suffix, .int .i64 x_0.Out.Flight.Day, .str x_0.Out.Port, .str x_0.Out.Class, .lst 6 (x_0.Onward.map encLeg), .int .i64 x_0.First.Lead, .int .i64 x_0.First.Airline, .int .i64 x_0.First.Serial, .int .i64 x_0.Count, .bool x_0.Load, .int .i64 x_0.Status, .int .i64 x_0.Sequence, .int .i64 x_0.Weight, .str x_0.Surname, .str x_0.Given, .int .i64 x_0.Exception, .str (⟨#[]⟩ : ByteArray), .nils]) (by (conv => lhs; whnf); all_goals rfl) rfl ⟨(.ni _ rfl), (.ni _ rfl), (.ni _ rfl), (.ni _ rfl), (.ni _ rfl), (.ni _ rfl), (.ni _ rfl), (.ni _ rfl), (.ni _ rfl), (.ni _ rfl), (.ni _ rfl), (.ni _ rfl), (.ni _ rfl), (.ni _ rfl), (.ni _ rfl), (.ni _ rfl), (.ni _ rfl), (.ni _ rfl), (.ni _ rfl), (.ni _ rfl), (.ni _ rfl), (.ni _ rfl), (.ni _ rfl), (.ni _ rfl), (.ni _ rfl), (.ni _ rfl), (.ni _ rfl), (.ni _ rfl), (.ni _ rfl), (.nils _), trivial⟩) trivial
    · replace hF := cond_f hb_7 hF
      conv => whnf
      refine ⟨fun hb_8 => ?_, fun hb_8 => ?_⟩
      · replace hF := cond_t hb_8 hF
        conv => whnf
        refine ⟨by kernel_rfl, ?_⟩
        conv => whnf
        obtain rfl := Option.some.inj hF
        exact ret_gz [] [] [] rfl (argA (c := [.int .i64 x_0.Kind, .int .i64 (0 : Int), .str x_0.Port, .int .i64 x_0.Number, .str (⟨#[]⟩ : ByteArray), .int .i64 (0 : Int), .str (⟨#[]⟩ : ByteArray), .int .i64 (0 : Int), .str (⟨#[]⟩ : ByteArray), .str (⟨#[]⟩ : ByteArray), .str (⟨#[]⟩ : ByteArray), .int .i64 (0 : Int), .str (⟨#[]⟩ : ByteArray), .int .i64 (0 : Int), .str (⟨#[]⟩ : ByteArray), .str (⟨#[]⟩ : ByteArray), .nils, .int .i64 x_0.First.Lead, .int .i64 x_0.First.Airline, .int .i64 x_0.First.Serial, .int .i64 x_0.Count, .fls, .int .i64 (0 : Int), .int .i64 (0 : Int), .int .i64 (0 : Int), .str (⟨#[]⟩ : ByteArray), .str (⟨#[]⟩ : ByteArray), .int .i64 (0 : Int), .str x_0.Node, .nils]) (by (conv => lhs; whnf); all_goals rfl) rfl ⟨(.ni _ rfl), (.ni _ rfl), (.ni _ rfl), (.ni _ rfl), (.ni _ rfl), (.ni _ rfl), (.ni _ rfl), (.ni _ rfl), (.ni _ rfl), (.ni _ rfl), (.ni _ rfl), (.ni _ rfl), (.ni _ rfl), (.ni _ rfl), (.ni _ rfl), (.ni _ rfl), (.nils _), (.ni _ rfl), (.ni _ rfl), (.ni _ rfl), (.ni _ rfl), .fls, (.ni _ rfl), (.ni _ rfl), (.ni _ rfl), (.ni _ rfl), (.ni _ rfl), (.ni _ rfl), (.ni _ rfl), (.nils _), trivial⟩) trivial
      · replace hF := cond_f hb_8 hF
        conv => whnf
        refine ⟨fun hb_9 => ?_, fun hb_9 => ?_⟩
        · replace hF := cond_t hb_9 hF
          conv => whnf
          refine ⟨by kernel_rfl, ?_⟩
          conv => whnf
          obtain rfl := Option.some.inj hF
          exact ret_gz [] [] [] rfl (argA (c := [.int .i64 x_0.Kind, .int .i64 (0 : Int), .str x_0.Port, .int .i64 x_0.Number, .str (⟨#[]⟩ : ByteArray), .int .i64 (0 : Int), .str (⟨#[]⟩ : ByteArray), .int .i64 (0 : Int), .str (⟨#[]⟩ : ByteArray), .str (⟨#[]⟩ : ByteArray), .str x_0.Out.Flight.Carrier, .int .i64 x_0.Out.Flight.Number, .str x_0.Out.Flight.Suffix, .int .i64 x_0.Out.Flight.Day, .str x_0.Out.Port, .str x_0.Out.Class, .nils, .int .i64 x_0.First.Lead, .int .i64 x_0.First.Airline, .int .i64 x_0.First.Serial, .int .i64 x_0.Count, .fls, .int .i64 (0 : Int), .int .i64 (0 : Int), .int .i64 (0 : Int), .str (⟨#[]⟩ : ByteArray), .str (⟨#[]⟩ : ByteArray), .int .i64 (0 : Int), .str (⟨#[]⟩ : ByteArray), .nils]) (by (conv => lhs; whnf); all_goals rfl) rfl ⟨(.ni _ rfl), (.ni _ rfl), (.ni _ rfl), (.ni _ rfl), (.ni _ rfl), (.ni _ rfl), (.ni _ rfl), (.ni _ rfl), (.ni _ rfl), (.ni _ rfl), (.ni _ rfl), (.ni _ rfl), (.ni _ rfl), (.ni _ rfl), (.ni _ rfl), (.ni _ rfl), (.nils _), (.ni _ rfl), (.ni _ rfl), (.ni _ rfl), (.ni _ rfl), .fls, (.ni _ rfl), (.ni _ rfl), (.ni _ rfl), (.ni _ rfl), (.ni _ rfl), (.ni _ rfl), (.ni _ rfl), (.nils _), trivial⟩) trivial
        · replace hF := cond_f hb_9 hF
          conv => whnf
          refine ⟨fun hb_10 => ?_, fun hb_10 => ?_⟩
          · replace hF := cond_t hb_10 hF
            conv => whnf
            refine ⟨by kernel_rfl, ?_⟩
            conv => whnf
            obtain rfl := Option.some.inj hF
            exact ret_gz [] [] [] rfl (argA (c := [.int .i64 x_0.Kind, .int .i64 (0 : Int), .str x_0.Port, .int .i64 x_0.Number, .str (⟨#[]⟩ : ByteArray), .int .i64 (0 : Int), .str (⟨#[]⟩ : ByteArray), .int .i64 (0 : Int), .str (⟨#[]⟩ : ByteArray), .str (⟨#[]⟩ : ByteArray), .str x_0.Out.Flight.Carrier, .int .i64 x_0.Out.Flight.Number, .str x_0.Out.Flight.Suffix, .int .i64 x_0.Out.Flight.Day, .str x_0.Out.Port, .str x_0.Out.Class, .nils, .int .i64 (0 : Int), .int .i64 (0 : Int), .int .i64 (0 : Int), .int .i64 (0 : Int), .fls, .int .i64 (0 : Int), .int .i64 (0 : Int), .int .i64 (0 : Int), .str (⟨#[]⟩ : ByteArray), .str (⟨#[]⟩ : ByteArray), .int .i64 (0 : Int), .str (⟨#[]⟩ : ByteArray), .lst 1 (x_0.List.map iA)]) (by (conv => lhs; whnf); all_goals rfl) rfl ⟨(.ni _ rfl), (.ni _ rfl), (.ni _ rfl), (.ni _ rfl), (.ni _ rfl), (.ni _ rfl), (.ni _ rfl), (.ni _ rfl), (.ni _ rfl), (.ni _ rfl), (.ni _ rfl), (.ni _ rfl), (.ni _ rfl), (.ni _ rfl), (.ni _ rfl), (.ni _ rfl), (.nils _), (.ni _ rfl), (.ni _ rfl), (.ni _ rfl), (.ni _ rfl), .fls, (.ni _ rfl), (.ni _ rfl), (.ni _ rfl), (.ni _ rfl), (.ni _ rfl), (.ni _ rfl), (.ni _ rfl), (.ni _ rfl), trivial⟩) trivial
          · replace hF := cond_f hb_10 hF
            conv => whnf
            obtain rfl := Option.some.inj hF
            exact ret_gz [] [] [] rfl (argA (c := [.int .i64 x_0.Kind, .int .i64 (0 : Int), .str x_0.Port, .int .i64 x_0.Number, .str (⟨#[]⟩ : ByteArray), .int .i64 (0 : Int), .str (⟨#[]⟩ : ByteArray), .int .i64 (0 : Int), .str (⟨#[]⟩ : ByteArray), .str (⟨#[]⟩ : ByteArray), .str (⟨#[]⟩ : ByteArray), .int .i64 (0 : Int), .str (⟨#[]⟩ : ByteArray), .int .i64 (0 : Int), .str (⟨#[]⟩ : ByteArray), .str (⟨#[]⟩ : ByteArray), .nils, .int .i64 (0 : Int), .int .i64 (0 : Int), .int .i64 (0 : Int), .int .i64 (0 : Int), .fls, .int .i64 (0 : Int), .int .i64 (0 : Int), .int .i64 (0 : Int), .str (⟨#[]⟩ : ByteArray), .str (⟨#[]⟩ : ByteArray), .int .i64 (0 : Int), .str (⟨#[]⟩ : ByteArray), .nils]) (by (conv => lhs; whnf); all_goals rfl) rfl ⟨(.ni _ rfl), (.ni _ rfl), (.ni _ rfl), (.ni _ rfl), (.ni _ rfl), (.ni _ rfl), (.ni _ rfl), (.ni _ rfl), (.ni _ rfl), (.ni _ rfl), (.ni _ rfl), (.ni _ rfl), (.ni _ rfl), (.ni _ rfl), (.ni _ rfl), (.ni _ rfl), (.nils _), (.ni _ rfl), (.ni _ rfl), (.ni _ rfl), (.ni _ rfl), .fls, (.ni _ rfl), (.ni _ rfl), (.ni _ rfl), (.ni _ rfl), (.ni _ rfl), (.ni _ rfl), (.ni _ rfl), (.nils _), trivial⟩) trivial

set_option maxRecDepth 100000 in
set_option maxHeartbeats 40000000 in
theorem slices_Equal_Leg_ac (x_0 : (List Leg)) (x_1 : (List Leg)) (r : Bool) (hF : slices_Equal_Leg x_0 x_1 = some r) : AC Try.prog 81 [.lst 6 (x_0.map encLeg), .lst 6 (x_1.map encLeg)] [] (.bool r) [] := by
  refine ac_of tab_ok follows_ok Try.func81 rfl Try.ntmps81 rfl ?_
  unfold slices_Equal_Leg at hF
  conv => whnf
  refine len_q (enc := encLeg) (l := x_0) rfl ?_
  conv => whnf
  refine len_q (enc := encLeg) (l := x_1) rfl ?_
  conv => whnf
  refine ⟨fun hb_8 => ?_, fun hb_8 => ?_⟩
  · replace hF := cond_t hb_8 hF
    conv => whnf
    obtain rfl := Option.some.inj hF
    exact ret_gz [] [] [] rfl (argFl (by (conv => lhs; whnf); all_goals rfl)) trivial
  · replace hF := cond_f hb_8 hF
    conv => whnf
    refine len_q (enc := encLeg) (l := x_0) rfl ?_
    conv => whnf
    obtain ⟨c_1, hc_1, hF⟩ := fin_some hF
    refine sw_bv 0 (v := .lst 6 (x_0.map encLeg)) (by (conv => lhs; whnf); all_goals rfl) (fun hb => ?_)
    have hbd_k_2 : x_0.length ≤ 9223372036854775807 := bnd_len (enc := encLeg) (hb)
    refine sw_loop tab_ok follows_ok (fun y : Nat => y ≤ x_0.length ∧ slices_Equal_Leg_L1 x_1 (x_0.drop y) y = some c_1) (fun y => ⟨eL [(0, .lst 6 (x_0.map encLeg)), (1, .lst 6 (x_1.map encLeg)), (12, .int .i64 (x_0.length : Int)), (13, .int .i64 (y : Int))], hL [], 0⟩) (fun y => x_0.length - y) 0 ⟨Nat.zero_le _, hc_1⟩ (wk_mk [] [] [] rfl ⟨argE (by (conv => lhs; whnf); all_goals rfl) rfl, argE (by (conv => lhs; whnf); all_goals rfl) rfl, argE (by (conv => lhs; whnf); all_goals rfl) rfl, argE (by (conv => lhs; whnf); all_goals rfl) rfl, trivial⟩ trivial) ?_
    rintro k_2 ⟨hk_k_2, hL1⟩
    try dsimp only at hk_k_2 hL1
    show awp _ _ _ _ _ _ ⟨eL [(0, .lst 6 (x_0.map encLeg)), (1, .lst 6 (x_1.map encLeg)), (12, .int .i64 (x_0.length : Int)), (13, .int .i64 (k_2 : Int))], hL [], 0⟩
    conv => whnf
    refine ⟨fun h => ?_, fun h => ?_⟩
    · have hlt_k_2 : k_2 < x_0.length := by have h := of_decide_eq_true h; omega
      obtain ⟨e_3, h_e_3⟩ : ∃ y, x_0[k_2]? = some y := ⟨_, List.getElem?_eq_getElem hlt_k_2⟩
      rw [drop_cons h_e_3, slices_Equal_Leg_L1.eq_2] at hL1
      conv => whnf
      refine ⟨k_2, _, rfl, ix_map h_e_3, ?_⟩
      conv => whnf
      obtain ⟨e_4, h_e_4, hL1⟩ := bind_some hL1
      refine ix_q (enc := encLeg) (l := x_1) h_e_4 rfl (fun m_e_4 hm_e_4 hx_e_4 => ?_)
      conv => whnf
      refine ⟨by kernel_rfl, ?_⟩
      conv => whnf
      refine ⟨fun hb_9 => ?_, fun hb_9 => ?_⟩
      · replace hL1 := cond_t hb_9 hL1
        conv => whnf
        obtain rfl := Option.some.inj hL1
        replace hF := fin_ret hF
        obtain rfl := Option.some.inj hF
        exact ret_gz [] [] [] rfl (argFl (by (conv => lhs; whnf); all_goals rfl)) trivial
      · replace hL1 := cond_f hb_9 hL1
        conv => whnf
        refine ⟨((k_2 + 1 : Nat) : Int), wrapE (by omega) (by omega) (by omega), ?_⟩
        conv => whnf
        exact ⟨k_2 + 1, [], [], [], ⟨hlt_k_2, hL1⟩, by show x_0.length - (k_2 + 1) < x_0.length - k_2; omega, wk_mk [] [] [] rfl ⟨argE (by (conv => lhs; whnf); all_goals rfl) rfl, argE (by (conv => lhs; whnf); all_goals rfl) rfl, argE (by (conv => lhs; whnf); all_goals rfl) rfl, argE (by (conv => lhs; whnf); all_goals rfl) rfl, trivial⟩ trivial⟩
    · rw [drop_nil (show x_0.length ≤ k_2 by have h := of_decide_eq_false h; omega), slices_Equal_Leg_L1.eq_1] at hL1
      conv => whnf
      obtain rfl := Option.some.inj hL1
      replace hF := fin_brk hF
      try dsimp only at hF
      obtain rfl := Option.some.inj hF
      exact ret_gz [] [] [] rfl (argT (by (conv => lhs; whnf); all_goals rfl)) trivial

set_option maxRecDepth 100000 in
set_option maxHeartbeats 40000000 in
theorem slices_Equal_int_ac (x_0 : (List Int)) (x_1 : (List Int)) (r : Bool) (hF : slices_Equal_int x_0 x_1 = some r) : AC Try.prog 82 [.lst 1 (x_0.map iA), .lst 1 (x_1.map iA)] [] (.bool r) [] := by
  refine ac_of tab_ok follows_ok Try.func82 rfl Try.ntmps82 rfl ?_
  unfold slices_Equal_int at hF
  conv => whnf
  refine len_q (enc := iA) (l := x_0) rfl ?_
  conv => whnf
  refine len_q (enc := iA) (l := x_1) rfl ?_
  conv => whnf
  refine ⟨fun hb_8 => ?_, fun hb_8 => ?_⟩
  · replace hF := cond_t hb_8 hF
    conv => whnf
    obtain rfl := Option.some.inj hF
    exact ret_gz [] [] [] rfl (argFl (by (conv => lhs; whnf); all_goals rfl)) trivial
  · replace hF := cond_f hb_8 hF
    conv => whnf
    refine len_q (enc := iA) (l := x_0) rfl ?_
    conv => whnf
    obtain ⟨c_1, hc_1, hF⟩ := fin_some hF
    refine sw_bv 0 (v := .lst 1 (x_0.map iA)) (by (conv => lhs; whnf); all_goals rfl) (fun hb => ?_)
    have hbd_k_2 : x_0.length ≤ 9223372036854775807 := bnd_len (enc := iA) (hb)
    refine sw_loop tab_ok follows_ok (fun y : Nat => y ≤ x_0.length ∧ slices_Equal_int_L1 x_1 (x_0.drop y) y = some c_1) (fun y => ⟨eL [(0, .lst 1 (x_0.map iA)), (1, .lst 1 (x_1.map iA)), (12, .int .i64 (x_0.length : Int)), (13, .int .i64 (y : Int))], hL [], 0⟩) (fun y => x_0.length - y) 0 ⟨Nat.zero_le _, hc_1⟩ (wk_mk [] [] [] rfl ⟨argE (by (conv => lhs; whnf); all_goals rfl) rfl, argE (by (conv => lhs; whnf); all_goals rfl) rfl, argE (by (conv => lhs; whnf); all_goals rfl) rfl, argE (by (conv => lhs; whnf); all_goals rfl) rfl, trivial⟩ trivial) ?_
    rintro k_2 ⟨hk_k_2, hL1⟩
    try dsimp only at hk_k_2 hL1
    show awp _ _ _ _ _ _ ⟨eL [(0, .lst 1 (x_0.map iA)), (1, .lst 1 (x_1.map iA)), (12, .int .i64 (x_0.length : Int)), (13, .int .i64 (k_2 : Int))], hL [], 0⟩
    conv => whnf
    refine ⟨fun h => ?_, fun h => ?_⟩
    · have hlt_k_2 : k_2 < x_0.length := by have h := of_decide_eq_true h; omega
      obtain ⟨e_3, h_e_3⟩ : ∃ y, x_0[k_2]? = some y := ⟨_, List.getElem?_eq_getElem hlt_k_2⟩
      rw [drop_cons h_e_3, slices_Equal_int_L1.eq_2] at hL1
      conv => whnf
      refine ⟨k_2, _, rfl, ix_map h_e_3, ?_⟩
      conv => whnf
      obtain ⟨e_4, h_e_4, hL1⟩ := bind_some hL1
      refine ix_q (enc := iA) (l := x_1) h_e_4 rfl (fun m_e_4 hm_e_4 hx_e_4 => ?_)
      conv => whnf
      refine ⟨by kernel_rfl, ?_⟩
      conv => whnf
      refine ⟨fun hb_9 => ?_, fun hb_9 => ?_⟩
      · replace hL1 := cond_t hb_9 hL1
        conv => whnf
        obtain rfl := Option.some.inj hL1
        replace hF := fin_ret hF
        obtain rfl := Option.some.inj hF
        exact ret_gz [] [] [] rfl (argFl (by (conv => lhs; whnf); all_goals rfl)) trivial
      · replace hL1 := cond_f hb_9 hL1
        conv => whnf
        refine ⟨((k_2 + 1 : Nat) : Int), wrapE (by omega) (by omega) (by omega), ?_⟩
        conv => whnf
        exact ⟨k_2 + 1, [], [], [], ⟨hlt_k_2, hL1⟩, by show x_0.length - (k_2 + 1) < x_0.length - k_2; omega, wk_mk [] [] [] rfl ⟨argE (by (conv => lhs; whnf); all_goals rfl) rfl, argE (by (conv => lhs; whnf); all_goals rfl) rfl, argE (by (conv => lhs; whnf); all_goals rfl) rfl, argE (by (conv => lhs; whnf); all_goals rfl) rfl, trivial⟩ trivial⟩
    · rw [drop_nil (show x_0.length ≤ k_2 by have h := of_decide_eq_false h; omega), slices_Equal_int_L1.eq_1] at hL1
      conv => whnf
      obtain rfl := Option.some.inj hL1
      replace hF := fin_brk hF
      try dsimp only at hF
      obtain rfl := Option.some.inj hF
      exact ret_gz [] [] [] rfl (argT (by (conv => lhs; whnf); all_goals rfl)) trivial

set_option maxRecDepth 100000 in
set_option maxHeartbeats 40000000 in
theorem message_Same_ac (x_0 : Message) (x_1 : Message) (r : Bool) (hF : message_Same x_0 x_1 = some r) : AC Try.prog 65 [.agg (encMessage x_0), .agg (encMessage x_1)] [] (.bool r) [] := by
  refine ac_of tab_ok follows_ok Try.func65 rfl Try.ntmps65 rfl ?_
  unfold message_Same at hF
  conv => whnf
  refine ⟨fun hb_18 => ?_, fun hb_18 => ?_⟩
  · replace hF := cond_t hb_18 hF
    conv => whnf
    refine ⟨fun hb_19 => ?_, fun hb_19 => ?_⟩
    · replace hF := cond_t hb_19 hF
      conv => whnf
      refine ⟨fun hb_20 => ?_, fun hb_20 => ?_⟩
      · replace hF := cond_t hb_20 hF
        conv => whnf
        refine ⟨fun hb_21 => ?_, fun hb_21 => ?_⟩
        · replace hF := cond_t hb_21 hF
          conv => whnf
          refine ⟨fun hb_22 => ?_, fun hb_22 => ?_⟩
          · replace hF := cond_t hb_22 hF
            conv => whnf
            refine ⟨fun hb_23 => ?_, fun hb_23 => ?_⟩
            · replace hF := cond_t hb_23 hF
              conv => whnf
              obtain ⟨r_1, h_r_1, hF⟩ := bind_some hF
              refine ⟨_, _, _, _, _, _, _, _, callX false [] [] Try.func81 (by decide) rfl (slices_Equal_Leg_ac x_0.Onward x_1.Onward r_1 h_r_1) rfl ⟨(argE (by (conv => lhs; whnf); all_goals rfl) rfl), (argE (by (conv => lhs; whnf); all_goals rfl) rfl), trivial⟩ rfl trivial rfl rfl rfl lend0 trivial, ?_⟩
              conv => whnf
              refine ⟨fun hb_24 => ?_, fun hb_24 => ?_⟩
              · replace hF := cond_t hb_24 hF
                conv => whnf
                refine ⟨fun hb_25 => ?_, fun hb_25 => ?_⟩
                · replace hF := cond_t hb_25 hF
                  conv => whnf
                  refine ⟨fun hb_26 => ?_, fun hb_26 => ?_⟩
                  · replace hF := cond_t hb_26 hF
                    conv => whnf
                    refine ⟨fun hb_27 => ?_, fun hb_27 => ?_⟩
                    · replace hF := cond_t hb_27 hF
                      conv => whnf
                      refine ⟨fun hb_28 => ?_, fun hb_28 => ?_⟩
                      · replace hF := cond_t hb_28 hF
                        conv => whnf
                        refine ⟨fun hb_29 => ?_, fun hb_29 => ?_⟩
                        · replace hF := cond_t hb_29 hF
                          conv => whnf
                          refine ⟨fun hb_30 => ?_, fun hb_30 => ?_⟩
                          · replace hF := cond_t hb_30 hF
                            conv => whnf
                            refine ⟨fun hb_31 => ?_, fun hb_31 => ?_⟩
                            · replace hF := cond_t hb_31 hF
                              conv => whnf
                              refine ⟨fun hb_32 => ?_, fun hb_32 => ?_⟩
                              · replace hF := cond_t hb_32 hF
                                conv => whnf
                                refine ⟨fun hb_33 => ?_, fun hb_33 => ?_⟩
                                · replace hF := cond_t hb_33 hF
                                  conv => whnf
                                  refine ⟨fun hb_34 => ?_, fun hb_34 => ?_⟩
                                  · replace hF := cond_t hb_34 hF
                                    conv => whnf
                                    obtain ⟨r_2, h_r_2, hF⟩ := bind_some hF
                                    refine ⟨_, _, _, _, _, _, _, _, callX false [] [] Try.func82 (by decide) rfl (slices_Equal_int_ac x_0.List x_1.List r_2 h_r_2) rfl ⟨(argE (by (conv => lhs; whnf); all_goals rfl) rfl), (argE (by (conv => lhs; whnf); all_goals rfl) rfl), trivial⟩ rfl trivial rfl rfl rfl lend0 trivial, ?_⟩
                                    conv => whnf
                                    obtain rfl := Option.some.inj hF
                                    exact ret_gz [] [] [] rfl (argE (by (conv => lhs; whnf); all_goals rfl) rfl) trivial
                                  · replace hF := cond_f hb_34 hF
                                    conv => whnf
                                    obtain rfl := Option.some.inj hF
                                    exact ret_gz [] [] [] rfl (argFl (by (conv => lhs; whnf); all_goals rfl)) trivial
                                · replace hF := cond_f hb_33 hF
                                  conv => whnf
                                  obtain rfl := Option.some.inj hF
                                  exact ret_gz [] [] [] rfl (argFl (by (conv => lhs; whnf); all_goals rfl)) trivial
                              · replace hF := cond_f hb_32 hF
                                conv => whnf
                                obtain rfl := Option.some.inj hF
                                exact ret_gz [] [] [] rfl (argFl (by (conv => lhs; whnf); all_goals rfl)) trivial
                            · replace hF := cond_f hb_31 hF
                              conv => whnf
                              obtain rfl := Option.some.inj hF
                              exact ret_gz [] [] [] rfl (argFl (by (conv => lhs; whnf); all_goals rfl)) trivial
                          · replace hF := cond_f hb_30 hF
                            conv => whnf
                            obtain rfl := Option.some.inj hF
                            exact ret_gz [] [] [] rfl (argFl (by (conv => lhs; whnf); all_goals rfl)) trivial
                        · replace hF := cond_f hb_29 hF
                          conv => whnf
                          obtain rfl := Option.some.inj hF
                          exact ret_gz [] [] [] rfl (argFl (by (conv => lhs; whnf); all_goals rfl)) trivial
                      · replace hF := cond_f hb_28 hF
                        conv => whnf
                        obtain rfl := Option.some.inj hF
                        exact ret_gz [] [] [] rfl (argFl (by (conv => lhs; whnf); all_goals rfl)) trivial
                    · replace hF := cond_f hb_27 hF
                      conv => whnf
                      obtain rfl := Option.some.inj hF
                      exact ret_gz [] [] [] rfl (argFl (by (conv => lhs; whnf); all_goals rfl)) trivial
                  · replace hF := cond_f hb_26 hF
                    conv => whnf
                    obtain rfl := Option.some.inj hF
                    exact ret_gz [] [] [] rfl (argFl (by (conv => lhs; whnf); all_goals rfl)) trivial
                · replace hF := cond_f hb_25 hF
                  conv => whnf
                  obtain rfl := Option.some.inj hF
                  exact ret_gz [] [] [] rfl (argFl (by (conv => lhs; whnf); all_goals rfl)) trivial
              · replace hF := cond_f hb_24 hF
                conv => whnf
                obtain rfl := Option.some.inj hF
                exact ret_gz [] [] [] rfl (argFl (by (conv => lhs; whnf); all_goals rfl)) trivial
            · replace hF := cond_f hb_23 hF
              conv => whnf
              obtain rfl := Option.some.inj hF
              exact ret_gz [] [] [] rfl (argFl (by (conv => lhs; whnf); all_goals rfl)) trivial
          · replace hF := cond_f hb_22 hF
            conv => whnf
            obtain rfl := Option.some.inj hF
            exact ret_gz [] [] [] rfl (argFl (by (conv => lhs; whnf); all_goals rfl)) trivial
        · replace hF := cond_f hb_21 hF
          conv => whnf
          obtain rfl := Option.some.inj hF
          exact ret_gz [] [] [] rfl (argFl (by (conv => lhs; whnf); all_goals rfl)) trivial
      · replace hF := cond_f hb_20 hF
        conv => whnf
        obtain rfl := Option.some.inj hF
        exact ret_gz [] [] [] rfl (argFl (by (conv => lhs; whnf); all_goals rfl)) trivial
    · replace hF := cond_f hb_19 hF
      conv => whnf
      obtain rfl := Option.some.inj hF
      exact ret_gz [] [] [] rfl (argFl (by (conv => lhs; whnf); all_goals rfl)) trivial
  · replace hF := cond_f hb_18 hF
    conv => whnf
    obtain rfl := Option.some.inj hF
    exact ret_gz [] [] [] rfl (argFl (by (conv => lhs; whnf); all_goals rfl)) trivial

set_option maxRecDepth 100000 in
set_option maxHeartbeats 40000000 in
theorem fields_Letter_ac (x_0 : Int) (r : Bool) (hF : fields_Letter x_0 = some r) : AC Try.prog 99 [.int .u8 x_0] [] (.bool r) [] := by
  refine ac_of tab_ok follows_ok Try.func99 rfl Try.ntmps99 rfl ?_
  unfold fields_Letter at hF
  conv => whnf
  refine ⟨fun hb_2 => ?_, fun hb_2 => ?_⟩
  · replace hF := cond_t hb_2 hF
    conv => whnf
    obtain rfl := Option.some.inj hF
    exact ret_gz [] [] [] rfl (argE (by (conv => lhs; whnf); all_goals rfl) rfl) trivial
  · replace hF := cond_f hb_2 hF
    conv => whnf
    obtain rfl := Option.some.inj hF
    exact ret_gz [] [] [] rfl (argFl (by (conv => lhs; whnf); all_goals rfl)) trivial

set_option maxRecDepth 100000 in
set_option maxHeartbeats 40000000 in
theorem fields_All_ac (x_0 : ByteArray) (r : Bool) (hF : fields_All x_0 = some r) : AC Try.prog 98 [.str x_0, .fn 99 []] [] (.bool r) [] := by
  refine ac_of tab_ok follows_ok Try.func98 rfl Try.ntmps98 rfl ?_
  unfold fields_All at hF
  conv => whnf
  obtain ⟨c_1, hc_1, hF⟩ := fin_some hF
  refine sw_loop tab_ok follows_ok (fun y : Nat × Int => fields_All_L1 x_0 y.1 y.2 = some c_1) (fun y => ⟨eL [(0, .str x_0), (1, .fn 99 []), (7, .int .i64 (x_0.size : Int)), (8, .int .i64 y.2)], hL [], 0⟩) (fun y => y.1) (9223372036854775807, (0 : Int)) hc_1 (wk_mk [] [] [] rfl ⟨argE (by (conv => lhs; whnf); all_goals rfl) rfl, argE (by (conv => lhs; whnf); all_goals rfl) rfl, argE (by (conv => lhs; whnf); all_goals rfl) rfl, argE (by (conv => lhs; whnf); all_goals rfl) rfl, trivial⟩ trivial) ?_
  rintro ⟨q_4, i_1⟩ hL1
  try dsimp only at hL1
  rcases q_4 with _ | q_4
  · rw [fields_All_L1.eq_1] at hL1
    cases hL1
  rw [fields_All_L1.eq_2] at hL1
  show awp _ _ _ _ _ _ ⟨eL [(0, .str x_0), (1, .fn 99 []), (7, .int .i64 (x_0.size : Int)), (8, .int .i64 i_1)], hL [], 0⟩
  conv => whnf
  refine ⟨fun hb_9 => ?_, fun hb_9 => ?_⟩
  · replace hL1 := cond_t hb_9 hL1
    conv => whnf
    obtain ⟨b_2, h_b_2, hL1⟩ := bind_some hL1
    refine ixs_q h_b_2 (fun m_b_2 u_b_2 hm_b_2 hb_b_2 hz_b_2 => ?_)
    subst hz_b_2
    conv => whnf
    obtain ⟨r_3, h_r_3, hL1⟩ := bind_some hL1
    refine ⟨_, _, _, _, _, _, _, _, callX false [] [] Try.func99 (by decide) rfl (fields_Letter_ac ((u_b_2.toNat : Nat) : Int) r_3 h_r_3) rfl ⟨(argE (by (conv => lhs; whnf); all_goals rfl) rfl), trivial⟩ rfl trivial rfl rfl rfl lend0 trivial, ?_⟩
    conv => whnf
    refine ⟨fun hb_10 => ?_, fun hb_10 => ?_⟩
    · replace hL1 := cond_t hb_10 hL1
      conv => whnf
      obtain rfl := Option.some.inj hL1
      replace hF := fin_ret hF
      obtain rfl := Option.some.inj hF
      exact ret_gz [] [] [] rfl (argFl (by (conv => lhs; whnf); all_goals rfl)) trivial
    · replace hL1 := cond_f hb_10 hL1
      conv => whnf
      refine ⟨_, rfl, ?_⟩
      conv => whnf
      exact ⟨(q_4, (w64 (i_1 + (1 : Int)))), [], [], [], hL1, Nat.lt_succ_self _, wk_mk [] [] [] rfl ⟨argE (by (conv => lhs; whnf); all_goals rfl) rfl, argE (by (conv => lhs; whnf); all_goals rfl) rfl, argE (by (conv => lhs; whnf); all_goals rfl) rfl, argE (by (conv => lhs; whnf); all_goals rfl) rfl, trivial⟩ trivial⟩
  · replace hL1 := cond_f hb_9 hL1
    conv => whnf
    obtain rfl := Option.some.inj hL1
    replace hF := fin_brk hF
    try dsimp only at hF
    obtain rfl := Option.some.inj hF
    exact ret_gz [] [] [] rfl (argT (by (conv => lhs; whnf); all_goals rfl)) trivial

set_option maxRecDepth 100000 in
set_option maxHeartbeats 40000000 in
theorem fields_Letters_ac (x_0 : ByteArray) (x_1 : Int) (x_2 : Int) (r : Bool) (hF : fields_Letters x_0 x_1 x_2 = some r) : AC Try.prog 86 [.str x_0, .int .i64 x_1, .int .i64 x_2] [] (.bool r) [] := by
  refine ac_of tab_ok follows_ok Try.func86 rfl Try.ntmps86 rfl ?_
  unfold fields_Letters at hF
  conv => whnf
  refine ⟨fun hb_3 => ?_, fun hb_3 => ?_⟩
  · replace hF := cond_t hb_3 hF
    conv => whnf
    refine ⟨fun hb_4 => ?_, fun hb_4 => ?_⟩
    · replace hF := cond_t hb_4 hF
      conv => whnf
      obtain ⟨r_1, h_r_1, hF⟩ := bind_some hF
      refine ⟨_, _, _, _, _, _, _, _, callX false [] [] Try.func98 (by decide) rfl (fields_All_ac x_0 r_1 h_r_1) rfl ⟨(argE (by (conv => lhs; whnf); all_goals rfl) rfl), (argE (by (conv => lhs; whnf); all_goals rfl) rfl), trivial⟩ rfl trivial rfl rfl rfl lend0 trivial, ?_⟩
      conv => whnf
      obtain rfl := Option.some.inj hF
      exact ret_gz [] [] [] rfl (argE (by (conv => lhs; whnf); all_goals rfl) rfl) trivial
    · replace hF := cond_f hb_4 hF
      conv => whnf
      obtain rfl := Option.some.inj hF
      exact ret_gz [] [] [] rfl (argFl (by (conv => lhs; whnf); all_goals rfl)) trivial
  · replace hF := cond_f hb_3 hF
    conv => whnf
    obtain rfl := Option.some.inj hF
    exact ret_gz [] [] [] rfl (argFl (by (conv => lhs; whnf); all_goals rfl)) trivial

set_option maxRecDepth 100000 in
set_option maxHeartbeats 40000000 in
theorem flight_ValidPort_ac (x_0 : ByteArray) (r : Bool) (hF : flight_ValidPort x_0 = some r) : AC Try.prog 83 [.str x_0] [] (.bool r) [] := by
  refine ac_of tab_ok follows_ok Try.func83 rfl Try.ntmps83 rfl ?_
  unfold flight_ValidPort at hF
  conv => whnf
  obtain ⟨r_1, h_r_1, hF⟩ := bind_some hF
  refine ⟨_, _, _, _, _, _, _, _, callX false [] [] Try.func86 (by decide) rfl (fields_Letters_ac x_0 (3 : Int) (3 : Int) r_1 h_r_1) rfl ⟨(argE (by (conv => lhs; whnf); all_goals rfl) rfl), (argE (by (conv => lhs; whnf); all_goals rfl) rfl), (argE (by (conv => lhs; whnf); all_goals rfl) rfl), trivial⟩ rfl trivial rfl rfl rfl lend0 trivial, ?_⟩
  conv => whnf
  obtain rfl := Option.some.inj hF
  exact ret_gz [] [] [] rfl (argE (by (conv => lhs; whnf); all_goals rfl) rfl) trivial
end Go.Proofs.Ytkliakcegihikaa.Ex
