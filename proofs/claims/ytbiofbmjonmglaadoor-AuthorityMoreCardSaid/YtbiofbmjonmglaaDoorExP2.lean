/- The functions of the program compute what was printed; walks printed by a program. -/
import Derived.Test.YtbiofbmjonmglaaDoorExF
import Derived.Test.YtbiofbmjonmglaaDoorUni
import Derived.Test.YtbiofbmjonmglaaDoorExP1
namespace Go.Proofs.YtbiofbmjonmglaaDoor.Ex
open Go.RowKit Go.Proofs.YtbiofbmjonmglaaDoor.Ax
set_option linter.unusedVariables false
set_option linter.unusedSimpArgs false
set_option maxRecDepth 100000 in
set_option maxHeartbeats 40000000 in
theorem cmp_Or_int_ac (x_0 : (List Int)) (r : Int) (hF : cmp_Or_int x_0 = some r) : AC Tryd.prog 74 [.lst 1 (x_0.map iA)] [] (.int .i64 r) [] := by
  refine ac_of tab_ok follows_ok Tryd.func74 rfl Tryd.ntmps74 rfl ?_
  unfold cmp_Or_int at hF
  conv => whnf
  refine len_q (enc := iA) (l := x_0) rfl ?_
  conv => whnf
  obtain ⟨c_1, hc_1, hF⟩ := fin_some hF
  refine sw_bv 0 (v := .lst 1 (x_0.map iA)) (by (conv => lhs; whnf); all_goals rfl) (fun hb => ?_)
  have hbd_k_2 : x_0.length ≤ 9223372036854775807 := bnd_len (enc := iA) (hb)
  refine sw_loop tab_ok follows_ok (fun y : Nat => y ≤ x_0.length ∧ cmp_Or_int_L1 (x_0.drop y) y = some c_1) (fun y => ⟨eL [(3, .int .i64 (0 : Int)), (6, .lst 1 (x_0.map iA)), (7, .int .i64 (x_0.length : Int)), (8, .int .i64 (y : Int))], hL [], 0⟩) (fun y => x_0.length - y) 0 ⟨Nat.zero_le _, hc_1⟩ (wk_mk [] [] [] rfl ⟨argE (by (conv => lhs; whnf); all_goals rfl) rfl, argE (by (conv => lhs; whnf); all_goals rfl) rfl, argE (by (conv => lhs; whnf); all_goals rfl) rfl, argE (by (conv => lhs; whnf); all_goals rfl) rfl, trivial⟩ trivial) ?_
  rintro k_2 ⟨hk_k_2, hL1⟩
  try dsimp only at hk_k_2 hL1
  show awp _ _ _ _ _ _ ⟨eL [(3, .int .i64 (0 : Int)), (6, .lst 1 (x_0.map iA)), (7, .int .i64 (x_0.length : Int)), (8, .int .i64 (k_2 : Int))], hL [], 0⟩
  conv => whnf
  refine ⟨fun h => ?_, fun h => ?_⟩
  · have hlt_k_2 : k_2 < x_0.length := by have h := of_decide_eq_true h; omega
    obtain ⟨e_3, h_e_3⟩ : ∃ y, x_0[k_2]? = some y := ⟨_, List.getElem?_eq_getElem hlt_k_2⟩
    rw [drop_cons h_e_3, cmp_Or_int_L1.eq_2] at hL1
    conv => whnf
    refine ⟨k_2, _, rfl, ix_map h_e_3, ?_⟩
    conv => whnf
    refine ⟨fun hb_7 => ?_, fun hb_7 => ?_⟩
    · replace hL1 := cond_t hb_7 hL1
      conv => whnf
      obtain rfl := Option.some.inj hL1
      replace hF := fin_ret hF
      obtain rfl := Option.some.inj hF
      exact ret_gz [] [] [] rfl (argE (by (conv => lhs; whnf); all_goals rfl) rfl) trivial
    · replace hL1 := cond_f hb_7 hL1
      conv => whnf
      refine ⟨((k_2 + 1 : Nat) : Int), wrapE (by omega) (by omega) (by omega), ?_⟩
      conv => whnf
      exact ⟨k_2 + 1, [], [], [], ⟨hlt_k_2, hL1⟩, by show x_0.length - (k_2 + 1) < x_0.length - k_2; omega, wk_mk [] [] [] rfl ⟨argE (by (conv => lhs; whnf); all_goals rfl) rfl, argE (by (conv => lhs; whnf); all_goals rfl) rfl, argE (by (conv => lhs; whnf); all_goals rfl) rfl, argE (by (conv => lhs; whnf); all_goals rfl) rfl, trivial⟩ trivial⟩
  · rw [drop_nil (show x_0.length ≤ k_2 by have h := of_decide_eq_false h; omega), cmp_Or_int_L1.eq_1] at hL1
    conv => whnf
    obtain rfl := Option.some.inj hL1
    replace hF := fin_brk hF
    try dsimp only at hF
    obtain rfl := Option.some.inj hF
    exact ret_gz [] [] [] rfl (argE (by (conv => lhs; whnf); all_goals rfl) rfl) trivial

set_option maxRecDepth 100000 in
set_option maxHeartbeats 40000000 in
theorem flight_Compare_ac (x_0 : Flight) (x_1 : Flight) (r : Int) (hF : flight_Compare x_0 x_1 = some r) : AC Tryd.prog 58 [.agg (encFlight x_0), .agg (encFlight x_1)] [] (.int .i64 r) [] := by
  refine ac_of tab_ok follows_ok Tryd.func58 rfl Tryd.ntmps58 rfl ?_
  unfold flight_Compare at hF
  conv => whnf
  obtain ⟨r_1, h_r_1, hF⟩ := bind_some hF
  refine ⟨_, _, _, _, _, _, _, _, _, callX false [] [] 0 Tryd.func75 (by decide) rfl (cmp_Compare_string_ac x_0.Carrier x_1.Carrier r_1 h_r_1) rfl ⟨(argE (by (conv => lhs; whnf); all_goals rfl) rfl), (argE (by (conv => lhs; whnf); all_goals rfl) rfl), trivial⟩ rfl trivial rfl rfl rfl lend0 trivial rfl, ?_⟩
  conv => whnf
  obtain ⟨r_2, h_r_2, hF⟩ := bind_some hF
  refine ⟨_, _, _, _, _, _, _, _, _, callX false [] [] 0 Tryd.func76 (by decide) rfl (cmp_Compare_int_ac x_0.Number x_1.Number r_2 h_r_2) rfl ⟨(argE (by (conv => lhs; whnf); all_goals rfl) rfl), (argE (by (conv => lhs; whnf); all_goals rfl) rfl), trivial⟩ rfl trivial rfl rfl rfl lend0 trivial rfl, ?_⟩
  conv => whnf
  obtain ⟨r_3, h_r_3, hF⟩ := bind_some hF
  refine ⟨_, _, _, _, _, _, _, _, _, callX false [] [] 0 Tryd.func75 (by decide) rfl (cmp_Compare_string_ac x_0.Suffix x_1.Suffix r_3 h_r_3) rfl ⟨(argE (by (conv => lhs; whnf); all_goals rfl) rfl), (argE (by (conv => lhs; whnf); all_goals rfl) rfl), trivial⟩ rfl trivial rfl rfl rfl lend0 trivial rfl, ?_⟩
  conv => whnf
  obtain ⟨r_4, h_r_4, hF⟩ := bind_some hF
  refine ⟨_, _, _, _, _, _, _, _, _, callX false [] [] 0 Tryd.func76 (by decide) rfl (cmp_Compare_int_ac x_0.Day x_1.Day r_4 h_r_4) rfl ⟨(argE (by (conv => lhs; whnf); all_goals rfl) rfl), (argE (by (conv => lhs; whnf); all_goals rfl) rfl), trivial⟩ rfl trivial rfl rfl rfl lend0 trivial rfl, ?_⟩
  conv => whnf
  obtain ⟨r_5, h_r_5, hF⟩ := bind_some hF
  refine ⟨_, _, _, _, _, _, _, _, _, callX false [] [6] 0 Tryd.func74 (by decide) rfl (cmp_Or_int_ac ([r_1, r_2, r_3, r_4] : List Int) r_5 h_r_5) rfl ⟨(argOL 6 (by (conv => lhs; whnf); all_goals rfl) rfl rfl (map_ni (fun _ => ⟨rfl, rfl⟩) _)), trivial⟩ rfl trivial rfl rfl rfl (lendF rfl) trivial rfl, ?_⟩
  conv => whnf
  refine ⟨by kernel_rfl, ?_⟩
  conv => whnf
  obtain rfl := Option.some.inj hF
  exact ret_gz [] [] [] rfl (argE (by (conv => lhs; whnf); all_goals rfl) rfl) trivial

set_option maxRecDepth 100000 in
set_option maxHeartbeats 40000000 in
theorem boarding_Validate_ac (x_0 : (List Manifest)) (r : Int) (hF : boarding_Validate x_0 = some r) : AC Tryd.prog 45 [.lst 7 (x_0.map encManifest)] [] (.int .i64 r) [] := by
  refine ac_of tab_ok follows_ok Tryd.func45 rfl Tryd.ntmps45 rfl ?_
  unfold boarding_Validate at hF
  conv => whnf
  refine len_q (enc := encManifest) (l := x_0) rfl ?_
  conv => whnf
  refine ⟨fun hb_14 => ?_, fun hb_14 => ?_⟩
  · replace hF := cond_t hb_14 hF
    conv => whnf
    obtain rfl := Option.some.inj hF
    exact ret_gz [] [] [] rfl (argE (by (conv => lhs; whnf); all_goals rfl) rfl) trivial
  · replace hF := cond_f hb_14 hF
    conv => whnf
    refine len_q (enc := encManifest) (l := x_0) rfl ?_
    conv => whnf
    obtain ⟨c_1, hc_1, hF⟩ := fin_some hF
    refine sw_bv 0 (v := .lst 7 (x_0.map encManifest)) (by (conv => lhs; whnf); all_goals rfl) (fun hb => ?_)
    have hbd_k_2 : x_0.length ≤ 9223372036854775807 := bnd_len (enc := encManifest) (hb)
    refine sw_loop tab_ok follows_ok (fun y : Nat => y ≤ x_0.length ∧ boarding_Validate_L1 x_0 (x_0.drop y) y = some c_1) (fun y => ⟨eL [(0, .lst 7 (x_0.map encManifest)), (8, .lst 7 (x_0.map encManifest)), (9, .int .i64 (x_0.length : Int)), (10, .int .i64 (y : Int))], hL [], 0⟩) (fun y => x_0.length - y) 0 ⟨Nat.zero_le _, hc_1⟩ (wk_mk [] [] [] rfl ⟨argE (by (conv => lhs; whnf); all_goals rfl) rfl, argE (by (conv => lhs; whnf); all_goals rfl) rfl, argE (by (conv => lhs; whnf); all_goals rfl) rfl, argE (by (conv => lhs; whnf); all_goals rfl) rfl, trivial⟩ trivial) ?_
    rintro k_2 ⟨hk_k_2, hL1⟩
    try dsimp only at hk_k_2 hL1
    show awp _ _ _ _ _ _ ⟨eL [(0, .lst 7 (x_0.map encManifest)), (8, .lst 7 (x_0.map encManifest)), (9, .int .i64 (x_0.length : Int)), (10, .int .i64 (k_2 : Int))], hL [], 0⟩
    conv => whnf
    refine ⟨fun h => ?_, fun h => ?_⟩
    · have hlt_k_2 : k_2 < x_0.length := by have h := of_decide_eq_true h; omega
      obtain ⟨e_3, h_e_3⟩ : ∃ y, x_0[k_2]? = some y := ⟨_, List.getElem?_eq_getElem hlt_k_2⟩
      rw [drop_cons h_e_3, boarding_Validate_L1.eq_2] at hL1
      conv => whnf
      refine ⟨k_2, _, rfl, ix_map h_e_3, ?_⟩
      conv => whnf
      obtain ⟨r_4, h_r_4, hL1⟩ := bind_some hL1
      refine ⟨_, _, _, _, _, _, _, _, _, callX false [] [] 0 Tryd.func57 (by decide) rfl (boarding_valid_ac e_3 r_4 h_r_4) rfl ⟨(argE (by (conv => lhs; whnf); all_goals rfl) rfl), trivial⟩ rfl trivial rfl rfl rfl lend0 trivial rfl, ?_⟩
      conv => whnf
      refine ⟨fun hb_15 => ?_, fun hb_15 => ?_⟩
      · replace hL1 := cond_t hb_15 hL1
        conv => whnf
        obtain rfl := Option.some.inj hL1
        replace hF := fin_ret hF
        obtain rfl := Option.some.inj hF
        exact ret_gz [] [] [] rfl (argE (by (conv => lhs; whnf); all_goals rfl) rfl) trivial
      · replace hL1 := cond_f hb_15 hL1
        conv => whnf
        refine ⟨fun hb_16 => ?_, fun hb_16 => ?_⟩
        · replace hL1 := cond_t hb_16 hL1
          conv => whnf
          refine ⟨_, rfl, ?_⟩
          conv => whnf
          obtain ⟨e_5, h_e_5, hL1⟩ := bind_some hL1
          refine ix_q (enc := encManifest) (l := x_0) h_e_5 rfl (fun m_e_5 hm_e_5 hx_e_5 => ?_)
          conv => whnf
          obtain ⟨r_6, h_r_6, hL1⟩ := bind_some hL1
          refine ⟨_, _, _, _, _, _, _, _, _, callX false [] [] 0 Tryd.func58 (by decide) rfl (flight_Compare_ac e_5.Flight e_3.Flight r_6 h_r_6) rfl ⟨(argE (by (conv => lhs; whnf); all_goals rfl) rfl), (argE (by (conv => lhs; whnf); all_goals rfl) rfl), trivial⟩ rfl trivial rfl rfl rfl lend0 trivial rfl, ?_⟩
          conv => whnf
          refine ⟨by kernel_rfl, ?_⟩
          conv => whnf
          refine ⟨fun hb_17 => ?_, fun hb_17 => ?_⟩
          · replace hL1 := cond_t hb_17 hL1
            conv => whnf
            obtain rfl := Option.some.inj hL1
            replace hF := fin_ret hF
            obtain rfl := Option.some.inj hF
            exact ret_gz [] [] [] rfl (argE (by (conv => lhs; whnf); all_goals rfl) rfl) trivial
          · replace hL1 := cond_f hb_17 hL1
            conv => whnf
            refine ⟨((k_2 + 1 : Nat) : Int), wrapE (by omega) (by omega) (by omega), ?_⟩
            conv => whnf
            exact ⟨k_2 + 1, [], [], [], ⟨hlt_k_2, hL1⟩, by show x_0.length - (k_2 + 1) < x_0.length - k_2; omega, wk_mk [] [] [] rfl ⟨argE (by (conv => lhs; whnf); all_goals rfl) rfl, argE (by (conv => lhs; whnf); all_goals rfl) rfl, argE (by (conv => lhs; whnf); all_goals rfl) rfl, argE (by (conv => lhs; whnf); all_goals rfl) rfl, trivial⟩ trivial⟩
        · replace hL1 := cond_f hb_16 hL1
          conv => whnf
          refine ⟨by kernel_rfl, ?_⟩
          conv => whnf
          refine ⟨((k_2 + 1 : Nat) : Int), wrapE (by omega) (by omega) (by omega), ?_⟩
          conv => whnf
          exact ⟨k_2 + 1, [], [], [], ⟨hlt_k_2, hL1⟩, by show x_0.length - (k_2 + 1) < x_0.length - k_2; omega, wk_mk [] [] [] rfl ⟨argE (by (conv => lhs; whnf); all_goals rfl) rfl, argE (by (conv => lhs; whnf); all_goals rfl) rfl, argE (by (conv => lhs; whnf); all_goals rfl) rfl, argE (by (conv => lhs; whnf); all_goals rfl) rfl, trivial⟩ trivial⟩
    · rw [drop_nil (show x_0.length ≤ k_2 by have h := of_decide_eq_false h; omega), boarding_Validate_L1.eq_1] at hL1
      conv => whnf
      obtain rfl := Option.some.inj hL1
      replace hF := fin_brk hF
      try dsimp only at hF
      obtain rfl := Option.some.inj hF
      exact ret_gz [] [] [] rfl (argE (by (conv => lhs; whnf); all_goals rfl) rfl) trivial

set_option maxRecDepth 100000 in
set_option maxHeartbeats 40000000 in
theorem message_in_ac (x_0 : Int) (x_1 : Int) (x_2 : Int) (r : Bool) (hF : message_in x_0 x_1 x_2 = some r) : AC Tryd.prog 59 [.int .i64 x_0, .int .i64 x_1, .int .i64 x_2] [] (.bool r) [] := by
  refine ac_of tab_ok follows_ok Tryd.func59 rfl Tryd.ntmps59 rfl ?_
  unfold message_in at hF
  conv => whnf
  refine ⟨fun hb_2 => ?_, fun hb_2 => ?_⟩
  · replace hF := cond_t hb_2 hF
    conv => whnf
    obtain rfl := Option.some.inj hF
    exact ret_gz [] [] [] rfl (argE (by (conv => lhs; whnf); all_goals rfl) rfl) trivial
  · replace hF := cond_f hb_2 hF
    conv => whnf
    obtain rfl := Option.some.inj hF
    exact ret_gz [] [] [] rfl (argFl (by (conv => lhs; whnf); all_goals rfl)) trivial

set_option maxRecDepth 100000 in
set_option maxHeartbeats 40000000 in
theorem message_own_ac (x_0 : Message) (r : Message) (hF : message_own x_0 = some r) : AC Tryd.prog 61 [.agg (encMessage x_0)] [] (.agg (encMessage r)) [] := by
  refine ac_of tab_ok follows_ok Tryd.func61 rfl Tryd.ntmps61 rfl ?_
  unfold message_own at hF
  conv => whnf
  refine ⟨fun hb_6 => ?_, fun hb_6 => ?_⟩
  · replace hF := cond_t hb_6 hF
    conv => whnf
    refine ⟨fun h => ?_, fun h => ?_⟩
    · conv => whnf
      refine ⟨fun h => ?_, fun h => ?_⟩
      · conv => whnf
        obtain rfl := Option.some.inj hF
        exact ret_gz [] [] [] rfl (argA (c := [.int .i64 x_0.Kind, .int .i64 x_0.Do, .str x_0.Port, .int .i64 x_0.Number, .str (⟨#[]⟩ : ByteArray), .int .i64 (0 : Int), .str (⟨#[]⟩ : ByteArray), .int .i64 (0 : Int), .str (⟨#[]⟩ : ByteArray), .str (⟨#[]⟩ : ByteArray), .str x_0.Out.Flight.Carrier, .int .i64 x_0.Out.Flight.Number, .str x_0.Out.Flight.Suffix, .int .i64 x_0.Out.Flight.Day, .str x_0.Out.Port, .str x_0.Out.Class, .lst 6 (x_0.Onward.map encLeg), .int .i64 x_0.First.Lead, .int .i64 x_0.First.Airline, .int .i64 x_0.First.Serial, .int .i64 x_0.Count, .bool x_0.Load, .int .i64 x_0.Status, .int .i64 x_0.Sequence, .int .i64 x_0.Weight, .str x_0.Surname, .str x_0.Given, .int .i64 x_0.Exception, .str (⟨#[]⟩ : ByteArray), .nils]) (by (conv => lhs; whnf); all_goals rfl) rfl ⟨(.ni _ rfl), (.ni _ rfl), (.ni _ rfl), (.ni _ rfl), (.ni _ rfl), (.ni _ rfl), (.ni _ rfl), (.ni _ rfl), (.ni _ rfl), (.ni _ rfl), (.ni _ rfl), (.ni _ rfl), (.ni _ rfl), (.ni _ rfl), (.ni _ rfl), (.ni _ rfl), (.ni _ rfl), (.ni _ rfl), (.ni _ rfl), (.ni _ rfl), (.ni _ rfl), (.ni _ rfl), (.ni _ rfl), (.ni _ rfl), (.ni _ rfl), (.ni _ rfl), (.ni _ rfl), (.ni _ rfl), (.ni _ rfl), (.nils _), trivial⟩) trivial
      · cases (hb_6).symm.trans h
    · cases (hb_6).symm.trans h
  · replace hF := cond_f hb_6 hF
    conv => whnf
    refine ⟨fun hb_7 => ?_, fun hb_7 => ?_⟩
    · replace hF := cond_t hb_7 hF
      conv => whnf
      refine ⟨fun h => ?_, fun h => ?_⟩
      · cases (hb_6).symm.trans h
      · conv => whnf
        obtain rfl := Option.some.inj hF
        exact ret_gz [] [] [] rfl (argA (c := [.int .i64 x_0.Kind, .int .i64 x_0.Do, .str x_0.Port, .int .i64 x_0.Number, .str x_0.In.Flight.Carrier, .int .i64 x_0.In.Flight.Number, .str x_0.In.Flight.Suffix, .int .i64 x_0.In.Flight.Day, .str x_0.In.Port, .str x_0.In.Class, .str x_0.Out.Flight.Carrier, .int .i64 x_0.Out.Flight.Number, .str x_0.Out.Flight.Suffix, .int .i64 x_0.Out.Flight.Day, .str x_0.Out.Port, .str x_0.Out.Class, .lst 6 (x_0.Onward.map encLeg), .int .i64 x_0.First.Lead, .int .i64 x_0.First.Airline, .int .i64 x_0.First.Serial, .int .i64 x_0.Count, .bool x_0.Load, .int .i64 x_0.Status, .int .i64 x_0.Sequence, .int .i64 x_0.Weight, .str x_0.Surname, .str x_0.Given, .int .i64 x_0.Exception, .str (⟨#[]⟩ : ByteArray), .nils]) (by (conv => lhs; whnf); all_goals rfl) rfl ⟨(.ni _ rfl), (.ni _ rfl), (.ni _ rfl), (.ni _ rfl), (.ni _ rfl), (.ni _ rfl), (.ni _ rfl), (.ni _ rfl), (.ni _ rfl), (.ni _ rfl), (.ni _ rfl), (.ni _ rfl), (.ni _ rfl), (.ni _ rfl), (.ni _ rfl), (.ni _ rfl), (.ni _ rfl), (.ni _ rfl), (.ni _ rfl), (.ni _ rfl), (.ni _ rfl), (.ni _ rfl), (.ni _ rfl), (.ni _ rfl), (.ni _ rfl), (.ni _ rfl), (.ni _ rfl), (.ni _ rfl), (.ni _ rfl), (.nils _), trivial⟩) trivial
    · replace hF := cond_f hb_7 hF
      conv => whnf
      refine ⟨fun hb_8 => ?_, fun hb_8 => ?_⟩
      · replace hF := cond_t hb_8 hF
        conv => whnf
        refine ⟨by kernel_rfl, ?_⟩
        conv => whnf
        obtain rfl := Option.some.inj hF
        exact ret_gz [] [] [] rfl (argA (c := [.int .i64 x_0.Kind, .int .i64 (0 : Int), .str x_0.Port, .int .i64 x_0.Number, .str (⟨#[]⟩ : ByteArray), .int .i64 (0 : Int), .str (⟨#[]⟩ : ByteArray), .int .i64 (0 : Int), .str (⟨#[]⟩ : ByteArray), .str (⟨#[]⟩ : ByteArray), .str (⟨#[]⟩ : ByteArray), .int .i64 (0 : Int), .str (⟨#[]⟩ : ByteArray), .int .i64 (0 : Int), .str (⟨#[]⟩ : ByteArray), .str (⟨#[]⟩ : ByteArray), .nils, .int .i64 x_0.First.Lead, .int .i64 x_0.First.Airline, .int .i64 x_0.First.Serial, .int .i64 x_0.Count, .fls, .int .i64 (0 : Int), .int .i64 (0 : Int), .int .i64 (0 : Int), .str (⟨#[]⟩ : ByteArray), .str (⟨#[]⟩ : ByteArray), .int .i64 (0 : Int), .str x_0.Node, .nils]) (by (conv => lhs; whnf); all_goals rfl) rfl ⟨(.ni _ rfl), (.ni _ rfl), (.ni _ rfl), (.ni _ rfl), (.ni _ rfl), (.ni _ rfl), (.ni _ rfl), (.ni _ rfl), (.ni _ rfl), (.ni _ rfl), (.ni _ rfl), (.ni _ rfl), (.ni _ rfl), (.ni _ rfl), (.ni _ rfl), (.ni _ rfl), (.nils _), (.ni _ rfl), (.ni _ rfl), (.ni _ rfl), (.ni _ rfl), .fls, (.ni _ rfl), (.ni _ rfl), (.ni _ rfl), (.ni _ rfl), (.ni _ rfl), (.ni _ rfl), (.ni _ rfl), (.nils _), trivial⟩) trivial
      · replace hF := cond_f hb_8 hF
        conv => whnf
        refine ⟨fun hb_9 => ?_, fun hb_9 => ?_⟩
        · replace hF := cond_t hb_9 hF
          conv => whnf
          refine ⟨by kernel_rfl, ?_⟩
          conv => whnf
          obtain rfl := Option.some.inj hF
          exact ret_gz [] [] [] rfl (argA (c := [.int .i64 x_0.Kind, .int .i64 (0 : Int), .str x_0.Port, .int .i64 x_0.Number, .str (⟨#[]⟩ : ByteArray), .int .i64 (0 : Int), .str (⟨#[]⟩ : ByteArray), .int .i64 (0 : Int), .str (⟨#[]⟩ : ByteArray), .str (⟨#[]⟩ : ByteArray), .str x_0.Out.Flight.Carrier, .int .i64 x_0.Out.Flight.Number, .str x_0.Out.Flight.Suffix, .int .i64 x_0.Out.Flight.Day, .str x_0.Out.Port, .str x_0.Out.Class, .nils, .int .i64 x_0.First.Lead, .int .i64 x_0.First.Airline, .int .i64 x_0.First.Serial, .int .i64 x_0.Count, .fls, .int .i64 (0 : Int), .int .i64 (0 : Int), .int .i64 (0 : Int), .str (⟨#[]⟩ : ByteArray), .str (⟨#[]⟩ : ByteArray), .int .i64 (0 : Int), .str (⟨#[]⟩ : ByteArray), .nils]) (by (conv => lhs; whnf); all_goals rfl) rfl ⟨(.ni _ rfl), (.ni _ rfl), (.ni _ rfl), (.ni _ rfl), (.ni _ rfl), (.ni _ rfl), (.ni _ rfl), (.ni _ rfl), (.ni _ rfl), (.ni _ rfl), (.ni _ rfl), (.ni _ rfl), (.ni _ rfl), (.ni _ rfl), (.ni _ rfl), (.ni _ rfl), (.nils _), (.ni _ rfl), (.ni _ rfl), (.ni _ rfl), (.ni _ rfl), .fls, (.ni _ rfl), (.ni _ rfl), (.ni _ rfl), (.ni _ rfl), (.ni _ rfl), (.ni _ rfl), (.ni _ rfl), (.nils _), trivial⟩) trivial
        · replace hF := cond_f hb_9 hF
          conv => whnf
          refine ⟨fun hb_10 => ?_, fun hb_10 => ?_⟩
          · replace hF := cond_t hb_10 hF
            conv => whnf
            refine ⟨by kernel_rfl, ?_⟩
            conv => whnf
            obtain rfl := Option.some.inj hF
            exact ret_gz [] [] [] rfl (argA (c := [.int .i64 x_0.Kind, .int .i64 (0 : Int), .str x_0.Port, .int .i64 x_0.Number, .str (⟨#[]⟩ : ByteArray), .int .i64 (0 : Int), .str (⟨#[]⟩ : ByteArray), .int .i64 (0 : Int), .str (⟨#[]⟩ : ByteArray), .str (⟨#[]⟩ : ByteArray), .str x_0.Out.Flight.Carrier, .int .i64 x_0.Out.Flight.Number, .str x_0.Out.Flight.Suffix, .int .i64 x_0.Out.Flight.Day, .str x_0.Out.Port, .str x_0.Out.Class, .nils, .int .i64 (0 : Int), .int .i64 (0 : Int), .int .i64 (0 : Int), .int .i64 (0 : Int), .fls, .int .i64 (0 : Int), .int .i64 (0 : Int), .int .i64 (0 : Int), .str (⟨#[]⟩ : ByteArray), .str (⟨#[]⟩ : ByteArray), .int .i64 (0 : Int), .str (⟨#[]⟩ : ByteArray), .lst 1 (x_0.List.map iA)]) (by (conv => lhs; whnf); all_goals rfl) rfl ⟨(.ni _ rfl), (.ni _ rfl), (.ni _ rfl), (.ni _ rfl), (.ni _ rfl), (.ni _ rfl), (.ni _ rfl), (.ni _ rfl), (.ni _ rfl), (.ni _ rfl), (.ni _ rfl), (.ni _ rfl), (.ni _ rfl), (.ni _ rfl), (.ni _ rfl), (.ni _ rfl), (.nils _), (.ni _ rfl), (.ni _ rfl), (.ni _ rfl), (.ni _ rfl), .fls, (.ni _ rfl), (.ni _ rfl), (.ni _ rfl), (.ni _ rfl), (.ni _ rfl), (.ni _ rfl), (.ni _ rfl), (.ni _ rfl), trivial⟩) trivial
          · replace hF := cond_f hb_10 hF
            conv => whnf
            obtain rfl := Option.some.inj hF
            exact ret_gz [] [] [] rfl (argA (c := [.int .i64 x_0.Kind, .int .i64 (0 : Int), .str x_0.Port, .int .i64 x_0.Number, .str (⟨#[]⟩ : ByteArray), .int .i64 (0 : Int), .str (⟨#[]⟩ : ByteArray), .int .i64 (0 : Int), .str (⟨#[]⟩ : ByteArray), .str (⟨#[]⟩ : ByteArray), .str (⟨#[]⟩ : ByteArray), .int .i64 (0 : Int), .str (⟨#[]⟩ : ByteArray), .int .i64 (0 : Int), .str (⟨#[]⟩ : ByteArray), .str (⟨#[]⟩ : ByteArray), .nils, .int .i64 (0 : Int), .int .i64 (0 : Int), .int .i64 (0 : Int), .int .i64 (0 : Int), .fls, .int .i64 (0 : Int), .int .i64 (0 : Int), .int .i64 (0 : Int), .str (⟨#[]⟩ : ByteArray), .str (⟨#[]⟩ : ByteArray), .int .i64 (0 : Int), .str (⟨#[]⟩ : ByteArray), .nils]) (by (conv => lhs; whnf); all_goals rfl) rfl ⟨(.ni _ rfl), (.ni _ rfl), (.ni _ rfl), (.ni _ rfl), (.ni _ rfl), (.ni _ rfl), (.ni _ rfl), (.ni _ rfl), (.ni _ rfl), (.ni _ rfl), (.ni _ rfl), (.ni _ rfl), (.ni _ rfl), (.ni _ rfl), (.ni _ rfl), (.ni _ rfl), (.nils _), (.ni _ rfl), (.ni _ rfl), (.ni _ rfl), (.ni _ rfl), .fls, (.ni _ rfl), (.ni _ rfl), (.ni _ rfl), (.ni _ rfl), (.ni _ rfl), (.ni _ rfl), (.ni _ rfl), (.nils _), trivial⟩) trivial

set_option maxRecDepth 100000 in
set_option maxHeartbeats 40000000 in
theorem slices_Equal_Leg_ac (x_0 : (List Leg)) (x_1 : (List Leg)) (r : Bool) (hF : slices_Equal_Leg x_0 x_1 = some r) : AC Tryd.prog 77 [.lst 6 (x_0.map encLeg), .lst 6 (x_1.map encLeg)] [] (.bool r) [] := by
  refine ac_of tab_ok follows_ok Tryd.func77 rfl Tryd.ntmps77 rfl ?_
  unfold slices_Equal_Leg at hF
  conv => whnf
  refine len_q (enc := encLeg) (l := x_0) rfl ?_
  conv => whnf
  refine len_q (enc := encLeg) (l := x_1) rfl ?_
  conv => whnf
  refine ⟨fun hb_8 => ?_, fun hb_8 => ?_⟩
  · replace hF := cond_t hb_8 hF
    conv => whnf
    obtain rfl := Option.some.inj hF
    exact ret_gz [] [] [] rfl (argFl (by (conv => lhs; whnf); all_goals rfl)) trivial
  · replace hF := cond_f hb_8 hF
    conv => whnf
    refine len_q (enc := encLeg) (l := x_0) rfl ?_
    conv => whnf
    obtain ⟨c_1, hc_1, hF⟩ := fin_some hF
    refine sw_bv 0 (v := .lst 6 (x_0.map encLeg)) (by (conv => lhs; whnf); all_goals rfl) (fun hb => ?_)
    have hbd_k_2 : x_0.length ≤ 9223372036854775807 := bnd_len (enc := encLeg) (hb)
    refine sw_loop tab_ok follows_ok (fun y : Nat => y ≤ x_0.length ∧ slices_Equal_Leg_L1 x_1 (x_0.drop y) y = some c_1) (fun y => ⟨eL [(0, .lst 6 (x_0.map encLeg)), (1, .lst 6 (x_1.map encLeg)), (12, .int .i64 (x_0.length : Int)), (13, .int .i64 (y : Int))], hL [], 0⟩) (fun y => x_0.length - y) 0 ⟨Nat.zero_le _, hc_1⟩ (wk_mk [] [] [] rfl ⟨argE (by (conv => lhs; whnf); all_goals rfl) rfl, argE (by (conv => lhs; whnf); all_goals rfl) rfl, argE (by (conv => lhs; whnf); all_goals rfl) rfl, argE (by (conv => lhs; whnf); all_goals rfl) rfl, trivial⟩ trivial) ?_
    rintro k_2 ⟨hk_k_2, hL1⟩
    try dsimp only at hk_k_2 hL1
    show awp _ _ _ _ _ _ ⟨eL [(0, .lst 6 (x_0.map encLeg)), (1, .lst 6 (x_1.map encLeg)), (12, .int .i64 (x_0.length : Int)), (13, .int .i64 (k_2 : Int))], hL [], 0⟩
    conv => whnf
    refine ⟨fun h => ?_, fun h => ?_⟩
    · have hlt_k_2 : k_2 < x_0.length := by have h := of_decide_eq_true h; omega
      obtain ⟨e_3, h_e_3⟩ : ∃ y, x_0[k_2]? = some y := ⟨_, List.getElem?_eq_getElem hlt_k_2⟩
      rw [drop_cons h_e_3, slices_Equal_Leg_L1.eq_2] at hL1
      conv => whnf
      refine ⟨k_2, _, rfl, ix_map h_e_3, ?_⟩
      conv => whnf
      obtain ⟨e_4, h_e_4, hL1⟩ := bind_some hL1
      refine ix_q (enc := encLeg) (l := x_1) h_e_4 rfl (fun m_e_4 hm_e_4 hx_e_4 => ?_)
      conv => whnf
      refine ⟨by kernel_rfl, ?_⟩
      conv => whnf
      refine ⟨fun hb_9 => ?_, fun hb_9 => ?_⟩
      · replace hL1 := cond_t hb_9 hL1
        conv => whnf
        obtain rfl := Option.some.inj hL1
        replace hF := fin_ret hF
        obtain rfl := Option.some.inj hF
        exact ret_gz [] [] [] rfl (argFl (by (conv => lhs; whnf); all_goals rfl)) trivial
      · replace hL1 := cond_f hb_9 hL1
        conv => whnf
        refine ⟨((k_2 + 1 : Nat) : Int), wrapE (by omega) (by omega) (by omega), ?_⟩
        conv => whnf
        exact ⟨k_2 + 1, [], [], [], ⟨hlt_k_2, hL1⟩, by show x_0.length - (k_2 + 1) < x_0.length - k_2; omega, wk_mk [] [] [] rfl ⟨argE (by (conv => lhs; whnf); all_goals rfl) rfl, argE (by (conv => lhs; whnf); all_goals rfl) rfl, argE (by (conv => lhs; whnf); all_goals rfl) rfl, argE (by (conv => lhs; whnf); all_goals rfl) rfl, trivial⟩ trivial⟩
    · rw [drop_nil (show x_0.length ≤ k_2 by have h := of_decide_eq_false h; omega), slices_Equal_Leg_L1.eq_1] at hL1
      conv => whnf
      obtain rfl := Option.some.inj hL1
      replace hF := fin_brk hF
      try dsimp only at hF
      obtain rfl := Option.some.inj hF
      exact ret_gz [] [] [] rfl (argT (by (conv => lhs; whnf); all_goals rfl)) trivial

set_option maxRecDepth 100000 in
set_option maxHeartbeats 40000000 in
theorem slices_Equal_int_ac (x_0 : (List Int)) (x_1 : (List Int)) (r : Bool) (hF : slices_Equal_int x_0 x_1 = some r) : AC Tryd.prog 78 [.lst 1 (x_0.map iA), .lst 1 (x_1.map iA)] [] (.bool r) [] := by
  refine ac_of tab_ok follows_ok Tryd.func78 rfl Tryd.ntmps78 rfl ?_
  unfold slices_Equal_int at hF
  conv => whnf
  refine len_q (enc := iA) (l := x_0) rfl ?_
  conv => whnf
  refine len_q (enc := iA) (l := x_1) rfl ?_
  conv => whnf
  refine ⟨fun hb_8 => ?_, fun hb_8 => ?_⟩
  · replace hF := cond_t hb_8 hF
    conv => whnf
    obtain rfl := Option.some.inj hF
    exact ret_gz [] [] [] rfl (argFl (by (conv => lhs; whnf); all_goals rfl)) trivial
  · replace hF := cond_f hb_8 hF
    conv => whnf
    refine len_q (enc := iA) (l := x_0) rfl ?_
    conv => whnf
    obtain ⟨c_1, hc_1, hF⟩ := fin_some hF
    refine sw_bv 0 (v := .lst 1 (x_0.map iA)) (by (conv => lhs; whnf); all_goals rfl) (fun hb => ?_)
    have hbd_k_2 : x_0.length ≤ 9223372036854775807 := bnd_len (enc := iA) (hb)
    refine sw_loop tab_ok follows_ok (fun y : Nat => y ≤ x_0.length ∧ slices_Equal_int_L1 x_1 (x_0.drop y) y = some c_1) (fun y => ⟨eL [(0, .lst 1 (x_0.map iA)), (1, .lst 1 (x_1.map iA)), (12, .int .i64 (x_0.length : Int)), (13, .int .i64 (y : Int))], hL [], 0⟩) (fun y => x_0.length - y) 0 ⟨Nat.zero_le _, hc_1⟩ (wk_mk [] [] [] rfl ⟨argE (by (conv => lhs; whnf); all_goals rfl) rfl, argE (by (conv => lhs; whnf); all_goals rfl) rfl, argE (by (conv => lhs; whnf); all_goals rfl) rfl, argE (by (conv => lhs; whnf); all_goals rfl) rfl, trivial⟩ trivial) ?_
    rintro k_2 ⟨hk_k_2, hL1⟩
    try dsimp only at hk_k_2 hL1
    show awp _ _ _ _ _ _ ⟨eL [(0, .lst 1 (x_0.map iA)), (1, .lst 1 (x_1.map iA)), (12, .int .i64 (x_0.length : Int)), (13, .int .i64 (k_2 : Int))], hL [], 0⟩
    conv => whnf
    refine ⟨fun h => ?_, fun h => ?_⟩
    · have hlt_k_2 : k_2 < x_0.length := by have h := of_decide_eq_true h; omega
      obtain ⟨e_3, h_e_3⟩ : ∃ y, x_0[k_2]? = some y := ⟨_, List.getElem?_eq_getElem hlt_k_2⟩
      rw [drop_cons h_e_3, slices_Equal_int_L1.eq_2] at hL1
      conv => whnf
      refine ⟨k_2, _, rfl, ix_map h_e_3, ?_⟩
      conv => whnf
      obtain ⟨e_4, h_e_4, hL1⟩ := bind_some hL1
      refine ix_q (enc := iA) (l := x_1) h_e_4 rfl (fun m_e_4 hm_e_4 hx_e_4 => ?_)
      conv => whnf
      refine ⟨by kernel_rfl, ?_⟩
      conv => whnf
      refine ⟨fun hb_9 => ?_, fun hb_9 => ?_⟩
      · replace hL1 := cond_t hb_9 hL1
        conv => whnf
        obtain rfl := Option.some.inj hL1
        replace hF := fin_ret hF
        obtain rfl := Option.some.inj hF
        exact ret_gz [] [] [] rfl (argFl (by (conv => lhs; whnf); all_goals rfl)) trivial
      · replace hL1 := cond_f hb_9 hL1
        conv => whnf
        refine ⟨((k_2 + 1 : Nat) : Int), wrapE (by omega) (by omega) (by omega), ?_⟩
        conv => whnf
        exact ⟨k_2 + 1, [], [], [], ⟨hlt_k_2, hL1⟩, by show x_0.length - (k_2 + 1) < x_0.length - k_2; omega, wk_mk [] [] [] rfl ⟨argE (by (conv => lhs; whnf); all_goals rfl) rfl, argE (by (conv => lhs; whnf); all_goals rfl) rfl, argE (by (conv => lhs; whnf); all_goals rfl) rfl, argE (by (conv => lhs; whnf); all_goals rfl) rfl, trivial⟩ trivial⟩
    · rw [drop_nil (show x_0.length ≤ k_2 by have h := of_decide_eq_false h; omega), slices_Equal_int_L1.eq_1] at hL1
      conv => whnf
      obtain rfl := Option.some.inj hL1
      replace hF := fin_brk hF
      try dsimp only at hF
      obtain rfl := Option.some.inj hF
      exact ret_gz [] [] [] rfl (argT (by (conv => lhs; whnf); all_goals rfl)) trivial

set_option maxRecDepth 100000 in
set_option maxHeartbeats 40000000 in
theorem message_Same_ac (x_0 : Message) (x_1 : Message) (r : Bool) (hF : message_Same x_0 x_1 = some r) : AC Tryd.prog 60 [.agg (encMessage x_0), .agg (encMessage x_1)] [] (.bool r) [] := by
  refine ac_of tab_ok follows_ok Tryd.func60 rfl Tryd.ntmps60 rfl ?_
  unfold message_Same at hF
  conv => whnf
  refine ⟨fun hb_18 => ?_, fun hb_18 => ?_⟩
  · replace hF := cond_t hb_18 hF
    conv => whnf
    refine ⟨fun hb_19 => ?_, fun hb_19 => ?_⟩
    · replace hF := cond_t hb_19 hF
      conv => whnf
      refine ⟨fun hb_20 => ?_, fun hb_20 => ?_⟩
      · replace hF := cond_t hb_20 hF
        conv => whnf
        refine ⟨fun hb_21 => ?_, fun hb_21 => ?_⟩
        · replace hF := cond_t hb_21 hF
          conv => whnf
          refine ⟨fun hb_22 => ?_, fun hb_22 => ?_⟩
          · replace hF := cond_t hb_22 hF
            conv => whnf
            refine ⟨fun hb_23 => ?_, fun hb_23 => ?_⟩
            · replace hF := cond_t hb_23 hF
              conv => whnf
              obtain ⟨r_1, h_r_1, hF⟩ := bind_some hF
              refine ⟨_, _, _, _, _, _, _, _, _, callX false [] [] 0 Tryd.func77 (by decide) rfl (slices_Equal_Leg_ac x_0.Onward x_1.Onward r_1 h_r_1) rfl ⟨(argE (by (conv => lhs; whnf); all_goals rfl) rfl), (argE (by (conv => lhs; whnf); all_goals rfl) rfl), trivial⟩ rfl trivial rfl rfl rfl lend0 trivial rfl, ?_⟩
              conv => whnf
              refine ⟨fun hb_24 => ?_, fun hb_24 => ?_⟩
              · replace hF := cond_t hb_24 hF
                conv => whnf
                refine ⟨fun hb_25 => ?_, fun hb_25 => ?_⟩
                · replace hF := cond_t hb_25 hF
                  conv => whnf
                  refine ⟨fun hb_26 => ?_, fun hb_26 => ?_⟩
                  · replace hF := cond_t hb_26 hF
                    conv => whnf
                    refine ⟨fun hb_27 => ?_, fun hb_27 => ?_⟩
                    · replace hF := cond_t hb_27 hF
                      conv => whnf
                      refine ⟨fun hb_28 => ?_, fun hb_28 => ?_⟩
                      · replace hF := cond_t hb_28 hF
                        conv => whnf
                        refine ⟨fun hb_29 => ?_, fun hb_29 => ?_⟩
                        · replace hF := cond_t hb_29 hF
                          conv => whnf
                          refine ⟨fun hb_30 => ?_, fun hb_30 => ?_⟩
                          · replace hF := cond_t hb_30 hF
                            conv => whnf
                            refine ⟨fun hb_31 => ?_, fun hb_31 => ?_⟩
                            · replace hF := cond_t hb_31 hF
                              conv => whnf
                              refine ⟨fun hb_32 => ?_, fun hb_32 => ?_⟩
                              · replace hF := cond_t hb_32 hF
                                conv => whnf
                                refine ⟨fun hb_33 => ?_, fun hb_33 => ?_⟩
                                · replace hF := cond_t hb_33 hF
                                  conv => whnf
                                  refine ⟨fun hb_34 => ?_, fun hb_34 => ?_⟩
                                  · replace hF := cond_t hb_34 hF
                                    conv => whnf
                                    obtain ⟨r_2, h_r_2, hF⟩ := bind_some hF
                                    refine ⟨_, _, _, _, _, _, _, _, _, callX false [] [] 0 Tryd.func78 (by decide) rfl (slices_Equal_int_ac x_0.List x_1.List r_2 h_r_2) rfl ⟨(argE (by (conv => lhs; whnf); all_goals rfl) rfl), (argE (by (conv => lhs; whnf); all_goals rfl) rfl), trivial⟩ rfl trivial rfl rfl rfl lend0 trivial rfl, ?_⟩
                                    conv => whnf
                                    obtain rfl := Option.some.inj hF
                                    exact ret_gz [] [] [] rfl (argE (by (conv => lhs; whnf); all_goals rfl) rfl) trivial
                                  · replace hF := cond_f hb_34 hF
                                    conv => whnf
                                    obtain rfl := Option.some.inj hF
                                    exact ret_gz [] [] [] rfl (argFl (by (conv => lhs; whnf); all_goals rfl)) trivial
                                · replace hF := cond_f hb_33 hF
                                  conv => whnf
                                  obtain rfl := Option.some.inj hF
                                  exact ret_gz [] [] [] rfl (argFl (by (conv => lhs; whnf); all_goals rfl)) trivial
                              · replace hF := cond_f hb_32 hF
                                conv => whnf
                                obtain rfl := Option.some.inj hF
                                exact ret_gz [] [] [] rfl (argFl (by (conv => lhs; whnf); all_goals rfl)) trivial
                            · replace hF := cond_f hb_31 hF
                              conv => whnf
                              obtain rfl := Option.some.inj hF
                              exact ret_gz [] [] [] rfl (argFl (by (conv => lhs; whnf); all_goals rfl)) trivial
                          · replace hF := cond_f hb_30 hF
                            conv => whnf
                            obtain rfl := Option.some.inj hF
                            exact ret_gz [] [] [] rfl (argFl (by (conv => lhs; whnf); all_goals rfl)) trivial
                        · replace hF := cond_f hb_29 hF
                          conv => whnf
                          obtain rfl := Option.some.inj hF
                          exact ret_gz [] [] [] rfl (argFl (by (conv => lhs; whnf); all_goals rfl)) trivial
                      · replace hF := cond_f hb_28 hF
                        conv => whnf
                        obtain rfl := Option.some.inj hF
                        exact ret_gz [] [] [] rfl (argFl (by (conv => lhs; whnf); all_goals rfl)) trivial
                    · replace hF := cond_f hb_27 hF
                      conv => whnf
                      obtain rfl := Option.some.inj hF
                      exact ret_gz [] [] [] rfl (argFl (by (conv => lhs; whnf); all_goals rfl)) trivial
                  · replace hF := cond_f hb_26 hF
                    conv => whnf
                    obtain rfl := Option.some.inj hF
                    exact ret_gz [] [] [] rfl (argFl (by (conv => lhs; whnf); all_goals rfl)) trivial
                · replace hF := cond_f hb_25 hF
                  conv => whnf
                  obtain rfl := Option.some.inj hF
                  exact ret_gz [] [] [] rfl (argFl (by (conv => lhs; whnf); all_goals rfl)) trivial
              · replace hF := cond_f hb_24 hF
                conv => whnf
                obtain rfl := Option.some.inj hF
                exact ret_gz [] [] [] rfl (argFl (by (conv => lhs; whnf); all_goals rfl)) trivial
            · replace hF := cond_f hb_23 hF
              conv => whnf
              obtain rfl := Option.some.inj hF
              exact ret_gz [] [] [] rfl (argFl (by (conv => lhs; whnf); all_goals rfl)) trivial
          · replace hF := cond_f hb_22 hF
            conv => whnf
            obtain rfl := Option.some.inj hF
            exact ret_gz [] [] [] rfl (argFl (by (conv => lhs; whnf); all_goals rfl)) trivial
        · replace hF := cond_f hb_21 hF
          conv => whnf
          obtain rfl := Option.some.inj hF
          exact ret_gz [] [] [] rfl (argFl (by (conv => lhs; whnf); all_goals rfl)) trivial
      · replace hF := cond_f hb_20 hF
        conv => whnf
        obtain rfl := Option.some.inj hF
        exact ret_gz [] [] [] rfl (argFl (by (conv => lhs; whnf); all_goals rfl)) trivial
    · replace hF := cond_f hb_19 hF
      conv => whnf
      obtain rfl := Option.some.inj hF
      exact ret_gz [] [] [] rfl (argFl (by (conv => lhs; whnf); all_goals rfl)) trivial
  · replace hF := cond_f hb_18 hF
    conv => whnf
    obtain rfl := Option.some.inj hF
    exact ret_gz [] [] [] rfl (argFl (by (conv => lhs; whnf); all_goals rfl)) trivial

set_option maxRecDepth 100000 in
set_option maxHeartbeats 40000000 in
theorem flight_ValidPort_ac (x_0 : ByteArray) (r : Bool) (hF : flight_ValidPort x_0 = some r) : AC Tryd.prog 68 [.str x_0] [] (.bool r) [] := by
  refine ac_of tab_ok follows_ok Tryd.func68 rfl Tryd.ntmps68 rfl ?_
  unfold flight_ValidPort at hF
  conv => whnf
  obtain ⟨r_1, h_r_1, hF⟩ := bind_some hF
  refine ⟨_, _, _, _, _, _, _, _, _, callX false [] [] 0 Tryd.func81 (by decide) rfl (fields_Letters_ac x_0 (3 : Int) (3 : Int) r_1 h_r_1) rfl ⟨(argE (by (conv => lhs; whnf); all_goals rfl) rfl), (argE (by (conv => lhs; whnf); all_goals rfl) rfl), (argE (by (conv => lhs; whnf); all_goals rfl) rfl), trivial⟩ rfl trivial rfl rfl rfl lend0 trivial rfl, ?_⟩
  conv => whnf
  obtain rfl := Option.some.inj hF
  exact ret_gz [] [] [] rfl (argE (by (conv => lhs; whnf); all_goals rfl) rfl) trivial

set_option maxRecDepth 100000 in
set_option maxHeartbeats 40000000 in
theorem flight_ValidLeg_ac (x_0 : Leg) (r : Bool) (hF : flight_ValidLeg x_0 = some r) : AC Tryd.prog 79 [.agg (encLeg x_0)] [] (.bool r) [] := by
  refine ac_of tab_ok follows_ok Tryd.func79 rfl Tryd.ntmps79 rfl ?_
  unfold flight_ValidLeg at hF
  conv => whnf
  obtain ⟨r_1, h_r_1, hF⟩ := bind_some hF
  refine ⟨_, _, _, _, _, _, _, _, _, callX false [] [] 0 Tryd.func67 (by decide) rfl (flight_Valid_ac x_0.Flight r_1 h_r_1) rfl ⟨(argE (by (conv => lhs; whnf); all_goals rfl) rfl), trivial⟩ rfl trivial rfl rfl rfl lend0 trivial rfl, ?_⟩
  conv => whnf
  refine ⟨fun hb_5 => ?_, fun hb_5 => ?_⟩
  · replace hF := cond_t hb_5 hF
    conv => whnf
    obtain ⟨r_2, h_r_2, hF⟩ := bind_some hF
    refine ⟨_, _, _, _, _, _, _, _, _, callX false [] [] 0 Tryd.func68 (by decide) rfl (flight_ValidPort_ac x_0.Port r_2 h_r_2) rfl ⟨(argE (by (conv => lhs; whnf); all_goals rfl) rfl), trivial⟩ rfl trivial rfl rfl rfl lend0 trivial rfl, ?_⟩
    conv => whnf
    refine ⟨fun hb_6 => ?_, fun hb_6 => ?_⟩
    · replace hF := cond_t hb_6 hF
      conv => whnf
      refine ⟨fun hb_7 => ?_, fun hb_7 => ?_⟩
      · replace hF := cond_f hb_7 hF
        conv => whnf
        refine ⟨fun hb_8 => ?_, fun hb_8 => ?_⟩
        · replace hF := cond_f hb_8 hF
          conv => whnf
          obtain rfl := Option.some.inj hF
          exact ret_gz [] [] [] rfl (argE (by (conv => lhs; whnf); all_goals rfl) rfl) trivial
        · replace hF := cond_t hb_8 hF
          conv => whnf
          obtain rfl := Option.some.inj hF
          exact ret_gz [] [] [] rfl (argT (by (conv => lhs; whnf); all_goals rfl)) trivial
      · replace hF := cond_t hb_7 hF
        conv => whnf
        obtain rfl := Option.some.inj hF
        exact ret_gz [] [] [] rfl (argT (by (conv => lhs; whnf); all_goals rfl)) trivial
    · replace hF := cond_f hb_6 hF
      conv => whnf
      obtain rfl := Option.some.inj hF
      exact ret_gz [] [] [] rfl (argFl (by (conv => lhs; whnf); all_goals rfl)) trivial
  · replace hF := cond_f hb_5 hF
    conv => whnf
    obtain rfl := Option.some.inj hF
    exact ret_gz [] [] [] rfl (argFl (by (conv => lhs; whnf); all_goals rfl)) trivial

set_option maxRecDepth 100000 in
set_option maxHeartbeats 40000000 in
theorem message_describes_ac (x_0 : Int) (r : Bool) (hF : message_describes x_0 = some r) : AC Tryd.prog 80 [.int .i64 x_0] [] (.bool r) [] := by
  refine ac_of tab_ok follows_ok Tryd.func80 rfl Tryd.ntmps80 rfl ?_
  unfold message_describes at hF
  conv => whnf
  refine ⟨fun hb_2 => ?_, fun hb_2 => ?_⟩
  · replace hF := cond_f hb_2 hF
    conv => whnf
    obtain rfl := Option.some.inj hF
    exact ret_gz [] [] [] rfl (argE (by (conv => lhs; whnf); all_goals rfl) rfl) trivial
  · replace hF := cond_t hb_2 hF
    conv => whnf
    obtain rfl := Option.some.inj hF
    exact ret_gz [] [] [] rfl (argT (by (conv => lhs; whnf); all_goals rfl)) trivial

set_option maxRecDepth 100000 in
set_option maxHeartbeats 40000000 in
theorem fields_Name_f1_ac (x_0 : Int) (r : Bool) (hF : fields_Name_f1 x_0 = some r) : AC Tryd.prog 95 [.int .u8 x_0] [] (.bool r) [] := by
  refine ac_of tab_ok follows_ok Tryd.func95 rfl Tryd.ntmps95 rfl ?_
  unfold fields_Name_f1 at hF
  conv => whnf
  obtain ⟨r_1, h_r_1, hF⟩ := bind_some hF
  refine ⟨_, _, _, _, _, _, _, _, _, callX false [] [] 0 Tryd.func94 (by decide) rfl (fields_Letter_ac x_0 r_1 h_r_1) rfl ⟨(argE (by (conv => lhs; whnf); all_goals rfl) rfl), trivial⟩ rfl trivial rfl rfl rfl lend0 trivial rfl, ?_⟩
  conv => whnf
  refine ⟨fun hb_2 => ?_, fun hb_2 => ?_⟩
  · replace hF := cond_f hb_2 hF
    conv => whnf
    obtain ⟨r_2, h_r_2, hF⟩ := bind_some hF
    refine ⟨_, _, _, _, _, _, _, _, _, callX false [] [] 0 Tryd.func96 (by decide) rfl (fields_Digit_ac x_0 r_2 h_r_2) rfl ⟨(argE (by (conv => lhs; whnf); all_goals rfl) rfl), trivial⟩ rfl trivial rfl rfl rfl lend0 trivial rfl, ?_⟩
    conv => whnf
    obtain rfl := Option.some.inj hF
    exact ret_gz [] [] [] rfl (argE (by (conv => lhs; whnf); all_goals rfl) rfl) trivial
  · replace hF := cond_t hb_2 hF
    conv => whnf
    obtain rfl := Option.some.inj hF
    exact ret_gz [] [] [] rfl (argT (by (conv => lhs; whnf); all_goals rfl)) trivial

set_option maxRecDepth 100000 in
set_option maxHeartbeats 40000000 in
theorem fields_All_v2_ac (x_0 : ByteArray) (r : Bool) (hF : fields_All_v2 x_0 = some r) : AC Tryd.prog 93 [.str x_0, .fn 95 []] [] (.bool r) [] := by
  refine ac_of tab_ok follows_ok Tryd.func93 rfl Tryd.ntmps93 rfl ?_
  unfold fields_All_v2 at hF
  conv => whnf
  obtain ⟨c_1, hc_1, hF⟩ := fin_some hF
  refine sw_loop tab_ok follows_ok (fun y : Nat × Int => fields_All_v2_L1 x_0 y.1 y.2 = some c_1) (fun y => ⟨eL [(0, .str x_0), (1, .fn 95 []), (7, .int .i64 (x_0.size : Int)), (8, .int .i64 y.2)], hL [], 0⟩) (fun y => y.1) (9223372036854775807, (0 : Int)) hc_1 (wk_mk [] [] [] rfl ⟨argE (by (conv => lhs; whnf); all_goals rfl) rfl, argE (by (conv => lhs; whnf); all_goals rfl) rfl, argE (by (conv => lhs; whnf); all_goals rfl) rfl, argE (by (conv => lhs; whnf); all_goals rfl) rfl, trivial⟩ trivial) ?_
  rintro ⟨q_4, i_1⟩ hL1
  try dsimp only at hL1
  rcases q_4 with _ | q_4
  · rw [fields_All_v2_L1.eq_1] at hL1
    cases hL1
  rw [fields_All_v2_L1.eq_2] at hL1
  show awp _ _ _ _ _ _ ⟨eL [(0, .str x_0), (1, .fn 95 []), (7, .int .i64 (x_0.size : Int)), (8, .int .i64 i_1)], hL [], 0⟩
  conv => whnf
  refine ⟨fun hb_9 => ?_, fun hb_9 => ?_⟩
  · replace hL1 := cond_t hb_9 hL1
    conv => whnf
    obtain ⟨b_2, h_b_2, hL1⟩ := bind_some hL1
    refine ixs_q h_b_2 (fun m_b_2 u_b_2 hm_b_2 hb_b_2 hz_b_2 => ?_)
    subst hz_b_2
    conv => whnf
    obtain ⟨r_3, h_r_3, hL1⟩ := bind_some hL1
    refine ⟨_, _, _, _, _, _, _, _, _, callX false [] [] 0 Tryd.func95 (by decide) rfl (fields_Name_f1_ac ((u_b_2.toNat : Nat) : Int) r_3 h_r_3) rfl ⟨(argE (by (conv => lhs; whnf); all_goals rfl) rfl), trivial⟩ rfl trivial rfl rfl rfl lend0 trivial rfl, ?_⟩
    conv => whnf
    refine ⟨fun hb_10 => ?_, fun hb_10 => ?_⟩
    · replace hL1 := cond_t hb_10 hL1
      conv => whnf
      obtain rfl := Option.some.inj hL1
      replace hF := fin_ret hF
      obtain rfl := Option.some.inj hF
      exact ret_gz [] [] [] rfl (argFl (by (conv => lhs; whnf); all_goals rfl)) trivial
    · replace hL1 := cond_f hb_10 hL1
      conv => whnf
      refine ⟨_, rfl, ?_⟩
      conv => whnf
      exact ⟨(q_4, (w64 (i_1 + (1 : Int)))), [], [], [], hL1, Nat.lt_succ_self _, wk_mk [] [] [] rfl ⟨argE (by (conv => lhs; whnf); all_goals rfl) rfl, argE (by (conv => lhs; whnf); all_goals rfl) rfl, argE (by (conv => lhs; whnf); all_goals rfl) rfl, argE (by (conv => lhs; whnf); all_goals rfl) rfl, trivial⟩ trivial⟩
  · replace hL1 := cond_f hb_9 hL1
    conv => whnf
    obtain rfl := Option.some.inj hL1
    replace hF := fin_brk hF
    try dsimp only at hF
    obtain rfl := Option.some.inj hF
    exact ret_gz [] [] [] rfl (argT (by (conv => lhs; whnf); all_goals rfl)) trivial

set_option maxRecDepth 100000 in
set_option maxHeartbeats 40000000 in
theorem fields_Name_ac (x_0 : ByteArray) (x_1 : Int) (r : Bool) (hF : fields_Name x_0 x_1 = some r) : AC Tryd.prog 82 [.str x_0, .int .i64 x_1] [] (.bool r) [] := by
  refine ac_of tab_ok follows_ok Tryd.func82 rfl Tryd.ntmps82 rfl ?_
  unfold fields_Name at hF
  conv => whnf
  refine ⟨fun hb_4 => ?_, fun hb_4 => ?_⟩
  · replace hF := cond_t hb_4 hF
    conv => whnf
    refine ⟨fun hb_5 => ?_, fun hb_5 => ?_⟩
    · replace hF := cond_t hb_5 hF
      conv => whnf
      obtain ⟨b_1, h_b_1, hF⟩ := bind_some hF
      refine ixs_q h_b_1 (fun m_b_1 u_b_1 hm_b_1 hb_b_1 hz_b_1 => ?_)
      subst hz_b_1
      conv => whnf
      obtain ⟨r_2, h_r_2, hF⟩ := bind_some hF
      refine ⟨_, _, _, _, _, _, _, _, _, callX false [] [] 0 Tryd.func94 (by decide) rfl (fields_Letter_ac ((u_b_1.toNat : Nat) : Int) r_2 h_r_2) rfl ⟨(argE (by (conv => lhs; whnf); all_goals rfl) rfl), trivial⟩ rfl trivial rfl rfl rfl lend0 trivial rfl, ?_⟩
      conv => whnf
      refine ⟨fun hb_6 => ?_, fun hb_6 => ?_⟩
      · replace hF := cond_t hb_6 hF
        conv => whnf
        obtain ⟨r_3, h_r_3, hF⟩ := bind_some hF
        refine ⟨_, _, _, _, _, _, _, _, _, callX false [] [] 0 Tryd.func93 (by decide) rfl (fields_All_v2_ac x_0 r_3 h_r_3) rfl ⟨(argE (by (conv => lhs; whnf); all_goals rfl) rfl), (argE (by (conv => lhs; whnf); all_goals rfl) rfl), trivial⟩ rfl trivial rfl rfl rfl lend0 trivial rfl, ?_⟩
        conv => whnf
        obtain rfl := Option.some.inj hF
        exact ret_gz [] [] [] rfl (argE (by (conv => lhs; whnf); all_goals rfl) rfl) trivial
      · replace hF := cond_f hb_6 hF
        conv => whnf
        obtain rfl := Option.some.inj hF
        exact ret_gz [] [] [] rfl (argFl (by (conv => lhs; whnf); all_goals rfl)) trivial
    · replace hF := cond_f hb_5 hF
      conv => whnf
      obtain rfl := Option.some.inj hF
      exact ret_gz [] [] [] rfl (argFl (by (conv => lhs; whnf); all_goals rfl)) trivial
  · replace hF := cond_f hb_4 hF
    conv => whnf
    obtain rfl := Option.some.inj hF
    exact ret_gz [] [] [] rfl (argFl (by (conv => lhs; whnf); all_goals rfl)) trivial

set_option maxRecDepth 100000 in
set_option maxHeartbeats 40000000 in
theorem message_shaped_ac (x_0 : Message) (r : Bool) (hF : message_shaped x_0 = some r) : AC Tryd.prog 62 [.agg (encMessage x_0)] [] (.bool r) [] := by
  refine ac_of tab_ok follows_ok Tryd.func62 rfl Tryd.ntmps62 rfl ?_
  unfold message_shaped at hF
  conv => whnf
  obtain ⟨r_1, h_r_1, hF⟩ := bind_some hF
  refine ⟨_, _, _, _, _, _, _, _, _, callX false [] [] 0 Tryd.func68 (by decide) rfl (flight_ValidPort_ac x_0.Port r_1 h_r_1) rfl ⟨(argE (by (conv => lhs; whnf); all_goals rfl) rfl), trivial⟩ rfl trivial rfl rfl rfl lend0 trivial rfl, ?_⟩
  conv => whnf
  refine ⟨fun hb_44 => ?_, fun hb_44 => ?_⟩
  · replace hF := cond_f hb_44 hF
    conv => whnf
    refine ⟨fun hb_45 => ?_, fun hb_45 => ?_⟩
    · replace hF := cond_t hb_45 hF
      conv => whnf
      obtain ⟨r_2, h_r_2, hF⟩ := bind_some hF
      refine ⟨_, _, _, _, _, _, _, _, _, callX false [] [] 0 Tryd.func79 (by decide) rfl (flight_ValidLeg_ac x_0.In r_2 h_r_2) rfl ⟨(argE (by (conv => lhs; whnf); all_goals rfl) rfl), trivial⟩ rfl trivial rfl rfl rfl lend0 trivial rfl, ?_⟩
      conv => whnf
      refine ⟨fun hb_46 => ?_, fun hb_46 => ?_⟩
      · replace hF := cond_f hb_46 hF
        conv => whnf
        refine ⟨fun hb_47 => ?_, fun hb_47 => ?_⟩
        · replace hF := cond_t hb_47 hF
          conv => whnf
          obtain ⟨r_3, h_r_3, hF⟩ := bind_some hF
          refine ⟨_, _, _, _, _, _, _, _, _, callX false [] [] 0 Tryd.func79 (by decide) rfl (flight_ValidLeg_ac x_0.Out r_3 h_r_3) rfl ⟨(argE (by (conv => lhs; whnf); all_goals rfl) rfl), trivial⟩ rfl trivial rfl rfl rfl lend0 trivial rfl, ?_⟩
          conv => whnf
          refine ⟨fun hb_48 => ?_, fun hb_48 => ?_⟩
          · replace hF := cond_t hb_48 hF
            conv => whnf
            obtain rfl := Option.some.inj hF
            exact ret_gz [] [] [] rfl (argFl (by (conv => lhs; whnf); all_goals rfl)) trivial
          · replace hF := cond_f hb_48 hF
            conv => whnf
            refine len_q (enc := encLeg) (l := x_0.Onward) rfl ?_
            conv => whnf
            obtain ⟨c_1, hc_1, hF⟩ := fin_some hF
            refine sw_bv 0 (v := .agg [.int .i64 x_0.Kind, .int .i64 x_0.Do, .str x_0.Port, .int .i64 x_0.Number, .str x_0.In.Flight.Carrier, .int .i64 x_0.In.Flight.Number, .str x_0.In.Flight.Suffix, .int .i64 x_0.In.Flight.Day, .str x_0.In.Port, .str x_0.In.Class, .str x_0.Out.Flight.Carrier, .int .i64 x_0.Out.Flight.Number, .str x_0.Out.Flight.Suffix, .int .i64 x_0.Out.Flight.Day, .str x_0.Out.Port, .str x_0.Out.Class, .lst 6 (x_0.Onward.map encLeg), .int .i64 x_0.First.Lead, .int .i64 x_0.First.Airline, .int .i64 x_0.First.Serial, .int .i64 x_0.Count, .bool x_0.Load, .int .i64 x_0.Status, .int .i64 x_0.Sequence, .int .i64 x_0.Weight, .str x_0.Surname, .str x_0.Given, .int .i64 x_0.Exception, .str x_0.Node, .lst 1 (x_0.List.map iA)]) (by (conv => lhs; whnf); all_goals rfl) (fun hb => ?_)
            have hbd_k_5 : x_0.Onward.length ≤ 9223372036854775807 := bnd_len (enc := encLeg) ((bnd_at hb.cell 16 rfl))
            refine sw_loop tab_ok follows_ok (fun y : Nat => y ≤ x_0.Onward.length ∧ message_shaped_L1 (x_0.Onward.drop y) y = some c_1) (fun y => ⟨eL [(1, .ptr 0 0), (32, .lst 6 (x_0.Onward.map encLeg)), (33, .int .i64 (x_0.Onward.length : Int)), (34, .int .i64 (y : Int))], hL [(0, .box [.int .i64 x_0.Kind, .int .i64 x_0.Do, .str x_0.Port, .int .i64 x_0.Number, .str x_0.In.Flight.Carrier, .int .i64 x_0.In.Flight.Number, .str x_0.In.Flight.Suffix, .int .i64 x_0.In.Flight.Day, .str x_0.In.Port, .str x_0.In.Class, .str x_0.Out.Flight.Carrier, .int .i64 x_0.Out.Flight.Number, .str x_0.Out.Flight.Suffix, .int .i64 x_0.Out.Flight.Day, .str x_0.Out.Port, .str x_0.Out.Class, .lst 6 (x_0.Onward.map encLeg), .int .i64 x_0.First.Lead, .int .i64 x_0.First.Airline, .int .i64 x_0.First.Serial, .int .i64 x_0.Count, .bool x_0.Load, .int .i64 x_0.Status, .int .i64 x_0.Sequence, .int .i64 x_0.Weight, .str x_0.Surname, .str x_0.Given, .int .i64 x_0.Exception, .str x_0.Node, .lst 1 (x_0.List.map iA)])], 1⟩) (fun y => x_0.Onward.length - y) 0 ⟨Nat.zero_le _, hc_1⟩ (wk_mk [0] [] [] rfl ⟨argP (id := 0) (by (conv => lhs; whnf); all_goals rfl) rfl, argE (by (conv => lhs; whnf); all_goals rfl) rfl, argE (by (conv => lhs; whnf); all_goals rfl) rfl, argE (by (conv => lhs; whnf); all_goals rfl) rfl, trivial⟩ ⟨boxL rfl rfl rfl ⟨(.ni _ rfl), (.ni _ rfl), (.ni _ rfl), (.ni _ rfl), (.ni _ rfl), (.ni _ rfl), (.ni _ rfl), (.ni _ rfl), (.ni _ rfl), (.ni _ rfl), (.ni _ rfl), (.ni _ rfl), (.ni _ rfl), (.ni _ rfl), (.ni _ rfl), (.ni _ rfl), (.ni _ rfl), (.ni _ rfl), (.ni _ rfl), (.ni _ rfl), (.ni _ rfl), (.ni _ rfl), (.ni _ rfl), (.ni _ rfl), (.ni _ rfl), (.ni _ rfl), (.ni _ rfl), (.ni _ rfl), (.ni _ rfl), (.ni _ rfl), trivial⟩, trivial⟩) ?_
            rintro k_5 ⟨hk_k_5, hL1⟩
            try dsimp only at hk_k_5 hL1
            show awp _ _ _ _ _ _ ⟨eL [(1, .ptr 0 0), (32, .lst 6 (x_0.Onward.map encLeg)), (33, .int .i64 (x_0.Onward.length : Int)), (34, .int .i64 (k_5 : Int))], hL [(0, .box [.int .i64 x_0.Kind, .int .i64 x_0.Do, .str x_0.Port, .int .i64 x_0.Number, .str x_0.In.Flight.Carrier, .int .i64 x_0.In.Flight.Number, .str x_0.In.Flight.Suffix, .int .i64 x_0.In.Flight.Day, .str x_0.In.Port, .str x_0.In.Class, .str x_0.Out.Flight.Carrier, .int .i64 x_0.Out.Flight.Number, .str x_0.Out.Flight.Suffix, .int .i64 x_0.Out.Flight.Day, .str x_0.Out.Port, .str x_0.Out.Class, .lst 6 (x_0.Onward.map encLeg), .int .i64 x_0.First.Lead, .int .i64 x_0.First.Airline, .int .i64 x_0.First.Serial, .int .i64 x_0.Count, .bool x_0.Load, .int .i64 x_0.Status, .int .i64 x_0.Sequence, .int .i64 x_0.Weight, .str x_0.Surname, .str x_0.Given, .int .i64 x_0.Exception, .str x_0.Node, .lst 1 (x_0.List.map iA)])], 1⟩
            conv => whnf
            refine ⟨fun h => ?_, fun h => ?_⟩
            · have hlt_k_5 : k_5 < x_0.Onward.length := by have h := of_decide_eq_true h; omega
              obtain ⟨e_6, h_e_6⟩ : ∃ y, x_0.Onward[k_5]? = some y := ⟨_, List.getElem?_eq_getElem hlt_k_5⟩
              rw [drop_cons h_e_6, message_shaped_L1.eq_2] at hL1
              conv => whnf
              refine ⟨k_5, _, rfl, ix_map h_e_6, ?_⟩
              conv => whnf
              obtain ⟨r_7, h_r_7, hL1⟩ := bind_some hL1
              refine ⟨_, _, _, _, _, _, _, _, _, callX false [] [] 0 Tryd.func79 (by decide) rfl (flight_ValidLeg_ac e_6 r_7 h_r_7) rfl ⟨(argE (by (conv => lhs; whnf); all_goals rfl) rfl), trivial⟩ rfl trivial rfl rfl rfl lend0 trivial rfl, ?_⟩
              conv => whnf
              refine ⟨fun hb_49 => ?_, fun hb_49 => ?_⟩
              · replace hL1 := cond_t hb_49 hL1
                conv => whnf
                obtain rfl := Option.some.inj hL1
                replace hF := fin_ret hF
                obtain rfl := Option.some.inj hF
                exact ret_gz [] [] [] rfl (argFl (by (conv => lhs; whnf); all_goals rfl)) trivial
              · replace hL1 := cond_f hb_49 hL1
                conv => whnf
                refine ⟨((k_5 + 1 : Nat) : Int), wrapE (by omega) (by omega) (by omega), ?_⟩
                conv => whnf
                exact ⟨k_5 + 1, [0], [], [], ⟨hlt_k_5, hL1⟩, by show x_0.Onward.length - (k_5 + 1) < x_0.Onward.length - k_5; omega, wk_mk [0] [] [] rfl ⟨argP (id := 0) (by (conv => lhs; whnf); all_goals rfl) rfl, argE (by (conv => lhs; whnf); all_goals rfl) rfl, argE (by (conv => lhs; whnf); all_goals rfl) rfl, argE (by (conv => lhs; whnf); all_goals rfl) rfl, trivial⟩ ⟨boxL rfl rfl rfl ⟨(.ni _ rfl), (.ni _ rfl), (.ni _ rfl), (.ni _ rfl), (.ni _ rfl), (.ni _ rfl), (.ni _ rfl), (.ni _ rfl), (.ni _ rfl), (.ni _ rfl), (.ni _ rfl), (.ni _ rfl), (.ni _ rfl), (.ni _ rfl), (.ni _ rfl), (.ni _ rfl), (.ni _ rfl), (.ni _ rfl), (.ni _ rfl), (.ni _ rfl), (.ni _ rfl), (.ni _ rfl), (.ni _ rfl), (.ni _ rfl), (.ni _ rfl), (.ni _ rfl), (.ni _ rfl), (.ni _ rfl), (.ni _ rfl), (.ni _ rfl), trivial⟩, trivial⟩⟩
            · rw [drop_nil (show x_0.Onward.length ≤ k_5 by have h := of_decide_eq_false h; omega), message_shaped_L1.eq_1] at hL1
              conv => whnf
              obtain rfl := Option.some.inj hL1
              replace hF := fin_brk hF
              try dsimp only at hF
              obtain ⟨r_10, h_r_10, hF⟩ := bind_some hF
              refine ⟨_, _, _, _, _, _, _, _, _, callX false [] [] 0 Tryd.func80 (by decide) rfl (message_describes_ac x_0.Kind r_10 h_r_10) rfl ⟨(argE (by (conv => lhs; whnf); all_goals rfl) rfl), trivial⟩ rfl trivial rfl rfl rfl lend0 trivial rfl, ?_⟩
              conv => whnf
              refine ⟨fun hb_50 => ?_, fun hb_50 => ?_⟩
              · replace hF := cond_t hb_50 hF
                conv => whnf
                obtain ⟨r_11, h_r_11, hF⟩ := bind_some hF
                refine ⟨_, _, _, _, _, _, _, _, _, callX false [] [] 0 Tryd.func81 (by decide) rfl (fields_Letters_ac x_0.Surname (1 : Int) (20 : Int) r_11 h_r_11) rfl ⟨(argE (by (conv => lhs; whnf); all_goals rfl) rfl), (argE (by (conv => lhs; whnf); all_goals rfl) rfl), (argE (by (conv => lhs; whnf); all_goals rfl) rfl), trivial⟩ rfl trivial rfl rfl rfl lend0 trivial rfl, ?_⟩
                conv => whnf
                refine ⟨fun hb_51 => ?_, fun hb_51 => ?_⟩
                · replace hF := cond_f hb_51 hF
                  conv => whnf
                  obtain ⟨r_12, h_r_12, hF⟩ := bind_some hF
                  refine ⟨_, _, _, _, _, _, _, _, _, callX false [] [] 0 Tryd.func81 (by decide) rfl (fields_Letters_ac x_0.Given (0 : Int) (20 : Int) r_12 h_r_12) rfl ⟨(argE (by (conv => lhs; whnf); all_goals rfl) rfl), (argE (by (conv => lhs; whnf); all_goals rfl) rfl), (argE (by (conv => lhs; whnf); all_goals rfl) rfl), trivial⟩ rfl trivial rfl rfl rfl lend0 trivial rfl, ?_⟩
                  conv => whnf
                  refine ⟨fun hb_52 => ?_, fun hb_52 => ?_⟩
                  · replace hF := cond_t hb_52 hF
                    conv => whnf
                    obtain rfl := Option.some.inj hF
                    exact ret_gz [] [] [] rfl (argFl (by (conv => lhs; whnf); all_goals rfl)) trivial
                  · replace hF := cond_f hb_52 hF
                    conv => whnf
                    refine ⟨fun h => ?_, fun h => ?_⟩
                    · cases (hb_47).symm.trans h
                    · conv => whnf
                      obtain rfl := Option.some.inj hF
                      exact ret_gz [] [] [] rfl (argT (by (conv => lhs; whnf); all_goals rfl)) trivial
                · replace hF := cond_t hb_51 hF
                  conv => whnf
                  obtain rfl := Option.some.inj hF
                  exact ret_gz [] [] [] rfl (argFl (by (conv => lhs; whnf); all_goals rfl)) trivial
              · replace hF := cond_f hb_50 hF
                conv => whnf
                refine ⟨fun h => ?_, fun h => ?_⟩
                · cases (hb_47).symm.trans h
                · conv => whnf
                  obtain rfl := Option.some.inj hF
                  exact ret_gz [] [] [] rfl (argT (by (conv => lhs; whnf); all_goals rfl)) trivial
        · replace hF := cond_f hb_47 hF
          conv => whnf
          refine len_q (enc := encLeg) (l := x_0.Onward) rfl ?_
          conv => whnf
          obtain ⟨c_1, hc_1, hF⟩ := fin_some hF
          refine sw_bv 0 (v := .agg [.int .i64 x_0.Kind, .int .i64 x_0.Do, .str x_0.Port, .int .i64 x_0.Number, .str x_0.In.Flight.Carrier, .int .i64 x_0.In.Flight.Number, .str x_0.In.Flight.Suffix, .int .i64 x_0.In.Flight.Day, .str x_0.In.Port, .str x_0.In.Class, .str x_0.Out.Flight.Carrier, .int .i64 x_0.Out.Flight.Number, .str x_0.Out.Flight.Suffix, .int .i64 x_0.Out.Flight.Day, .str x_0.Out.Port, .str x_0.Out.Class, .lst 6 (x_0.Onward.map encLeg), .int .i64 x_0.First.Lead, .int .i64 x_0.First.Airline, .int .i64 x_0.First.Serial, .int .i64 x_0.Count, .bool x_0.Load, .int .i64 x_0.Status, .int .i64 x_0.Sequence, .int .i64 x_0.Weight, .str x_0.Surname, .str x_0.Given, .int .i64 x_0.Exception, .str x_0.Node, .lst 1 (x_0.List.map iA)]) (by (conv => lhs; whnf); all_goals rfl) (fun hb => ?_)
          have hbd_k_14 : x_0.Onward.length ≤ 9223372036854775807 := bnd_len (enc := encLeg) ((bnd_at hb.cell 16 rfl))
          refine sw_loop tab_ok follows_ok (fun y : Nat => y ≤ x_0.Onward.length ∧ message_shaped_L1 (x_0.Onward.drop y) y = some c_1) (fun y => ⟨eL [(1, .ptr 0 0), (32, .lst 6 (x_0.Onward.map encLeg)), (33, .int .i64 (x_0.Onward.length : Int)), (34, .int .i64 (y : Int))], hL [(0, .box [.int .i64 x_0.Kind, .int .i64 x_0.Do, .str x_0.Port, .int .i64 x_0.Number, .str x_0.In.Flight.Carrier, .int .i64 x_0.In.Flight.Number, .str x_0.In.Flight.Suffix, .int .i64 x_0.In.Flight.Day, .str x_0.In.Port, .str x_0.In.Class, .str x_0.Out.Flight.Carrier, .int .i64 x_0.Out.Flight.Number, .str x_0.Out.Flight.Suffix, .int .i64 x_0.Out.Flight.Day, .str x_0.Out.Port, .str x_0.Out.Class, .lst 6 (x_0.Onward.map encLeg), .int .i64 x_0.First.Lead, .int .i64 x_0.First.Airline, .int .i64 x_0.First.Serial, .int .i64 x_0.Count, .bool x_0.Load, .int .i64 x_0.Status, .int .i64 x_0.Sequence, .int .i64 x_0.Weight, .str x_0.Surname, .str x_0.Given, .int .i64 x_0.Exception, .str x_0.Node, .lst 1 (x_0.List.map iA)])], 1⟩) (fun y => x_0.Onward.length - y) 0 ⟨Nat.zero_le _, hc_1⟩ (wk_mk [0] [] [] rfl ⟨argP (id := 0) (by (conv => lhs; whnf); all_goals rfl) rfl, argE (by (conv => lhs; whnf); all_goals rfl) rfl, argE (by (conv => lhs; whnf); all_goals rfl) rfl, argE (by (conv => lhs; whnf); all_goals rfl) rfl, trivial⟩ ⟨boxL rfl rfl rfl ⟨(.ni _ rfl), (.ni _ rfl), (.ni _ rfl), (.ni _ rfl), (.ni _ rfl), (.ni _ rfl), (.ni _ rfl), (.ni _ rfl), (.ni _ rfl), (.ni _ rfl), (.ni _ rfl), (.ni _ rfl), (.ni _ rfl), (.ni _ rfl), (.ni _ rfl), (.ni _ rfl), (.ni _ rfl), (.ni _ rfl), (.ni _ rfl), (.ni _ rfl), (.ni _ rfl), (.ni _ rfl), (.ni _ rfl), (.ni _ rfl), (.ni _ rfl), (.ni _ rfl), (.ni _ rfl), (.ni _ rfl), (.ni _ rfl), (.ni _ rfl), trivial⟩, trivial⟩) ?_
          rintro k_14 ⟨hk_k_14, hL1⟩
          try dsimp only at hk_k_14 hL1
          show awp _ _ _ _ _ _ ⟨eL [(1, .ptr 0 0), (32, .lst 6 (x_0.Onward.map encLeg)), (33, .int .i64 (x_0.Onward.length : Int)), (34, .int .i64 (k_14 : Int))], hL [(0, .box [.int .i64 x_0.Kind, .int .i64 x_0.Do, .str x_0.Port, .int .i64 x_0.Number, .str x_0.In.Flight.Carrier, .int .i64 x_0.In.Flight.Number, .str x_0.In.Flight.Suffix, .int .i64 x_0.In.Flight.Day, .str x_0.In.Port, .str x_0.In.Class, .str x_0.Out.Flight.Carrier, .int .i64 x_0.Out.Flight.Number, .str x_0.Out.Flight.Suffix, .int .i64 x_0.Out.Flight.Day, .str x_0.Out.Port, .str x_0.Out.Class, .lst 6 (x_0.Onward.map encLeg), .int .i64 x_0.First.Lead, .int .i64 x_0.First.Airline, .int .i64 x_0.First.Serial, .int .i64 x_0.Count, .bool x_0.Load, .int .i64 x_0.Status, .int .i64 x_0.Sequence, .int .i64 x_0.Weight, .str x_0.Surname, .str x_0.Given, .int .i64 x_0.Exception, .str x_0.Node, .lst 1 (x_0.List.map iA)])], 1⟩
          conv => whnf
          refine ⟨fun h => ?_, fun h => ?_⟩
          · have hlt_k_14 : k_14 < x_0.Onward.length := by have h := of_decide_eq_true h; omega
            obtain ⟨e_15, h_e_15⟩ : ∃ y, x_0.Onward[k_14]? = some y := ⟨_, List.getElem?_eq_getElem hlt_k_14⟩
            rw [drop_cons h_e_15, message_shaped_L1.eq_2] at hL1
            conv => whnf
            refine ⟨k_14, _, rfl, ix_map h_e_15, ?_⟩
            conv => whnf
            obtain ⟨r_16, h_r_16, hL1⟩ := bind_some hL1
            refine ⟨_, _, _, _, _, _, _, _, _, callX false [] [] 0 Tryd.func79 (by decide) rfl (flight_ValidLeg_ac e_15 r_16 h_r_16) rfl ⟨(argE (by (conv => lhs; whnf); all_goals rfl) rfl), trivial⟩ rfl trivial rfl rfl rfl lend0 trivial rfl, ?_⟩
            conv => whnf
            refine ⟨fun hb_53 => ?_, fun hb_53 => ?_⟩
            · replace hL1 := cond_t hb_53 hL1
              conv => whnf
              obtain rfl := Option.some.inj hL1
              replace hF := fin_ret hF
              obtain rfl := Option.some.inj hF
              exact ret_gz [] [] [] rfl (argFl (by (conv => lhs; whnf); all_goals rfl)) trivial
            · replace hL1 := cond_f hb_53 hL1
              conv => whnf
              refine ⟨((k_14 + 1 : Nat) : Int), wrapE (by omega) (by omega) (by omega), ?_⟩
              conv => whnf
              exact ⟨k_14 + 1, [0], [], [], ⟨hlt_k_14, hL1⟩, by show x_0.Onward.length - (k_14 + 1) < x_0.Onward.length - k_14; omega, wk_mk [0] [] [] rfl ⟨argP (id := 0) (by (conv => lhs; whnf); all_goals rfl) rfl, argE (by (conv => lhs; whnf); all_goals rfl) rfl, argE (by (conv => lhs; whnf); all_goals rfl) rfl, argE (by (conv => lhs; whnf); all_goals rfl) rfl, trivial⟩ ⟨boxL rfl rfl rfl ⟨(.ni _ rfl), (.ni _ rfl), (.ni _ rfl), (.ni _ rfl), (.ni _ rfl), (.ni _ rfl), (.ni _ rfl), (.ni _ rfl), (.ni _ rfl), (.ni _ rfl), (.ni _ rfl), (.ni _ rfl), (.ni _ rfl), (.ni _ rfl), (.ni _ rfl), (.ni _ rfl), (.ni _ rfl), (.ni _ rfl), (.ni _ rfl), (.ni _ rfl), (.ni _ rfl), (.ni _ rfl), (.ni _ rfl), (.ni _ rfl), (.ni _ rfl), (.ni _ rfl), (.ni _ rfl), (.ni _ rfl), (.ni _ rfl), (.ni _ rfl), trivial⟩, trivial⟩⟩
          · rw [drop_nil (show x_0.Onward.length ≤ k_14 by have h := of_decide_eq_false h; omega), message_shaped_L1.eq_1] at hL1
            conv => whnf
            obtain rfl := Option.some.inj hL1
            replace hF := fin_brk hF
            try dsimp only at hF
            obtain ⟨r_19, h_r_19, hF⟩ := bind_some hF
            refine ⟨_, _, _, _, _, _, _, _, _, callX false [] [] 0 Tryd.func80 (by decide) rfl (message_describes_ac x_0.Kind r_19 h_r_19) rfl ⟨(argE (by (conv => lhs; whnf); all_goals rfl) rfl), trivial⟩ rfl trivial rfl rfl rfl lend0 trivial rfl, ?_⟩
            conv => whnf
            refine ⟨fun hb_54 => ?_, fun hb_54 => ?_⟩
            · replace hF := cond_t hb_54 hF
              conv => whnf
              obtain ⟨r_20, h_r_20, hF⟩ := bind_some hF
              refine ⟨_, _, _, _, _, _, _, _, _, callX false [] [] 0 Tryd.func81 (by decide) rfl (fields_Letters_ac x_0.Surname (1 : Int) (20 : Int) r_20 h_r_20) rfl ⟨(argE (by (conv => lhs; whnf); all_goals rfl) rfl), (argE (by (conv => lhs; whnf); all_goals rfl) rfl), (argE (by (conv => lhs; whnf); all_goals rfl) rfl), trivial⟩ rfl trivial rfl rfl rfl lend0 trivial rfl, ?_⟩
              conv => whnf
              refine ⟨fun hb_55 => ?_, fun hb_55 => ?_⟩
              · replace hF := cond_f hb_55 hF
                conv => whnf
                obtain ⟨r_21, h_r_21, hF⟩ := bind_some hF
                refine ⟨_, _, _, _, _, _, _, _, _, callX false [] [] 0 Tryd.func81 (by decide) rfl (fields_Letters_ac x_0.Given (0 : Int) (20 : Int) r_21 h_r_21) rfl ⟨(argE (by (conv => lhs; whnf); all_goals rfl) rfl), (argE (by (conv => lhs; whnf); all_goals rfl) rfl), (argE (by (conv => lhs; whnf); all_goals rfl) rfl), trivial⟩ rfl trivial rfl rfl rfl lend0 trivial rfl, ?_⟩
                conv => whnf
                refine ⟨fun hb_56 => ?_, fun hb_56 => ?_⟩
                · replace hF := cond_t hb_56 hF
                  conv => whnf
                  obtain rfl := Option.some.inj hF
                  exact ret_gz [] [] [] rfl (argFl (by (conv => lhs; whnf); all_goals rfl)) trivial
                · replace hF := cond_f hb_56 hF
                  conv => whnf
                  refine ⟨fun h => ?_, fun h => ?_⟩
                  · conv => whnf
                    obtain ⟨r_22, h_r_22, hF⟩ := bind_some hF
                    refine ⟨_, _, _, _, _, _, _, _, _, callX false [] [] 0 Tryd.func82 (by decide) rfl (fields_Name_ac x_0.Node (12 : Int) r_22 h_r_22) rfl ⟨(argE (by (conv => lhs; whnf); all_goals rfl) rfl), (argE (by (conv => lhs; whnf); all_goals rfl) rfl), trivial⟩ rfl trivial rfl rfl rfl lend0 trivial rfl, ?_⟩
                    conv => whnf
                    obtain rfl := Option.some.inj hF
                    exact ret_gz [] [] [] rfl (argE (by (conv => lhs; whnf); all_goals rfl) rfl) trivial
                  · cases (hb_47).symm.trans h
              · replace hF := cond_t hb_55 hF
                conv => whnf
                obtain rfl := Option.some.inj hF
                exact ret_gz [] [] [] rfl (argFl (by (conv => lhs; whnf); all_goals rfl)) trivial
            · replace hF := cond_f hb_54 hF
              conv => whnf
              refine ⟨fun h => ?_, fun h => ?_⟩
              · conv => whnf
                obtain ⟨r_23, h_r_23, hF⟩ := bind_some hF
                refine ⟨_, _, _, _, _, _, _, _, _, callX false [] [] 0 Tryd.func82 (by decide) rfl (fields_Name_ac x_0.Node (12 : Int) r_23 h_r_23) rfl ⟨(argE (by (conv => lhs; whnf); all_goals rfl) rfl), (argE (by (conv => lhs; whnf); all_goals rfl) rfl), trivial⟩ rfl trivial rfl rfl rfl lend0 trivial rfl, ?_⟩
                conv => whnf
                obtain rfl := Option.some.inj hF
                exact ret_gz [] [] [] rfl (argE (by (conv => lhs; whnf); all_goals rfl) rfl) trivial
              · cases (hb_47).symm.trans h
      · replace hF := cond_t hb_46 hF
        conv => whnf
        obtain rfl := Option.some.inj hF
        exact ret_gz [] [] [] rfl (argFl (by (conv => lhs; whnf); all_goals rfl)) trivial
    · replace hF := cond_f hb_45 hF
      conv => whnf
      refine ⟨fun hb_57 => ?_, fun hb_57 => ?_⟩
      · replace hF := cond_t hb_57 hF
        conv => whnf
        obtain ⟨r_24, h_r_24, hF⟩ := bind_some hF
        refine ⟨_, _, _, _, _, _, _, _, _, callX false [] [] 0 Tryd.func79 (by decide) rfl (flight_ValidLeg_ac x_0.Out r_24 h_r_24) rfl ⟨(argE (by (conv => lhs; whnf); all_goals rfl) rfl), trivial⟩ rfl trivial rfl rfl rfl lend0 trivial rfl, ?_⟩
        conv => whnf
        refine ⟨fun hb_58 => ?_, fun hb_58 => ?_⟩
        · replace hF := cond_t hb_58 hF
          conv => whnf
          obtain rfl := Option.some.inj hF
          exact ret_gz [] [] [] rfl (argFl (by (conv => lhs; whnf); all_goals rfl)) trivial
        · replace hF := cond_f hb_58 hF
          conv => whnf
          refine len_q (enc := encLeg) (l := x_0.Onward) rfl ?_
          conv => whnf
          obtain ⟨c_1, hc_1, hF⟩ := fin_some hF
          refine sw_bv 0 (v := .agg [.int .i64 x_0.Kind, .int .i64 x_0.Do, .str x_0.Port, .int .i64 x_0.Number, .str x_0.In.Flight.Carrier, .int .i64 x_0.In.Flight.Number, .str x_0.In.Flight.Suffix, .int .i64 x_0.In.Flight.Day, .str x_0.In.Port, .str x_0.In.Class, .str x_0.Out.Flight.Carrier, .int .i64 x_0.Out.Flight.Number, .str x_0.Out.Flight.Suffix, .int .i64 x_0.Out.Flight.Day, .str x_0.Out.Port, .str x_0.Out.Class, .lst 6 (x_0.Onward.map encLeg), .int .i64 x_0.First.Lead, .int .i64 x_0.First.Airline, .int .i64 x_0.First.Serial, .int .i64 x_0.Count, .bool x_0.Load, .int .i64 x_0.Status, .int .i64 x_0.Sequence, .int .i64 x_0.Weight, .str x_0.Surname, .str x_0.Given, .int .i64 x_0.Exception, .str x_0.Node, .lst 1 (x_0.List.map iA)]) (by (conv => lhs; whnf); all_goals rfl) (fun hb => ?_)
          have hbd_k_26 : x_0.Onward.length ≤ 9223372036854775807 := bnd_len (enc := encLeg) ((bnd_at hb.cell 16 rfl))
          refine sw_loop tab_ok follows_ok (fun y : Nat => y ≤ x_0.Onward.length ∧ message_shaped_L1 (x_0.Onward.drop y) y = some c_1) (fun y => ⟨eL [(1, .ptr 0 0), (32, .lst 6 (x_0.Onward.map encLeg)), (33, .int .i64 (x_0.Onward.length : Int)), (34, .int .i64 (y : Int))], hL [(0, .box [.int .i64 x_0.Kind, .int .i64 x_0.Do, .str x_0.Port, .int .i64 x_0.Number, .str x_0.In.Flight.Carrier, .int .i64 x_0.In.Flight.Number, .str x_0.In.Flight.Suffix, .int .i64 x_0.In.Flight.Day, .str x_0.In.Port, .str x_0.In.Class, .str x_0.Out.Flight.Carrier, .int .i64 x_0.Out.Flight.Number, .str x_0.Out.Flight.Suffix, .int .i64 x_0.Out.Flight.Day, .str x_0.Out.Port, .str x_0.Out.Class, .lst 6 (x_0.Onward.map encLeg), .int .i64 x_0.First.Lead, .int .i64 x_0.First.Airline, .int .i64 x_0.First.Serial, .int .i64 x_0.Count, .bool x_0.Load, .int .i64 x_0.Status, .int .i64 x_0.Sequence, .int .i64 x_0.Weight, .str x_0.Surname, .str x_0.Given, .int .i64 x_0.Exception, .str x_0.Node, .lst 1 (x_0.List.map iA)])], 1⟩) (fun y => x_0.Onward.length - y) 0 ⟨Nat.zero_le _, hc_1⟩ (wk_mk [0] [] [] rfl ⟨argP (id := 0) (by (conv => lhs; whnf); all_goals rfl) rfl, argE (by (conv => lhs; whnf); all_goals rfl) rfl, argE (by (conv => lhs; whnf); all_goals rfl) rfl, argE (by (conv => lhs; whnf); all_goals rfl) rfl, trivial⟩ ⟨boxL rfl rfl rfl ⟨(.ni _ rfl), (.ni _ rfl), (.ni _ rfl), (.ni _ rfl), (.ni _ rfl), (.ni _ rfl), (.ni _ rfl), (.ni _ rfl), (.ni _ rfl), (.ni _ rfl), (.ni _ rfl), (.ni _ rfl), (.ni _ rfl), (.ni _ rfl), (.ni _ rfl), (.ni _ rfl), (.ni _ rfl), (.ni _ rfl), (.ni _ rfl), (.ni _ rfl), (.ni _ rfl), (.ni _ rfl), (.ni _ rfl), (.ni _ rfl), (.ni _ rfl), (.ni _ rfl), (.ni _ rfl), (.ni _ rfl), (.ni _ rfl), (.ni _ rfl), trivial⟩, trivial⟩) ?_
          rintro k_26 ⟨hk_k_26, hL1⟩
          try dsimp only at hk_k_26 hL1
          show awp _ _ _ _ _ _ ⟨eL [(1, .ptr 0 0), (32, .lst 6 (x_0.Onward.map encLeg)), (33, .int .i64 (x_0.Onward.length : Int)), (34, .int .i64 (k_26 : Int))], hL [(0, .box [.int .i64 x_0.Kind, .int .i64 x_0.Do, .str x_0.Port, .int .i64 x_0.Number, .str x_0.In.Flight.Carrier, .int .i64 x_0.In.Flight.Number, .str x_0.In.Flight.Suffix, .int .i64 x_0.In.Flight.Day, .str x_0.In.Port, .str x_0.In.Class, .str x_0.Out.Flight.Carrier, .int .i64 x_0.Out.Flight.Number, .str x_0.Out.Flight.Suffix, .int .i64 x_0.Out.Flight.Day, .str x_0.Out.Port, .str x_0.Out.Class, .lst 6 (x_0.Onward.map encLeg), .int .i64 x_0.First.Lead, .int .i64 x_0.First.Airline, .int .i64 x_0.First.Serial, .int .i64 x_0.Count, .bool x_0.Load, .int .i64 x_0.Status, .int .i64 x_0.Sequence, .int .i64 x_0.Weight, .str x_0.Surname, .str x_0.Given, .int .i64 x_0.Exception, .str x_0.Node, .lst 1 (x_0.List.map iA)])], 1⟩
          conv => whnf
          refine ⟨fun h => ?_, fun h => ?_⟩
          · have hlt_k_26 : k_26 < x_0.Onward.length := by have h := of_decide_eq_true h; omega
            obtain ⟨e_27, h_e_27⟩ : ∃ y, x_0.Onward[k_26]? = some y := ⟨_, List.getElem?_eq_getElem hlt_k_26⟩
            rw [drop_cons h_e_27, message_shaped_L1.eq_2] at hL1
            conv => whnf
            refine ⟨k_26, _, rfl, ix_map h_e_27, ?_⟩
            conv => whnf
            obtain ⟨r_28, h_r_28, hL1⟩ := bind_some hL1
            refine ⟨_, _, _, _, _, _, _, _, _, callX false [] [] 0 Tryd.func79 (by decide) rfl (flight_ValidLeg_ac e_27 r_28 h_r_28) rfl ⟨(argE (by (conv => lhs; whnf); all_goals rfl) rfl), trivial⟩ rfl trivial rfl rfl rfl lend0 trivial rfl, ?_⟩
            conv => whnf
            refine ⟨fun hb_59 => ?_, fun hb_59 => ?_⟩
            · replace hL1 := cond_t hb_59 hL1
              conv => whnf
              obtain rfl := Option.some.inj hL1
              replace hF := fin_ret hF
              obtain rfl := Option.some.inj hF
              exact ret_gz [] [] [] rfl (argFl (by (conv => lhs; whnf); all_goals rfl)) trivial
            · replace hL1 := cond_f hb_59 hL1
              conv => whnf
              refine ⟨((k_26 + 1 : Nat) : Int), wrapE (by omega) (by omega) (by omega), ?_⟩
              conv => whnf
              exact ⟨k_26 + 1, [0], [], [], ⟨hlt_k_26, hL1⟩, by show x_0.Onward.length - (k_26 + 1) < x_0.Onward.length - k_26; omega, wk_mk [0] [] [] rfl ⟨argP (id := 0) (by (conv => lhs; whnf); all_goals rfl) rfl, argE (by (conv => lhs; whnf); all_goals rfl) rfl, argE (by (conv => lhs; whnf); all_goals rfl) rfl, argE (by (conv => lhs; whnf); all_goals rfl) rfl, trivial⟩ ⟨boxL rfl rfl rfl ⟨(.ni _ rfl), (.ni _ rfl), (.ni _ rfl), (.ni _ rfl), (.ni _ rfl), (.ni _ rfl), (.ni _ rfl), (.ni _ rfl), (.ni _ rfl), (.ni _ rfl), (.ni _ rfl), (.ni _ rfl), (.ni _ rfl), (.ni _ rfl), (.ni _ rfl), (.ni _ rfl), (.ni _ rfl), (.ni _ rfl), (.ni _ rfl), (.ni _ rfl), (.ni _ rfl), (.ni _ rfl), (.ni _ rfl), (.ni _ rfl), (.ni _ rfl), (.ni _ rfl), (.ni _ rfl), (.ni _ rfl), (.ni _ rfl), (.ni _ rfl), trivial⟩, trivial⟩⟩
          · rw [drop_nil (show x_0.Onward.length ≤ k_26 by have h := of_decide_eq_false h; omega), message_shaped_L1.eq_1] at hL1
            conv => whnf
            obtain rfl := Option.some.inj hL1
            replace hF := fin_brk hF
            try dsimp only at hF
            obtain ⟨r_31, h_r_31, hF⟩ := bind_some hF
            refine ⟨_, _, _, _, _, _, _, _, _, callX false [] [] 0 Tryd.func80 (by decide) rfl (message_describes_ac x_0.Kind r_31 h_r_31) rfl ⟨(argE (by (conv => lhs; whnf); all_goals rfl) rfl), trivial⟩ rfl trivial rfl rfl rfl lend0 trivial rfl, ?_⟩
            conv => whnf
            refine ⟨fun hb_60 => ?_, fun hb_60 => ?_⟩
            · replace hF := cond_t hb_60 hF
              conv => whnf
              obtain ⟨r_32, h_r_32, hF⟩ := bind_some hF
              refine ⟨_, _, _, _, _, _, _, _, _, callX false [] [] 0 Tryd.func81 (by decide) rfl (fields_Letters_ac x_0.Surname (1 : Int) (20 : Int) r_32 h_r_32) rfl ⟨(argE (by (conv => lhs; whnf); all_goals rfl) rfl), (argE (by (conv => lhs; whnf); all_goals rfl) rfl), (argE (by (conv => lhs; whnf); all_goals rfl) rfl), trivial⟩ rfl trivial rfl rfl rfl lend0 trivial rfl, ?_⟩
              conv => whnf
              refine ⟨fun hb_61 => ?_, fun hb_61 => ?_⟩
              · replace hF := cond_f hb_61 hF
                conv => whnf
                obtain ⟨r_33, h_r_33, hF⟩ := bind_some hF
                refine ⟨_, _, _, _, _, _, _, _, _, callX false [] [] 0 Tryd.func81 (by decide) rfl (fields_Letters_ac x_0.Given (0 : Int) (20 : Int) r_33 h_r_33) rfl ⟨(argE (by (conv => lhs; whnf); all_goals rfl) rfl), (argE (by (conv => lhs; whnf); all_goals rfl) rfl), (argE (by (conv => lhs; whnf); all_goals rfl) rfl), trivial⟩ rfl trivial rfl rfl rfl lend0 trivial rfl, ?_⟩
                conv => whnf
                refine ⟨fun hb_62 => ?_, fun hb_62 => ?_⟩
                · replace hF := cond_t hb_62 hF
                  conv => whnf
                  obtain rfl := Option.some.inj hF
                  exact ret_gz [] [] [] rfl (argFl (by (conv => lhs; whnf); all_goals rfl)) trivial
                · replace hF := cond_f hb_62 hF
                  conv => whnf
                  refine ⟨fun h => ?_, fun h => ?_⟩
                  · cases (hb_57).symm.trans h
                  · conv => whnf
                    obtain rfl := Option.some.inj hF
                    exact ret_gz [] [] [] rfl (argT (by (conv => lhs; whnf); all_goals rfl)) trivial
              · replace hF := cond_t hb_61 hF
                conv => whnf
                obtain rfl := Option.some.inj hF
                exact ret_gz [] [] [] rfl (argFl (by (conv => lhs; whnf); all_goals rfl)) trivial
            · replace hF := cond_f hb_60 hF
              conv => whnf
              refine ⟨fun h => ?_, fun h => ?_⟩
              · cases (hb_57).symm.trans h
              · conv => whnf
                obtain rfl := Option.some.inj hF
                exact ret_gz [] [] [] rfl (argT (by (conv => lhs; whnf); all_goals rfl)) trivial
      · replace hF := cond_f hb_57 hF
        conv => whnf
        refine len_q (enc := encLeg) (l := x_0.Onward) rfl ?_
        conv => whnf
        obtain ⟨c_1, hc_1, hF⟩ := fin_some hF
        refine sw_bv 0 (v := .agg [.int .i64 x_0.Kind, .int .i64 x_0.Do, .str x_0.Port, .int .i64 x_0.Number, .str x_0.In.Flight.Carrier, .int .i64 x_0.In.Flight.Number, .str x_0.In.Flight.Suffix, .int .i64 x_0.In.Flight.Day, .str x_0.In.Port, .str x_0.In.Class, .str x_0.Out.Flight.Carrier, .int .i64 x_0.Out.Flight.Number, .str x_0.Out.Flight.Suffix, .int .i64 x_0.Out.Flight.Day, .str x_0.Out.Port, .str x_0.Out.Class, .lst 6 (x_0.Onward.map encLeg), .int .i64 x_0.First.Lead, .int .i64 x_0.First.Airline, .int .i64 x_0.First.Serial, .int .i64 x_0.Count, .bool x_0.Load, .int .i64 x_0.Status, .int .i64 x_0.Sequence, .int .i64 x_0.Weight, .str x_0.Surname, .str x_0.Given, .int .i64 x_0.Exception, .str x_0.Node, .lst 1 (x_0.List.map iA)]) (by (conv => lhs; whnf); all_goals rfl) (fun hb => ?_)
        have hbd_k_35 : x_0.Onward.length ≤ 9223372036854775807 := bnd_len (enc := encLeg) ((bnd_at hb.cell 16 rfl))
        refine sw_loop tab_ok follows_ok (fun y : Nat => y ≤ x_0.Onward.length ∧ message_shaped_L1 (x_0.Onward.drop y) y = some c_1) (fun y => ⟨eL [(1, .ptr 0 0), (32, .lst 6 (x_0.Onward.map encLeg)), (33, .int .i64 (x_0.Onward.length : Int)), (34, .int .i64 (y : Int))], hL [(0, .box [.int .i64 x_0.Kind, .int .i64 x_0.Do, .str x_0.Port, .int .i64 x_0.Number, .str x_0.In.Flight.Carrier, .int .i64 x_0.In.Flight.Number, .str x_0.In.Flight.Suffix, .int .i64 x_0.In.Flight.Day, .str x_0.In.Port, .str x_0.In.Class, .str x_0.Out.Flight.Carrier, .int .i64 x_0.Out.Flight.Number, .str x_0.Out.Flight.Suffix, .int .i64 x_0.Out.Flight.Day, .str x_0.Out.Port, .str x_0.Out.Class, .lst 6 (x_0.Onward.map encLeg), .int .i64 x_0.First.Lead, .int .i64 x_0.First.Airline, .int .i64 x_0.First.Serial, .int .i64 x_0.Count, .bool x_0.Load, .int .i64 x_0.Status, .int .i64 x_0.Sequence, .int .i64 x_0.Weight, .str x_0.Surname, .str x_0.Given, .int .i64 x_0.Exception, .str x_0.Node, .lst 1 (x_0.List.map iA)])], 1⟩) (fun y => x_0.Onward.length - y) 0 ⟨Nat.zero_le _, hc_1⟩ (wk_mk [0] [] [] rfl ⟨argP (id := 0) (by (conv => lhs; whnf); all_goals rfl) rfl, argE (by (conv => lhs; whnf); all_goals rfl) rfl, argE (by (conv => lhs; whnf); all_goals rfl) rfl, argE (by (conv => lhs; whnf); all_goals rfl) rfl, trivial⟩ ⟨boxL rfl rfl rfl ⟨(.ni _ rfl), (.ni _ rfl), (.ni _ rfl), (.ni _ rfl), (.ni _ rfl), (.ni _ rfl), (.ni _ rfl), (.ni _ rfl), (.ni _ rfl), (.ni _ rfl), (.ni _ rfl), (.ni _ rfl), (.ni _ rfl), (.ni _ rfl), (.ni _ rfl), (.ni _ rfl), (.ni _ rfl), (.ni _ rfl), (.ni _ rfl), (.ni _ rfl), (.ni _ rfl), (.ni _ rfl), (.ni _ rfl), (.ni _ rfl), (.ni _ rfl), (.ni _ rfl), (.ni _ rfl), (.ni _ rfl), (.ni _ rfl), (.ni _ rfl), trivial⟩, trivial⟩) ?_
        rintro k_35 ⟨hk_k_35, hL1⟩
        try dsimp only at hk_k_35 hL1
        show awp _ _ _ _ _ _ ⟨eL [(1, .ptr 0 0), (32, .lst 6 (x_0.Onward.map encLeg)), (33, .int .i64 (x_0.Onward.length : Int)), (34, .int .i64 (k_35 : Int))], hL [(0, .box [.int .i64 x_0.Kind, .int .i64 x_0.Do, .str x_0.Port, .int .i64 x_0.Number, .str x_0.In.Flight.Carrier, .int .i64 x_0.In.Flight.Number, .str x_0.In.Flight.Suffix, .int .i64 x_0.In.Flight.Day, .str x_0.In.Port, .str x_0.In.Class, .str x_0.Out.Flight.Carrier, .int .i64 x_0.Out.Flight.Number, .str x_0.Out.Flight.Suffix, .int .i64 x_0.Out.Flight.Day, .str x_0.Out.Port, .str x_0.Out.Class, .lst 6 (x_0.Onward.map encLeg), .int .i64 x_0.First.Lead, .int .i64 x_0.First.Airline, .int .i64 x_0.First.Serial, .int .i64 x_0.Count, .bool x_0.Load, .int .i64 x_0.Status, .int .i64 x_0.Sequence, .int .i64 x_0.Weight, .str x_0.Surname, .str x_0.Given, .int .i64 x_0.Exception, .str x_0.Node, .lst 1 (x_0.List.map iA)])], 1⟩
        conv => whnf
        refine ⟨fun h => ?_, fun h => ?_⟩
        · have hlt_k_35 : k_35 < x_0.Onward.length := by have h := of_decide_eq_true h; omega
          obtain ⟨e_36, h_e_36⟩ : ∃ y, x_0.Onward[k_35]? = some y := ⟨_, List.getElem?_eq_getElem hlt_k_35⟩
          rw [drop_cons h_e_36, message_shaped_L1.eq_2] at hL1
          conv => whnf
          refine ⟨k_35, _, rfl, ix_map h_e_36, ?_⟩
          conv => whnf
          obtain ⟨r_37, h_r_37, hL1⟩ := bind_some hL1
          refine ⟨_, _, _, _, _, _, _, _, _, callX false [] [] 0 Tryd.func79 (by decide) rfl (flight_ValidLeg_ac e_36 r_37 h_r_37) rfl ⟨(argE (by (conv => lhs; whnf); all_goals rfl) rfl), trivial⟩ rfl trivial rfl rfl rfl lend0 trivial rfl, ?_⟩
          conv => whnf
          refine ⟨fun hb_63 => ?_, fun hb_63 => ?_⟩
          · replace hL1 := cond_t hb_63 hL1
            conv => whnf
            obtain rfl := Option.some.inj hL1
            replace hF := fin_ret hF
            obtain rfl := Option.some.inj hF
            exact ret_gz [] [] [] rfl (argFl (by (conv => lhs; whnf); all_goals rfl)) trivial
          · replace hL1 := cond_f hb_63 hL1
            conv => whnf
            refine ⟨((k_35 + 1 : Nat) : Int), wrapE (by omega) (by omega) (by omega), ?_⟩
            conv => whnf
            exact ⟨k_35 + 1, [0], [], [], ⟨hlt_k_35, hL1⟩, by show x_0.Onward.length - (k_35 + 1) < x_0.Onward.length - k_35; omega, wk_mk [0] [] [] rfl ⟨argP (id := 0) (by (conv => lhs; whnf); all_goals rfl) rfl, argE (by (conv => lhs; whnf); all_goals rfl) rfl, argE (by (conv => lhs; whnf); all_goals rfl) rfl, argE (by (conv => lhs; whnf); all_goals rfl) rfl, trivial⟩ ⟨boxL rfl rfl rfl ⟨(.ni _ rfl), (.ni _ rfl), (.ni _ rfl), (.ni _ rfl), (.ni _ rfl), (.ni _ rfl), (.ni _ rfl), (.ni _ rfl), (.ni _ rfl), (.ni _ rfl), (.ni _ rfl), (.ni _ rfl), (.ni _ rfl), (.ni _ rfl), (.ni _ rfl), (.ni _ rfl), (.ni _ rfl), (.ni _ rfl), (.ni _ rfl), (.ni _ rfl), (.ni _ rfl), (.ni _ rfl), (.ni _ rfl), (.ni _ rfl), (.ni _ rfl), (.ni _ rfl), (.ni _ rfl), (.ni _ rfl), (.ni _ rfl), (.ni _ rfl), trivial⟩, trivial⟩⟩
        · rw [drop_nil (show x_0.Onward.length ≤ k_35 by have h := of_decide_eq_false h; omega), message_shaped_L1.eq_1] at hL1
          conv => whnf
          obtain rfl := Option.some.inj hL1
          replace hF := fin_brk hF
          try dsimp only at hF
          obtain ⟨r_40, h_r_40, hF⟩ := bind_some hF
          refine ⟨_, _, _, _, _, _, _, _, _, callX false [] [] 0 Tryd.func80 (by decide) rfl (message_describes_ac x_0.Kind r_40 h_r_40) rfl ⟨(argE (by (conv => lhs; whnf); all_goals rfl) rfl), trivial⟩ rfl trivial rfl rfl rfl lend0 trivial rfl, ?_⟩
          conv => whnf
          refine ⟨fun hb_64 => ?_, fun hb_64 => ?_⟩
          · replace hF := cond_t hb_64 hF
            conv => whnf
            obtain ⟨r_41, h_r_41, hF⟩ := bind_some hF
            refine ⟨_, _, _, _, _, _, _, _, _, callX false [] [] 0 Tryd.func81 (by decide) rfl (fields_Letters_ac x_0.Surname (1 : Int) (20 : Int) r_41 h_r_41) rfl ⟨(argE (by (conv => lhs; whnf); all_goals rfl) rfl), (argE (by (conv => lhs; whnf); all_goals rfl) rfl), (argE (by (conv => lhs; whnf); all_goals rfl) rfl), trivial⟩ rfl trivial rfl rfl rfl lend0 trivial rfl, ?_⟩
            conv => whnf
            refine ⟨fun hb_65 => ?_, fun hb_65 => ?_⟩
            · replace hF := cond_f hb_65 hF
              conv => whnf
              obtain ⟨r_42, h_r_42, hF⟩ := bind_some hF
              refine ⟨_, _, _, _, _, _, _, _, _, callX false [] [] 0 Tryd.func81 (by decide) rfl (fields_Letters_ac x_0.Given (0 : Int) (20 : Int) r_42 h_r_42) rfl ⟨(argE (by (conv => lhs; whnf); all_goals rfl) rfl), (argE (by (conv => lhs; whnf); all_goals rfl) rfl), (argE (by (conv => lhs; whnf); all_goals rfl) rfl), trivial⟩ rfl trivial rfl rfl rfl lend0 trivial rfl, ?_⟩
              conv => whnf
              refine ⟨fun hb_66 => ?_, fun hb_66 => ?_⟩
              · replace hF := cond_t hb_66 hF
                conv => whnf
                obtain rfl := Option.some.inj hF
                exact ret_gz [] [] [] rfl (argFl (by (conv => lhs; whnf); all_goals rfl)) trivial
              · replace hF := cond_f hb_66 hF
                conv => whnf
                refine ⟨fun h => ?_, fun h => ?_⟩
                · conv => whnf
                  obtain ⟨r_43, h_r_43, hF⟩ := bind_some hF
                  refine ⟨_, _, _, _, _, _, _, _, _, callX false [] [] 0 Tryd.func82 (by decide) rfl (fields_Name_ac x_0.Node (12 : Int) r_43 h_r_43) rfl ⟨(argE (by (conv => lhs; whnf); all_goals rfl) rfl), (argE (by (conv => lhs; whnf); all_goals rfl) rfl), trivial⟩ rfl trivial rfl rfl rfl lend0 trivial rfl, ?_⟩
                  conv => whnf
                  obtain rfl := Option.some.inj hF
                  exact ret_gz [] [] [] rfl (argE (by (conv => lhs; whnf); all_goals rfl) rfl) trivial
                · cases (hb_57).symm.trans h
            · replace hF := cond_t hb_65 hF
              conv => whnf
              obtain rfl := Option.some.inj hF
              exact ret_gz [] [] [] rfl (argFl (by (conv => lhs; whnf); all_goals rfl)) trivial
          · replace hF := cond_f hb_64 hF
            conv => whnf
            refine ⟨fun h => ?_, fun h => ?_⟩
            · conv => whnf
              obtain ⟨r_44, h_r_44, hF⟩ := bind_some hF
              refine ⟨_, _, _, _, _, _, _, _, _, callX false [] [] 0 Tryd.func82 (by decide) rfl (fields_Name_ac x_0.Node (12 : Int) r_44 h_r_44) rfl ⟨(argE (by (conv => lhs; whnf); all_goals rfl) rfl), (argE (by (conv => lhs; whnf); all_goals rfl) rfl), trivial⟩ rfl trivial rfl rfl rfl lend0 trivial rfl, ?_⟩
              conv => whnf
              obtain rfl := Option.some.inj hF
              exact ret_gz [] [] [] rfl (argE (by (conv => lhs; whnf); all_goals rfl) rfl) trivial
            · cases (hb_57).symm.trans h
  · replace hF := cond_t hb_44 hF
    conv => whnf
    obtain rfl := Option.some.inj hF
    exact ret_gz [] [] [] rfl (argFl (by (conv => lhs; whnf); all_goals rfl)) trivial

set_option maxRecDepth 100000 in
set_option maxHeartbeats 40000000 in
theorem plate_Valid_ac (x_0 : Plate) (r : Bool) (hF : plate_Valid x_0 = some r) : AC Tryd.prog 83 [.agg (encPlate x_0)] [] (.bool r) [] := by
  refine ac_of tab_ok follows_ok Tryd.func83 rfl Tryd.ntmps83 rfl ?_
  unfold plate_Valid at hF
  conv => whnf
  refine ⟨fun hb_6 => ?_, fun hb_6 => ?_⟩
  · replace hF := cond_t hb_6 hF
    conv => whnf
    refine ⟨fun hb_7 => ?_, fun hb_7 => ?_⟩
    · replace hF := cond_t hb_7 hF
      conv => whnf
      refine ⟨fun hb_8 => ?_, fun hb_8 => ?_⟩
      · replace hF := cond_t hb_8 hF
        conv => whnf
        refine ⟨fun hb_9 => ?_, fun hb_9 => ?_⟩
        · replace hF := cond_t hb_9 hF
          conv => whnf
          refine ⟨fun hb_10 => ?_, fun hb_10 => ?_⟩
          · replace hF := cond_t hb_10 hF
            conv => whnf
            obtain rfl := Option.some.inj hF
            exact ret_gz [] [] [] rfl (argE (by (conv => lhs; whnf); all_goals rfl) rfl) trivial
          · replace hF := cond_f hb_10 hF
            conv => whnf
            obtain rfl := Option.some.inj hF
            exact ret_gz [] [] [] rfl (argFl (by (conv => lhs; whnf); all_goals rfl)) trivial
        · replace hF := cond_f hb_9 hF
          conv => whnf
          obtain rfl := Option.some.inj hF
          exact ret_gz [] [] [] rfl (argFl (by (conv => lhs; whnf); all_goals rfl)) trivial
      · replace hF := cond_f hb_8 hF
        conv => whnf
        obtain rfl := Option.some.inj hF
        exact ret_gz [] [] [] rfl (argFl (by (conv => lhs; whnf); all_goals rfl)) trivial
    · replace hF := cond_f hb_7 hF
      conv => whnf
      obtain rfl := Option.some.inj hF
      exact ret_gz [] [] [] rfl (argFl (by (conv => lhs; whnf); all_goals rfl)) trivial
  · replace hF := cond_f hb_6 hF
    conv => whnf
    obtain rfl := Option.some.inj hF
    exact ret_gz [] [] [] rfl (argFl (by (conv => lhs; whnf); all_goals rfl)) trivial

set_option maxRecDepth 100000 in
set_option maxHeartbeats 40000000 in
theorem message_ranged_f1_ac (x_0 : Int) (r : Bool) (hF : message_ranged_f1 x_0 = some r) : AC Tryd.prog 85 [.int .i64 x_0] [] (.bool r) [] := by
  refine ac_of tab_ok follows_ok Tryd.func85 rfl Tryd.ntmps85 rfl ?_
  unfold message_ranged_f1 at hF
  conv => whnf
  obtain ⟨r_1, h_r_1, hF⟩ := bind_some hF
  refine ⟨_, _, _, _, _, _, _, _, _, callX false [] [] 0 Tryd.func59 (by decide) rfl (message_in_ac x_0 (1 : Int) (999 : Int) r_1 h_r_1) rfl ⟨(argE (by (conv => lhs; whnf); all_goals rfl) rfl), (argE (by (conv => lhs; whnf); all_goals rfl) rfl), (argE (by (conv => lhs; whnf); all_goals rfl) rfl), trivial⟩ rfl trivial rfl rfl rfl lend0 trivial rfl, ?_⟩
  conv => whnf
  obtain rfl := Option.some.inj hF
  exact ret_gz [] [] [] rfl (argE (by (conv => lhs; whnf); all_goals rfl) rfl) trivial

set_option maxRecDepth 100000 in
set_option maxHeartbeats 40000000 in
theorem slices_IndexFunc_int_ac (x_0 : (List Int)) (r : Int) (hF : slices_IndexFunc_int x_0 = some r) : AC Tryd.prog 97 [.lst 1 (x_0.map iA), .fn 85 []] [] (.int .i64 r) [] := by
  refine ac_of tab_ok follows_ok Tryd.func97 rfl Tryd.ntmps97 rfl ?_
  unfold slices_IndexFunc_int at hF
  conv => whnf
  refine len_q (enc := iA) (l := x_0) rfl ?_
  conv => whnf
  obtain ⟨c_1, hc_1, hF⟩ := fin_some hF
  refine sw_bv 0 (v := .lst 1 (x_0.map iA)) (by (conv => lhs; whnf); all_goals rfl) (fun hb => ?_)
  have hbd_k_2 : x_0.length ≤ 9223372036854775807 := bnd_len (enc := iA) (hb)
  refine sw_loop tab_ok follows_ok (fun y : Nat => y ≤ x_0.length ∧ slices_IndexFunc_int_L1 (x_0.drop y) y = some c_1) (fun y => ⟨eL [(0, .lst 1 (x_0.map iA)), (1, .fn 85 []), (7, .int .i64 (x_0.length : Int)), (8, .int .i64 (y : Int))], hL [], 0⟩) (fun y => x_0.length - y) 0 ⟨Nat.zero_le _, hc_1⟩ (wk_mk [] [] [] rfl ⟨argE (by (conv => lhs; whnf); all_goals rfl) rfl, argE (by (conv => lhs; whnf); all_goals rfl) rfl, argE (by (conv => lhs; whnf); all_goals rfl) rfl, argE (by (conv => lhs; whnf); all_goals rfl) rfl, trivial⟩ trivial) ?_
  rintro k_2 ⟨hk_k_2, hL1⟩
  try dsimp only at hk_k_2 hL1
  show awp _ _ _ _ _ _ ⟨eL [(0, .lst 1 (x_0.map iA)), (1, .fn 85 []), (7, .int .i64 (x_0.length : Int)), (8, .int .i64 (k_2 : Int))], hL [], 0⟩
  conv => whnf
  refine ⟨fun h => ?_, fun h => ?_⟩
  · have hlt_k_2 : k_2 < x_0.length := by have h := of_decide_eq_true h; omega
    obtain ⟨e_3, h_e_3⟩ : ∃ y, x_0[k_2]? = some y := ⟨_, List.getElem?_eq_getElem hlt_k_2⟩
    rw [drop_cons h_e_3, slices_IndexFunc_int_L1.eq_2] at hL1
    conv => whnf
    refine ⟨k_2, _, rfl, ix_map h_e_3, ?_⟩
    conv => whnf
    obtain ⟨r_4, h_r_4, hL1⟩ := bind_some hL1
    refine ⟨_, _, _, _, _, _, _, _, _, callX false [] [] 0 Tryd.func85 (by decide) rfl (message_ranged_f1_ac e_3 r_4 h_r_4) rfl ⟨(argE (by (conv => lhs; whnf); all_goals rfl) rfl), trivial⟩ rfl trivial rfl rfl rfl lend0 trivial rfl, ?_⟩
    conv => whnf
    refine ⟨fun hb_7 => ?_, fun hb_7 => ?_⟩
    · replace hL1 := cond_t hb_7 hL1
      conv => whnf
      obtain rfl := Option.some.inj hL1
      replace hF := fin_ret hF
      obtain rfl := Option.some.inj hF
      exact ret_gz [] [] [] rfl (argE (by (conv => lhs; whnf); all_goals rfl) rfl) trivial
    · replace hL1 := cond_f hb_7 hL1
      conv => whnf
      refine ⟨((k_2 + 1 : Nat) : Int), wrapE (by omega) (by omega) (by omega), ?_⟩
      conv => whnf
      exact ⟨k_2 + 1, [], [], [], ⟨hlt_k_2, hL1⟩, by show x_0.length - (k_2 + 1) < x_0.length - k_2; omega, wk_mk [] [] [] rfl ⟨argE (by (conv => lhs; whnf); all_goals rfl) rfl, argE (by (conv => lhs; whnf); all_goals rfl) rfl, argE (by (conv => lhs; whnf); all_goals rfl) rfl, argE (by (conv => lhs; whnf); all_goals rfl) rfl, trivial⟩ trivial⟩
  · rw [drop_nil (show x_0.length ≤ k_2 by have h := of_decide_eq_false h; omega), slices_IndexFunc_int_L1.eq_1] at hL1
    conv => whnf
    obtain rfl := Option.some.inj hL1
    replace hF := fin_brk hF
    try dsimp only at hF
    obtain rfl := Option.some.inj hF
    exact ret_gz [] [] [] rfl (argE (by (conv => lhs; whnf); all_goals rfl) rfl) trivial

set_option maxRecDepth 100000 in
set_option maxHeartbeats 40000000 in
theorem slices_ContainsFunc_int_ac (x_0 : (List Int)) (r : Bool) (hF : slices_ContainsFunc_int x_0 = some r) : AC Tryd.prog 84 [.lst 1 (x_0.map iA), .fn 85 []] [] (.bool r) [] := by
  refine ac_of tab_ok follows_ok Tryd.func84 rfl Tryd.ntmps84 rfl ?_
  unfold slices_ContainsFunc_int at hF
  conv => whnf
  obtain ⟨r_1, h_r_1, hF⟩ := bind_some hF
  refine ⟨_, _, _, _, _, _, _, _, _, callX false [] [] 0 Tryd.func97 (by decide) rfl (slices_IndexFunc_int_ac x_0 r_1 h_r_1) rfl ⟨(argE (by (conv => lhs; whnf); all_goals rfl) rfl), (argE (by (conv => lhs; whnf); all_goals rfl) rfl), trivial⟩ rfl trivial rfl rfl rfl lend0 trivial rfl, ?_⟩
  conv => whnf
  obtain rfl := Option.some.inj hF
  exact ret_gz [] [] [] rfl (argE (by (conv => lhs; whnf); all_goals rfl) rfl) trivial

set_option maxRecDepth 100000 in
set_option maxHeartbeats 40000000 in
theorem message_ranged_ac (x_0 : Message) (r : Bool) (hF : message_ranged x_0 = some r) : AC Tryd.prog 63 [.agg (encMessage x_0)] [] (.bool r) [] := by
  refine ac_of tab_ok follows_ok Tryd.func63 rfl Tryd.ntmps63 rfl ?_
  unfold message_ranged at hF
  conv => whnf
  obtain ⟨r_1, h_r_1, hF⟩ := bind_some hF
  refine ⟨_, _, _, _, _, _, _, _, _, callX false [] [] 0 Tryd.func59 (by decide) rfl (message_in_ac x_0.Number (1 : Int) (9999 : Int) r_1 h_r_1) rfl ⟨(argE (by (conv => lhs; whnf); all_goals rfl) rfl), (argE (by (conv => lhs; whnf); all_goals rfl) rfl), (argE (by (conv => lhs; whnf); all_goals rfl) rfl), trivial⟩ rfl trivial rfl rfl rfl lend0 trivial rfl, ?_⟩
  conv => whnf
  refine ⟨fun hb_14 => ?_, fun hb_14 => ?_⟩
  · replace hF := cond_f hb_14 hF
    conv => whnf
    obtain ⟨r_2, h_r_2, hF⟩ := bind_some hF
    refine ⟨_, _, _, _, _, _, _, _, _, callX false [] [] 0 Tryd.func59 (by decide) rfl (message_in_ac x_0.Do (0 : Int) (2 : Int) r_2 h_r_2) rfl ⟨(argE (by (conv => lhs; whnf); all_goals rfl) rfl), (argE (by (conv => lhs; whnf); all_goals rfl) rfl), (argE (by (conv => lhs; whnf); all_goals rfl) rfl), trivial⟩ rfl trivial rfl rfl rfl lend0 trivial rfl, ?_⟩
    conv => whnf
    refine ⟨fun hb_15 => ?_, fun hb_15 => ?_⟩
    · replace hF := cond_f hb_15 hF
      conv => whnf
      obtain ⟨r_3, h_r_3, hF⟩ := bind_some hF
      refine ⟨_, _, _, _, _, _, _, _, _, callX false [] [] 0 Tryd.func59 (by decide) rfl (message_in_ac x_0.Weight (0 : Int) (999 : Int) r_3 h_r_3) rfl ⟨(argE (by (conv => lhs; whnf); all_goals rfl) rfl), (argE (by (conv => lhs; whnf); all_goals rfl) rfl), (argE (by (conv => lhs; whnf); all_goals rfl) rfl), trivial⟩ rfl trivial rfl rfl rfl lend0 trivial rfl, ?_⟩
      conv => whnf
      refine ⟨fun hb_16 => ?_, fun hb_16 => ?_⟩
      · replace hF := cond_f hb_16 hF
        conv => whnf
        obtain ⟨r_4, h_r_4, hF⟩ := bind_some hF
        refine ⟨_, _, _, _, _, _, _, _, _, callX false [] [] 0 Tryd.func59 (by decide) rfl (message_in_ac x_0.Exception (0 : Int) (3 : Int) r_4 h_r_4) rfl ⟨(argE (by (conv => lhs; whnf); all_goals rfl) rfl), (argE (by (conv => lhs; whnf); all_goals rfl) rfl), (argE (by (conv => lhs; whnf); all_goals rfl) rfl), trivial⟩ rfl trivial rfl rfl rfl lend0 trivial rfl, ?_⟩
        conv => whnf
        refine ⟨fun hb_17 => ?_, fun hb_17 => ?_⟩
        · replace hF := cond_t hb_17 hF
          conv => whnf
          obtain rfl := Option.some.inj hF
          exact ret_gz [] [] [] rfl (argFl (by (conv => lhs; whnf); all_goals rfl)) trivial
        · replace hF := cond_f hb_17 hF
          conv => whnf
          refine ⟨fun hb_18 => ?_, fun hb_18 => ?_⟩
          · replace hF := cond_t hb_18 hF
            conv => whnf
            obtain ⟨r_5, h_r_5, hF⟩ := bind_some hF
            refine ⟨_, _, _, _, _, _, _, _, _, callX false [] [] 0 Tryd.func83 (by decide) rfl (plate_Valid_ac x_0.First r_5 h_r_5) rfl ⟨(argE (by (conv => lhs; whnf); all_goals rfl) rfl), trivial⟩ rfl trivial rfl rfl rfl lend0 trivial rfl, ?_⟩
            conv => whnf
            refine ⟨fun hb_19 => ?_, fun hb_19 => ?_⟩
            · replace hF := cond_f hb_19 hF
              conv => whnf
              obtain ⟨r_6, h_r_6, hF⟩ := bind_some hF
              refine ⟨_, _, _, _, _, _, _, _, _, callX false [] [] 0 Tryd.func59 (by decide) rfl (message_in_ac x_0.Count (1 : Int) (99 : Int) r_6 h_r_6) rfl ⟨(argE (by (conv => lhs; whnf); all_goals rfl) rfl), (argE (by (conv => lhs; whnf); all_goals rfl) rfl), (argE (by (conv => lhs; whnf); all_goals rfl) rfl), trivial⟩ rfl trivial rfl rfl rfl lend0 trivial rfl, ?_⟩
              conv => whnf
              refine ⟨fun hb_20 => ?_, fun hb_20 => ?_⟩
              · replace hF := cond_t hb_20 hF
                conv => whnf
                obtain rfl := Option.some.inj hF
                exact ret_gz [] [] [] rfl (argFl (by (conv => lhs; whnf); all_goals rfl)) trivial
              · replace hF := cond_f hb_20 hF
                conv => whnf
                obtain ⟨r_7, h_r_7, hF⟩ := bind_some hF
                refine ⟨_, _, _, _, _, _, _, _, _, callX false [] [] 0 Tryd.func80 (by decide) rfl (message_describes_ac x_0.Kind r_7 h_r_7) rfl ⟨(argE (by (conv => lhs; whnf); all_goals rfl) rfl), trivial⟩ rfl trivial rfl rfl rfl lend0 trivial rfl, ?_⟩
                conv => whnf
                refine ⟨fun hb_21 => ?_, fun hb_21 => ?_⟩
                · replace hF := cond_t hb_21 hF
                  conv => whnf
                  obtain ⟨r_8, h_r_8, hF⟩ := bind_some hF
                  refine ⟨_, _, _, _, _, _, _, _, _, callX false [] [] 0 Tryd.func59 (by decide) rfl (message_in_ac x_0.Status (1 : Int) (4 : Int) r_8 h_r_8) rfl ⟨(argE (by (conv => lhs; whnf); all_goals rfl) rfl), (argE (by (conv => lhs; whnf); all_goals rfl) rfl), (argE (by (conv => lhs; whnf); all_goals rfl) rfl), trivial⟩ rfl trivial rfl rfl rfl lend0 trivial rfl, ?_⟩
                  conv => whnf
                  refine ⟨fun hb_22 => ?_, fun hb_22 => ?_⟩
                  · replace hF := cond_f hb_22 hF
                    conv => whnf
                    obtain ⟨r_9, h_r_9, hF⟩ := bind_some hF
                    refine ⟨_, _, _, _, _, _, _, _, _, callX false [] [] 0 Tryd.func59 (by decide) rfl (message_in_ac x_0.Sequence (1 : Int) (999 : Int) r_9 h_r_9) rfl ⟨(argE (by (conv => lhs; whnf); all_goals rfl) rfl), (argE (by (conv => lhs; whnf); all_goals rfl) rfl), (argE (by (conv => lhs; whnf); all_goals rfl) rfl), trivial⟩ rfl trivial rfl rfl rfl lend0 trivial rfl, ?_⟩
                    conv => whnf
                    refine ⟨fun hb_23 => ?_, fun hb_23 => ?_⟩
                    · replace hF := cond_t hb_23 hF
                      conv => whnf
                      obtain rfl := Option.some.inj hF
                      exact ret_gz [] [] [] rfl (argFl (by (conv => lhs; whnf); all_goals rfl)) trivial
                    · replace hF := cond_f hb_23 hF
                      conv => whnf
                      obtain ⟨r_10, h_r_10, hF⟩ := bind_some hF
                      refine ⟨_, _, _, _, _, _, _, _, _, callX false [] [] 0 Tryd.func84 (by decide) rfl (slices_ContainsFunc_int_ac x_0.List r_10 h_r_10) rfl ⟨(argE (by (conv => lhs; whnf); all_goals rfl) rfl), (argE (by (conv => lhs; whnf); all_goals rfl) rfl), trivial⟩ rfl trivial rfl rfl rfl lend0 trivial rfl, ?_⟩
                      conv => whnf
                      obtain rfl := Option.some.inj hF
                      exact ret_gz [] [] [] rfl (argE (by (conv => lhs; whnf); all_goals rfl) rfl) trivial
                  · replace hF := cond_t hb_22 hF
                    conv => whnf
                    obtain rfl := Option.some.inj hF
                    exact ret_gz [] [] [] rfl (argFl (by (conv => lhs; whnf); all_goals rfl)) trivial
                · replace hF := cond_f hb_21 hF
                  conv => whnf
                  obtain ⟨r_11, h_r_11, hF⟩ := bind_some hF
                  refine ⟨_, _, _, _, _, _, _, _, _, callX false [] [] 0 Tryd.func84 (by decide) rfl (slices_ContainsFunc_int_ac x_0.List r_11 h_r_11) rfl ⟨(argE (by (conv => lhs; whnf); all_goals rfl) rfl), (argE (by (conv => lhs; whnf); all_goals rfl) rfl), trivial⟩ rfl trivial rfl rfl rfl lend0 trivial rfl, ?_⟩
                  conv => whnf
                  obtain rfl := Option.some.inj hF
                  exact ret_gz [] [] [] rfl (argE (by (conv => lhs; whnf); all_goals rfl) rfl) trivial
            · replace hF := cond_t hb_19 hF
              conv => whnf
              obtain rfl := Option.some.inj hF
              exact ret_gz [] [] [] rfl (argFl (by (conv => lhs; whnf); all_goals rfl)) trivial
          · replace hF := cond_f hb_18 hF
            conv => whnf
            obtain ⟨r_12, h_r_12, hF⟩ := bind_some hF
            refine ⟨_, _, _, _, _, _, _, _, _, callX false [] [] 0 Tryd.func80 (by decide) rfl (message_describes_ac x_0.Kind r_12 h_r_12) rfl ⟨(argE (by (conv => lhs; whnf); all_goals rfl) rfl), trivial⟩ rfl trivial rfl rfl rfl lend0 trivial rfl, ?_⟩
            conv => whnf
            refine ⟨fun hb_24 => ?_, fun hb_24 => ?_⟩
            · replace hF := cond_t hb_24 hF
              conv => whnf
              obtain ⟨r_13, h_r_13, hF⟩ := bind_some hF
              refine ⟨_, _, _, _, _, _, _, _, _, callX false [] [] 0 Tryd.func59 (by decide) rfl (message_in_ac x_0.Status (1 : Int) (4 : Int) r_13 h_r_13) rfl ⟨(argE (by (conv => lhs; whnf); all_goals rfl) rfl), (argE (by (conv => lhs; whnf); all_goals rfl) rfl), (argE (by (conv => lhs; whnf); all_goals rfl) rfl), trivial⟩ rfl trivial rfl rfl rfl lend0 trivial rfl, ?_⟩
              conv => whnf
              refine ⟨fun hb_25 => ?_, fun hb_25 => ?_⟩
              · replace hF := cond_f hb_25 hF
                conv => whnf
                obtain ⟨r_14, h_r_14, hF⟩ := bind_some hF
                refine ⟨_, _, _, _, _, _, _, _, _, callX false [] [] 0 Tryd.func59 (by decide) rfl (message_in_ac x_0.Sequence (1 : Int) (999 : Int) r_14 h_r_14) rfl ⟨(argE (by (conv => lhs; whnf); all_goals rfl) rfl), (argE (by (conv => lhs; whnf); all_goals rfl) rfl), (argE (by (conv => lhs; whnf); all_goals rfl) rfl), trivial⟩ rfl trivial rfl rfl rfl lend0 trivial rfl, ?_⟩
                conv => whnf
                refine ⟨fun hb_26 => ?_, fun hb_26 => ?_⟩
                · replace hF := cond_t hb_26 hF
                  conv => whnf
                  obtain rfl := Option.some.inj hF
                  exact ret_gz [] [] [] rfl (argFl (by (conv => lhs; whnf); all_goals rfl)) trivial
                · replace hF := cond_f hb_26 hF
                  conv => whnf
                  obtain ⟨r_15, h_r_15, hF⟩ := bind_some hF
                  refine ⟨_, _, _, _, _, _, _, _, _, callX false [] [] 0 Tryd.func84 (by decide) rfl (slices_ContainsFunc_int_ac x_0.List r_15 h_r_15) rfl ⟨(argE (by (conv => lhs; whnf); all_goals rfl) rfl), (argE (by (conv => lhs; whnf); all_goals rfl) rfl), trivial⟩ rfl trivial rfl rfl rfl lend0 trivial rfl, ?_⟩
                  conv => whnf
                  obtain rfl := Option.some.inj hF
                  exact ret_gz [] [] [] rfl (argE (by (conv => lhs; whnf); all_goals rfl) rfl) trivial
              · replace hF := cond_t hb_25 hF
                conv => whnf
                obtain rfl := Option.some.inj hF
                exact ret_gz [] [] [] rfl (argFl (by (conv => lhs; whnf); all_goals rfl)) trivial
            · replace hF := cond_f hb_24 hF
              conv => whnf
              obtain ⟨r_16, h_r_16, hF⟩ := bind_some hF
              refine ⟨_, _, _, _, _, _, _, _, _, callX false [] [] 0 Tryd.func84 (by decide) rfl (slices_ContainsFunc_int_ac x_0.List r_16 h_r_16) rfl ⟨(argE (by (conv => lhs; whnf); all_goals rfl) rfl), (argE (by (conv => lhs; whnf); all_goals rfl) rfl), trivial⟩ rfl trivial rfl rfl rfl lend0 trivial rfl, ?_⟩
              conv => whnf
              obtain rfl := Option.some.inj hF
              exact ret_gz [] [] [] rfl (argE (by (conv => lhs; whnf); all_goals rfl) rfl) trivial
      · replace hF := cond_t hb_16 hF
        conv => whnf
        obtain rfl := Option.some.inj hF
        exact ret_gz [] [] [] rfl (argFl (by (conv => lhs; whnf); all_goals rfl)) trivial
    · replace hF := cond_t hb_15 hF
      conv => whnf
      obtain rfl := Option.some.inj hF
      exact ret_gz [] [] [] rfl (argFl (by (conv => lhs; whnf); all_goals rfl)) trivial
  · replace hF := cond_t hb_14 hF
    conv => whnf
    obtain rfl := Option.some.inj hF
    exact ret_gz [] [] [] rfl (argFl (by (conv => lhs; whnf); all_goals rfl)) trivial

set_option maxRecDepth 100000 in
set_option maxHeartbeats 40000000 in
theorem message_Validate_ac (x_0 : Message) (r : Int) (hF : message_Validate x_0 = some r) : AC Tryd.prog 46 [.agg (encMessage x_0)] [] (.int .i64 r) [] := by
  refine ac_of tab_ok follows_ok Tryd.func46 rfl Tryd.ntmps46 rfl ?_
  unfold message_Validate at hF
  conv => whnf
  obtain ⟨r_1, h_r_1, hF⟩ := bind_some hF
  refine ⟨_, _, _, _, _, _, _, _, _, callX false [] [] 0 Tryd.func59 (by decide) rfl (message_in_ac x_0.Kind (1 : Int) (5 : Int) r_1 h_r_1) rfl ⟨(argE (by (conv => lhs; whnf); all_goals rfl) rfl), (argE (by (conv => lhs; whnf); all_goals rfl) rfl), (argE (by (conv => lhs; whnf); all_goals rfl) rfl), trivial⟩ rfl trivial rfl rfl rfl lend0 trivial rfl, ?_⟩
  conv => whnf
  refine ⟨fun hb_15 => ?_, fun hb_15 => ?_⟩
  · replace hF := cond_t hb_15 hF
    conv => whnf
    obtain rfl := Option.some.inj hF
    exact ret_gz [] [] [] rfl (argE (by (conv => lhs; whnf); all_goals rfl) rfl) trivial
  · replace hF := cond_f hb_15 hF
    conv => whnf
    obtain ⟨r_2, h_r_2, hF⟩ := bind_some hF
    refine ⟨_, _, _, _, _, _, _, _, _, callX false [] [] 0 Tryd.func61 (by decide) rfl (message_own_ac x_0 r_2 h_r_2) rfl ⟨(argE (by (conv => lhs; whnf); all_goals rfl) rfl), trivial⟩ rfl trivial rfl rfl rfl lend0 trivial rfl, ?_⟩
    conv => whnf
    obtain ⟨r_3, h_r_3, hF⟩ := bind_some hF
    refine ⟨_, _, _, _, _, _, _, _, _, callX false [] [] 0 Tryd.func60 (by decide) rfl (message_Same_ac x_0 r_2 r_3 h_r_3) rfl ⟨(argE (by (conv => lhs; whnf); all_goals rfl) rfl), (argE (by (conv => lhs; whnf); all_goals rfl) rfl), trivial⟩ rfl trivial rfl rfl rfl lend0 trivial rfl, ?_⟩
    conv => whnf
    refine ⟨by kernel_rfl, ?_⟩
    conv => whnf
    refine ⟨fun hb_16 => ?_, fun hb_16 => ?_⟩
    · replace hF := cond_t hb_16 hF
      conv => whnf
      obtain rfl := Option.some.inj hF
      exact ret_gz [] [] [] rfl (argE (by (conv => lhs; whnf); all_goals rfl) rfl) trivial
    · replace hF := cond_f hb_16 hF
      conv => whnf
      refine len_q (enc := encLeg) (l := x_0.Onward) rfl ?_
      conv => whnf
      refine ⟨fun hb_17 => ?_, fun hb_17 => ?_⟩
      · replace hF := cond_f hb_17 hF
        conv => whnf
        refine len_q (enc := iA) (l := x_0.List) rfl ?_
        conv => whnf
        refine ⟨fun hb_18 => ?_, fun hb_18 => ?_⟩
        · replace hF := cond_t hb_18 hF
          conv => whnf
          obtain rfl := Option.some.inj hF
          exact ret_gz [] [] [] rfl (argE (by (conv => lhs; whnf); all_goals rfl) rfl) trivial
        · replace hF := cond_f hb_18 hF
          conv => whnf
          obtain ⟨r_4, h_r_4, hF⟩ := bind_some hF
          refine ⟨_, _, _, _, _, _, _, _, _, callX false [] [] 0 Tryd.func62 (by decide) rfl (message_shaped_ac x_0 r_4 h_r_4) rfl ⟨(argE (by (conv => lhs; whnf); all_goals rfl) rfl), trivial⟩ rfl trivial rfl rfl rfl lend0 trivial rfl, ?_⟩
          conv => whnf
          refine ⟨fun hb_19 => ?_, fun hb_19 => ?_⟩
          · replace hF := cond_t hb_19 hF
            conv => whnf
            obtain rfl := Option.some.inj hF
            exact ret_gz [] [] [] rfl (argE (by (conv => lhs; whnf); all_goals rfl) rfl) trivial
          · replace hF := cond_f hb_19 hF
            conv => whnf
            obtain ⟨r_5, h_r_5, hF⟩ := bind_some hF
            refine ⟨_, _, _, _, _, _, _, _, _, callX false [] [] 0 Tryd.func63 (by decide) rfl (message_ranged_ac x_0 r_5 h_r_5) rfl ⟨(argE (by (conv => lhs; whnf); all_goals rfl) rfl), trivial⟩ rfl trivial rfl rfl rfl lend0 trivial rfl, ?_⟩
            conv => whnf
            refine ⟨fun hb_20 => ?_, fun hb_20 => ?_⟩
            · replace hF := cond_t hb_20 hF
              conv => whnf
              obtain rfl := Option.some.inj hF
              exact ret_gz [] [] [] rfl (argE (by (conv => lhs; whnf); all_goals rfl) rfl) trivial
            · replace hF := cond_f hb_20 hF
              conv => whnf
              obtain ⟨c_1, hc_1, hF⟩ := fin_some hF
              refine sw_loop tab_ok follows_ok (fun y : Nat × Int => message_Validate_L1 x_0 y.1 y.2 = some c_1) (fun y => ⟨eL [(1, .ptr 0 0), (3, .int .i64 y.2)], hL [(0, .box [.int .i64 x_0.Kind, .int .i64 x_0.Do, .str x_0.Port, .int .i64 x_0.Number, .str x_0.In.Flight.Carrier, .int .i64 x_0.In.Flight.Number, .str x_0.In.Flight.Suffix, .int .i64 x_0.In.Flight.Day, .str x_0.In.Port, .str x_0.In.Class, .str x_0.Out.Flight.Carrier, .int .i64 x_0.Out.Flight.Number, .str x_0.Out.Flight.Suffix, .int .i64 x_0.Out.Flight.Day, .str x_0.Out.Port, .str x_0.Out.Class, .lst 6 (x_0.Onward.map encLeg), .int .i64 x_0.First.Lead, .int .i64 x_0.First.Airline, .int .i64 x_0.First.Serial, .int .i64 x_0.Count, .bool x_0.Load, .int .i64 x_0.Status, .int .i64 x_0.Sequence, .int .i64 x_0.Weight, .str x_0.Surname, .str x_0.Given, .int .i64 x_0.Exception, .str x_0.Node, .lst 1 (x_0.List.map iA)])], 1⟩) (fun y => y.1) (9223372036854775807, (1 : Int)) hc_1 (wk_mk [0] [] [] rfl ⟨argP (id := 0) (by (conv => lhs; whnf); all_goals rfl) rfl, argE (by (conv => lhs; whnf); all_goals rfl) rfl, trivial⟩ ⟨boxL rfl rfl rfl ⟨(.ni _ rfl), (.ni _ rfl), (.ni _ rfl), (.ni _ rfl), (.ni _ rfl), (.ni _ rfl), (.ni _ rfl), (.ni _ rfl), (.ni _ rfl), (.ni _ rfl), (.ni _ rfl), (.ni _ rfl), (.ni _ rfl), (.ni _ rfl), (.ni _ rfl), (.ni _ rfl), (.ni _ rfl), (.ni _ rfl), (.ni _ rfl), (.ni _ rfl), (.ni _ rfl), (.ni _ rfl), (.ni _ rfl), (.ni _ rfl), (.ni _ rfl), (.ni _ rfl), (.ni _ rfl), (.ni _ rfl), (.ni _ rfl), (.ni _ rfl), trivial⟩, trivial⟩) ?_
              rintro ⟨q_9, i_6⟩ hL1
              try dsimp only at hL1
              rcases q_9 with _ | q_9
              · rw [message_Validate_L1.eq_1] at hL1
                cases hL1
              rw [message_Validate_L1.eq_2] at hL1
              show awp _ _ _ _ _ _ ⟨eL [(1, .ptr 0 0), (3, .int .i64 i_6)], hL [(0, .box [.int .i64 x_0.Kind, .int .i64 x_0.Do, .str x_0.Port, .int .i64 x_0.Number, .str x_0.In.Flight.Carrier, .int .i64 x_0.In.Flight.Number, .str x_0.In.Flight.Suffix, .int .i64 x_0.In.Flight.Day, .str x_0.In.Port, .str x_0.In.Class, .str x_0.Out.Flight.Carrier, .int .i64 x_0.Out.Flight.Number, .str x_0.Out.Flight.Suffix, .int .i64 x_0.Out.Flight.Day, .str x_0.Out.Port, .str x_0.Out.Class, .lst 6 (x_0.Onward.map encLeg), .int .i64 x_0.First.Lead, .int .i64 x_0.First.Airline, .int .i64 x_0.First.Serial, .int .i64 x_0.Count, .bool x_0.Load, .int .i64 x_0.Status, .int .i64 x_0.Sequence, .int .i64 x_0.Weight, .str x_0.Surname, .str x_0.Given, .int .i64 x_0.Exception, .str x_0.Node, .lst 1 (x_0.List.map iA)])], 1⟩
              conv => whnf
              refine len_q (enc := iA) (l := x_0.List) rfl ?_
              conv => whnf
              refine ⟨fun hb_21 => ?_, fun hb_21 => ?_⟩
              · replace hL1 := cond_t hb_21 hL1
                conv => whnf
                refine ⟨_, rfl, ?_⟩
                conv => whnf
                obtain ⟨e_7, h_e_7, hL1⟩ := bind_some hL1
                refine ix_q (enc := iA) (l := x_0.List) h_e_7 rfl (fun m_e_7 hm_e_7 hx_e_7 => ?_)
                conv => whnf
                obtain ⟨e_8, h_e_8, hL1⟩ := bind_some hL1
                refine ix_q (enc := iA) (l := x_0.List) h_e_8 rfl (fun m_e_8 hm_e_8 hx_e_8 => ?_)
                conv => whnf
                refine ⟨by kernel_rfl, ?_⟩
                conv => whnf
                refine ⟨fun hb_22 => ?_, fun hb_22 => ?_⟩
                · replace hL1 := cond_t hb_22 hL1
                  conv => whnf
                  obtain rfl := Option.some.inj hL1
                  replace hF := fin_ret hF
                  obtain rfl := Option.some.inj hF
                  exact ret_gz [] [] [] rfl (argE (by (conv => lhs; whnf); all_goals rfl) rfl) trivial
                · replace hL1 := cond_f hb_22 hL1
                  conv => whnf
                  refine ⟨_, rfl, ?_⟩
                  conv => whnf
                  exact ⟨(q_9, (w64 (i_6 + (1 : Int)))), [0], [], [], hL1, Nat.lt_succ_self _, wk_mk [0] [] [] rfl ⟨argP (id := 0) (by (conv => lhs; whnf); all_goals rfl) rfl, argE (by (conv => lhs; whnf); all_goals rfl) rfl, trivial⟩ ⟨boxL rfl rfl rfl ⟨(.ni _ rfl), (.ni _ rfl), (.ni _ rfl), (.ni _ rfl), (.ni _ rfl), (.ni _ rfl), (.ni _ rfl), (.ni _ rfl), (.ni _ rfl), (.ni _ rfl), (.ni _ rfl), (.ni _ rfl), (.ni _ rfl), (.ni _ rfl), (.ni _ rfl), (.ni _ rfl), (.ni _ rfl), (.ni _ rfl), (.ni _ rfl), (.ni _ rfl), (.ni _ rfl), (.ni _ rfl), (.ni _ rfl), (.ni _ rfl), (.ni _ rfl), (.ni _ rfl), (.ni _ rfl), (.ni _ rfl), (.ni _ rfl), (.ni _ rfl), trivial⟩, trivial⟩⟩
              · replace hL1 := cond_f hb_21 hL1
                conv => whnf
                obtain rfl := Option.some.inj hL1
                replace hF := fin_brk hF
                try dsimp only at hF
                obtain rfl := Option.some.inj hF
                exact ret_gz [] [] [] rfl (argE (by (conv => lhs; whnf); all_goals rfl) rfl) trivial
      · replace hF := cond_t hb_17 hF
        conv => whnf
        obtain rfl := Option.some.inj hF
        exact ret_gz [] [] [] rfl (argE (by (conv => lhs; whnf); all_goals rfl) rfl) trivial

set_option maxRecDepth 100000 in
set_option maxHeartbeats 40000000 in
theorem slices_Clone_int_ac (x_0 : (List Int)) (r : (List Int)) (hF : slices_Clone_int x_0 = some r) : AC Tryd.prog 86 [.lst 1 (x_0.map iA)] [] (.osl 0) [.row 1 (r.map iA)] := by
  refine ac_of tab_ok follows_ok Tryd.func86 rfl Tryd.ntmps86 rfl ?_
  unfold slices_Clone_int at hF
  conv => whnf
  intro b hb
  conv => whnf
  refine ⟨fun h => ?_, fun h => ?_⟩
  · have hx : x_0 = [] := List.map_eq_nil_iff.1 (hb h)
    subst hx
    obtain ⟨h1, rfl⟩ := apL_some hF
    conv => whnf
    exact ret_gz [] [0] [] rfl (argZ (by (conv => lhs; whnf); all_goals rfl) rfl) ⟨blkZ rfl, trivial⟩
  · conv => whnf
    refine ap_q (enc := iA) (l := ([] : List Int)) (y := x_0) hF rfl rfl (by decide) ?_
    conv => whnf
    exact ret_gz [1] [] [] rfl (argO (id := 1) (by (conv => lhs; whnf); all_goals rfl) rfl) ⟨blkR (fun _ => ⟨rfl, rfl⟩) rfl rfl, trivial⟩

set_option maxRecDepth 100000 in
set_option maxHeartbeats 40000000 in
theorem boarding_copied_ac (x_0 : Manifest) (r : Manifest) (hF : boarding_copied x_0 = some r) : AC Tryd.prog 64 [.agg (encManifest x_0)] [] (.agg (encManifest r)) [] := by
  refine ac_of tab_ok follows_ok Tryd.func64 rfl Tryd.ntmps64 rfl ?_
  unfold boarding_copied at hF
  conv => whnf
  obtain ⟨r_1, h_r_1, hF⟩ := bind_some hF
  refine ⟨_, _, _, _, _, _, _, _, _, callX false [] [] 1 Tryd.func86 (by decide) rfl (slices_Clone_int_ac x_0.Boarded r_1 h_r_1) rfl ⟨(argE (by (conv => lhs; whnf); all_goals rfl) rfl), trivial⟩ rfl trivial rfl rfl rfl lend0 ⟨renR (fun _ => ⟨rfl, rfl⟩), trivial⟩ rfl, ?_⟩
  conv => whnf
  obtain ⟨r_2, h_r_2, hF⟩ := bind_some hF
  refine ⟨_, _, _, _, _, _, _, _, _, callX false [] [] 1 Tryd.func86 (by decide) rfl (slices_Clone_int_ac x_0.Ever r_2 h_r_2) rfl ⟨(argE (by (conv => lhs; whnf); all_goals rfl) rfl), trivial⟩ rfl trivial rfl rfl rfl lend0 ⟨renR (fun _ => ⟨rfl, rfl⟩), trivial⟩ rfl, ?_⟩
  conv => whnf
  refine ⟨by kernel_rfl, ?_⟩
  conv => whnf
  obtain rfl := Option.some.inj hF
  exact ret_gz [] [] [2, 4] rfl (argA (c := [.str x_0.Flight.Carrier, .int .i64 x_0.Flight.Number, .str x_0.Flight.Suffix, .int .i64 x_0.Flight.Day, .int .i64 x_0.Version, .osl 2, .osl 4]) (by (conv => lhs; whnf); all_goals rfl) rfl ⟨(.ni _ rfl), (.ni _ rfl), (.ni _ rfl), (.ni _ rfl), (.ni _ rfl), (.osl 2 1 _ (by simp) rfl (map_ni (fun _ => ⟨rfl, rfl⟩) _)), (.osl 4 1 _ (by simp) rfl (map_ni (fun _ => ⟨rfl, rfl⟩) _)), trivial⟩) trivial

set_option maxRecDepth 100000 in
set_option maxHeartbeats 40000000 in
theorem boarding_united_ac (x_0 : (List Int)) (x_1 : (List Int)) (r : (List Int)) (hF : boarding_united x_0 x_1 = some r) : AC Tryd.prog 87 [.lst 1 (x_0.map iA), .lst 1 (x_1.map iA)] [] (.osl 0) [.row 1 (r.map iA)] := by
  exact united_ac0 x_0 x_1 r hF

set_option maxRecDepth 100000 in
set_option maxHeartbeats 40000000 in
theorem boarding_merged_ac (x_0 : Manifest) (x_1 : Manifest) (r : Manifest × Bool) (hF : boarding_merged x_0 x_1 = some r) : AC Tryd.prog 65 [.agg (encManifest x_0), .agg (encManifest x_1)] [] (.tup [.agg (encManifest r.1), .bool r.2]) [] := by
  refine ac_of tab_ok follows_ok Tryd.func65 rfl Tryd.ntmps65 rfl ?_
  unfold boarding_merged at hF
  conv => whnf
  refine ⟨fun hb_5 => ?_, fun hb_5 => ?_⟩
  · replace hF := cond_t hb_5 hF
    conv => whnf
    obtain ⟨r_1, h_r_1, hF⟩ := bind_some hF
    refine ⟨_, _, _, _, _, _, _, _, _, callX false [] [] 0 Tryd.func78 (by decide) rfl (slices_Equal_int_ac x_0.Boarded x_1.Boarded r_1 h_r_1) rfl ⟨(argE (by (conv => lhs; whnf); all_goals rfl) rfl), (argE (by (conv => lhs; whnf); all_goals rfl) rfl), trivial⟩ rfl trivial rfl rfl rfl lend0 trivial rfl, ?_⟩
    conv => whnf
    refine ⟨fun hb_6 => ?_, fun hb_6 => ?_⟩
    · replace hF := cond_t hb_6 hF
      conv => whnf
      obtain rfl := Option.some.inj hF
      exact ret_gz [] [] [] rfl (tupL rfl ⟨(argA (c := [.str (⟨#[]⟩ : ByteArray), .int .i64 (0 : Int), .str (⟨#[]⟩ : ByteArray), .int .i64 (0 : Int), .int .i64 (0 : Int), .nils, .nils]) (by (conv => lhs; whnf); all_goals rfl) rfl ⟨(.ni _ rfl), (.ni _ rfl), (.ni _ rfl), (.ni _ rfl), (.ni _ rfl), (.nils _), (.nils _), trivial⟩), (argFl (by (conv => lhs; whnf); all_goals rfl)), trivial⟩) trivial
    · replace hF := cond_f hb_6 hF
      conv => whnf
      refine ⟨fun hb_7 => ?_, fun hb_7 => ?_⟩
      · replace hF := cond_t hb_7 hF
        conv => whnf
        obtain ⟨r_2, h_r_2, hF⟩ := bind_some hF
        refine ⟨_, _, _, _, _, _, _, _, _, callX false [] [] 1 Tryd.func86 (by decide) rfl (slices_Clone_int_ac x_1.Boarded r_2 h_r_2) rfl ⟨(argE (by (conv => lhs; whnf); all_goals rfl) rfl), trivial⟩ rfl trivial rfl rfl rfl lend0 ⟨renR (fun _ => ⟨rfl, rfl⟩), trivial⟩ rfl, ?_⟩
        conv => whnf
        obtain ⟨r_3, h_r_3, hF⟩ := bind_some hF
        refine ⟨_, _, _, _, _, _, _, _, _, callX false [] [] 1 Tryd.func87 (by decide) rfl (boarding_united_ac x_0.Ever x_1.Ever r_3 h_r_3) rfl ⟨(argE (by (conv => lhs; whnf); all_goals rfl) rfl), (argE (by (conv => lhs; whnf); all_goals rfl) rfl), trivial⟩ rfl trivial rfl rfl rfl lend0 ⟨renR (fun _ => ⟨rfl, rfl⟩), trivial⟩ rfl, ?_⟩
        conv => whnf
        refine ⟨by kernel_rfl, ?_⟩
        conv => whnf
        obtain rfl := Option.some.inj hF
        exact ret_gz [] [] [5, 7] rfl (tupL rfl ⟨(argA (c := [.str x_0.Flight.Carrier, .int .i64 x_0.Flight.Number, .str x_0.Flight.Suffix, .int .i64 x_0.Flight.Day, .int .i64 x_1.Version, .osl 5, .osl 7]) (by (conv => lhs; whnf); all_goals rfl) rfl ⟨(.ni _ rfl), (.ni _ rfl), (.ni _ rfl), (.ni _ rfl), (.ni _ rfl), (.osl 5 1 _ (by simp) rfl (map_ni (fun _ => ⟨rfl, rfl⟩) _)), (.osl 7 1 _ (by simp) rfl (map_ni (fun _ => ⟨rfl, rfl⟩) _)), trivial⟩), (argT (by (conv => lhs; whnf); all_goals rfl)), trivial⟩) trivial
      · replace hF := cond_f hb_7 hF
        conv => whnf
        obtain ⟨r_4, h_r_4, hF⟩ := bind_some hF
        refine ⟨_, _, _, _, _, _, _, _, _, callX false [] [] 1 Tryd.func86 (by decide) rfl (slices_Clone_int_ac x_0.Boarded r_4 h_r_4) rfl ⟨(argE (by (conv => lhs; whnf); all_goals rfl) rfl), trivial⟩ rfl trivial rfl rfl rfl lend0 ⟨renR (fun _ => ⟨rfl, rfl⟩), trivial⟩ rfl, ?_⟩
        conv => whnf
        obtain ⟨r_5, h_r_5, hF⟩ := bind_some hF
        refine ⟨_, _, _, _, _, _, _, _, _, callX false [] [] 1 Tryd.func87 (by decide) rfl (boarding_united_ac x_0.Ever x_1.Ever r_5 h_r_5) rfl ⟨(argE (by (conv => lhs; whnf); all_goals rfl) rfl), (argE (by (conv => lhs; whnf); all_goals rfl) rfl), trivial⟩ rfl trivial rfl rfl rfl lend0 ⟨renR (fun _ => ⟨rfl, rfl⟩), trivial⟩ rfl, ?_⟩
        conv => whnf
        refine ⟨by kernel_rfl, ?_⟩
        conv => whnf
        obtain rfl := Option.some.inj hF
        exact ret_gz [] [] [5, 7] rfl (tupL rfl ⟨(argA (c := [.str x_0.Flight.Carrier, .int .i64 x_0.Flight.Number, .str x_0.Flight.Suffix, .int .i64 x_0.Flight.Day, .int .i64 x_0.Version, .osl 5, .osl 7]) (by (conv => lhs; whnf); all_goals rfl) rfl ⟨(.ni _ rfl), (.ni _ rfl), (.ni _ rfl), (.ni _ rfl), (.ni _ rfl), (.osl 5 1 _ (by simp) rfl (map_ni (fun _ => ⟨rfl, rfl⟩) _)), (.osl 7 1 _ (by simp) rfl (map_ni (fun _ => ⟨rfl, rfl⟩) _)), trivial⟩), (argT (by (conv => lhs; whnf); all_goals rfl)), trivial⟩) trivial
  · replace hF := cond_f hb_5 hF
    conv => whnf
    refine ⟨fun hb_8 => ?_, fun hb_8 => ?_⟩
    · replace hF := cond_t hb_8 hF
      conv => whnf
      obtain ⟨r_6, h_r_6, hF⟩ := bind_some hF
      refine ⟨_, _, _, _, _, _, _, _, _, callX false [] [] 1 Tryd.func86 (by decide) rfl (slices_Clone_int_ac x_1.Boarded r_6 h_r_6) rfl ⟨(argE (by (conv => lhs; whnf); all_goals rfl) rfl), trivial⟩ rfl trivial rfl rfl rfl lend0 ⟨renR (fun _ => ⟨rfl, rfl⟩), trivial⟩ rfl, ?_⟩
      conv => whnf
      obtain ⟨r_7, h_r_7, hF⟩ := bind_some hF
      refine ⟨_, _, _, _, _, _, _, _, _, callX false [] [] 1 Tryd.func87 (by decide) rfl (boarding_united_ac x_0.Ever x_1.Ever r_7 h_r_7) rfl ⟨(argE (by (conv => lhs; whnf); all_goals rfl) rfl), (argE (by (conv => lhs; whnf); all_goals rfl) rfl), trivial⟩ rfl trivial rfl rfl rfl lend0 ⟨renR (fun _ => ⟨rfl, rfl⟩), trivial⟩ rfl, ?_⟩
      conv => whnf
      refine ⟨by kernel_rfl, ?_⟩
      conv => whnf
      obtain rfl := Option.some.inj hF
      exact ret_gz [] [] [4, 6] rfl (tupL rfl ⟨(argA (c := [.str x_0.Flight.Carrier, .int .i64 x_0.Flight.Number, .str x_0.Flight.Suffix, .int .i64 x_0.Flight.Day, .int .i64 x_1.Version, .osl 4, .osl 6]) (by (conv => lhs; whnf); all_goals rfl) rfl ⟨(.ni _ rfl), (.ni _ rfl), (.ni _ rfl), (.ni _ rfl), (.ni _ rfl), (.osl 4 1 _ (by simp) rfl (map_ni (fun _ => ⟨rfl, rfl⟩) _)), (.osl 6 1 _ (by simp) rfl (map_ni (fun _ => ⟨rfl, rfl⟩) _)), trivial⟩), (argT (by (conv => lhs; whnf); all_goals rfl)), trivial⟩) trivial
    · replace hF := cond_f hb_8 hF
      conv => whnf
      obtain ⟨r_8, h_r_8, hF⟩ := bind_some hF
      refine ⟨_, _, _, _, _, _, _, _, _, callX false [] [] 1 Tryd.func86 (by decide) rfl (slices_Clone_int_ac x_0.Boarded r_8 h_r_8) rfl ⟨(argE (by (conv => lhs; whnf); all_goals rfl) rfl), trivial⟩ rfl trivial rfl rfl rfl lend0 ⟨renR (fun _ => ⟨rfl, rfl⟩), trivial⟩ rfl, ?_⟩
      conv => whnf
      obtain ⟨r_9, h_r_9, hF⟩ := bind_some hF
      refine ⟨_, _, _, _, _, _, _, _, _, callX false [] [] 1 Tryd.func87 (by decide) rfl (boarding_united_ac x_0.Ever x_1.Ever r_9 h_r_9) rfl ⟨(argE (by (conv => lhs; whnf); all_goals rfl) rfl), (argE (by (conv => lhs; whnf); all_goals rfl) rfl), trivial⟩ rfl trivial rfl rfl rfl lend0 ⟨renR (fun _ => ⟨rfl, rfl⟩), trivial⟩ rfl, ?_⟩
      conv => whnf
      refine ⟨by kernel_rfl, ?_⟩
      conv => whnf
      obtain rfl := Option.some.inj hF
      exact ret_gz [] [] [4, 6] rfl (tupL rfl ⟨(argA (c := [.str x_0.Flight.Carrier, .int .i64 x_0.Flight.Number, .str x_0.Flight.Suffix, .int .i64 x_0.Flight.Day, .int .i64 x_0.Version, .osl 4, .osl 6]) (by (conv => lhs; whnf); all_goals rfl) rfl ⟨(.ni _ rfl), (.ni _ rfl), (.ni _ rfl), (.ni _ rfl), (.ni _ rfl), (.osl 4 1 _ (by simp) rfl (map_ni (fun _ => ⟨rfl, rfl⟩) _)), (.osl 6 1 _ (by simp) rfl (map_ni (fun _ => ⟨rfl, rfl⟩) _)), trivial⟩), (argT (by (conv => lhs; whnf); all_goals rfl)), trivial⟩) trivial

set_option maxRecDepth 100000 in
set_option maxHeartbeats 40000000 in
theorem boarding_joined_ac (x_0 : (List Manifest)) (x_1 : (List Manifest)) (r : (List Manifest) × Int) (hF : boarding_joined x_0 x_1 = some r) : AC Tryd.prog 47 [.lst 7 (x_0.map encManifest), .lst 7 (x_1.map encManifest)] [] (.tup [.lst 7 (r.1.map encManifest), .int .i64 r.2]) [] := by
  refine ac_of tab_ok follows_ok Tryd.func47 rfl Tryd.ntmps47 rfl ?_
  unfold boarding_joined at hF
  conv => whnf
  obtain ⟨c_1, hc_1, hF⟩ := fin_some hF
  refine sw_loop tab_ok follows_ok (fun y : Nat × (List Manifest) × (List Manifest) × (List Manifest) => boarding_joined_L1 y.1 y.2.1 y.2.2.1 y.2.2.2 = some c_1) (fun y => ⟨eL [(0, .lst 7 (y.2.1.map encManifest)), (1, .lst 7 (y.2.2.2.map encManifest)), (6, .osl 0)], hL [(0, .row 7 (y.2.2.1.map encManifest))], 1⟩) (fun y => y.1) (9223372036854775807, x_0, ([] : List Manifest), x_1) hc_1 (wk_mk [] [0] [] rfl ⟨argE (by (conv => lhs; whnf); all_goals rfl) rfl, argE (by (conv => lhs; whnf); all_goals rfl) rfl, argZ (by (conv => lhs; whnf); all_goals rfl) rfl, trivial⟩ ⟨blkZ rfl, trivial⟩) ?_
  rintro ⟨q_29, a_1, a_3, a_2⟩ hL1
  try dsimp only at hL1
  rcases q_29 with _ | q_29
  · rw [boarding_joined_L1.eq_1] at hL1
    cases hL1
  rw [boarding_joined_L1.eq_2] at hL1
  show awp _ _ _ _ _ _ ⟨eL [(0, .lst 7 (a_1.map encManifest)), (1, .lst 7 (a_2.map encManifest)), (6, .osl 0)], hL [(0, .row 7 (a_3.map encManifest))], 1⟩
  conv => whnf
  refine len_q (enc := encManifest) (l := a_1) rfl ?_
  conv => whnf
  refine ⟨fun hb_26 => ?_, fun hb_26 => ?_⟩
  · replace hL1 := cond_f hb_26 hL1
    conv => whnf
    refine len_q (enc := encManifest) (l := a_2) rfl ?_
    conv => whnf
    refine ⟨fun hb_31 => ?_, fun hb_31 => ?_⟩
    · replace hL1 := cond_t hb_31 hL1
      conv => whnf
      refine len_q (enc := encManifest) (l := a_1) rfl ?_
      conv => whnf
      refine ⟨fun h => ?_, fun h => ?_⟩
      · conv => whnf
        refine ⟨fun h => ?_, fun h => ?_⟩
        · cases (show ((1 : Int) == (-1 : Int)) = false from rfl).symm.trans h
        · conv => whnf
          refine ⟨fun h => ?_, fun h => ?_⟩
          · conv => whnf
            obtain ⟨e_25, h_e_25, hL1⟩ := bind_some hL1
            refine ix_q (enc := encManifest) (l := a_2) h_e_25 rfl (fun m_e_25 hm_e_25 hx_e_25 => ?_)
            conv => whnf
            obtain ⟨r_26, h_r_26, hL1⟩ := bind_some hL1
            refine ⟨_, _, _, _, _, _, _, _, _, callX false [] [] 0 Tryd.func64 (by decide) rfl (boarding_copied_ac e_25 r_26 h_r_26) rfl ⟨(argE (by (conv => lhs; whnf); all_goals rfl) rfl), trivial⟩ rfl trivial rfl rfl rfl lend0 trivial rfl, ?_⟩
            conv => whnf
            obtain ⟨l_27, h_l_27, hL1⟩ := bind_some hL1
            refine ap_q (enc := encManifest) (l := a_3) (y := ([r_26] : List Manifest)) h_l_27 rfl rfl (by decide) ?_
            conv => whnf
            obtain ⟨l_28, h_l_28, hL1⟩ := bind_some hL1
            refine sl_q1 (enc := encManifest) (l := a_2) h_l_28 rfl ?_
            conv => whnf
            refine ⟨by kernel_rfl, ?_⟩
            conv => whnf
            exact ⟨(q_29, a_1, l_27, l_28), [3], [], [], hL1, Nat.lt_succ_self _, wk_mk [3] [] [] rfl ⟨argE (by (conv => lhs; whnf); all_goals rfl) rfl, argE (by (conv => lhs; whnf); all_goals rfl) rfl, argO (id := 3) (by (conv => lhs; whnf); all_goals rfl) rfl, trivial⟩ ⟨blkR (fun _ => ⟨rfl, rfl⟩) rfl rfl, trivial⟩⟩
          · cases (show ((1 : Int) == (1 : Int)) = true from rfl).symm.trans h
      · cases (npos_len hb_26).symm.trans h
    · replace hL1 := cond_f hb_31 hL1
      conv => whnf
      obtain rfl := Option.some.inj hL1
      replace hF := fin_brk hF
      try dsimp only at hF
      refine len_q (enc := encManifest) (l := a_3) rfl ?_
      conv => whnf
      refine ⟨fun hb_32 => ?_, fun hb_32 => ?_⟩
      · replace hF := cond_t hb_32 hF
        conv => whnf
        obtain rfl := Option.some.inj hF
        exact ret_gz [] [] [] rfl (tupL rfl ⟨(argN (by (conv => lhs; whnf); all_goals rfl)), (argE (by (conv => lhs; whnf); all_goals rfl) rfl), trivial⟩) trivial
      · replace hF := cond_f hb_32 hF
        conv => whnf
        obtain rfl := Option.some.inj hF
        exact ret_gz [] [] [0] rfl (tupL rfl ⟨(argOL 0 (by (conv => lhs; whnf); all_goals rfl) rfl rfl (map_ni (fun _ => ⟨rfl, rfl⟩) _)), (argE (by (conv => lhs; whnf); all_goals rfl) rfl), trivial⟩) trivial
  · replace hL1 := cond_t hb_26 hL1
    conv => whnf
    refine len_q (enc := encManifest) (l := a_1) rfl ?_
    conv => whnf
    refine ⟨fun h => ?_, fun h => ?_⟩
    · cases (pos_ne hb_26).symm.trans h
    · conv => whnf
      refine len_q (enc := encManifest) (l := a_2) rfl ?_
      conv => whnf
      refine ⟨fun hb_27 => ?_, fun hb_27 => ?_⟩
      · replace hL1 := cond_t hb_27 hL1
        conv => whnf
        refine ⟨fun h => ?_, fun h => ?_⟩
        · conv => whnf
          obtain ⟨e_4, h_e_4, hL1⟩ := bind_some hL1
          refine ix_q (enc := encManifest) (l := a_1) h_e_4 rfl (fun m_e_4 hm_e_4 hx_e_4 => ?_)
          conv => whnf
          obtain ⟨r_5, h_r_5, hL1⟩ := bind_some hL1
          refine ⟨_, _, _, _, _, _, _, _, _, callX false [] [] 0 Tryd.func64 (by decide) rfl (boarding_copied_ac e_4 r_5 h_r_5) rfl ⟨(argE (by (conv => lhs; whnf); all_goals rfl) rfl), trivial⟩ rfl trivial rfl rfl rfl lend0 trivial rfl, ?_⟩
          conv => whnf
          obtain ⟨l_6, h_l_6, hL1⟩ := bind_some hL1
          refine ap_q (enc := encManifest) (l := a_3) (y := ([r_5] : List Manifest)) h_l_6 rfl rfl (by decide) ?_
          conv => whnf
          obtain ⟨l_7, h_l_7, hL1⟩ := bind_some hL1
          refine sl_q1 (enc := encManifest) (l := a_1) h_l_7 rfl ?_
          conv => whnf
          refine ⟨by kernel_rfl, ?_⟩
          conv => whnf
          exact ⟨(q_29, l_7, l_6, a_2), [3], [], [], hL1, Nat.lt_succ_self _, wk_mk [3] [] [] rfl ⟨argE (by (conv => lhs; whnf); all_goals rfl) rfl, argE (by (conv => lhs; whnf); all_goals rfl) rfl, argO (id := 3) (by (conv => lhs; whnf); all_goals rfl) rfl, trivial⟩ ⟨blkR (fun _ => ⟨rfl, rfl⟩) rfl rfl, trivial⟩⟩
        · cases (show ((-1 : Int) == (-1 : Int)) = true from rfl).symm.trans h
      · replace hL1 := cond_f hb_27 hL1
        conv => whnf
        obtain ⟨e_8, h_e_8, hL1⟩ := bind_some hL1
        refine ix_q (enc := encManifest) (l := a_1) h_e_8 rfl (fun m_e_8 hm_e_8 hx_e_8 => ?_)
        conv => whnf
        obtain ⟨e_9, h_e_9, hL1⟩ := bind_some hL1
        refine ix_q (enc := encManifest) (l := a_2) h_e_9 rfl (fun m_e_9 hm_e_9 hx_e_9 => ?_)
        conv => whnf
        obtain ⟨r_10, h_r_10, hL1⟩ := bind_some hL1
        refine ⟨_, _, _, _, _, _, _, _, _, callX false [] [] 0 Tryd.func58 (by decide) rfl (flight_Compare_ac e_8.Flight e_9.Flight r_10 h_r_10) rfl ⟨(argE (by (conv => lhs; whnf); all_goals rfl) rfl), (argE (by (conv => lhs; whnf); all_goals rfl) rfl), trivial⟩ rfl trivial rfl rfl rfl lend0 trivial rfl, ?_⟩
        conv => whnf
        refine ⟨by kernel_rfl, ?_⟩
        conv => whnf
        refine ⟨fun hb_28 => ?_, fun hb_28 => ?_⟩
        · replace hL1 := cond_t hb_28 hL1
          conv => whnf
          obtain ⟨e_11, h_e_11, hL1⟩ := bind_some hL1
          refine ix_q (enc := encManifest) (l := a_1) h_e_11 rfl (fun m_e_11 hm_e_11 hx_e_11 => ?_)
          conv => whnf
          obtain ⟨r_12, h_r_12, hL1⟩ := bind_some hL1
          refine ⟨_, _, _, _, _, _, _, _, _, callX false [] [] 0 Tryd.func64 (by decide) rfl (boarding_copied_ac e_11 r_12 h_r_12) rfl ⟨(argE (by (conv => lhs; whnf); all_goals rfl) rfl), trivial⟩ rfl trivial rfl rfl rfl lend0 trivial rfl, ?_⟩
          conv => whnf
          obtain ⟨l_13, h_l_13, hL1⟩ := bind_some hL1
          refine ap_q (enc := encManifest) (l := a_3) (y := ([r_12] : List Manifest)) h_l_13 rfl rfl (by decide) ?_
          conv => whnf
          obtain ⟨l_14, h_l_14, hL1⟩ := bind_some hL1
          refine sl_q1 (enc := encManifest) (l := a_1) h_l_14 rfl ?_
          conv => whnf
          refine ⟨by kernel_rfl, ?_⟩
          conv => whnf
          exact ⟨(q_29, l_14, l_13, a_2), [4], [], [], hL1, Nat.lt_succ_self _, wk_mk [4] [] [] rfl ⟨argE (by (conv => lhs; whnf); all_goals rfl) rfl, argE (by (conv => lhs; whnf); all_goals rfl) rfl, argO (id := 4) (by (conv => lhs; whnf); all_goals rfl) rfl, trivial⟩ ⟨blkR (fun _ => ⟨rfl, rfl⟩) rfl rfl, trivial⟩⟩
        · replace hL1 := cond_f hb_28 hL1
          conv => whnf
          refine ⟨fun hb_29 => ?_, fun hb_29 => ?_⟩
          · replace hL1 := cond_t hb_29 hL1
            conv => whnf
            obtain ⟨e_15, h_e_15, hL1⟩ := bind_some hL1
            refine ix_q (enc := encManifest) (l := a_2) h_e_15 rfl (fun m_e_15 hm_e_15 hx_e_15 => ?_)
            conv => whnf
            obtain ⟨r_16, h_r_16, hL1⟩ := bind_some hL1
            refine ⟨_, _, _, _, _, _, _, _, _, callX false [] [] 0 Tryd.func64 (by decide) rfl (boarding_copied_ac e_15 r_16 h_r_16) rfl ⟨(argE (by (conv => lhs; whnf); all_goals rfl) rfl), trivial⟩ rfl trivial rfl rfl rfl lend0 trivial rfl, ?_⟩
            conv => whnf
            obtain ⟨l_17, h_l_17, hL1⟩ := bind_some hL1
            refine ap_q (enc := encManifest) (l := a_3) (y := ([r_16] : List Manifest)) h_l_17 rfl rfl (by decide) ?_
            conv => whnf
            obtain ⟨l_18, h_l_18, hL1⟩ := bind_some hL1
            refine sl_q1 (enc := encManifest) (l := a_2) h_l_18 rfl ?_
            conv => whnf
            refine ⟨by kernel_rfl, ?_⟩
            conv => whnf
            exact ⟨(q_29, a_1, l_17, l_18), [4], [], [], hL1, Nat.lt_succ_self _, wk_mk [4] [] [] rfl ⟨argE (by (conv => lhs; whnf); all_goals rfl) rfl, argE (by (conv => lhs; whnf); all_goals rfl) rfl, argO (id := 4) (by (conv => lhs; whnf); all_goals rfl) rfl, trivial⟩ ⟨blkR (fun _ => ⟨rfl, rfl⟩) rfl rfl, trivial⟩⟩
          · replace hL1 := cond_f hb_29 hL1
            conv => whnf
            obtain ⟨e_19, h_e_19, hL1⟩ := bind_some hL1
            refine ix_q (enc := encManifest) (l := a_1) h_e_19 rfl (fun m_e_19 hm_e_19 hx_e_19 => ?_)
            conv => whnf
            obtain ⟨e_20, h_e_20, hL1⟩ := bind_some hL1
            refine ix_q (enc := encManifest) (l := a_2) h_e_20 rfl (fun m_e_20 hm_e_20 hx_e_20 => ?_)
            conv => whnf
            obtain ⟨r_21, h_r_21, hL1⟩ := bind_some hL1
            refine ⟨_, _, _, _, _, _, _, _, _, callX false [] [] 0 Tryd.func65 (by decide) rfl (boarding_merged_ac e_19 e_20 r_21 h_r_21) rfl ⟨(argE (by (conv => lhs; whnf); all_goals rfl) rfl), (argE (by (conv => lhs; whnf); all_goals rfl) rfl), trivial⟩ rfl trivial rfl rfl rfl lend0 trivial rfl, ?_⟩
            conv => whnf
            refine ⟨by kernel_rfl, ?_⟩
            conv => whnf
            refine ⟨fun hb_30 => ?_, fun hb_30 => ?_⟩
            · replace hL1 := cond_t hb_30 hL1
              conv => whnf
              obtain rfl := Option.some.inj hL1
              replace hF := fin_ret hF
              obtain rfl := Option.some.inj hF
              exact ret_gz [] [] [] rfl (tupL rfl ⟨(argN (by (conv => lhs; whnf); all_goals rfl)), (argE (by (conv => lhs; whnf); all_goals rfl) rfl), trivial⟩) trivial
            · replace hL1 := cond_f hb_30 hL1
              conv => whnf
              obtain ⟨l_22, h_l_22, hL1⟩ := bind_some hL1
              refine ap_q (enc := encManifest) (l := a_3) (y := ([r_21.1] : List Manifest)) h_l_22 rfl rfl (by decide) ?_
              conv => whnf
              obtain ⟨l_23, h_l_23, hL1⟩ := bind_some hL1
              refine sl_q1 (enc := encManifest) (l := a_1) h_l_23 rfl ?_
              conv => whnf
              obtain ⟨l_24, h_l_24, hL1⟩ := bind_some hL1
              refine sl_q1 (enc := encManifest) (l := a_2) h_l_24 rfl ?_
              conv => whnf
              refine ⟨by kernel_rfl, ?_⟩
              conv => whnf
              exact ⟨(q_29, l_23, l_22, l_24), [5], [], [], hL1, Nat.lt_succ_self _, wk_mk [5] [] [] rfl ⟨argE (by (conv => lhs; whnf); all_goals rfl) rfl, argE (by (conv => lhs; whnf); all_goals rfl) rfl, argO (id := 5) (by (conv => lhs; whnf); all_goals rfl) rfl, trivial⟩ ⟨blkR (fun _ => ⟨rfl, rfl⟩) rfl rfl, trivial⟩⟩

set_option maxRecDepth 100000 in
set_option maxHeartbeats 40000000 in
theorem boarding_Apply_ac (x_0 : (List Manifest)) (x_1 : Message) (r : (List Manifest) × Int) (hF : boarding_Apply x_0 x_1 = some r) : AC Tryd.prog 27 [.lst 7 (x_0.map encManifest), .agg (encMessage x_1)] [] (.tup [.lst 7 (r.1.map encManifest), .int .i64 r.2]) [] := by
  refine ac_of tab_ok follows_ok Tryd.func27 rfl Tryd.ntmps27 rfl ?_
  unfold boarding_Apply at hF
  conv => whnf
  obtain ⟨r_1, h_r_1, hF⟩ := bind_some hF
  refine ⟨_, _, _, _, _, _, _, _, _, callX false [] [] 0 Tryd.func45 (by decide) rfl (boarding_Validate_ac x_0 r_1 h_r_1) rfl ⟨(argE (by (conv => lhs; whnf); all_goals rfl) rfl), trivial⟩ rfl trivial rfl rfl rfl lend0 trivial rfl, ?_⟩
  conv => whnf
  refine ⟨fun hb_4 => ?_, fun hb_4 => ?_⟩
  · replace hF := cond_t hb_4 hF
    conv => whnf
    obtain rfl := Option.some.inj hF
    exact ret_gz [] [] [] rfl (tupL rfl ⟨(argN (by (conv => lhs; whnf); all_goals rfl)), (argE (by (conv => lhs; whnf); all_goals rfl) rfl), trivial⟩) trivial
  · replace hF := cond_f hb_4 hF
    conv => whnf
    obtain ⟨r_2, h_r_2, hF⟩ := bind_some hF
    refine ⟨_, _, _, _, _, _, _, _, _, callX false [] [] 0 Tryd.func46 (by decide) rfl (message_Validate_ac x_1 r_2 h_r_2) rfl ⟨(argE (by (conv => lhs; whnf); all_goals rfl) rfl), trivial⟩ rfl trivial rfl rfl rfl lend0 trivial rfl, ?_⟩
    conv => whnf
    refine ⟨fun hb_5 => ?_, fun hb_5 => ?_⟩
    · replace hF := cond_t hb_5 hF
      conv => whnf
      obtain rfl := Option.some.inj hF
      exact ret_gz [] [] [] rfl (tupL rfl ⟨(argN (by (conv => lhs; whnf); all_goals rfl)), (argE (by (conv => lhs; whnf); all_goals rfl) rfl), trivial⟩) trivial
    · replace hF := cond_f hb_5 hF
      conv => whnf
      refine ⟨fun hb_6 => ?_, fun hb_6 => ?_⟩
      · replace hF := cond_t hb_6 hF
        conv => whnf
        obtain rfl := Option.some.inj hF
        exact ret_gz [] [] [] rfl (tupL rfl ⟨(argN (by (conv => lhs; whnf); all_goals rfl)), (argE (by (conv => lhs; whnf); all_goals rfl) rfl), trivial⟩) trivial
      · replace hF := cond_f hb_6 hF
        conv => whnf
        obtain ⟨r_3, h_r_3, hF⟩ := bind_some hF
        refine ⟨_, _, _, _, _, _, _, _, _, callX true [] [3] 0 Tryd.func47 (by decide) rfl (boarding_joined_ac x_0 ([(⟨x_1.Out.Flight, x_1.Number, x_1.List, x_1.List⟩ : Manifest)] : List Manifest) r_3 h_r_3) rfl ⟨(argE (by (conv => lhs; whnf); all_goals rfl) rfl), (argOL 3 (by (conv => lhs; whnf); all_goals rfl) rfl rfl (map_ni (fun _ => ⟨rfl, rfl⟩) _)), trivial⟩ rfl trivial rfl rfl rfl giveU trivial rfl, ?_⟩
        conv => whnf
        obtain rfl := Option.some.inj hF
        exact ret_gz [] [] [] rfl (tupL rfl ⟨(argE (by (conv => lhs; whnf); all_goals rfl) rfl), (argE (by (conv => lhs; whnf); all_goals rfl) rfl), trivial⟩) trivial

set_option maxRecDepth 100000 in
set_option maxHeartbeats 40000000 in
theorem law26_list_ac (x_0 : (List (List Int))) (r : (List Manifest)) (hF : law26_list x_0 = some r) : AC Tryd.prog 26 [.lst 1 (x_0.map (lA 1 iA))] [] (.lst 7 (r.map encManifest)) [] := by
  refine ac_of tab_ok follows_ok Tryd.func26 rfl Tryd.ntmps26 rfl ?_
  unfold law26_list at hF
  conv => whnf
  refine len_q (enc := (lA 1 iA)) (l := x_0) rfl ?_
  conv => whnf
  obtain ⟨c_1, hc_1, hF⟩ := fin_some hF
  refine sw_bv 0 (v := .lst 1 (x_0.map (lA 1 iA))) (by (conv => lhs; whnf); all_goals rfl) (fun hb => ?_)
  have hbd_k_3 : x_0.length ≤ 9223372036854775807 := bnd_len (enc := (lA 1 iA)) (hb)
  refine sw_loop tab_ok follows_ok (fun y : Nat × (List Manifest) => y.1 ≤ x_0.length ∧ law26_list_L1 (x_0.drop y.1) y.1 y.2 = some c_1) (fun y => ⟨eL [(0, .lst 1 (x_0.map (lA 1 iA))), (3, .lst 7 (y.2.map encManifest)), (6, .int .i64 (x_0.length : Int)), (7, .int .i64 (y.1 : Int))], hL [], 0⟩) (fun y => x_0.length - y.1) (0, ([] : List Manifest)) ⟨Nat.zero_le _, hc_1⟩ (wk_mk [] [] [] rfl ⟨argE (by (conv => lhs; whnf); all_goals rfl) rfl, argN (by (conv => lhs; whnf); all_goals rfl), argE (by (conv => lhs; whnf); all_goals rfl) rfl, argE (by (conv => lhs; whnf); all_goals rfl) rfl, trivial⟩ trivial) ?_
  rintro ⟨k_3, a_1⟩ ⟨hk_k_3, hL1⟩
  try dsimp only at hk_k_3 hL1
  show awp _ _ _ _ _ _ ⟨eL [(0, .lst 1 (x_0.map (lA 1 iA))), (3, .lst 7 (a_1.map encManifest)), (6, .int .i64 (x_0.length : Int)), (7, .int .i64 (k_3 : Int))], hL [], 0⟩
  conv => whnf
  refine ⟨fun h => ?_, fun h => ?_⟩
  · have hlt_k_3 : k_3 < x_0.length := by have h := of_decide_eq_true h; omega
    obtain ⟨e_4, h_e_4⟩ : ∃ y, x_0[k_3]? = some y := ⟨_, List.getElem?_eq_getElem hlt_k_3⟩
    rw [drop_cons h_e_4, law26_list_L1.eq_2] at hL1
    conv => whnf
    refine ⟨((k_3 + 1 : Nat) : Int), wrapE (by omega) (by omega) (by omega), ?_⟩
    conv => whnf
    obtain ⟨r_5, h_r_5, hL1⟩ := bind_some hL1
    refine ⟨_, _, _, _, _, _, _, _, _, callX false [] [] 0 Tryd.func14 (by decide) rfl (law26_bag_ac (1 : Int) r_5 h_r_5) rfl ⟨(argE (by (conv => lhs; whnf); all_goals rfl) rfl), trivial⟩ rfl trivial rfl rfl rfl lend0 trivial rfl, ?_⟩
    conv => whnf
    refine ⟨k_3, _, rfl, ix_map h_e_4, ?_⟩
    conv => whnf
    obtain ⟨r_6, h_r_6, hL1⟩ := bind_some hL1
    refine ⟨_, _, _, _, _, _, _, _, _, callX false [] [] 0 Tryd.func27 (by decide) rfl (boarding_Apply_ac a_1 (⟨(5 : Int), (0 : Int), (⟨#[67, 80, 72]⟩ : ByteArray), ((k_3 + 1 : Nat) : Int), (⟨(⟨(⟨#[]⟩ : ByteArray), (0 : Int), (⟨#[]⟩ : ByteArray), (0 : Int)⟩ : Flight), (⟨#[]⟩ : ByteArray), (⟨#[]⟩ : ByteArray)⟩ : Leg), r_5.Bag.Out, ([] : (List Leg)), (⟨(0 : Int), (0 : Int), (0 : Int)⟩ : Plate), (0 : Int), false, (0 : Int), (0 : Int), (0 : Int), (⟨#[]⟩ : ByteArray), (⟨#[]⟩ : ByteArray), (0 : Int), (⟨#[]⟩ : ByteArray), e_4⟩ : Message) r_6 h_r_6) rfl ⟨(argE (by (conv => lhs; whnf); all_goals rfl) rfl), (argA (c := [.int .i64 (5 : Int), .int .i64 (0 : Int), .str (⟨#[67, 80, 72]⟩ : ByteArray), .int .i64 ((k_3 + 1 : Nat) : Int), .str (⟨#[]⟩ : ByteArray), .int .i64 (0 : Int), .str (⟨#[]⟩ : ByteArray), .int .i64 (0 : Int), .str (⟨#[]⟩ : ByteArray), .str (⟨#[]⟩ : ByteArray), .str r_5.Bag.Out.Flight.Carrier, .int .i64 r_5.Bag.Out.Flight.Number, .str r_5.Bag.Out.Flight.Suffix, .int .i64 r_5.Bag.Out.Flight.Day, .str r_5.Bag.Out.Port, .str r_5.Bag.Out.Class, .nils, .int .i64 (0 : Int), .int .i64 (0 : Int), .int .i64 (0 : Int), .int .i64 (0 : Int), .fls, .int .i64 (0 : Int), .int .i64 (0 : Int), .int .i64 (0 : Int), .str (⟨#[]⟩ : ByteArray), .str (⟨#[]⟩ : ByteArray), .int .i64 (0 : Int), .str (⟨#[]⟩ : ByteArray), .lst 1 (e_4.map iA)]) (by (conv => lhs; whnf); all_goals rfl) rfl ⟨(.ni _ rfl), (.ni _ rfl), (.ni _ rfl), (.ni _ rfl), (.ni _ rfl), (.ni _ rfl), (.ni _ rfl), (.ni _ rfl), (.ni _ rfl), (.ni _ rfl), (.ni _ rfl), (.ni _ rfl), (.ni _ rfl), (.ni _ rfl), (.ni _ rfl), (.ni _ rfl), (.nils _), (.ni _ rfl), (.ni _ rfl), (.ni _ rfl), (.ni _ rfl), .fls, (.ni _ rfl), (.ni _ rfl), (.ni _ rfl), (.ni _ rfl), (.ni _ rfl), (.ni _ rfl), (.ni _ rfl), (.ni _ rfl), trivial⟩), trivial⟩ rfl trivial rfl rfl rfl lend0 trivial rfl, ?_⟩
    conv => whnf
    refine ⟨by kernel_rfl, ?_⟩
    conv => whnf
    refine ⟨((k_3 + 1 : Nat) : Int), wrapE (by omega) (by omega) (by omega), ?_⟩
    conv => whnf
    exact ⟨(k_3 + 1, r_6.1), [], [], [], ⟨hlt_k_3, hL1⟩, by show x_0.length - (k_3 + 1) < x_0.length - k_3; omega, wk_mk [] [] [] rfl ⟨argE (by (conv => lhs; whnf); all_goals rfl) rfl, argE (by (conv => lhs; whnf); all_goals rfl) rfl, argE (by (conv => lhs; whnf); all_goals rfl) rfl, argE (by (conv => lhs; whnf); all_goals rfl) rfl, trivial⟩ trivial⟩
  · rw [drop_nil (show x_0.length ≤ k_3 by have h := of_decide_eq_false h; omega), law26_list_L1.eq_1] at hL1
    conv => whnf
    obtain rfl := Option.some.inj hL1
    replace hF := fin_brk hF
    try dsimp only at hF
    obtain rfl := Option.some.inj hF
    exact ret_gz [] [] [] rfl (argE (by (conv => lhs; whnf); all_goals rfl) rfl) trivial
end Go.Proofs.YtbiofbmjonmglaaDoor.Ex
