/- The functions of the program compute what was printed; walks printed by a program. -/
import Derived.Test.YtpipggnfbgjefaaExF
import Derived.Test.YtpipggnfbgjefaaStrC
namespace Go.Proofs.Ytpipggnfbgjefaa.Ex
open Go.RowKit Go.Proofs.Ytpipggnfbgjefaa.Ax
set_option linter.unusedVariables false
set_option linter.unusedSimpArgs false
set_option maxRecDepth 100000 in
set_option maxHeartbeats 40000000 in
theorem inbox_New_ac (x_0 : Int) (r : Inbox × Int) (hF : inbox_New x_0 = some r) : AC Try.prog 9 [.int .i64 x_0] [] (.tup [.agg (encInbox r.1), .int .i64 r.2]) [] := by
  refine ac_of tab_ok follows_ok Try.func9 rfl Try.ntmps9 rfl ?_
  unfold inbox_New at hF
  conv => whnf
  refine ⟨fun hb_3 => ?_, fun hb_3 => ?_⟩
  · replace hF := cond_f hb_3 hF
    conv => whnf
    refine ⟨fun hb_4 => ?_, fun hb_4 => ?_⟩
    · replace hF := cond_t hb_4 hF
      conv => whnf
      obtain rfl := Option.some.inj hF
      exact ret_gz [] [] [] rfl (tupL rfl ⟨(argA (c := [.int .i64 (0 : Int), .nils]) (by (conv => lhs; whnf); all_goals rfl) rfl ⟨(.ni _ rfl), (.nils _), trivial⟩), (argE (by (conv => lhs; whnf); all_goals rfl) rfl), trivial⟩) trivial
    · replace hF := cond_f hb_4 hF
      conv => whnf
      obtain rfl := Option.some.inj hF
      exact ret_gz [] [] [] rfl (tupL rfl ⟨(argA (c := [.int .i64 x_0, .nils]) (by (conv => lhs; whnf); all_goals rfl) rfl ⟨(.ni _ rfl), (.nils _), trivial⟩), (argE (by (conv => lhs; whnf); all_goals rfl) rfl), trivial⟩) trivial
  · replace hF := cond_t hb_3 hF
    conv => whnf
    obtain rfl := Option.some.inj hF
    exact ret_gz [] [] [] rfl (tupL rfl ⟨(argA (c := [.int .i64 (0 : Int), .nils]) (by (conv => lhs; whnf); all_goals rfl) rfl ⟨(.ni _ rfl), (.nils _), trivial⟩), (argE (by (conv => lhs; whnf); all_goals rfl) rfl), trivial⟩) trivial

set_option maxRecDepth 100000 in
set_option maxHeartbeats 40000000 in
theorem law05_numbered_ac (x_0 : ByteArray) (x_1 : Int) (r : Message) (hF : law05_numbered x_0 x_1 = some r) : AC Try.prog 14 [.str x_0, .int .i64 x_1] [] (.agg (encMessage r)) [] := by
  refine ac_of tab_ok follows_ok Try.func14 rfl Try.ntmps14 rfl ?_
  unfold law05_numbered at hF
  conv => whnf
  obtain rfl := Option.some.inj hF
  exact ret_gz [] [] [] rfl (argA (c := [.int .i64 (3 : Int), .int .i64 (0 : Int), .str x_0, .int .i64 x_1, .str (⟨#[]⟩ : ByteArray), .int .i64 (0 : Int), .str (⟨#[]⟩ : ByteArray), .int .i64 (0 : Int), .str (⟨#[]⟩ : ByteArray), .str (⟨#[]⟩ : ByteArray), .str (⟨#[]⟩ : ByteArray), .int .i64 (0 : Int), .str (⟨#[]⟩ : ByteArray), .int .i64 (0 : Int), .str (⟨#[]⟩ : ByteArray), .str (⟨#[]⟩ : ByteArray), .nils, .int .i64 (0 : Int), .int .i64 (117 : Int), .int .i64 x_1, .int .i64 (1 : Int), .fls, .int .i64 (0 : Int), .int .i64 (0 : Int), .int .i64 (0 : Int), .str (⟨#[]⟩ : ByteArray), .str (⟨#[]⟩ : ByteArray), .int .i64 (0 : Int), .str (⟨#[65]⟩ : ByteArray), .nils]) (by (conv => lhs; whnf); all_goals rfl) rfl ⟨(.ni _ rfl), (.ni _ rfl), (.ni _ rfl), (.ni _ rfl), (.ni _ rfl), (.ni _ rfl), (.ni _ rfl), (.ni _ rfl), (.ni _ rfl), (.ni _ rfl), (.ni _ rfl), (.ni _ rfl), (.ni _ rfl), (.ni _ rfl), (.ni _ rfl), (.ni _ rfl), (.nils _), (.ni _ rfl), (.ni _ rfl), (.ni _ rfl), (.ni _ rfl), .fls, (.ni _ rfl), (.ni _ rfl), (.ni _ rfl), (.ni _ rfl), (.ni _ rfl), (.ni _ rfl), (.ni _ rfl), (.nils _), trivial⟩) trivial

set_option maxRecDepth 100000 in
set_option maxHeartbeats 40000000 in
theorem message_in_ac (x_0 : Int) (x_1 : Int) (x_2 : Int) (r : Bool) (hF : message_in x_0 x_1 x_2 = some r) : AC Try.prog 52 [.int .i64 x_0, .int .i64 x_1, .int .i64 x_2] [] (.bool r) [] := by
  refine ac_of tab_ok follows_ok Try.func52 rfl Try.ntmps52 rfl ?_
  unfold message_in at hF
  conv => whnf
  refine ⟨fun hb_2 => ?_, fun hb_2 => ?_⟩
  · replace hF := cond_t hb_2 hF
    conv => whnf
    obtain rfl := Option.some.inj hF
    exact ret_gz [] [] [] rfl (argE (by (conv => lhs; whnf); all_goals rfl) rfl) trivial
  · replace hF := cond_f hb_2 hF
    conv => whnf
    obtain rfl := Option.some.inj hF
    exact ret_gz [] [] [] rfl (argFl (by (conv => lhs; whnf); all_goals rfl)) trivial

set_option maxRecDepth 100000 in
set_option maxHeartbeats 40000000 in
theorem message_own_ac (x_0 : Message) (r : Message) (hF : message_own x_0 = some r) : AC Try.prog 53 [.agg (encMessage x_0)] [] (.agg (encMessage r)) [] := by
  refine ac_of tab_ok follows_ok Try.func53 rfl Try.ntmps53 rfl ?_
  unfold message_own at hF
  conv => whnf
  refine ⟨fun hb_6 => ?_, fun hb_6 => ?_⟩
  · replace hF := cond_t hb_6 hF
    conv => whnf
    refine ⟨fun h => ?_, fun h => ?_⟩
    · conv => whnf
      refine ⟨fun h => ?_, fun h => ?_⟩
      · conv => whnf
        obtain rfl := Option.some.inj hF
        exact ret_gz [] [] [] rfl (argA (c := [.int .i64 x_0.Kind, .int .i64 x_0.Do, .str x_0.Port, .int .i64 x_0.Number, .str (⟨#[]⟩ : ByteArray), .int .i64 (0 : Int), .str (⟨#[]⟩ : ByteArray), .int .i64 (0 : Int), .str (⟨#[]⟩ : ByteArray), .str (⟨#[]⟩ : ByteArray), .str x_0.Out.Flight.Carrier, .int .i64 x_0.Out.Flight.Number, .str x_0.Out.Flight.Suffix, .int .i64 x_0.Out.Flight.Day, .str x_0.Out.Port, .str x_0.Out.Class, .lst 6 (x_0.Onward.map encLeg), .int .i64 x_0.First.Lead, .int .i64 x_0.First.Airline, .int .i64 x_0.First.Serial, .int .i64 x_0.Count, .bool x_0.Load, .int .i64 x_0.Status, .int .i64 x_0.Sequence, .int .i64 x_0.Weight, .str x_0.Surname, .str x_0.Given, .int .i64 x_0.Exception, .str (⟨#[]⟩ : ByteArray), .nils]) (by (conv => lhs; whnf); all_goals rfl) rfl ⟨(.ni _ rfl), (.ni _ rfl), (.ni _ rfl), (.ni _ rfl), (.ni _ rfl), (.ni _ rfl), (.ni _ rfl), (.ni _ rfl), (.ni _ rfl), (.ni _ rfl), (.ni _ rfl), (.ni _ rfl), (.ni _ rfl), (.ni _ rfl), (.ni _ rfl), (.ni _ rfl), (.ni _ rfl), (.ni _ rfl), (.ni _ rfl), (.ni _ rfl), (.ni _ rfl), (.ni _ rfl), (.ni _ rfl), (.ni _ rfl), (.ni _ rfl), (.ni _ rfl), (.ni _ rfl), (.ni _ rfl), (.ni _ rfl), (.nils _), trivial⟩) trivial
      · cases (hb_6).symm.trans h
    · cases (hb_6).symm.trans h
  · replace hF := cond_f hb_6 hF
    conv => whnf
    refine ⟨fun hb_7 => ?_, fun hb_7 => ?_⟩
    · replace hF := cond_t hb_7 hF
      conv => whnf
      refine ⟨fun h => ?_, fun h => ?_⟩
      · cases (hb_6).symm.trans h
      · conv => whnf
        obtain rfl := Option.some.inj hF
        exact ret_gz [] [] [] rfl (argA (c := [.int .i64 x_0.Kind, .int .i64 x_0.Do, .str x_0.Port, .int .i64 x_0.Number, .str x_0.In.Flight.Carrier, .int .i64 x_0.In.Flight.Number, .str x_0.In.Flight.Suffix, .int .i64 x_0.In.Flight.Day, .str x_0.In.Port, .str x_0.In.Class, .str x_0.Out.Flight.Carrier, .int .i64 x_0.Out.Flight.Number, .str x_0.Out.Flight.Suffix, .int .i64 x_0.Out.Flight.Day, .str x_0.Out.Port, .str x_0.Out.Class, .lst 6 (x_0.Onward.map encLeg), .int .i64 x_0.First.Lead, .int .i64 x_0.First.Airline, .int .i64 x_0.First.Serial, .int .i64 x_0.Count, .bool x_0.Load, .int .i64 x_0.Status, .int .i64 x_0.Sequence, .int .i64 x_0.Weight, .str x_0.Surname, .str x_0.Given, .int .i64 x_0.Exception, .str (⟨#[]⟩ : ByteArray), .nils]) (by (conv => lhs; whnf); all_goals rfl) rfl ⟨(.ni _ rfl), (.ni _ rfl), (.ni _ rfl), (.ni _ rfl), (.ni _ rfl), (.ni _ rfl), (.ni _ rfl), (.ni _ rfl), (.ni _ rfl), (.ni _ rfl), (.ni _ rfl), (.ni _ rfl), (.ni _ rfl), (.ni _ rfl), (.ni _ rfl), (.ni _ rfl), (.ni _ rfl), (.ni _ rfl), (.ni _ rfl), (.ni _ rfl), (.ni _ rfl), (.ni _ rfl), (.ni _ rfl), (.ni _ rfl), (.ni _ rfl), (.ni _ rfl), (.ni _ rfl), (.ni _ rfl), (.ni _ rfl), (.nils _), trivial⟩) trivial
    · replace hF := cond_f hb_7 hF
      conv => whnf
      refine ⟨fun hb_8 => ?_, fun hb_8 => ?_⟩
      · replace hF := cond_t hb_8 hF
        conv => whnf
        refine ⟨by kernel_rfl, ?_⟩
        conv => whnf
        obtain rfl := Option.some.inj hF
        exact ret_gz [] [] [] rfl (argA (c := [.int .i64 x_0.Kind, .int .i64 (0 : Int), .str x_0.Port, .int .i64 x_0.Number, .str (⟨#[]⟩ : ByteArray), .int .i64 (0 : Int), .str (⟨#[]⟩ : ByteArray), .int .i64 (0 : Int), .str (⟨#[]⟩ : ByteArray), .str (⟨#[]⟩ : ByteArray), .str (⟨#[]⟩ : ByteArray), .int .i64 (0 : Int), .str (⟨#[]⟩ : ByteArray), .int .i64 (0 : Int), .str (⟨#[]⟩ : ByteArray), .str (⟨#[]⟩ : ByteArray), .nils, .int .i64 x_0.First.Lead, .int .i64 x_0.First.Airline, .int .i64 x_0.First.Serial, .int .i64 x_0.Count, .fls, .int .i64 (0 : Int), .int .i64 (0 : Int), .int .i64 (0 : Int), .str (⟨#[]⟩ : ByteArray), .str (⟨#[]⟩ : ByteArray), .int .i64 (0 : Int), .str x_0.Node, .nils]) (by (conv => lhs; whnf); all_goals rfl) rfl ⟨(.ni _ rfl), (.ni _ rfl), (.ni _ rfl), (.ni _ rfl), (.ni _ rfl), (.ni _ rfl), (.ni _ rfl), (.ni _ rfl), (.ni _ rfl), (.ni _ rfl), (.ni _ rfl), (.ni _ rfl), (.ni _ rfl), (.ni _ rfl), (.ni _ rfl), (.ni _ rfl), (.nils _), (.ni _ rfl), (.ni _ rfl), (.ni _ rfl), (.ni _ rfl), .fls, (.ni _ rfl), (.ni _ rfl), (.ni _ rfl), (.ni _ rfl), (.ni _ rfl), (.ni _ rfl), (.ni _ rfl), (.nils _), trivial⟩) trivial
      · replace hF := cond_f hb_8 hF
        conv => whnf
        refine ⟨fun hb_9 => ?_, fun hb_9 => ?_⟩
        · replace hF := cond_t hb_9 hF
          conv => whnf
          refine ⟨by kernel_rfl, ?_⟩
          conv => whnf
          obtain rfl := Option.some.inj hF
          exact ret_gz [] [] [] rfl (argA (c := [.int .i64 x_0.Kind, .int .i64 (0 : Int), .str x_0.Port, .int .i64 x_0.Number, .str (⟨#[]⟩ : ByteArray), .int .i64 (0 : Int), .str (⟨#[]⟩ : ByteArray), .int .i64 (0 : Int), .str (⟨#[]⟩ : ByteArray), .str (⟨#[]⟩ : ByteArray), .str x_0.Out.Flight.Carrier, .int .i64 x_0.Out.Flight.Number, .str x_0.Out.Flight.Suffix, .int .i64 x_0.Out.Flight.Day, .str x_0.Out.Port, .str x_0.Out.Class, .nils, .int .i64 x_0.First.Lead, .int .i64 x_0.First.Airline, .int .i64 x_0.First.Serial, .int .i64 x_0.Count, .fls, .int .i64 (0 : Int), .int .i64 (0 : Int), .int .i64 (0 : Int), .str (⟨#[]⟩ : ByteArray), .str (⟨#[]⟩ : ByteArray), .int .i64 (0 : Int), .str (⟨#[]⟩ : ByteArray), .nils]) (by (conv => lhs; whnf); all_goals rfl) rfl ⟨(.ni _ rfl), (.ni _ rfl), (.ni _ rfl), (.ni _ rfl), (.ni _ rfl), (.ni _ rfl), (.ni _ rfl), (.ni _ rfl), (.ni _ rfl), (.ni _ rfl), (.ni _ rfl), (.ni _ rfl), (.ni _ rfl), (.ni _ rfl), (.ni _ rfl), (.ni _ rfl), (.nils _), (.ni _ rfl), (.ni _ rfl), (.ni _ rfl), (.ni _ rfl), .fls, (.ni _ rfl), (.ni _ rfl), (.ni _ rfl), (.ni _ rfl), (.ni _ rfl), (.ni _ rfl), (.ni _ rfl), (.nils _), trivial⟩) trivial
        · replace hF := cond_f hb_9 hF
          conv => whnf
          refine ⟨fun hb_10 => ?_, fun hb_10 => ?_⟩
          · replace hF := cond_t hb_10 hF
            conv => whnf
            refine ⟨by kernel_rfl, ?_⟩
            conv => whnf
            obtain rfl := Option.some.inj hF
            exact ret_gz [] [] [] rfl (argA (c := [.int .i64 x_0.Kind, .int .i64 (0 : Int), .str x_0.Port, .int .i64 x_0.Number, .str (⟨#[]⟩ : ByteArray), .int .i64 (0 : Int), .str (⟨#[]⟩ : ByteArray), .int .i64 (0 : Int), .str (⟨#[]⟩ : ByteArray), .str (⟨#[]⟩ : ByteArray), .str x_0.Out.Flight.Carrier, .int .i64 x_0.Out.Flight.Number, .str x_0.Out.Flight.Suffix, .int .i64 x_0.Out.Flight.Day, .str x_0.Out.Port, .str x_0.Out.Class, .nils, .int .i64 (0 : Int), .int .i64 (0 : Int), .int .i64 (0 : Int), .int .i64 (0 : Int), .fls, .int .i64 (0 : Int), .int .i64 (0 : Int), .int .i64 (0 : Int), .str (⟨#[]⟩ : ByteArray), .str (⟨#[]⟩ : ByteArray), .int .i64 (0 : Int), .str (⟨#[]⟩ : ByteArray), .lst 1 (x_0.List.map iA)]) (by (conv => lhs; whnf); all_goals rfl) rfl ⟨(.ni _ rfl), (.ni _ rfl), (.ni _ rfl), (.ni _ rfl), (.ni _ rfl), (.ni _ rfl), (.ni _ rfl), (.ni _ rfl), (.ni _ rfl), (.ni _ rfl), (.ni _ rfl), (.ni _ rfl), (.ni _ rfl), (.ni _ rfl), (.ni _ rfl), (.ni _ rfl), (.nils _), (.ni _ rfl), (.ni _ rfl), (.ni _ rfl), (.ni _ rfl), .fls, (.ni _ rfl), (.ni _ rfl), (.ni _ rfl), (.ni _ rfl), (.ni _ rfl), (.ni _ rfl), (.ni _ rfl), (.ni _ rfl), trivial⟩) trivial
          · replace hF := cond_f hb_10 hF
            conv => whnf
            obtain rfl := Option.some.inj hF
            exact ret_gz [] [] [] rfl (argA (c := [.int .i64 x_0.Kind, .int .i64 (0 : Int), .str x_0.Port, .int .i64 x_0.Number, .str (⟨#[]⟩ : ByteArray), .int .i64 (0 : Int), .str (⟨#[]⟩ : ByteArray), .int .i64 (0 : Int), .str (⟨#[]⟩ : ByteArray), .str (⟨#[]⟩ : ByteArray), .str (⟨#[]⟩ : ByteArray), .int .i64 (0 : Int), .str (⟨#[]⟩ : ByteArray), .int .i64 (0 : Int), .str (⟨#[]⟩ : ByteArray), .str (⟨#[]⟩ : ByteArray), .nils, .int .i64 (0 : Int), .int .i64 (0 : Int), .int .i64 (0 : Int), .int .i64 (0 : Int), .fls, .int .i64 (0 : Int), .int .i64 (0 : Int), .int .i64 (0 : Int), .str (⟨#[]⟩ : ByteArray), .str (⟨#[]⟩ : ByteArray), .int .i64 (0 : Int), .str (⟨#[]⟩ : ByteArray), .nils]) (by (conv => lhs; whnf); all_goals rfl) rfl ⟨(.ni _ rfl), (.ni _ rfl), (.ni _ rfl), (.ni _ rfl), (.ni _ rfl), (.ni _ rfl), (.ni _ rfl), (.ni _ rfl), (.ni _ rfl), (.ni _ rfl), (.ni _ rfl), (.ni _ rfl), (.ni _ rfl), (.ni _ rfl), (.ni _ rfl), (.ni _ rfl), (.nils _), (.ni _ rfl), (.ni _ rfl), (.ni _ rfl), (.ni _ rfl), .fls, (.ni _ rfl), (.ni _ rfl), (.ni _ rfl), (.ni _ rfl), (.ni _ rfl), (.ni _ rfl), (.ni _ rfl), (.nils _), trivial⟩) trivial

set_option maxRecDepth 100000 in
set_option maxHeartbeats 40000000 in
theorem slices_Equal_Leg_ac (x_0 : (List Leg)) (x_1 : (List Leg)) (r : Bool) (hF : slices_Equal_Leg x_0 x_1 = some r) : AC Try.prog 60 [.lst 6 (x_0.map encLeg), .lst 6 (x_1.map encLeg)] [] (.bool r) [] := by
  refine ac_of tab_ok follows_ok Try.func60 rfl Try.ntmps60 rfl ?_
  unfold slices_Equal_Leg at hF
  conv => whnf
  refine len_q (enc := encLeg) (l := x_0) rfl ?_
  conv => whnf
  refine len_q (enc := encLeg) (l := x_1) rfl ?_
  conv => whnf
  refine ⟨fun hb_8 => ?_, fun hb_8 => ?_⟩
  · replace hF := cond_t hb_8 hF
    conv => whnf
    obtain rfl := Option.some.inj hF
    exact ret_gz [] [] [] rfl (argFl (by (conv => lhs; whnf); all_goals rfl)) trivial
  · replace hF := cond_f hb_8 hF
    conv => whnf
    refine len_q (enc := encLeg) (l := x_0) rfl ?_
    conv => whnf
    obtain ⟨c_1, hc_1, hF⟩ := fin_some hF
    refine sw_bv 0 (v := .lst 6 (x_0.map encLeg)) (by (conv => lhs; whnf); all_goals rfl) (fun hb => ?_)
    have hbd_k_2 : x_0.length ≤ 9223372036854775807 := bnd_len (enc := encLeg) (hb)
    refine sw_loop tab_ok follows_ok (fun y : Nat => y ≤ x_0.length ∧ slices_Equal_Leg_L1 x_1 (x_0.drop y) y = some c_1) (fun y => ⟨eL [(0, .lst 6 (x_0.map encLeg)), (1, .lst 6 (x_1.map encLeg)), (12, .int .i64 (x_0.length : Int)), (13, .int .i64 (y : Int))], hL [], 0⟩) (fun y => x_0.length - y) 0 ⟨Nat.zero_le _, hc_1⟩ (wk_mk [] [] [] rfl ⟨argE (by (conv => lhs; whnf); all_goals rfl) rfl, argE (by (conv => lhs; whnf); all_goals rfl) rfl, argE (by (conv => lhs; whnf); all_goals rfl) rfl, argE (by (conv => lhs; whnf); all_goals rfl) rfl, trivial⟩ trivial) ?_
    rintro k_2 ⟨hk_k_2, hL1⟩
    try dsimp only at hk_k_2 hL1
    show awp _ _ _ _ _ _ ⟨eL [(0, .lst 6 (x_0.map encLeg)), (1, .lst 6 (x_1.map encLeg)), (12, .int .i64 (x_0.length : Int)), (13, .int .i64 (k_2 : Int))], hL [], 0⟩
    conv => whnf
    refine ⟨fun h => ?_, fun h => ?_⟩
    · have hlt_k_2 : k_2 < x_0.length := by have h := of_decide_eq_true h; omega
      obtain ⟨e_3, h_e_3⟩ : ∃ y, x_0[k_2]? = some y := ⟨_, List.getElem?_eq_getElem hlt_k_2⟩
      rw [drop_cons h_e_3, slices_Equal_Leg_L1.eq_2] at hL1
      conv => whnf
      refine ⟨k_2, _, rfl, ix_map h_e_3, ?_⟩
      conv => whnf
      obtain ⟨e_4, h_e_4, hL1⟩ := bind_some hL1
      refine ix_q (enc := encLeg) (l := x_1) h_e_4 rfl (fun m_e_4 hm_e_4 hx_e_4 => ?_)
      conv => whnf
      refine ⟨by kernel_rfl, ?_⟩
      conv => whnf
      refine ⟨fun hb_9 => ?_, fun hb_9 => ?_⟩
      · replace hL1 := cond_t hb_9 hL1
        conv => whnf
        obtain rfl := Option.some.inj hL1
        replace hF := fin_ret hF
        obtain rfl := Option.some.inj hF
        exact ret_gz [] [] [] rfl (argFl (by (conv => lhs; whnf); all_goals rfl)) trivial
      · replace hL1 := cond_f hb_9 hL1
        conv => whnf
        refine ⟨((k_2 + 1 : Nat) : Int), wrapE (by omega) (by omega) (by omega), ?_⟩
        conv => whnf
        exact ⟨k_2 + 1, [], [], [], ⟨hlt_k_2, hL1⟩, by show x_0.length - (k_2 + 1) < x_0.length - k_2; omega, wk_mk [] [] [] rfl ⟨argE (by (conv => lhs; whnf); all_goals rfl) rfl, argE (by (conv => lhs; whnf); all_goals rfl) rfl, argE (by (conv => lhs; whnf); all_goals rfl) rfl, argE (by (conv => lhs; whnf); all_goals rfl) rfl, trivial⟩ trivial⟩
    · rw [drop_nil (show x_0.length ≤ k_2 by have h := of_decide_eq_false h; omega), slices_Equal_Leg_L1.eq_1] at hL1
      conv => whnf
      obtain rfl := Option.some.inj hL1
      replace hF := fin_brk hF
      try dsimp only at hF
      obtain rfl := Option.some.inj hF
      exact ret_gz [] [] [] rfl (argT (by (conv => lhs; whnf); all_goals rfl)) trivial

set_option maxRecDepth 100000 in
set_option maxHeartbeats 40000000 in
theorem slices_Equal_int_ac (x_0 : (List Int)) (x_1 : (List Int)) (r : Bool) (hF : slices_Equal_int x_0 x_1 = some r) : AC Try.prog 61 [.lst 1 (x_0.map iA), .lst 1 (x_1.map iA)] [] (.bool r) [] := by
  refine ac_of tab_ok follows_ok Try.func61 rfl Try.ntmps61 rfl ?_
  unfold slices_Equal_int at hF
  conv => whnf
  refine len_q (enc := iA) (l := x_0) rfl ?_
  conv => whnf
  refine len_q (enc := iA) (l := x_1) rfl ?_
  conv => whnf
  refine ⟨fun hb_8 => ?_, fun hb_8 => ?_⟩
  · replace hF := cond_t hb_8 hF
    conv => whnf
    obtain rfl := Option.some.inj hF
    exact ret_gz [] [] [] rfl (argFl (by (conv => lhs; whnf); all_goals rfl)) trivial
  · replace hF := cond_f hb_8 hF
    conv => whnf
    refine len_q (enc := iA) (l := x_0) rfl ?_
    conv => whnf
    obtain ⟨c_1, hc_1, hF⟩ := fin_some hF
    refine sw_bv 0 (v := .lst 1 (x_0.map iA)) (by (conv => lhs; whnf); all_goals rfl) (fun hb => ?_)
    have hbd_k_2 : x_0.length ≤ 9223372036854775807 := bnd_len (enc := iA) (hb)
    refine sw_loop tab_ok follows_ok (fun y : Nat => y ≤ x_0.length ∧ slices_Equal_int_L1 x_1 (x_0.drop y) y = some c_1) (fun y => ⟨eL [(0, .lst 1 (x_0.map iA)), (1, .lst 1 (x_1.map iA)), (12, .int .i64 (x_0.length : Int)), (13, .int .i64 (y : Int))], hL [], 0⟩) (fun y => x_0.length - y) 0 ⟨Nat.zero_le _, hc_1⟩ (wk_mk [] [] [] rfl ⟨argE (by (conv => lhs; whnf); all_goals rfl) rfl, argE (by (conv => lhs; whnf); all_goals rfl) rfl, argE (by (conv => lhs; whnf); all_goals rfl) rfl, argE (by (conv => lhs; whnf); all_goals rfl) rfl, trivial⟩ trivial) ?_
    rintro k_2 ⟨hk_k_2, hL1⟩
    try dsimp only at hk_k_2 hL1
    show awp _ _ _ _ _ _ ⟨eL [(0, .lst 1 (x_0.map iA)), (1, .lst 1 (x_1.map iA)), (12, .int .i64 (x_0.length : Int)), (13, .int .i64 (k_2 : Int))], hL [], 0⟩
    conv => whnf
    refine ⟨fun h => ?_, fun h => ?_⟩
    · have hlt_k_2 : k_2 < x_0.length := by have h := of_decide_eq_true h; omega
      obtain ⟨e_3, h_e_3⟩ : ∃ y, x_0[k_2]? = some y := ⟨_, List.getElem?_eq_getElem hlt_k_2⟩
      rw [drop_cons h_e_3, slices_Equal_int_L1.eq_2] at hL1
      conv => whnf
      refine ⟨k_2, _, rfl, ix_map h_e_3, ?_⟩
      conv => whnf
      obtain ⟨e_4, h_e_4, hL1⟩ := bind_some hL1
      refine ix_q (enc := iA) (l := x_1) h_e_4 rfl (fun m_e_4 hm_e_4 hx_e_4 => ?_)
      conv => whnf
      refine ⟨by kernel_rfl, ?_⟩
      conv => whnf
      refine ⟨fun hb_9 => ?_, fun hb_9 => ?_⟩
      · replace hL1 := cond_t hb_9 hL1
        conv => whnf
        obtain rfl := Option.some.inj hL1
        replace hF := fin_ret hF
        obtain rfl := Option.some.inj hF
        exact ret_gz [] [] [] rfl (argFl (by (conv => lhs; whnf); all_goals rfl)) trivial
      · replace hL1 := cond_f hb_9 hL1
        conv => whnf
        refine ⟨((k_2 + 1 : Nat) : Int), wrapE (by omega) (by omega) (by omega), ?_⟩
        conv => whnf
        exact ⟨k_2 + 1, [], [], [], ⟨hlt_k_2, hL1⟩, by show x_0.length - (k_2 + 1) < x_0.length - k_2; omega, wk_mk [] [] [] rfl ⟨argE (by (conv => lhs; whnf); all_goals rfl) rfl, argE (by (conv => lhs; whnf); all_goals rfl) rfl, argE (by (conv => lhs; whnf); all_goals rfl) rfl, argE (by (conv => lhs; whnf); all_goals rfl) rfl, trivial⟩ trivial⟩
    · rw [drop_nil (show x_0.length ≤ k_2 by have h := of_decide_eq_false h; omega), slices_Equal_int_L1.eq_1] at hL1
      conv => whnf
      obtain rfl := Option.some.inj hL1
      replace hF := fin_brk hF
      try dsimp only at hF
      obtain rfl := Option.some.inj hF
      exact ret_gz [] [] [] rfl (argT (by (conv => lhs; whnf); all_goals rfl)) trivial

set_option maxRecDepth 100000 in
set_option maxHeartbeats 40000000 in
theorem message_Same_ac (x_0 : Message) (x_1 : Message) (r : Bool) (hF : message_Same x_0 x_1 = some r) : AC Try.prog 35 [.agg (encMessage x_0), .agg (encMessage x_1)] [] (.bool r) [] := by
  refine ac_of tab_ok follows_ok Try.func35 rfl Try.ntmps35 rfl ?_
  unfold message_Same at hF
  conv => whnf
  refine ⟨fun hb_18 => ?_, fun hb_18 => ?_⟩
  · replace hF := cond_t hb_18 hF
    conv => whnf
    refine ⟨fun hb_19 => ?_, fun hb_19 => ?_⟩
    · replace hF := cond_t hb_19 hF
      conv => whnf
      refine ⟨fun hb_20 => ?_, fun hb_20 => ?_⟩
      · replace hF := cond_t hb_20 hF
        conv => whnf
        refine ⟨fun hb_21 => ?_, fun hb_21 => ?_⟩
        · replace hF := cond_t hb_21 hF
          conv => whnf
          refine ⟨fun hb_22 => ?_, fun hb_22 => ?_⟩
          · replace hF := cond_t hb_22 hF
            conv => whnf
            refine ⟨fun hb_23 => ?_, fun hb_23 => ?_⟩
            · replace hF := cond_t hb_23 hF
              conv => whnf
              obtain ⟨r_1, h_r_1, hF⟩ := bind_some hF
              refine ⟨_, _, _, _, _, _, _, _, _, callX false [] [] 0 Try.func60 (by decide) rfl (slices_Equal_Leg_ac x_0.Onward x_1.Onward r_1 h_r_1) rfl ⟨(argE (by (conv => lhs; whnf); all_goals rfl) rfl), (argE (by (conv => lhs; whnf); all_goals rfl) rfl), trivial⟩ rfl trivial rfl rfl rfl lend0 trivial rfl, ?_⟩
              conv => whnf
              refine ⟨fun hb_24 => ?_, fun hb_24 => ?_⟩
              · replace hF := cond_t hb_24 hF
                conv => whnf
                refine ⟨fun hb_25 => ?_, fun hb_25 => ?_⟩
                · replace hF := cond_t hb_25 hF
                  conv => whnf
                  refine ⟨fun hb_26 => ?_, fun hb_26 => ?_⟩
                  · replace hF := cond_t hb_26 hF
                    conv => whnf
                    refine ⟨fun hb_27 => ?_, fun hb_27 => ?_⟩
                    · replace hF := cond_t hb_27 hF
                      conv => whnf
                      refine ⟨fun hb_28 => ?_, fun hb_28 => ?_⟩
                      · replace hF := cond_t hb_28 hF
                        conv => whnf
                        refine ⟨fun hb_29 => ?_, fun hb_29 => ?_⟩
                        · replace hF := cond_t hb_29 hF
                          conv => whnf
                          refine ⟨fun hb_30 => ?_, fun hb_30 => ?_⟩
                          · replace hF := cond_t hb_30 hF
                            conv => whnf
                            refine ⟨fun hb_31 => ?_, fun hb_31 => ?_⟩
                            · replace hF := cond_t hb_31 hF
                              conv => whnf
                              refine ⟨fun hb_32 => ?_, fun hb_32 => ?_⟩
                              · replace hF := cond_t hb_32 hF
                                conv => whnf
                                refine ⟨fun hb_33 => ?_, fun hb_33 => ?_⟩
                                · replace hF := cond_t hb_33 hF
                                  conv => whnf
                                  refine ⟨fun hb_34 => ?_, fun hb_34 => ?_⟩
                                  · replace hF := cond_t hb_34 hF
                                    conv => whnf
                                    obtain ⟨r_2, h_r_2, hF⟩ := bind_some hF
                                    refine ⟨_, _, _, _, _, _, _, _, _, callX false [] [] 0 Try.func61 (by decide) rfl (slices_Equal_int_ac x_0.List x_1.List r_2 h_r_2) rfl ⟨(argE (by (conv => lhs; whnf); all_goals rfl) rfl), (argE (by (conv => lhs; whnf); all_goals rfl) rfl), trivial⟩ rfl trivial rfl rfl rfl lend0 trivial rfl, ?_⟩
                                    conv => whnf
                                    obtain rfl := Option.some.inj hF
                                    exact ret_gz [] [] [] rfl (argE (by (conv => lhs; whnf); all_goals rfl) rfl) trivial
                                  · replace hF := cond_f hb_34 hF
                                    conv => whnf
                                    obtain rfl := Option.some.inj hF
                                    exact ret_gz [] [] [] rfl (argFl (by (conv => lhs; whnf); all_goals rfl)) trivial
                                · replace hF := cond_f hb_33 hF
                                  conv => whnf
                                  obtain rfl := Option.some.inj hF
                                  exact ret_gz [] [] [] rfl (argFl (by (conv => lhs; whnf); all_goals rfl)) trivial
                              · replace hF := cond_f hb_32 hF
                                conv => whnf
                                obtain rfl := Option.some.inj hF
                                exact ret_gz [] [] [] rfl (argFl (by (conv => lhs; whnf); all_goals rfl)) trivial
                            · replace hF := cond_f hb_31 hF
                              conv => whnf
                              obtain rfl := Option.some.inj hF
                              exact ret_gz [] [] [] rfl (argFl (by (conv => lhs; whnf); all_goals rfl)) trivial
                          · replace hF := cond_f hb_30 hF
                            conv => whnf
                            obtain rfl := Option.some.inj hF
                            exact ret_gz [] [] [] rfl (argFl (by (conv => lhs; whnf); all_goals rfl)) trivial
                        · replace hF := cond_f hb_29 hF
                          conv => whnf
                          obtain rfl := Option.some.inj hF
                          exact ret_gz [] [] [] rfl (argFl (by (conv => lhs; whnf); all_goals rfl)) trivial
                      · replace hF := cond_f hb_28 hF
                        conv => whnf
                        obtain rfl := Option.some.inj hF
                        exact ret_gz [] [] [] rfl (argFl (by (conv => lhs; whnf); all_goals rfl)) trivial
                    · replace hF := cond_f hb_27 hF
                      conv => whnf
                      obtain rfl := Option.some.inj hF
                      exact ret_gz [] [] [] rfl (argFl (by (conv => lhs; whnf); all_goals rfl)) trivial
                  · replace hF := cond_f hb_26 hF
                    conv => whnf
                    obtain rfl := Option.some.inj hF
                    exact ret_gz [] [] [] rfl (argFl (by (conv => lhs; whnf); all_goals rfl)) trivial
                · replace hF := cond_f hb_25 hF
                  conv => whnf
                  obtain rfl := Option.some.inj hF
                  exact ret_gz [] [] [] rfl (argFl (by (conv => lhs; whnf); all_goals rfl)) trivial
              · replace hF := cond_f hb_24 hF
                conv => whnf
                obtain rfl := Option.some.inj hF
                exact ret_gz [] [] [] rfl (argFl (by (conv => lhs; whnf); all_goals rfl)) trivial
            · replace hF := cond_f hb_23 hF
              conv => whnf
              obtain rfl := Option.some.inj hF
              exact ret_gz [] [] [] rfl (argFl (by (conv => lhs; whnf); all_goals rfl)) trivial
          · replace hF := cond_f hb_22 hF
            conv => whnf
            obtain rfl := Option.some.inj hF
            exact ret_gz [] [] [] rfl (argFl (by (conv => lhs; whnf); all_goals rfl)) trivial
        · replace hF := cond_f hb_21 hF
          conv => whnf
          obtain rfl := Option.some.inj hF
          exact ret_gz [] [] [] rfl (argFl (by (conv => lhs; whnf); all_goals rfl)) trivial
      · replace hF := cond_f hb_20 hF
        conv => whnf
        obtain rfl := Option.some.inj hF
        exact ret_gz [] [] [] rfl (argFl (by (conv => lhs; whnf); all_goals rfl)) trivial
    · replace hF := cond_f hb_19 hF
      conv => whnf
      obtain rfl := Option.some.inj hF
      exact ret_gz [] [] [] rfl (argFl (by (conv => lhs; whnf); all_goals rfl)) trivial
  · replace hF := cond_f hb_18 hF
    conv => whnf
    obtain rfl := Option.some.inj hF
    exact ret_gz [] [] [] rfl (argFl (by (conv => lhs; whnf); all_goals rfl)) trivial

set_option maxRecDepth 100000 in
set_option maxHeartbeats 40000000 in
theorem fields_Letter_ac (x_0 : Int) (r : Bool) (hF : fields_Letter x_0 = some r) : AC Try.prog 93 [.int .u8 x_0] [] (.bool r) [] := by
  refine ac_of tab_ok follows_ok Try.func93 rfl Try.ntmps93 rfl ?_
  unfold fields_Letter at hF
  conv => whnf
  refine ⟨fun hb_2 => ?_, fun hb_2 => ?_⟩
  · replace hF := cond_t hb_2 hF
    conv => whnf
    obtain rfl := Option.some.inj hF
    exact ret_gz [] [] [] rfl (argE (by (conv => lhs; whnf); all_goals rfl) rfl) trivial
  · replace hF := cond_f hb_2 hF
    conv => whnf
    obtain rfl := Option.some.inj hF
    exact ret_gz [] [] [] rfl (argFl (by (conv => lhs; whnf); all_goals rfl)) trivial

set_option maxRecDepth 100000 in
set_option maxHeartbeats 40000000 in
theorem fields_All_ac (x_0 : ByteArray) (r : Bool) (hF : fields_All x_0 = some r) : AC Try.prog 92 [.str x_0, .fn 93 []] [] (.bool r) [] := by
  refine ac_of tab_ok follows_ok Try.func92 rfl Try.ntmps92 rfl ?_
  unfold fields_All at hF
  conv => whnf
  obtain ⟨c_1, hc_1, hF⟩ := fin_some hF
  refine sw_loop tab_ok follows_ok (fun y : Nat × Int => fields_All_L1 x_0 y.1 y.2 = some c_1) (fun y => ⟨eL [(0, .str x_0), (1, .fn 93 []), (7, .int .i64 (x_0.size : Int)), (8, .int .i64 y.2)], hL [], 0⟩) (fun y => y.1) (9223372036854775807, (0 : Int)) hc_1 (wk_mk [] [] [] rfl ⟨argE (by (conv => lhs; whnf); all_goals rfl) rfl, argE (by (conv => lhs; whnf); all_goals rfl) rfl, argE (by (conv => lhs; whnf); all_goals rfl) rfl, argE (by (conv => lhs; whnf); all_goals rfl) rfl, trivial⟩ trivial) ?_
  rintro ⟨q_4, i_1⟩ hL1
  try dsimp only at hL1
  rcases q_4 with _ | q_4
  · rw [fields_All_L1.eq_1] at hL1
    cases hL1
  rw [fields_All_L1.eq_2] at hL1
  show awp _ _ _ _ _ _ ⟨eL [(0, .str x_0), (1, .fn 93 []), (7, .int .i64 (x_0.size : Int)), (8, .int .i64 i_1)], hL [], 0⟩
  conv => whnf
  refine ⟨fun hb_9 => ?_, fun hb_9 => ?_⟩
  · replace hL1 := cond_t hb_9 hL1
    conv => whnf
    obtain ⟨b_2, h_b_2, hL1⟩ := bind_some hL1
    refine ixs_q h_b_2 (fun m_b_2 u_b_2 hm_b_2 hb_b_2 hz_b_2 => ?_)
    subst hz_b_2
    conv => whnf
    obtain ⟨r_3, h_r_3, hL1⟩ := bind_some hL1
    refine ⟨_, _, _, _, _, _, _, _, _, callX false [] [] 0 Try.func93 (by decide) rfl (fields_Letter_ac ((u_b_2.toNat : Nat) : Int) r_3 h_r_3) rfl ⟨(argE (by (conv => lhs; whnf); all_goals rfl) rfl), trivial⟩ rfl trivial rfl rfl rfl lend0 trivial rfl, ?_⟩
    conv => whnf
    refine ⟨fun hb_10 => ?_, fun hb_10 => ?_⟩
    · replace hL1 := cond_t hb_10 hL1
      conv => whnf
      obtain rfl := Option.some.inj hL1
      replace hF := fin_ret hF
      obtain rfl := Option.some.inj hF
      exact ret_gz [] [] [] rfl (argFl (by (conv => lhs; whnf); all_goals rfl)) trivial
    · replace hL1 := cond_f hb_10 hL1
      conv => whnf
      refine ⟨_, rfl, ?_⟩
      conv => whnf
      exact ⟨(q_4, (w64 (i_1 + (1 : Int)))), [], [], [], hL1, Nat.lt_succ_self _, wk_mk [] [] [] rfl ⟨argE (by (conv => lhs; whnf); all_goals rfl) rfl, argE (by (conv => lhs; whnf); all_goals rfl) rfl, argE (by (conv => lhs; whnf); all_goals rfl) rfl, argE (by (conv => lhs; whnf); all_goals rfl) rfl, trivial⟩ trivial⟩
  · replace hL1 := cond_f hb_9 hL1
    conv => whnf
    obtain rfl := Option.some.inj hL1
    replace hF := fin_brk hF
    try dsimp only at hF
    obtain rfl := Option.some.inj hF
    exact ret_gz [] [] [] rfl (argT (by (conv => lhs; whnf); all_goals rfl)) trivial

set_option maxRecDepth 100000 in
set_option maxHeartbeats 40000000 in
theorem fields_Letters_ac (x_0 : ByteArray) (x_1 : Int) (x_2 : Int) (r : Bool) (hF : fields_Letters x_0 x_1 x_2 = some r) : AC Try.prog 77 [.str x_0, .int .i64 x_1, .int .i64 x_2] [] (.bool r) [] := by
  refine ac_of tab_ok follows_ok Try.func77 rfl Try.ntmps77 rfl ?_
  unfold fields_Letters at hF
  conv => whnf
  refine ⟨fun hb_3 => ?_, fun hb_3 => ?_⟩
  · replace hF := cond_t hb_3 hF
    conv => whnf
    refine ⟨fun hb_4 => ?_, fun hb_4 => ?_⟩
    · replace hF := cond_t hb_4 hF
      conv => whnf
      obtain ⟨r_1, h_r_1, hF⟩ := bind_some hF
      refine ⟨_, _, _, _, _, _, _, _, _, callX false [] [] 0 Try.func92 (by decide) rfl (fields_All_ac x_0 r_1 h_r_1) rfl ⟨(argE (by (conv => lhs; whnf); all_goals rfl) rfl), (argE (by (conv => lhs; whnf); all_goals rfl) rfl), trivial⟩ rfl trivial rfl rfl rfl lend0 trivial rfl, ?_⟩
      conv => whnf
      obtain rfl := Option.some.inj hF
      exact ret_gz [] [] [] rfl (argE (by (conv => lhs; whnf); all_goals rfl) rfl) trivial
    · replace hF := cond_f hb_4 hF
      conv => whnf
      obtain rfl := Option.some.inj hF
      exact ret_gz [] [] [] rfl (argFl (by (conv => lhs; whnf); all_goals rfl)) trivial
  · replace hF := cond_f hb_3 hF
    conv => whnf
    obtain rfl := Option.some.inj hF
    exact ret_gz [] [] [] rfl (argFl (by (conv => lhs; whnf); all_goals rfl)) trivial

set_option maxRecDepth 100000 in
set_option maxHeartbeats 40000000 in
theorem flight_ValidPort_ac (x_0 : ByteArray) (r : Bool) (hF : flight_ValidPort x_0 = some r) : AC Try.prog 74 [.str x_0] [] (.bool r) [] := by
  refine ac_of tab_ok follows_ok Try.func74 rfl Try.ntmps74 rfl ?_
  unfold flight_ValidPort at hF
  conv => whnf
  obtain ⟨r_1, h_r_1, hF⟩ := bind_some hF
  refine ⟨_, _, _, _, _, _, _, _, _, callX false [] [] 0 Try.func77 (by decide) rfl (fields_Letters_ac x_0 (3 : Int) (3 : Int) r_1 h_r_1) rfl ⟨(argE (by (conv => lhs; whnf); all_goals rfl) rfl), (argE (by (conv => lhs; whnf); all_goals rfl) rfl), (argE (by (conv => lhs; whnf); all_goals rfl) rfl), trivial⟩ rfl trivial rfl rfl rfl lend0 trivial rfl, ?_⟩
  conv => whnf
  obtain rfl := Option.some.inj hF
  exact ret_gz [] [] [] rfl (argE (by (conv => lhs; whnf); all_goals rfl) rfl) trivial

set_option maxRecDepth 100000 in
set_option maxHeartbeats 40000000 in
theorem fields_Digit_ac (x_0 : Int) (r : Bool) (hF : fields_Digit x_0 = some r) : AC Try.prog 95 [.int .u8 x_0] [] (.bool r) [] := by
  refine ac_of tab_ok follows_ok Try.func95 rfl Try.ntmps95 rfl ?_
  unfold fields_Digit at hF
  conv => whnf
  refine ⟨fun hb_2 => ?_, fun hb_2 => ?_⟩
  · replace hF := cond_t hb_2 hF
    conv => whnf
    obtain rfl := Option.some.inj hF
    exact ret_gz [] [] [] rfl (argE (by (conv => lhs; whnf); all_goals rfl) rfl) trivial
  · replace hF := cond_f hb_2 hF
    conv => whnf
    obtain rfl := Option.some.inj hF
    exact ret_gz [] [] [] rfl (argFl (by (conv => lhs; whnf); all_goals rfl)) trivial

set_option maxRecDepth 100000 in
set_option maxHeartbeats 40000000 in
theorem flight_carrier_ac (x_0 : ByteArray) (r : Bool) (hF : flight_carrier x_0 = some r) : AC Try.prog 104 [.str x_0] [] (.bool r) [] := by
  refine ac_of tab_ok follows_ok Try.func104 rfl Try.ntmps104 rfl ?_
  unfold flight_carrier at hF
  conv => whnf
  refine ⟨fun hb_14 => ?_, fun hb_14 => ?_⟩
  · replace hF := cond_t hb_14 hF
    conv => whnf
    obtain rfl := Option.some.inj hF
    exact ret_gz [] [] [] rfl (argFl (by (conv => lhs; whnf); all_goals rfl)) trivial
  · replace hF := cond_f hb_14 hF
    conv => whnf
    obtain ⟨c_1, hc_1, hF⟩ := fin_some hF
    refine sw_loop tab_ok follows_ok (fun y : Nat × Int × Int => flight_carrier_L1 x_0 y.1 y.2.1 y.2.2 = some c_1) (fun y => ⟨eL [(0, .str x_0), (3, .int .i64 y.2.1), (9, .int .i64 (x_0.size : Int)), (10, .int .i64 y.2.2)], hL [], 0⟩) (fun y => y.1) (9223372036854775807, (0 : Int), (0 : Int)) hc_1 (wk_mk [] [] [] rfl ⟨argE (by (conv => lhs; whnf); all_goals rfl) rfl, argE (by (conv => lhs; whnf); all_goals rfl) rfl, argE (by (conv => lhs; whnf); all_goals rfl) rfl, argE (by (conv => lhs; whnf); all_goals rfl) rfl, trivial⟩ trivial) ?_
    rintro ⟨q_7, i_1, i_2⟩ hL1
    try dsimp only at hL1
    rcases q_7 with _ | q_7
    · rw [flight_carrier_L1.eq_1] at hL1
      cases hL1
    rw [flight_carrier_L1.eq_2] at hL1
    show awp _ _ _ _ _ _ ⟨eL [(0, .str x_0), (3, .int .i64 i_1), (9, .int .i64 (x_0.size : Int)), (10, .int .i64 i_2)], hL [], 0⟩
    conv => whnf
    refine ⟨fun hb_15 => ?_, fun hb_15 => ?_⟩
    · replace hL1 := cond_t hb_15 hL1
      conv => whnf
      obtain ⟨b_3, h_b_3, hL1⟩ := bind_some hL1
      refine ixs_q h_b_3 (fun m_b_3 u_b_3 hm_b_3 hb_b_3 hz_b_3 => ?_)
      subst hz_b_3
      conv => whnf
      obtain ⟨r_4, h_r_4, hL1⟩ := bind_some hL1
      refine ⟨_, _, _, _, _, _, _, _, _, callX false [] [] 0 Try.func93 (by decide) rfl (fields_Letter_ac ((u_b_3.toNat : Nat) : Int) r_4 h_r_4) rfl ⟨(argE (by (conv => lhs; whnf); all_goals rfl) rfl), trivial⟩ rfl trivial rfl rfl rfl lend0 trivial rfl, ?_⟩
      conv => whnf
      refine ⟨fun hb_16 => ?_, fun hb_16 => ?_⟩
      · replace hL1 := cond_t hb_16 hL1
        conv => whnf
        refine ⟨_, rfl, ?_⟩
        conv => whnf
        refine ⟨_, rfl, ?_⟩
        conv => whnf
        exact ⟨(q_7, (w64 (i_1 + (1 : Int))), (w64 (i_2 + (1 : Int)))), [], [], [], hL1, Nat.lt_succ_self _, wk_mk [] [] [] rfl ⟨argE (by (conv => lhs; whnf); all_goals rfl) rfl, argE (by (conv => lhs; whnf); all_goals rfl) rfl, argE (by (conv => lhs; whnf); all_goals rfl) rfl, argE (by (conv => lhs; whnf); all_goals rfl) rfl, trivial⟩ trivial⟩
      · replace hL1 := cond_f hb_16 hL1
        conv => whnf
        obtain ⟨b_5, h_b_5, hL1⟩ := bind_some hL1
        refine ixs_q h_b_5 (fun m_b_5 u_b_5 hm_b_5 hb_b_5 hz_b_5 => ?_)
        subst hz_b_5
        conv => whnf
        obtain ⟨r_6, h_r_6, hL1⟩ := bind_some hL1
        refine ⟨_, _, _, _, _, _, _, _, _, callX false [] [] 0 Try.func95 (by decide) rfl (fields_Digit_ac ((u_b_5.toNat : Nat) : Int) r_6 h_r_6) rfl ⟨(argE (by (conv => lhs; whnf); all_goals rfl) rfl), trivial⟩ rfl trivial rfl rfl rfl lend0 trivial rfl, ?_⟩
        conv => whnf
        refine ⟨fun hb_17 => ?_, fun hb_17 => ?_⟩
        · replace hL1 := cond_t hb_17 hL1
          conv => whnf
          obtain rfl := Option.some.inj hL1
          replace hF := fin_ret hF
          obtain rfl := Option.some.inj hF
          exact ret_gz [] [] [] rfl (argFl (by (conv => lhs; whnf); all_goals rfl)) trivial
        · replace hL1 := cond_f hb_17 hL1
          conv => whnf
          refine ⟨_, rfl, ?_⟩
          conv => whnf
          exact ⟨(q_7, i_1, (w64 (i_2 + (1 : Int)))), [], [], [], hL1, Nat.lt_succ_self _, wk_mk [] [] [] rfl ⟨argE (by (conv => lhs; whnf); all_goals rfl) rfl, argE (by (conv => lhs; whnf); all_goals rfl) rfl, argE (by (conv => lhs; whnf); all_goals rfl) rfl, argE (by (conv => lhs; whnf); all_goals rfl) rfl, trivial⟩ trivial⟩
    · replace hL1 := cond_f hb_15 hL1
      conv => whnf
      obtain rfl := Option.some.inj hL1
      replace hF := fin_brk hF
      try dsimp only at hF
      obtain rfl := Option.some.inj hF
      exact ret_gz [] [] [] rfl (argE (by (conv => lhs; whnf); all_goals rfl) rfl) trivial

set_option maxRecDepth 100000 in
set_option maxHeartbeats 40000000 in
theorem flight_Valid_ac (x_0 : Flight) (r : Bool) (hF : flight_Valid x_0 = some r) : AC Try.prog 91 [.agg (encFlight x_0)] [] (.bool r) [] := by
  refine ac_of tab_ok follows_ok Try.func91 rfl Try.ntmps91 rfl ?_
  unfold flight_Valid at hF
  conv => whnf
  obtain ⟨r_1, h_r_1, hF⟩ := bind_some hF
  refine ⟨_, _, _, _, _, _, _, _, _, callX false [] [] 0 Try.func104 (by decide) rfl (flight_carrier_ac x_0.Carrier r_1 h_r_1) rfl ⟨(argE (by (conv => lhs; whnf); all_goals rfl) rfl), trivial⟩ rfl trivial rfl rfl rfl lend0 trivial rfl, ?_⟩
  conv => whnf
  refine ⟨fun hb_6 => ?_, fun hb_6 => ?_⟩
  · replace hF := cond_t hb_6 hF
    conv => whnf
    refine ⟨fun hb_7 => ?_, fun hb_7 => ?_⟩
    · replace hF := cond_t hb_7 hF
      conv => whnf
      refine ⟨fun hb_8 => ?_, fun hb_8 => ?_⟩
      · replace hF := cond_t hb_8 hF
        conv => whnf
        obtain ⟨r_2, h_r_2, hF⟩ := bind_some hF
        refine ⟨_, _, _, _, _, _, _, _, _, callX false [] [] 0 Try.func77 (by decide) rfl (fields_Letters_ac x_0.Suffix (0 : Int) (1 : Int) r_2 h_r_2) rfl ⟨(argE (by (conv => lhs; whnf); all_goals rfl) rfl), (argE (by (conv => lhs; whnf); all_goals rfl) rfl), (argE (by (conv => lhs; whnf); all_goals rfl) rfl), trivial⟩ rfl trivial rfl rfl rfl lend0 trivial rfl, ?_⟩
        conv => whnf
        refine ⟨fun hb_9 => ?_, fun hb_9 => ?_⟩
        · replace hF := cond_t hb_9 hF
          conv => whnf
          refine ⟨fun hb_10 => ?_, fun hb_10 => ?_⟩
          · replace hF := cond_t hb_10 hF
            conv => whnf
            obtain rfl := Option.some.inj hF
            exact ret_gz [] [] [] rfl (argE (by (conv => lhs; whnf); all_goals rfl) rfl) trivial
          · replace hF := cond_f hb_10 hF
            conv => whnf
            obtain rfl := Option.some.inj hF
            exact ret_gz [] [] [] rfl (argFl (by (conv => lhs; whnf); all_goals rfl)) trivial
        · replace hF := cond_f hb_9 hF
          conv => whnf
          obtain rfl := Option.some.inj hF
          exact ret_gz [] [] [] rfl (argFl (by (conv => lhs; whnf); all_goals rfl)) trivial
      · replace hF := cond_f hb_8 hF
        conv => whnf
        obtain rfl := Option.some.inj hF
        exact ret_gz [] [] [] rfl (argFl (by (conv => lhs; whnf); all_goals rfl)) trivial
    · replace hF := cond_f hb_7 hF
      conv => whnf
      obtain rfl := Option.some.inj hF
      exact ret_gz [] [] [] rfl (argFl (by (conv => lhs; whnf); all_goals rfl)) trivial
  · replace hF := cond_f hb_6 hF
    conv => whnf
    obtain rfl := Option.some.inj hF
    exact ret_gz [] [] [] rfl (argFl (by (conv => lhs; whnf); all_goals rfl)) trivial

set_option maxRecDepth 100000 in
set_option maxHeartbeats 40000000 in
theorem flight_ValidLeg_ac (x_0 : Leg) (r : Bool) (hF : flight_ValidLeg x_0 = some r) : AC Try.prog 75 [.agg (encLeg x_0)] [] (.bool r) [] := by
  refine ac_of tab_ok follows_ok Try.func75 rfl Try.ntmps75 rfl ?_
  unfold flight_ValidLeg at hF
  conv => whnf
  obtain ⟨r_1, h_r_1, hF⟩ := bind_some hF
  refine ⟨_, _, _, _, _, _, _, _, _, callX false [] [] 0 Try.func91 (by decide) rfl (flight_Valid_ac x_0.Flight r_1 h_r_1) rfl ⟨(argE (by (conv => lhs; whnf); all_goals rfl) rfl), trivial⟩ rfl trivial rfl rfl rfl lend0 trivial rfl, ?_⟩
  conv => whnf
  refine ⟨fun hb_5 => ?_, fun hb_5 => ?_⟩
  · replace hF := cond_t hb_5 hF
    conv => whnf
    obtain ⟨r_2, h_r_2, hF⟩ := bind_some hF
    refine ⟨_, _, _, _, _, _, _, _, _, callX false [] [] 0 Try.func74 (by decide) rfl (flight_ValidPort_ac x_0.Port r_2 h_r_2) rfl ⟨(argE (by (conv => lhs; whnf); all_goals rfl) rfl), trivial⟩ rfl trivial rfl rfl rfl lend0 trivial rfl, ?_⟩
    conv => whnf
    refine ⟨fun hb_6 => ?_, fun hb_6 => ?_⟩
    · replace hF := cond_t hb_6 hF
      conv => whnf
      refine ⟨fun hb_7 => ?_, fun hb_7 => ?_⟩
      · replace hF := cond_f hb_7 hF
        conv => whnf
        refine ⟨fun hb_8 => ?_, fun hb_8 => ?_⟩
        · replace hF := cond_f hb_8 hF
          conv => whnf
          obtain rfl := Option.some.inj hF
          exact ret_gz [] [] [] rfl (argE (by (conv => lhs; whnf); all_goals rfl) rfl) trivial
        · replace hF := cond_t hb_8 hF
          conv => whnf
          obtain rfl := Option.some.inj hF
          exact ret_gz [] [] [] rfl (argT (by (conv => lhs; whnf); all_goals rfl)) trivial
      · replace hF := cond_t hb_7 hF
        conv => whnf
        obtain rfl := Option.some.inj hF
        exact ret_gz [] [] [] rfl (argT (by (conv => lhs; whnf); all_goals rfl)) trivial
    · replace hF := cond_f hb_6 hF
      conv => whnf
      obtain rfl := Option.some.inj hF
      exact ret_gz [] [] [] rfl (argFl (by (conv => lhs; whnf); all_goals rfl)) trivial
  · replace hF := cond_f hb_5 hF
    conv => whnf
    obtain rfl := Option.some.inj hF
    exact ret_gz [] [] [] rfl (argFl (by (conv => lhs; whnf); all_goals rfl)) trivial

set_option maxRecDepth 100000 in
set_option maxHeartbeats 40000000 in
theorem message_describes_ac (x_0 : Int) (r : Bool) (hF : message_describes x_0 = some r) : AC Try.prog 76 [.int .i64 x_0] [] (.bool r) [] := by
  refine ac_of tab_ok follows_ok Try.func76 rfl Try.ntmps76 rfl ?_
  unfold message_describes at hF
  conv => whnf
  refine ⟨fun hb_2 => ?_, fun hb_2 => ?_⟩
  · replace hF := cond_f hb_2 hF
    conv => whnf
    obtain rfl := Option.some.inj hF
    exact ret_gz [] [] [] rfl (argE (by (conv => lhs; whnf); all_goals rfl) rfl) trivial
  · replace hF := cond_t hb_2 hF
    conv => whnf
    obtain rfl := Option.some.inj hF
    exact ret_gz [] [] [] rfl (argT (by (conv => lhs; whnf); all_goals rfl)) trivial

set_option maxRecDepth 100000 in
set_option maxHeartbeats 40000000 in
theorem fields_Name_f1_ac (x_0 : Int) (r : Bool) (hF : fields_Name_f1 x_0 = some r) : AC Try.prog 94 [.int .u8 x_0] [] (.bool r) [] := by
  refine ac_of tab_ok follows_ok Try.func94 rfl Try.ntmps94 rfl ?_
  unfold fields_Name_f1 at hF
  conv => whnf
  obtain ⟨r_1, h_r_1, hF⟩ := bind_some hF
  refine ⟨_, _, _, _, _, _, _, _, _, callX false [] [] 0 Try.func93 (by decide) rfl (fields_Letter_ac x_0 r_1 h_r_1) rfl ⟨(argE (by (conv => lhs; whnf); all_goals rfl) rfl), trivial⟩ rfl trivial rfl rfl rfl lend0 trivial rfl, ?_⟩
  conv => whnf
  refine ⟨fun hb_2 => ?_, fun hb_2 => ?_⟩
  · replace hF := cond_f hb_2 hF
    conv => whnf
    obtain ⟨r_2, h_r_2, hF⟩ := bind_some hF
    refine ⟨_, _, _, _, _, _, _, _, _, callX false [] [] 0 Try.func95 (by decide) rfl (fields_Digit_ac x_0 r_2 h_r_2) rfl ⟨(argE (by (conv => lhs; whnf); all_goals rfl) rfl), trivial⟩ rfl trivial rfl rfl rfl lend0 trivial rfl, ?_⟩
    conv => whnf
    obtain rfl := Option.some.inj hF
    exact ret_gz [] [] [] rfl (argE (by (conv => lhs; whnf); all_goals rfl) rfl) trivial
  · replace hF := cond_t hb_2 hF
    conv => whnf
    obtain rfl := Option.some.inj hF
    exact ret_gz [] [] [] rfl (argT (by (conv => lhs; whnf); all_goals rfl)) trivial

set_option maxRecDepth 100000 in
set_option maxHeartbeats 40000000 in
theorem fields_All_v2_ac (x_0 : ByteArray) (r : Bool) (hF : fields_All_v2 x_0 = some r) : AC Try.prog 92 [.str x_0, .fn 94 []] [] (.bool r) [] := by
  refine ac_of tab_ok follows_ok Try.func92 rfl Try.ntmps92 rfl ?_
  unfold fields_All_v2 at hF
  conv => whnf
  obtain ⟨c_1, hc_1, hF⟩ := fin_some hF
  refine sw_loop tab_ok follows_ok (fun y : Nat × Int => fields_All_v2_L1 x_0 y.1 y.2 = some c_1) (fun y => ⟨eL [(0, .str x_0), (1, .fn 94 []), (7, .int .i64 (x_0.size : Int)), (8, .int .i64 y.2)], hL [], 0⟩) (fun y => y.1) (9223372036854775807, (0 : Int)) hc_1 (wk_mk [] [] [] rfl ⟨argE (by (conv => lhs; whnf); all_goals rfl) rfl, argE (by (conv => lhs; whnf); all_goals rfl) rfl, argE (by (conv => lhs; whnf); all_goals rfl) rfl, argE (by (conv => lhs; whnf); all_goals rfl) rfl, trivial⟩ trivial) ?_
  rintro ⟨q_4, i_1⟩ hL1
  try dsimp only at hL1
  rcases q_4 with _ | q_4
  · rw [fields_All_v2_L1.eq_1] at hL1
    cases hL1
  rw [fields_All_v2_L1.eq_2] at hL1
  show awp _ _ _ _ _ _ ⟨eL [(0, .str x_0), (1, .fn 94 []), (7, .int .i64 (x_0.size : Int)), (8, .int .i64 i_1)], hL [], 0⟩
  conv => whnf
  refine ⟨fun hb_9 => ?_, fun hb_9 => ?_⟩
  · replace hL1 := cond_t hb_9 hL1
    conv => whnf
    obtain ⟨b_2, h_b_2, hL1⟩ := bind_some hL1
    refine ixs_q h_b_2 (fun m_b_2 u_b_2 hm_b_2 hb_b_2 hz_b_2 => ?_)
    subst hz_b_2
    conv => whnf
    obtain ⟨r_3, h_r_3, hL1⟩ := bind_some hL1
    refine ⟨_, _, _, _, _, _, _, _, _, callX false [] [] 0 Try.func94 (by decide) rfl (fields_Name_f1_ac ((u_b_2.toNat : Nat) : Int) r_3 h_r_3) rfl ⟨(argE (by (conv => lhs; whnf); all_goals rfl) rfl), trivial⟩ rfl trivial rfl rfl rfl lend0 trivial rfl, ?_⟩
    conv => whnf
    refine ⟨fun hb_10 => ?_, fun hb_10 => ?_⟩
    · replace hL1 := cond_t hb_10 hL1
      conv => whnf
      obtain rfl := Option.some.inj hL1
      replace hF := fin_ret hF
      obtain rfl := Option.some.inj hF
      exact ret_gz [] [] [] rfl (argFl (by (conv => lhs; whnf); all_goals rfl)) trivial
    · replace hL1 := cond_f hb_10 hL1
      conv => whnf
      refine ⟨_, rfl, ?_⟩
      conv => whnf
      exact ⟨(q_4, (w64 (i_1 + (1 : Int)))), [], [], [], hL1, Nat.lt_succ_self _, wk_mk [] [] [] rfl ⟨argE (by (conv => lhs; whnf); all_goals rfl) rfl, argE (by (conv => lhs; whnf); all_goals rfl) rfl, argE (by (conv => lhs; whnf); all_goals rfl) rfl, argE (by (conv => lhs; whnf); all_goals rfl) rfl, trivial⟩ trivial⟩
  · replace hL1 := cond_f hb_9 hL1
    conv => whnf
    obtain rfl := Option.some.inj hL1
    replace hF := fin_brk hF
    try dsimp only at hF
    obtain rfl := Option.some.inj hF
    exact ret_gz [] [] [] rfl (argT (by (conv => lhs; whnf); all_goals rfl)) trivial

set_option maxRecDepth 100000 in
set_option maxHeartbeats 40000000 in
theorem fields_Name_ac (x_0 : ByteArray) (x_1 : Int) (r : Bool) (hF : fields_Name x_0 x_1 = some r) : AC Try.prog 78 [.str x_0, .int .i64 x_1] [] (.bool r) [] := by
  refine ac_of tab_ok follows_ok Try.func78 rfl Try.ntmps78 rfl ?_
  unfold fields_Name at hF
  conv => whnf
  refine ⟨fun hb_4 => ?_, fun hb_4 => ?_⟩
  · replace hF := cond_t hb_4 hF
    conv => whnf
    refine ⟨fun hb_5 => ?_, fun hb_5 => ?_⟩
    · replace hF := cond_t hb_5 hF
      conv => whnf
      obtain ⟨b_1, h_b_1, hF⟩ := bind_some hF
      refine ixs_q h_b_1 (fun m_b_1 u_b_1 hm_b_1 hb_b_1 hz_b_1 => ?_)
      subst hz_b_1
      conv => whnf
      obtain ⟨r_2, h_r_2, hF⟩ := bind_some hF
      refine ⟨_, _, _, _, _, _, _, _, _, callX false [] [] 0 Try.func93 (by decide) rfl (fields_Letter_ac ((u_b_1.toNat : Nat) : Int) r_2 h_r_2) rfl ⟨(argE (by (conv => lhs; whnf); all_goals rfl) rfl), trivial⟩ rfl trivial rfl rfl rfl lend0 trivial rfl, ?_⟩
      conv => whnf
      refine ⟨fun hb_6 => ?_, fun hb_6 => ?_⟩
      · replace hF := cond_t hb_6 hF
        conv => whnf
        obtain ⟨r_3, h_r_3, hF⟩ := bind_some hF
        refine ⟨_, _, _, _, _, _, _, _, _, callX false [] [] 0 Try.func92 (by decide) rfl (fields_All_v2_ac x_0 r_3 h_r_3) rfl ⟨(argE (by (conv => lhs; whnf); all_goals rfl) rfl), (argE (by (conv => lhs; whnf); all_goals rfl) rfl), trivial⟩ rfl trivial rfl rfl rfl lend0 trivial rfl, ?_⟩
        conv => whnf
        obtain rfl := Option.some.inj hF
        exact ret_gz [] [] [] rfl (argE (by (conv => lhs; whnf); all_goals rfl) rfl) trivial
      · replace hF := cond_f hb_6 hF
        conv => whnf
        obtain rfl := Option.some.inj hF
        exact ret_gz [] [] [] rfl (argFl (by (conv => lhs; whnf); all_goals rfl)) trivial
    · replace hF := cond_f hb_5 hF
      conv => whnf
      obtain rfl := Option.some.inj hF
      exact ret_gz [] [] [] rfl (argFl (by (conv => lhs; whnf); all_goals rfl)) trivial
  · replace hF := cond_f hb_4 hF
    conv => whnf
    obtain rfl := Option.some.inj hF
    exact ret_gz [] [] [] rfl (argFl (by (conv => lhs; whnf); all_goals rfl)) trivial

set_option maxRecDepth 100000 in
set_option maxHeartbeats 40000000 in
theorem message_shaped_ac (x_0 : Message) (r : Bool) (hF : message_shaped x_0 = some r) : AC Try.prog 54 [.agg (encMessage x_0)] [] (.bool r) [] := by
  refine ac_of tab_ok follows_ok Try.func54 rfl Try.ntmps54 rfl ?_
  unfold message_shaped at hF
  conv => whnf
  obtain ⟨r_1, h_r_1, hF⟩ := bind_some hF
  refine ⟨_, _, _, _, _, _, _, _, _, callX false [] [] 0 Try.func74 (by decide) rfl (flight_ValidPort_ac x_0.Port r_1 h_r_1) rfl ⟨(argE (by (conv => lhs; whnf); all_goals rfl) rfl), trivial⟩ rfl trivial rfl rfl rfl lend0 trivial rfl, ?_⟩
  conv => whnf
  refine ⟨fun hb_44 => ?_, fun hb_44 => ?_⟩
  · replace hF := cond_f hb_44 hF
    conv => whnf
    refine ⟨fun hb_45 => ?_, fun hb_45 => ?_⟩
    · replace hF := cond_t hb_45 hF
      conv => whnf
      obtain ⟨r_2, h_r_2, hF⟩ := bind_some hF
      refine ⟨_, _, _, _, _, _, _, _, _, callX false [] [] 0 Try.func75 (by decide) rfl (flight_ValidLeg_ac x_0.In r_2 h_r_2) rfl ⟨(argE (by (conv => lhs; whnf); all_goals rfl) rfl), trivial⟩ rfl trivial rfl rfl rfl lend0 trivial rfl, ?_⟩
      conv => whnf
      refine ⟨fun hb_46 => ?_, fun hb_46 => ?_⟩
      · replace hF := cond_f hb_46 hF
        conv => whnf
        refine ⟨fun hb_47 => ?_, fun hb_47 => ?_⟩
        · replace hF := cond_t hb_47 hF
          conv => whnf
          obtain ⟨r_3, h_r_3, hF⟩ := bind_some hF
          refine ⟨_, _, _, _, _, _, _, _, _, callX false [] [] 0 Try.func75 (by decide) rfl (flight_ValidLeg_ac x_0.Out r_3 h_r_3) rfl ⟨(argE (by (conv => lhs; whnf); all_goals rfl) rfl), trivial⟩ rfl trivial rfl rfl rfl lend0 trivial rfl, ?_⟩
          conv => whnf
          refine ⟨fun hb_48 => ?_, fun hb_48 => ?_⟩
          · replace hF := cond_t hb_48 hF
            conv => whnf
            obtain rfl := Option.some.inj hF
            exact ret_gz [] [] [] rfl (argFl (by (conv => lhs; whnf); all_goals rfl)) trivial
          · replace hF := cond_f hb_48 hF
            conv => whnf
            refine len_q (enc := encLeg) (l := x_0.Onward) rfl ?_
            conv => whnf
            obtain ⟨c_1, hc_1, hF⟩ := fin_some hF
            refine sw_bv 0 (v := .agg [.int .i64 x_0.Kind, .int .i64 x_0.Do, .str x_0.Port, .int .i64 x_0.Number, .str x_0.In.Flight.Carrier, .int .i64 x_0.In.Flight.Number, .str x_0.In.Flight.Suffix, .int .i64 x_0.In.Flight.Day, .str x_0.In.Port, .str x_0.In.Class, .str x_0.Out.Flight.Carrier, .int .i64 x_0.Out.Flight.Number, .str x_0.Out.Flight.Suffix, .int .i64 x_0.Out.Flight.Day, .str x_0.Out.Port, .str x_0.Out.Class, .lst 6 (x_0.Onward.map encLeg), .int .i64 x_0.First.Lead, .int .i64 x_0.First.Airline, .int .i64 x_0.First.Serial, .int .i64 x_0.Count, .bool x_0.Load, .int .i64 x_0.Status, .int .i64 x_0.Sequence, .int .i64 x_0.Weight, .str x_0.Surname, .str x_0.Given, .int .i64 x_0.Exception, .str x_0.Node, .lst 1 (x_0.List.map iA)]) (by (conv => lhs; whnf); all_goals rfl) (fun hb => ?_)
            have hbd_k_5 : x_0.Onward.length ≤ 9223372036854775807 := bnd_len (enc := encLeg) ((bnd_at hb.cell 16 rfl))
            refine sw_loop tab_ok follows_ok (fun y : Nat => y ≤ x_0.Onward.length ∧ message_shaped_L1 (x_0.Onward.drop y) y = some c_1) (fun y => ⟨eL [(1, .ptr 0 0), (32, .lst 6 (x_0.Onward.map encLeg)), (33, .int .i64 (x_0.Onward.length : Int)), (34, .int .i64 (y : Int))], hL [(0, .box [.int .i64 x_0.Kind, .int .i64 x_0.Do, .str x_0.Port, .int .i64 x_0.Number, .str x_0.In.Flight.Carrier, .int .i64 x_0.In.Flight.Number, .str x_0.In.Flight.Suffix, .int .i64 x_0.In.Flight.Day, .str x_0.In.Port, .str x_0.In.Class, .str x_0.Out.Flight.Carrier, .int .i64 x_0.Out.Flight.Number, .str x_0.Out.Flight.Suffix, .int .i64 x_0.Out.Flight.Day, .str x_0.Out.Port, .str x_0.Out.Class, .lst 6 (x_0.Onward.map encLeg), .int .i64 x_0.First.Lead, .int .i64 x_0.First.Airline, .int .i64 x_0.First.Serial, .int .i64 x_0.Count, .bool x_0.Load, .int .i64 x_0.Status, .int .i64 x_0.Sequence, .int .i64 x_0.Weight, .str x_0.Surname, .str x_0.Given, .int .i64 x_0.Exception, .str x_0.Node, .lst 1 (x_0.List.map iA)])], 1⟩) (fun y => x_0.Onward.length - y) 0 ⟨Nat.zero_le _, hc_1⟩ (wk_mk [0] [] [] rfl ⟨argP (id := 0) (by (conv => lhs; whnf); all_goals rfl) rfl, argE (by (conv => lhs; whnf); all_goals rfl) rfl, argE (by (conv => lhs; whnf); all_goals rfl) rfl, argE (by (conv => lhs; whnf); all_goals rfl) rfl, trivial⟩ ⟨boxL rfl rfl rfl ⟨(.ni _ rfl), (.ni _ rfl), (.ni _ rfl), (.ni _ rfl), (.ni _ rfl), (.ni _ rfl), (.ni _ rfl), (.ni _ rfl), (.ni _ rfl), (.ni _ rfl), (.ni _ rfl), (.ni _ rfl), (.ni _ rfl), (.ni _ rfl), (.ni _ rfl), (.ni _ rfl), (.ni _ rfl), (.ni _ rfl), (.ni _ rfl), (.ni _ rfl), (.ni _ rfl), (.ni _ rfl), (.ni _ rfl), (.ni _ rfl), (.ni _ rfl), (.ni _ rfl), (.ni _ rfl), (.ni _ rfl), (.ni _ rfl), (.ni _ rfl), trivial⟩, trivial⟩) ?_
            rintro k_5 ⟨hk_k_5, hL1⟩
            try dsimp only at hk_k_5 hL1
            show awp _ _ _ _ _ _ ⟨eL [(1, .ptr 0 0), (32, .lst 6 (x_0.Onward.map encLeg)), (33, .int .i64 (x_0.Onward.length : Int)), (34, .int .i64 (k_5 : Int))], hL [(0, .box [.int .i64 x_0.Kind, .int .i64 x_0.Do, .str x_0.Port, .int .i64 x_0.Number, .str x_0.In.Flight.Carrier, .int .i64 x_0.In.Flight.Number, .str x_0.In.Flight.Suffix, .int .i64 x_0.In.Flight.Day, .str x_0.In.Port, .str x_0.In.Class, .str x_0.Out.Flight.Carrier, .int .i64 x_0.Out.Flight.Number, .str x_0.Out.Flight.Suffix, .int .i64 x_0.Out.Flight.Day, .str x_0.Out.Port, .str x_0.Out.Class, .lst 6 (x_0.Onward.map encLeg), .int .i64 x_0.First.Lead, .int .i64 x_0.First.Airline, .int .i64 x_0.First.Serial, .int .i64 x_0.Count, .bool x_0.Load, .int .i64 x_0.Status, .int .i64 x_0.Sequence, .int .i64 x_0.Weight, .str x_0.Surname, .str x_0.Given, .int .i64 x_0.Exception, .str x_0.Node, .lst 1 (x_0.List.map iA)])], 1⟩
            conv => whnf
            refine ⟨fun h => ?_, fun h => ?_⟩
            · have hlt_k_5 : k_5 < x_0.Onward.length := by have h := of_decide_eq_true h; omega
              obtain ⟨e_6, h_e_6⟩ : ∃ y, x_0.Onward[k_5]? = some y := ⟨_, List.getElem?_eq_getElem hlt_k_5⟩
              rw [drop_cons h_e_6, message_shaped_L1.eq_2] at hL1
              conv => whnf
              refine ⟨k_5, _, rfl, ix_map h_e_6, ?_⟩
              conv => whnf
              obtain ⟨r_7, h_r_7, hL1⟩ := bind_some hL1
              refine ⟨_, _, _, _, _, _, _, _, _, callX false [] [] 0 Try.func75 (by decide) rfl (flight_ValidLeg_ac e_6 r_7 h_r_7) rfl ⟨(argE (by (conv => lhs; whnf); all_goals rfl) rfl), trivial⟩ rfl trivial rfl rfl rfl lend0 trivial rfl, ?_⟩
              conv => whnf
              refine ⟨fun hb_49 => ?_, fun hb_49 => ?_⟩
              · replace hL1 := cond_t hb_49 hL1
                conv => whnf
                obtain rfl := Option.some.inj hL1
                replace hF := fin_ret hF
                obtain rfl := Option.some.inj hF
                exact ret_gz [] [] [] rfl (argFl (by (conv => lhs; whnf); all_goals rfl)) trivial
              · replace hL1 := cond_f hb_49 hL1
                conv => whnf
                refine ⟨((k_5 + 1 : Nat) : Int), wrapE (by omega) (by omega) (by omega), ?_⟩
                conv => whnf
                exact ⟨k_5 + 1, [0], [], [], ⟨hlt_k_5, hL1⟩, by show x_0.Onward.length - (k_5 + 1) < x_0.Onward.length - k_5; omega, wk_mk [0] [] [] rfl ⟨argP (id := 0) (by (conv => lhs; whnf); all_goals rfl) rfl, argE (by (conv => lhs; whnf); all_goals rfl) rfl, argE (by (conv => lhs; whnf); all_goals rfl) rfl, argE (by (conv => lhs; whnf); all_goals rfl) rfl, trivial⟩ ⟨boxL rfl rfl rfl ⟨(.ni _ rfl), (.ni _ rfl), (.ni _ rfl), (.ni _ rfl), (.ni _ rfl), (.ni _ rfl), (.ni _ rfl), (.ni _ rfl), (.ni _ rfl), (.ni _ rfl), (.ni _ rfl), (.ni _ rfl), (.ni _ rfl), (.ni _ rfl), (.ni _ rfl), (.ni _ rfl), (.ni _ rfl), (.ni _ rfl), (.ni _ rfl), (.ni _ rfl), (.ni _ rfl), (.ni _ rfl), (.ni _ rfl), (.ni _ rfl), (.ni _ rfl), (.ni _ rfl), (.ni _ rfl), (.ni _ rfl), (.ni _ rfl), (.ni _ rfl), trivial⟩, trivial⟩⟩
            · rw [drop_nil (show x_0.Onward.length ≤ k_5 by have h := of_decide_eq_false h; omega), message_shaped_L1.eq_1] at hL1
              conv => whnf
              obtain rfl := Option.some.inj hL1
              replace hF := fin_brk hF
              try dsimp only at hF
              obtain ⟨r_10, h_r_10, hF⟩ := bind_some hF
              refine ⟨_, _, _, _, _, _, _, _, _, callX false [] [] 0 Try.func76 (by decide) rfl (message_describes_ac x_0.Kind r_10 h_r_10) rfl ⟨(argE (by (conv => lhs; whnf); all_goals rfl) rfl), trivial⟩ rfl trivial rfl rfl rfl lend0 trivial rfl, ?_⟩
              conv => whnf
              refine ⟨fun hb_50 => ?_, fun hb_50 => ?_⟩
              · replace hF := cond_t hb_50 hF
                conv => whnf
                obtain ⟨r_11, h_r_11, hF⟩ := bind_some hF
                refine ⟨_, _, _, _, _, _, _, _, _, callX false [] [] 0 Try.func77 (by decide) rfl (fields_Letters_ac x_0.Surname (1 : Int) (20 : Int) r_11 h_r_11) rfl ⟨(argE (by (conv => lhs; whnf); all_goals rfl) rfl), (argE (by (conv => lhs; whnf); all_goals rfl) rfl), (argE (by (conv => lhs; whnf); all_goals rfl) rfl), trivial⟩ rfl trivial rfl rfl rfl lend0 trivial rfl, ?_⟩
                conv => whnf
                refine ⟨fun hb_51 => ?_, fun hb_51 => ?_⟩
                · replace hF := cond_f hb_51 hF
                  conv => whnf
                  obtain ⟨r_12, h_r_12, hF⟩ := bind_some hF
                  refine ⟨_, _, _, _, _, _, _, _, _, callX false [] [] 0 Try.func77 (by decide) rfl (fields_Letters_ac x_0.Given (0 : Int) (20 : Int) r_12 h_r_12) rfl ⟨(argE (by (conv => lhs; whnf); all_goals rfl) rfl), (argE (by (conv => lhs; whnf); all_goals rfl) rfl), (argE (by (conv => lhs; whnf); all_goals rfl) rfl), trivial⟩ rfl trivial rfl rfl rfl lend0 trivial rfl, ?_⟩
                  conv => whnf
                  refine ⟨fun hb_52 => ?_, fun hb_52 => ?_⟩
                  · replace hF := cond_t hb_52 hF
                    conv => whnf
                    obtain rfl := Option.some.inj hF
                    exact ret_gz [] [] [] rfl (argFl (by (conv => lhs; whnf); all_goals rfl)) trivial
                  · replace hF := cond_f hb_52 hF
                    conv => whnf
                    refine ⟨fun h => ?_, fun h => ?_⟩
                    · cases (hb_47).symm.trans h
                    · conv => whnf
                      obtain rfl := Option.some.inj hF
                      exact ret_gz [] [] [] rfl (argT (by (conv => lhs; whnf); all_goals rfl)) trivial
                · replace hF := cond_t hb_51 hF
                  conv => whnf
                  obtain rfl := Option.some.inj hF
                  exact ret_gz [] [] [] rfl (argFl (by (conv => lhs; whnf); all_goals rfl)) trivial
              · replace hF := cond_f hb_50 hF
                conv => whnf
                refine ⟨fun h => ?_, fun h => ?_⟩
                · cases (hb_47).symm.trans h
                · conv => whnf
                  obtain rfl := Option.some.inj hF
                  exact ret_gz [] [] [] rfl (argT (by (conv => lhs; whnf); all_goals rfl)) trivial
        · replace hF := cond_f hb_47 hF
          conv => whnf
          refine len_q (enc := encLeg) (l := x_0.Onward) rfl ?_
          conv => whnf
          obtain ⟨c_1, hc_1, hF⟩ := fin_some hF
          refine sw_bv 0 (v := .agg [.int .i64 x_0.Kind, .int .i64 x_0.Do, .str x_0.Port, .int .i64 x_0.Number, .str x_0.In.Flight.Carrier, .int .i64 x_0.In.Flight.Number, .str x_0.In.Flight.Suffix, .int .i64 x_0.In.Flight.Day, .str x_0.In.Port, .str x_0.In.Class, .str x_0.Out.Flight.Carrier, .int .i64 x_0.Out.Flight.Number, .str x_0.Out.Flight.Suffix, .int .i64 x_0.Out.Flight.Day, .str x_0.Out.Port, .str x_0.Out.Class, .lst 6 (x_0.Onward.map encLeg), .int .i64 x_0.First.Lead, .int .i64 x_0.First.Airline, .int .i64 x_0.First.Serial, .int .i64 x_0.Count, .bool x_0.Load, .int .i64 x_0.Status, .int .i64 x_0.Sequence, .int .i64 x_0.Weight, .str x_0.Surname, .str x_0.Given, .int .i64 x_0.Exception, .str x_0.Node, .lst 1 (x_0.List.map iA)]) (by (conv => lhs; whnf); all_goals rfl) (fun hb => ?_)
          have hbd_k_14 : x_0.Onward.length ≤ 9223372036854775807 := bnd_len (enc := encLeg) ((bnd_at hb.cell 16 rfl))
          refine sw_loop tab_ok follows_ok (fun y : Nat => y ≤ x_0.Onward.length ∧ message_shaped_L1 (x_0.Onward.drop y) y = some c_1) (fun y => ⟨eL [(1, .ptr 0 0), (32, .lst 6 (x_0.Onward.map encLeg)), (33, .int .i64 (x_0.Onward.length : Int)), (34, .int .i64 (y : Int))], hL [(0, .box [.int .i64 x_0.Kind, .int .i64 x_0.Do, .str x_0.Port, .int .i64 x_0.Number, .str x_0.In.Flight.Carrier, .int .i64 x_0.In.Flight.Number, .str x_0.In.Flight.Suffix, .int .i64 x_0.In.Flight.Day, .str x_0.In.Port, .str x_0.In.Class, .str x_0.Out.Flight.Carrier, .int .i64 x_0.Out.Flight.Number, .str x_0.Out.Flight.Suffix, .int .i64 x_0.Out.Flight.Day, .str x_0.Out.Port, .str x_0.Out.Class, .lst 6 (x_0.Onward.map encLeg), .int .i64 x_0.First.Lead, .int .i64 x_0.First.Airline, .int .i64 x_0.First.Serial, .int .i64 x_0.Count, .bool x_0.Load, .int .i64 x_0.Status, .int .i64 x_0.Sequence, .int .i64 x_0.Weight, .str x_0.Surname, .str x_0.Given, .int .i64 x_0.Exception, .str x_0.Node, .lst 1 (x_0.List.map iA)])], 1⟩) (fun y => x_0.Onward.length - y) 0 ⟨Nat.zero_le _, hc_1⟩ (wk_mk [0] [] [] rfl ⟨argP (id := 0) (by (conv => lhs; whnf); all_goals rfl) rfl, argE (by (conv => lhs; whnf); all_goals rfl) rfl, argE (by (conv => lhs; whnf); all_goals rfl) rfl, argE (by (conv => lhs; whnf); all_goals rfl) rfl, trivial⟩ ⟨boxL rfl rfl rfl ⟨(.ni _ rfl), (.ni _ rfl), (.ni _ rfl), (.ni _ rfl), (.ni _ rfl), (.ni _ rfl), (.ni _ rfl), (.ni _ rfl), (.ni _ rfl), (.ni _ rfl), (.ni _ rfl), (.ni _ rfl), (.ni _ rfl), (.ni _ rfl), (.ni _ rfl), (.ni _ rfl), (.ni _ rfl), (.ni _ rfl), (.ni _ rfl), (.ni _ rfl), (.ni _ rfl), (.ni _ rfl), (.ni _ rfl), (.ni _ rfl), (.ni _ rfl), (.ni _ rfl), (.ni _ rfl), (.ni _ rfl), (.ni _ rfl), (.ni _ rfl), trivial⟩, trivial⟩) ?_
          rintro k_14 ⟨hk_k_14, hL1⟩
          try dsimp only at hk_k_14 hL1
          show awp _ _ _ _ _ _ ⟨eL [(1, .ptr 0 0), (32, .lst 6 (x_0.Onward.map encLeg)), (33, .int .i64 (x_0.Onward.length : Int)), (34, .int .i64 (k_14 : Int))], hL [(0, .box [.int .i64 x_0.Kind, .int .i64 x_0.Do, .str x_0.Port, .int .i64 x_0.Number, .str x_0.In.Flight.Carrier, .int .i64 x_0.In.Flight.Number, .str x_0.In.Flight.Suffix, .int .i64 x_0.In.Flight.Day, .str x_0.In.Port, .str x_0.In.Class, .str x_0.Out.Flight.Carrier, .int .i64 x_0.Out.Flight.Number, .str x_0.Out.Flight.Suffix, .int .i64 x_0.Out.Flight.Day, .str x_0.Out.Port, .str x_0.Out.Class, .lst 6 (x_0.Onward.map encLeg), .int .i64 x_0.First.Lead, .int .i64 x_0.First.Airline, .int .i64 x_0.First.Serial, .int .i64 x_0.Count, .bool x_0.Load, .int .i64 x_0.Status, .int .i64 x_0.Sequence, .int .i64 x_0.Weight, .str x_0.Surname, .str x_0.Given, .int .i64 x_0.Exception, .str x_0.Node, .lst 1 (x_0.List.map iA)])], 1⟩
          conv => whnf
          refine ⟨fun h => ?_, fun h => ?_⟩
          · have hlt_k_14 : k_14 < x_0.Onward.length := by have h := of_decide_eq_true h; omega
            obtain ⟨e_15, h_e_15⟩ : ∃ y, x_0.Onward[k_14]? = some y := ⟨_, List.getElem?_eq_getElem hlt_k_14⟩
            rw [drop_cons h_e_15, message_shaped_L1.eq_2] at hL1
            conv => whnf
            refine ⟨k_14, _, rfl, ix_map h_e_15, ?_⟩
            conv => whnf
            obtain ⟨r_16, h_r_16, hL1⟩ := bind_some hL1
            refine ⟨_, _, _, _, _, _, _, _, _, callX false [] [] 0 Try.func75 (by decide) rfl (flight_ValidLeg_ac e_15 r_16 h_r_16) rfl ⟨(argE (by (conv => lhs; whnf); all_goals rfl) rfl), trivial⟩ rfl trivial rfl rfl rfl lend0 trivial rfl, ?_⟩
            conv => whnf
            refine ⟨fun hb_53 => ?_, fun hb_53 => ?_⟩
            · replace hL1 := cond_t hb_53 hL1
              conv => whnf
              obtain rfl := Option.some.inj hL1
              replace hF := fin_ret hF
              obtain rfl := Option.some.inj hF
              exact ret_gz [] [] [] rfl (argFl (by (conv => lhs; whnf); all_goals rfl)) trivial
            · replace hL1 := cond_f hb_53 hL1
              conv => whnf
              refine ⟨((k_14 + 1 : Nat) : Int), wrapE (by omega) (by omega) (by omega), ?_⟩
              conv => whnf
              exact ⟨k_14 + 1, [0], [], [], ⟨hlt_k_14, hL1⟩, by show x_0.Onward.length - (k_14 + 1) < x_0.Onward.length - k_14; omega, wk_mk [0] [] [] rfl ⟨argP (id := 0) (by (conv => lhs; whnf); all_goals rfl) rfl, argE (by (conv => lhs; whnf); all_goals rfl) rfl, argE (by (conv => lhs; whnf); all_goals rfl) rfl, argE (by (conv => lhs; whnf); all_goals rfl) rfl, trivial⟩ ⟨boxL rfl rfl rfl ⟨(.ni _ rfl), (.ni _ rfl), (.ni _ rfl), (.ni _ rfl), (.ni _ rfl), (.ni _ rfl), (.ni _ rfl), (.ni _ rfl), (.ni _ rfl), (.ni _ rfl), (.ni _ rfl), (.ni _ rfl), (.ni _ rfl), (.ni _ rfl), (.ni _ rfl), (.ni _ rfl), (.ni _ rfl), (.ni _ rfl), (.ni _ rfl), (.ni _ rfl), (.ni _ rfl), (.ni _ rfl), (.ni _ rfl), (.ni _ rfl), (.ni _ rfl), (.ni _ rfl), (.ni _ rfl), (.ni _ rfl), (.ni _ rfl), (.ni _ rfl), trivial⟩, trivial⟩⟩
          · rw [drop_nil (show x_0.Onward.length ≤ k_14 by have h := of_decide_eq_false h; omega), message_shaped_L1.eq_1] at hL1
            conv => whnf
            obtain rfl := Option.some.inj hL1
            replace hF := fin_brk hF
            try dsimp only at hF
            obtain ⟨r_19, h_r_19, hF⟩ := bind_some hF
            refine ⟨_, _, _, _, _, _, _, _, _, callX false [] [] 0 Try.func76 (by decide) rfl (message_describes_ac x_0.Kind r_19 h_r_19) rfl ⟨(argE (by (conv => lhs; whnf); all_goals rfl) rfl), trivial⟩ rfl trivial rfl rfl rfl lend0 trivial rfl, ?_⟩
            conv => whnf
            refine ⟨fun hb_54 => ?_, fun hb_54 => ?_⟩
            · replace hF := cond_t hb_54 hF
              conv => whnf
              obtain ⟨r_20, h_r_20, hF⟩ := bind_some hF
              refine ⟨_, _, _, _, _, _, _, _, _, callX false [] [] 0 Try.func77 (by decide) rfl (fields_Letters_ac x_0.Surname (1 : Int) (20 : Int) r_20 h_r_20) rfl ⟨(argE (by (conv => lhs; whnf); all_goals rfl) rfl), (argE (by (conv => lhs; whnf); all_goals rfl) rfl), (argE (by (conv => lhs; whnf); all_goals rfl) rfl), trivial⟩ rfl trivial rfl rfl rfl lend0 trivial rfl, ?_⟩
              conv => whnf
              refine ⟨fun hb_55 => ?_, fun hb_55 => ?_⟩
              · replace hF := cond_f hb_55 hF
                conv => whnf
                obtain ⟨r_21, h_r_21, hF⟩ := bind_some hF
                refine ⟨_, _, _, _, _, _, _, _, _, callX false [] [] 0 Try.func77 (by decide) rfl (fields_Letters_ac x_0.Given (0 : Int) (20 : Int) r_21 h_r_21) rfl ⟨(argE (by (conv => lhs; whnf); all_goals rfl) rfl), (argE (by (conv => lhs; whnf); all_goals rfl) rfl), (argE (by (conv => lhs; whnf); all_goals rfl) rfl), trivial⟩ rfl trivial rfl rfl rfl lend0 trivial rfl, ?_⟩
                conv => whnf
                refine ⟨fun hb_56 => ?_, fun hb_56 => ?_⟩
                · replace hF := cond_t hb_56 hF
                  conv => whnf
                  obtain rfl := Option.some.inj hF
                  exact ret_gz [] [] [] rfl (argFl (by (conv => lhs; whnf); all_goals rfl)) trivial
                · replace hF := cond_f hb_56 hF
                  conv => whnf
                  refine ⟨fun h => ?_, fun h => ?_⟩
                  · conv => whnf
                    obtain ⟨r_22, h_r_22, hF⟩ := bind_some hF
                    refine ⟨_, _, _, _, _, _, _, _, _, callX false [] [] 0 Try.func78 (by decide) rfl (fields_Name_ac x_0.Node (12 : Int) r_22 h_r_22) rfl ⟨(argE (by (conv => lhs; whnf); all_goals rfl) rfl), (argE (by (conv => lhs; whnf); all_goals rfl) rfl), trivial⟩ rfl trivial rfl rfl rfl lend0 trivial rfl, ?_⟩
                    conv => whnf
                    obtain rfl := Option.some.inj hF
                    exact ret_gz [] [] [] rfl (argE (by (conv => lhs; whnf); all_goals rfl) rfl) trivial
                  · cases (hb_47).symm.trans h
              · replace hF := cond_t hb_55 hF
                conv => whnf
                obtain rfl := Option.some.inj hF
                exact ret_gz [] [] [] rfl (argFl (by (conv => lhs; whnf); all_goals rfl)) trivial
            · replace hF := cond_f hb_54 hF
              conv => whnf
              refine ⟨fun h => ?_, fun h => ?_⟩
              · conv => whnf
                obtain ⟨r_23, h_r_23, hF⟩ := bind_some hF
                refine ⟨_, _, _, _, _, _, _, _, _, callX false [] [] 0 Try.func78 (by decide) rfl (fields_Name_ac x_0.Node (12 : Int) r_23 h_r_23) rfl ⟨(argE (by (conv => lhs; whnf); all_goals rfl) rfl), (argE (by (conv => lhs; whnf); all_goals rfl) rfl), trivial⟩ rfl trivial rfl rfl rfl lend0 trivial rfl, ?_⟩
                conv => whnf
                obtain rfl := Option.some.inj hF
                exact ret_gz [] [] [] rfl (argE (by (conv => lhs; whnf); all_goals rfl) rfl) trivial
              · cases (hb_47).symm.trans h
      · replace hF := cond_t hb_46 hF
        conv => whnf
        obtain rfl := Option.some.inj hF
        exact ret_gz [] [] [] rfl (argFl (by (conv => lhs; whnf); all_goals rfl)) trivial
    · replace hF := cond_f hb_45 hF
      conv => whnf
      refine ⟨fun hb_57 => ?_, fun hb_57 => ?_⟩
      · replace hF := cond_t hb_57 hF
        conv => whnf
        obtain ⟨r_24, h_r_24, hF⟩ := bind_some hF
        refine ⟨_, _, _, _, _, _, _, _, _, callX false [] [] 0 Try.func75 (by decide) rfl (flight_ValidLeg_ac x_0.Out r_24 h_r_24) rfl ⟨(argE (by (conv => lhs; whnf); all_goals rfl) rfl), trivial⟩ rfl trivial rfl rfl rfl lend0 trivial rfl, ?_⟩
        conv => whnf
        refine ⟨fun hb_58 => ?_, fun hb_58 => ?_⟩
        · replace hF := cond_t hb_58 hF
          conv => whnf
          obtain rfl := Option.some.inj hF
          exact ret_gz [] [] [] rfl (argFl (by (conv => lhs; whnf); all_goals rfl)) trivial
        · replace hF := cond_f hb_58 hF
          conv => whnf
          refine len_q (enc := encLeg) (l := x_0.Onward) rfl ?_
          conv => whnf
          obtain ⟨c_1, hc_1, hF⟩ := fin_some hF
          refine sw_bv 0 (v := .agg [.int .i64 x_0.Kind, .int .i64 x_0.Do, .str x_0.Port, .int .i64 x_0.Number, .str x_0.In.Flight.Carrier, .int .i64 x_0.In.Flight.Number, .str x_0.In.Flight.Suffix, .int .i64 x_0.In.Flight.Day, .str x_0.In.Port, .str x_0.In.Class, .str x_0.Out.Flight.Carrier, .int .i64 x_0.Out.Flight.Number, .str x_0.Out.Flight.Suffix, .int .i64 x_0.Out.Flight.Day, .str x_0.Out.Port, .str x_0.Out.Class, .lst 6 (x_0.Onward.map encLeg), .int .i64 x_0.First.Lead, .int .i64 x_0.First.Airline, .int .i64 x_0.First.Serial, .int .i64 x_0.Count, .bool x_0.Load, .int .i64 x_0.Status, .int .i64 x_0.Sequence, .int .i64 x_0.Weight, .str x_0.Surname, .str x_0.Given, .int .i64 x_0.Exception, .str x_0.Node, .lst 1 (x_0.List.map iA)]) (by (conv => lhs; whnf); all_goals rfl) (fun hb => ?_)
          have hbd_k_26 : x_0.Onward.length ≤ 9223372036854775807 := bnd_len (enc := encLeg) ((bnd_at hb.cell 16 rfl))
          refine sw_loop tab_ok follows_ok (fun y : Nat => y ≤ x_0.Onward.length ∧ message_shaped_L1 (x_0.Onward.drop y) y = some c_1) (fun y => ⟨eL [(1, .ptr 0 0), (32, .lst 6 (x_0.Onward.map encLeg)), (33, .int .i64 (x_0.Onward.length : Int)), (34, .int .i64 (y : Int))], hL [(0, .box [.int .i64 x_0.Kind, .int .i64 x_0.Do, .str x_0.Port, .int .i64 x_0.Number, .str x_0.In.Flight.Carrier, .int .i64 x_0.In.Flight.Number, .str x_0.In.Flight.Suffix, .int .i64 x_0.In.Flight.Day, .str x_0.In.Port, .str x_0.In.Class, .str x_0.Out.Flight.Carrier, .int .i64 x_0.Out.Flight.Number, .str x_0.Out.Flight.Suffix, .int .i64 x_0.Out.Flight.Day, .str x_0.Out.Port, .str x_0.Out.Class, .lst 6 (x_0.Onward.map encLeg), .int .i64 x_0.First.Lead, .int .i64 x_0.First.Airline, .int .i64 x_0.First.Serial, .int .i64 x_0.Count, .bool x_0.Load, .int .i64 x_0.Status, .int .i64 x_0.Sequence, .int .i64 x_0.Weight, .str x_0.Surname, .str x_0.Given, .int .i64 x_0.Exception, .str x_0.Node, .lst 1 (x_0.List.map iA)])], 1⟩) (fun y => x_0.Onward.length - y) 0 ⟨Nat.zero_le _, hc_1⟩ (wk_mk [0] [] [] rfl ⟨argP (id := 0) (by (conv => lhs; whnf); all_goals rfl) rfl, argE (by (conv => lhs; whnf); all_goals rfl) rfl, argE (by (conv => lhs; whnf); all_goals rfl) rfl, argE (by (conv => lhs; whnf); all_goals rfl) rfl, trivial⟩ ⟨boxL rfl rfl rfl ⟨(.ni _ rfl), (.ni _ rfl), (.ni _ rfl), (.ni _ rfl), (.ni _ rfl), (.ni _ rfl), (.ni _ rfl), (.ni _ rfl), (.ni _ rfl), (.ni _ rfl), (.ni _ rfl), (.ni _ rfl), (.ni _ rfl), (.ni _ rfl), (.ni _ rfl), (.ni _ rfl), (.ni _ rfl), (.ni _ rfl), (.ni _ rfl), (.ni _ rfl), (.ni _ rfl), (.ni _ rfl), (.ni _ rfl), (.ni _ rfl), (.ni _ rfl), (.ni _ rfl), (.ni _ rfl), (.ni _ rfl), (.ni _ rfl), (.ni _ rfl), trivial⟩, trivial⟩) ?_
          rintro k_26 ⟨hk_k_26, hL1⟩
          try dsimp only at hk_k_26 hL1
          show awp _ _ _ _ _ _ ⟨eL [(1, .ptr 0 0), (32, .lst 6 (x_0.Onward.map encLeg)), (33, .int .i64 (x_0.Onward.length : Int)), (34, .int .i64 (k_26 : Int))], hL [(0, .box [.int .i64 x_0.Kind, .int .i64 x_0.Do, .str x_0.Port, .int .i64 x_0.Number, .str x_0.In.Flight.Carrier, .int .i64 x_0.In.Flight.Number, .str x_0.In.Flight.Suffix, .int .i64 x_0.In.Flight.Day, .str x_0.In.Port, .str x_0.In.Class, .str x_0.Out.Flight.Carrier, .int .i64 x_0.Out.Flight.Number, .str x_0.Out.Flight.Suffix, .int .i64 x_0.Out.Flight.Day, .str x_0.Out.Port, .str x_0.Out.Class, .lst 6 (x_0.Onward.map encLeg), .int .i64 x_0.First.Lead, .int .i64 x_0.First.Airline, .int .i64 x_0.First.Serial, .int .i64 x_0.Count, .bool x_0.Load, .int .i64 x_0.Status, .int .i64 x_0.Sequence, .int .i64 x_0.Weight, .str x_0.Surname, .str x_0.Given, .int .i64 x_0.Exception, .str x_0.Node, .lst 1 (x_0.List.map iA)])], 1⟩
          conv => whnf
          refine ⟨fun h => ?_, fun h => ?_⟩
          · have hlt_k_26 : k_26 < x_0.Onward.length := by have h := of_decide_eq_true h; omega
            obtain ⟨e_27, h_e_27⟩ : ∃ y, x_0.Onward[k_26]? = some y := ⟨_, List.getElem?_eq_getElem hlt_k_26⟩
            rw [drop_cons h_e_27, message_shaped_L1.eq_2] at hL1
            conv => whnf
            refine ⟨k_26, _, rfl, ix_map h_e_27, ?_⟩
            conv => whnf
            obtain ⟨r_28, h_r_28, hL1⟩ := bind_some hL1
            refine ⟨_, _, _, _, _, _, _, _, _, callX false [] [] 0 Try.func75 (by decide) rfl (flight_ValidLeg_ac e_27 r_28 h_r_28) rfl ⟨(argE (by (conv => lhs; whnf); all_goals rfl) rfl), trivial⟩ rfl trivial rfl rfl rfl lend0 trivial rfl, ?_⟩
            conv => whnf
            refine ⟨fun hb_59 => ?_, fun hb_59 => ?_⟩
            · replace hL1 := cond_t hb_59 hL1
              conv => whnf
              obtain rfl := Option.some.inj hL1
              replace hF := fin_ret hF
              obtain rfl := Option.some.inj hF
              exact ret_gz [] [] [] rfl (argFl (by (conv => lhs; whnf); all_goals rfl)) trivial
            · replace hL1 := cond_f hb_59 hL1
              conv => whnf
              refine ⟨((k_26 + 1 : Nat) : Int), wrapE (by omega) (by omega) (by omega), ?_⟩
              conv => whnf
              exact ⟨k_26 + 1, [0], [], [], ⟨hlt_k_26, hL1⟩, by show x_0.Onward.length - (k_26 + 1) < x_0.Onward.length - k_26; omega, wk_mk [0] [] [] rfl ⟨argP (id := 0) (by (conv => lhs; whnf); all_goals rfl) rfl, argE (by (conv => lhs; whnf); all_goals rfl) rfl, argE (by (conv => lhs; whnf); all_goals rfl) rfl, argE (by (conv => lhs; whnf); all_goals rfl) rfl, trivial⟩ ⟨boxL rfl rfl rfl ⟨(.ni _ rfl), (.ni _ rfl), (.ni _ rfl), (.ni _ rfl), (.ni _ rfl), (.ni _ rfl), (.ni _ rfl), (.ni _ rfl), (.ni _ rfl), (.ni _ rfl), (.ni _ rfl), (.ni _ rfl), (.ni _ rfl), (.ni _ rfl), (.ni _ rfl), (.ni _ rfl), (.ni _ rfl), (.ni _ rfl), (.ni _ rfl), (.ni _ rfl), (.ni _ rfl), (.ni _ rfl), (.ni _ rfl), (.ni _ rfl), (.ni _ rfl), (.ni _ rfl), (.ni _ rfl), (.ni _ rfl), (.ni _ rfl), (.ni _ rfl), trivial⟩, trivial⟩⟩
          · rw [drop_nil (show x_0.Onward.length ≤ k_26 by have h := of_decide_eq_false h; omega), message_shaped_L1.eq_1] at hL1
            conv => whnf
            obtain rfl := Option.some.inj hL1
            replace hF := fin_brk hF
            try dsimp only at hF
            obtain ⟨r_31, h_r_31, hF⟩ := bind_some hF
            refine ⟨_, _, _, _, _, _, _, _, _, callX false [] [] 0 Try.func76 (by decide) rfl (message_describes_ac x_0.Kind r_31 h_r_31) rfl ⟨(argE (by (conv => lhs; whnf); all_goals rfl) rfl), trivial⟩ rfl trivial rfl rfl rfl lend0 trivial rfl, ?_⟩
            conv => whnf
            refine ⟨fun hb_60 => ?_, fun hb_60 => ?_⟩
            · replace hF := cond_t hb_60 hF
              conv => whnf
              obtain ⟨r_32, h_r_32, hF⟩ := bind_some hF
              refine ⟨_, _, _, _, _, _, _, _, _, callX false [] [] 0 Try.func77 (by decide) rfl (fields_Letters_ac x_0.Surname (1 : Int) (20 : Int) r_32 h_r_32) rfl ⟨(argE (by (conv => lhs; whnf); all_goals rfl) rfl), (argE (by (conv => lhs; whnf); all_goals rfl) rfl), (argE (by (conv => lhs; whnf); all_goals rfl) rfl), trivial⟩ rfl trivial rfl rfl rfl lend0 trivial rfl, ?_⟩
              conv => whnf
              refine ⟨fun hb_61 => ?_, fun hb_61 => ?_⟩
              · replace hF := cond_f hb_61 hF
                conv => whnf
                obtain ⟨r_33, h_r_33, hF⟩ := bind_some hF
                refine ⟨_, _, _, _, _, _, _, _, _, callX false [] [] 0 Try.func77 (by decide) rfl (fields_Letters_ac x_0.Given (0 : Int) (20 : Int) r_33 h_r_33) rfl ⟨(argE (by (conv => lhs; whnf); all_goals rfl) rfl), (argE (by (conv => lhs; whnf); all_goals rfl) rfl), (argE (by (conv => lhs; whnf); all_goals rfl) rfl), trivial⟩ rfl trivial rfl rfl rfl lend0 trivial rfl, ?_⟩
                conv => whnf
                refine ⟨fun hb_62 => ?_, fun hb_62 => ?_⟩
                · replace hF := cond_t hb_62 hF
                  conv => whnf
                  obtain rfl := Option.some.inj hF
                  exact ret_gz [] [] [] rfl (argFl (by (conv => lhs; whnf); all_goals rfl)) trivial
                · replace hF := cond_f hb_62 hF
                  conv => whnf
                  refine ⟨fun h => ?_, fun h => ?_⟩
                  · cases (hb_57).symm.trans h
                  · conv => whnf
                    obtain rfl := Option.some.inj hF
                    exact ret_gz [] [] [] rfl (argT (by (conv => lhs; whnf); all_goals rfl)) trivial
              · replace hF := cond_t hb_61 hF
                conv => whnf
                obtain rfl := Option.some.inj hF
                exact ret_gz [] [] [] rfl (argFl (by (conv => lhs; whnf); all_goals rfl)) trivial
            · replace hF := cond_f hb_60 hF
              conv => whnf
              refine ⟨fun h => ?_, fun h => ?_⟩
              · cases (hb_57).symm.trans h
              · conv => whnf
                obtain rfl := Option.some.inj hF
                exact ret_gz [] [] [] rfl (argT (by (conv => lhs; whnf); all_goals rfl)) trivial
      · replace hF := cond_f hb_57 hF
        conv => whnf
        refine len_q (enc := encLeg) (l := x_0.Onward) rfl ?_
        conv => whnf
        obtain ⟨c_1, hc_1, hF⟩ := fin_some hF
        refine sw_bv 0 (v := .agg [.int .i64 x_0.Kind, .int .i64 x_0.Do, .str x_0.Port, .int .i64 x_0.Number, .str x_0.In.Flight.Carrier, .int .i64 x_0.In.Flight.Number, .str x_0.In.Flight.Suffix, .int .i64 x_0.In.Flight.Day, .str x_0.In.Port, .str x_0.In.Class, .str x_0.Out.Flight.Carrier, .int .i64 x_0.Out.Flight.Number, .str x_0.Out.Flight.Suffix, .int .i64 x_0.Out.Flight.Day, .str x_0.Out.Port, .str x_0.Out.Class, .lst 6 (x_0.Onward.map encLeg), .int .i64 x_0.First.Lead, .int .i64 x_0.First.Airline, .int .i64 x_0.First.Serial, .int .i64 x_0.Count, .bool x_0.Load, .int .i64 x_0.Status, .int .i64 x_0.Sequence, .int .i64 x_0.Weight, .str x_0.Surname, .str x_0.Given, .int .i64 x_0.Exception, .str x_0.Node, .lst 1 (x_0.List.map iA)]) (by (conv => lhs; whnf); all_goals rfl) (fun hb => ?_)
        have hbd_k_35 : x_0.Onward.length ≤ 9223372036854775807 := bnd_len (enc := encLeg) ((bnd_at hb.cell 16 rfl))
        refine sw_loop tab_ok follows_ok (fun y : Nat => y ≤ x_0.Onward.length ∧ message_shaped_L1 (x_0.Onward.drop y) y = some c_1) (fun y => ⟨eL [(1, .ptr 0 0), (32, .lst 6 (x_0.Onward.map encLeg)), (33, .int .i64 (x_0.Onward.length : Int)), (34, .int .i64 (y : Int))], hL [(0, .box [.int .i64 x_0.Kind, .int .i64 x_0.Do, .str x_0.Port, .int .i64 x_0.Number, .str x_0.In.Flight.Carrier, .int .i64 x_0.In.Flight.Number, .str x_0.In.Flight.Suffix, .int .i64 x_0.In.Flight.Day, .str x_0.In.Port, .str x_0.In.Class, .str x_0.Out.Flight.Carrier, .int .i64 x_0.Out.Flight.Number, .str x_0.Out.Flight.Suffix, .int .i64 x_0.Out.Flight.Day, .str x_0.Out.Port, .str x_0.Out.Class, .lst 6 (x_0.Onward.map encLeg), .int .i64 x_0.First.Lead, .int .i64 x_0.First.Airline, .int .i64 x_0.First.Serial, .int .i64 x_0.Count, .bool x_0.Load, .int .i64 x_0.Status, .int .i64 x_0.Sequence, .int .i64 x_0.Weight, .str x_0.Surname, .str x_0.Given, .int .i64 x_0.Exception, .str x_0.Node, .lst 1 (x_0.List.map iA)])], 1⟩) (fun y => x_0.Onward.length - y) 0 ⟨Nat.zero_le _, hc_1⟩ (wk_mk [0] [] [] rfl ⟨argP (id := 0) (by (conv => lhs; whnf); all_goals rfl) rfl, argE (by (conv => lhs; whnf); all_goals rfl) rfl, argE (by (conv => lhs; whnf); all_goals rfl) rfl, argE (by (conv => lhs; whnf); all_goals rfl) rfl, trivial⟩ ⟨boxL rfl rfl rfl ⟨(.ni _ rfl), (.ni _ rfl), (.ni _ rfl), (.ni _ rfl), (.ni _ rfl), (.ni _ rfl), (.ni _ rfl), (.ni _ rfl), (.ni _ rfl), (.ni _ rfl), (.ni _ rfl), (.ni _ rfl), (.ni _ rfl), (.ni _ rfl), (.ni _ rfl), (.ni _ rfl), (.ni _ rfl), (.ni _ rfl), (.ni _ rfl), (.ni _ rfl), (.ni _ rfl), (.ni _ rfl), (.ni _ rfl), (.ni _ rfl), (.ni _ rfl), (.ni _ rfl), (.ni _ rfl), (.ni _ rfl), (.ni _ rfl), (.ni _ rfl), trivial⟩, trivial⟩) ?_
        rintro k_35 ⟨hk_k_35, hL1⟩
        try dsimp only at hk_k_35 hL1
        show awp _ _ _ _ _ _ ⟨eL [(1, .ptr 0 0), (32, .lst 6 (x_0.Onward.map encLeg)), (33, .int .i64 (x_0.Onward.length : Int)), (34, .int .i64 (k_35 : Int))], hL [(0, .box [.int .i64 x_0.Kind, .int .i64 x_0.Do, .str x_0.Port, .int .i64 x_0.Number, .str x_0.In.Flight.Carrier, .int .i64 x_0.In.Flight.Number, .str x_0.In.Flight.Suffix, .int .i64 x_0.In.Flight.Day, .str x_0.In.Port, .str x_0.In.Class, .str x_0.Out.Flight.Carrier, .int .i64 x_0.Out.Flight.Number, .str x_0.Out.Flight.Suffix, .int .i64 x_0.Out.Flight.Day, .str x_0.Out.Port, .str x_0.Out.Class, .lst 6 (x_0.Onward.map encLeg), .int .i64 x_0.First.Lead, .int .i64 x_0.First.Airline, .int .i64 x_0.First.Serial, .int .i64 x_0.Count, .bool x_0.Load, .int .i64 x_0.Status, .int .i64 x_0.Sequence, .int .i64 x_0.Weight, .str x_0.Surname, .str x_0.Given, .int .i64 x_0.Exception, .str x_0.Node, .lst 1 (x_0.List.map iA)])], 1⟩
        conv => whnf
        refine ⟨fun h => ?_, fun h => ?_⟩
        · have hlt_k_35 : k_35 < x_0.Onward.length := by have h := of_decide_eq_true h; omega
          obtain ⟨e_36, h_e_36⟩ : ∃ y, x_0.Onward[k_35]? = some y := ⟨_, List.getElem?_eq_getElem hlt_k_35⟩
          rw [drop_cons h_e_36, message_shaped_L1.eq_2] at hL1
          conv => whnf
          refine ⟨k_35, _, rfl, ix_map h_e_36, ?_⟩
          conv => whnf
          obtain ⟨r_37, h_r_37, hL1⟩ := bind_some hL1
          refine ⟨_, _, _, _, _, _, _, _, _, callX false [] [] 0 Try.func75 (by decide) rfl (flight_ValidLeg_ac e_36 r_37 h_r_37) rfl ⟨(argE (by (conv => lhs; whnf); all_goals rfl) rfl), trivial⟩ rfl trivial rfl rfl rfl lend0 trivial rfl, ?_⟩
          conv => whnf
          refine ⟨fun hb_63 => ?_, fun hb_63 => ?_⟩
          · replace hL1 := cond_t hb_63 hL1
            conv => whnf
            obtain rfl := Option.some.inj hL1
            replace hF := fin_ret hF
            obtain rfl := Option.some.inj hF
            exact ret_gz [] [] [] rfl (argFl (by (conv => lhs; whnf); all_goals rfl)) trivial
          · replace hL1 := cond_f hb_63 hL1
            conv => whnf
            refine ⟨((k_35 + 1 : Nat) : Int), wrapE (by omega) (by omega) (by omega), ?_⟩
            conv => whnf
            exact ⟨k_35 + 1, [0], [], [], ⟨hlt_k_35, hL1⟩, by show x_0.Onward.length - (k_35 + 1) < x_0.Onward.length - k_35; omega, wk_mk [0] [] [] rfl ⟨argP (id := 0) (by (conv => lhs; whnf); all_goals rfl) rfl, argE (by (conv => lhs; whnf); all_goals rfl) rfl, argE (by (conv => lhs; whnf); all_goals rfl) rfl, argE (by (conv => lhs; whnf); all_goals rfl) rfl, trivial⟩ ⟨boxL rfl rfl rfl ⟨(.ni _ rfl), (.ni _ rfl), (.ni _ rfl), (.ni _ rfl), (.ni _ rfl), (.ni _ rfl), (.ni _ rfl), (.ni _ rfl), (.ni _ rfl), (.ni _ rfl), (.ni _ rfl), (.ni _ rfl), (.ni _ rfl), (.ni _ rfl), (.ni _ rfl), (.ni _ rfl), (.ni _ rfl), (.ni _ rfl), (.ni _ rfl), (.ni _ rfl), (.ni _ rfl), (.ni _ rfl), (.ni _ rfl), (.ni _ rfl), (.ni _ rfl), (.ni _ rfl), (.ni _ rfl), (.ni _ rfl), (.ni _ rfl), (.ni _ rfl), trivial⟩, trivial⟩⟩
        · rw [drop_nil (show x_0.Onward.length ≤ k_35 by have h := of_decide_eq_false h; omega), message_shaped_L1.eq_1] at hL1
          conv => whnf
          obtain rfl := Option.some.inj hL1
          replace hF := fin_brk hF
          try dsimp only at hF
          obtain ⟨r_40, h_r_40, hF⟩ := bind_some hF
          refine ⟨_, _, _, _, _, _, _, _, _, callX false [] [] 0 Try.func76 (by decide) rfl (message_describes_ac x_0.Kind r_40 h_r_40) rfl ⟨(argE (by (conv => lhs; whnf); all_goals rfl) rfl), trivial⟩ rfl trivial rfl rfl rfl lend0 trivial rfl, ?_⟩
          conv => whnf
          refine ⟨fun hb_64 => ?_, fun hb_64 => ?_⟩
          · replace hF := cond_t hb_64 hF
            conv => whnf
            obtain ⟨r_41, h_r_41, hF⟩ := bind_some hF
            refine ⟨_, _, _, _, _, _, _, _, _, callX false [] [] 0 Try.func77 (by decide) rfl (fields_Letters_ac x_0.Surname (1 : Int) (20 : Int) r_41 h_r_41) rfl ⟨(argE (by (conv => lhs; whnf); all_goals rfl) rfl), (argE (by (conv => lhs; whnf); all_goals rfl) rfl), (argE (by (conv => lhs; whnf); all_goals rfl) rfl), trivial⟩ rfl trivial rfl rfl rfl lend0 trivial rfl, ?_⟩
            conv => whnf
            refine ⟨fun hb_65 => ?_, fun hb_65 => ?_⟩
            · replace hF := cond_f hb_65 hF
              conv => whnf
              obtain ⟨r_42, h_r_42, hF⟩ := bind_some hF
              refine ⟨_, _, _, _, _, _, _, _, _, callX false [] [] 0 Try.func77 (by decide) rfl (fields_Letters_ac x_0.Given (0 : Int) (20 : Int) r_42 h_r_42) rfl ⟨(argE (by (conv => lhs; whnf); all_goals rfl) rfl), (argE (by (conv => lhs; whnf); all_goals rfl) rfl), (argE (by (conv => lhs; whnf); all_goals rfl) rfl), trivial⟩ rfl trivial rfl rfl rfl lend0 trivial rfl, ?_⟩
              conv => whnf
              refine ⟨fun hb_66 => ?_, fun hb_66 => ?_⟩
              · replace hF := cond_t hb_66 hF
                conv => whnf
                obtain rfl := Option.some.inj hF
                exact ret_gz [] [] [] rfl (argFl (by (conv => lhs; whnf); all_goals rfl)) trivial
              · replace hF := cond_f hb_66 hF
                conv => whnf
                refine ⟨fun h => ?_, fun h => ?_⟩
                · conv => whnf
                  obtain ⟨r_43, h_r_43, hF⟩ := bind_some hF
                  refine ⟨_, _, _, _, _, _, _, _, _, callX false [] [] 0 Try.func78 (by decide) rfl (fields_Name_ac x_0.Node (12 : Int) r_43 h_r_43) rfl ⟨(argE (by (conv => lhs; whnf); all_goals rfl) rfl), (argE (by (conv => lhs; whnf); all_goals rfl) rfl), trivial⟩ rfl trivial rfl rfl rfl lend0 trivial rfl, ?_⟩
                  conv => whnf
                  obtain rfl := Option.some.inj hF
                  exact ret_gz [] [] [] rfl (argE (by (conv => lhs; whnf); all_goals rfl) rfl) trivial
                · cases (hb_57).symm.trans h
            · replace hF := cond_t hb_65 hF
              conv => whnf
              obtain rfl := Option.some.inj hF
              exact ret_gz [] [] [] rfl (argFl (by (conv => lhs; whnf); all_goals rfl)) trivial
          · replace hF := cond_f hb_64 hF
            conv => whnf
            refine ⟨fun h => ?_, fun h => ?_⟩
            · conv => whnf
              obtain ⟨r_44, h_r_44, hF⟩ := bind_some hF
              refine ⟨_, _, _, _, _, _, _, _, _, callX false [] [] 0 Try.func78 (by decide) rfl (fields_Name_ac x_0.Node (12 : Int) r_44 h_r_44) rfl ⟨(argE (by (conv => lhs; whnf); all_goals rfl) rfl), (argE (by (conv => lhs; whnf); all_goals rfl) rfl), trivial⟩ rfl trivial rfl rfl rfl lend0 trivial rfl, ?_⟩
              conv => whnf
              obtain rfl := Option.some.inj hF
              exact ret_gz [] [] [] rfl (argE (by (conv => lhs; whnf); all_goals rfl) rfl) trivial
            · cases (hb_57).symm.trans h
  · replace hF := cond_t hb_44 hF
    conv => whnf
    obtain rfl := Option.some.inj hF
    exact ret_gz [] [] [] rfl (argFl (by (conv => lhs; whnf); all_goals rfl)) trivial

set_option maxRecDepth 100000 in
set_option maxHeartbeats 40000000 in
theorem plate_Valid_ac (x_0 : Plate) (r : Bool) (hF : plate_Valid x_0 = some r) : AC Try.prog 79 [.agg (encPlate x_0)] [] (.bool r) [] := by
  refine ac_of tab_ok follows_ok Try.func79 rfl Try.ntmps79 rfl ?_
  unfold plate_Valid at hF
  conv => whnf
  refine ⟨fun hb_6 => ?_, fun hb_6 => ?_⟩
  · replace hF := cond_t hb_6 hF
    conv => whnf
    refine ⟨fun hb_7 => ?_, fun hb_7 => ?_⟩
    · replace hF := cond_t hb_7 hF
      conv => whnf
      refine ⟨fun hb_8 => ?_, fun hb_8 => ?_⟩
      · replace hF := cond_t hb_8 hF
        conv => whnf
        refine ⟨fun hb_9 => ?_, fun hb_9 => ?_⟩
        · replace hF := cond_t hb_9 hF
          conv => whnf
          refine ⟨fun hb_10 => ?_, fun hb_10 => ?_⟩
          · replace hF := cond_t hb_10 hF
            conv => whnf
            obtain rfl := Option.some.inj hF
            exact ret_gz [] [] [] rfl (argE (by (conv => lhs; whnf); all_goals rfl) rfl) trivial
          · replace hF := cond_f hb_10 hF
            conv => whnf
            obtain rfl := Option.some.inj hF
            exact ret_gz [] [] [] rfl (argFl (by (conv => lhs; whnf); all_goals rfl)) trivial
        · replace hF := cond_f hb_9 hF
          conv => whnf
          obtain rfl := Option.some.inj hF
          exact ret_gz [] [] [] rfl (argFl (by (conv => lhs; whnf); all_goals rfl)) trivial
      · replace hF := cond_f hb_8 hF
        conv => whnf
        obtain rfl := Option.some.inj hF
        exact ret_gz [] [] [] rfl (argFl (by (conv => lhs; whnf); all_goals rfl)) trivial
    · replace hF := cond_f hb_7 hF
      conv => whnf
      obtain rfl := Option.some.inj hF
      exact ret_gz [] [] [] rfl (argFl (by (conv => lhs; whnf); all_goals rfl)) trivial
  · replace hF := cond_f hb_6 hF
    conv => whnf
    obtain rfl := Option.some.inj hF
    exact ret_gz [] [] [] rfl (argFl (by (conv => lhs; whnf); all_goals rfl)) trivial

set_option maxRecDepth 100000 in
set_option maxHeartbeats 40000000 in
theorem message_ranged_f1_ac (x_0 : Int) (r : Bool) (hF : message_ranged_f1 x_0 = some r) : AC Try.prog 81 [.int .i64 x_0] [] (.bool r) [] := by
  refine ac_of tab_ok follows_ok Try.func81 rfl Try.ntmps81 rfl ?_
  unfold message_ranged_f1 at hF
  conv => whnf
  obtain ⟨r_1, h_r_1, hF⟩ := bind_some hF
  refine ⟨_, _, _, _, _, _, _, _, _, callX false [] [] 0 Try.func52 (by decide) rfl (message_in_ac x_0 (1 : Int) (999 : Int) r_1 h_r_1) rfl ⟨(argE (by (conv => lhs; whnf); all_goals rfl) rfl), (argE (by (conv => lhs; whnf); all_goals rfl) rfl), (argE (by (conv => lhs; whnf); all_goals rfl) rfl), trivial⟩ rfl trivial rfl rfl rfl lend0 trivial rfl, ?_⟩
  conv => whnf
  obtain rfl := Option.some.inj hF
  exact ret_gz [] [] [] rfl (argE (by (conv => lhs; whnf); all_goals rfl) rfl) trivial

set_option maxRecDepth 100000 in
set_option maxHeartbeats 40000000 in
theorem slices_IndexFunc_int_ac (x_0 : (List Int)) (r : Int) (hF : slices_IndexFunc_int x_0 = some r) : AC Try.prog 96 [.lst 1 (x_0.map iA), .fn 81 []] [] (.int .i64 r) [] := by
  refine ac_of tab_ok follows_ok Try.func96 rfl Try.ntmps96 rfl ?_
  unfold slices_IndexFunc_int at hF
  conv => whnf
  refine len_q (enc := iA) (l := x_0) rfl ?_
  conv => whnf
  obtain ⟨c_1, hc_1, hF⟩ := fin_some hF
  refine sw_bv 0 (v := .lst 1 (x_0.map iA)) (by (conv => lhs; whnf); all_goals rfl) (fun hb => ?_)
  have hbd_k_2 : x_0.length ≤ 9223372036854775807 := bnd_len (enc := iA) (hb)
  refine sw_loop tab_ok follows_ok (fun y : Nat => y ≤ x_0.length ∧ slices_IndexFunc_int_L1 (x_0.drop y) y = some c_1) (fun y => ⟨eL [(0, .lst 1 (x_0.map iA)), (1, .fn 81 []), (7, .int .i64 (x_0.length : Int)), (8, .int .i64 (y : Int))], hL [], 0⟩) (fun y => x_0.length - y) 0 ⟨Nat.zero_le _, hc_1⟩ (wk_mk [] [] [] rfl ⟨argE (by (conv => lhs; whnf); all_goals rfl) rfl, argE (by (conv => lhs; whnf); all_goals rfl) rfl, argE (by (conv => lhs; whnf); all_goals rfl) rfl, argE (by (conv => lhs; whnf); all_goals rfl) rfl, trivial⟩ trivial) ?_
  rintro k_2 ⟨hk_k_2, hL1⟩
  try dsimp only at hk_k_2 hL1
  show awp _ _ _ _ _ _ ⟨eL [(0, .lst 1 (x_0.map iA)), (1, .fn 81 []), (7, .int .i64 (x_0.length : Int)), (8, .int .i64 (k_2 : Int))], hL [], 0⟩
  conv => whnf
  refine ⟨fun h => ?_, fun h => ?_⟩
  · have hlt_k_2 : k_2 < x_0.length := by have h := of_decide_eq_true h; omega
    obtain ⟨e_3, h_e_3⟩ : ∃ y, x_0[k_2]? = some y := ⟨_, List.getElem?_eq_getElem hlt_k_2⟩
    rw [drop_cons h_e_3, slices_IndexFunc_int_L1.eq_2] at hL1
    conv => whnf
    refine ⟨k_2, _, rfl, ix_map h_e_3, ?_⟩
    conv => whnf
    obtain ⟨r_4, h_r_4, hL1⟩ := bind_some hL1
    refine ⟨_, _, _, _, _, _, _, _, _, callX false [] [] 0 Try.func81 (by decide) rfl (message_ranged_f1_ac e_3 r_4 h_r_4) rfl ⟨(argE (by (conv => lhs; whnf); all_goals rfl) rfl), trivial⟩ rfl trivial rfl rfl rfl lend0 trivial rfl, ?_⟩
    conv => whnf
    refine ⟨fun hb_7 => ?_, fun hb_7 => ?_⟩
    · replace hL1 := cond_t hb_7 hL1
      conv => whnf
      obtain rfl := Option.some.inj hL1
      replace hF := fin_ret hF
      obtain rfl := Option.some.inj hF
      exact ret_gz [] [] [] rfl (argE (by (conv => lhs; whnf); all_goals rfl) rfl) trivial
    · replace hL1 := cond_f hb_7 hL1
      conv => whnf
      refine ⟨((k_2 + 1 : Nat) : Int), wrapE (by omega) (by omega) (by omega), ?_⟩
      conv => whnf
      exact ⟨k_2 + 1, [], [], [], ⟨hlt_k_2, hL1⟩, by show x_0.length - (k_2 + 1) < x_0.length - k_2; omega, wk_mk [] [] [] rfl ⟨argE (by (conv => lhs; whnf); all_goals rfl) rfl, argE (by (conv => lhs; whnf); all_goals rfl) rfl, argE (by (conv => lhs; whnf); all_goals rfl) rfl, argE (by (conv => lhs; whnf); all_goals rfl) rfl, trivial⟩ trivial⟩
  · rw [drop_nil (show x_0.length ≤ k_2 by have h := of_decide_eq_false h; omega), slices_IndexFunc_int_L1.eq_1] at hL1
    conv => whnf
    obtain rfl := Option.some.inj hL1
    replace hF := fin_brk hF
    try dsimp only at hF
    obtain rfl := Option.some.inj hF
    exact ret_gz [] [] [] rfl (argE (by (conv => lhs; whnf); all_goals rfl) rfl) trivial

set_option maxRecDepth 100000 in
set_option maxHeartbeats 40000000 in
theorem slices_ContainsFunc_int_ac (x_0 : (List Int)) (r : Bool) (hF : slices_ContainsFunc_int x_0 = some r) : AC Try.prog 80 [.lst 1 (x_0.map iA), .fn 81 []] [] (.bool r) [] := by
  refine ac_of tab_ok follows_ok Try.func80 rfl Try.ntmps80 rfl ?_
  unfold slices_ContainsFunc_int at hF
  conv => whnf
  obtain ⟨r_1, h_r_1, hF⟩ := bind_some hF
  refine ⟨_, _, _, _, _, _, _, _, _, callX false [] [] 0 Try.func96 (by decide) rfl (slices_IndexFunc_int_ac x_0 r_1 h_r_1) rfl ⟨(argE (by (conv => lhs; whnf); all_goals rfl) rfl), (argE (by (conv => lhs; whnf); all_goals rfl) rfl), trivial⟩ rfl trivial rfl rfl rfl lend0 trivial rfl, ?_⟩
  conv => whnf
  obtain rfl := Option.some.inj hF
  exact ret_gz [] [] [] rfl (argE (by (conv => lhs; whnf); all_goals rfl) rfl) trivial

set_option maxRecDepth 100000 in
set_option maxHeartbeats 40000000 in
theorem message_ranged_ac (x_0 : Message) (r : Bool) (hF : message_ranged x_0 = some r) : AC Try.prog 55 [.agg (encMessage x_0)] [] (.bool r) [] := by
  refine ac_of tab_ok follows_ok Try.func55 rfl Try.ntmps55 rfl ?_
  unfold message_ranged at hF
  conv => whnf
  obtain ⟨r_1, h_r_1, hF⟩ := bind_some hF
  refine ⟨_, _, _, _, _, _, _, _, _, callX false [] [] 0 Try.func52 (by decide) rfl (message_in_ac x_0.Number (1 : Int) (9999 : Int) r_1 h_r_1) rfl ⟨(argE (by (conv => lhs; whnf); all_goals rfl) rfl), (argE (by (conv => lhs; whnf); all_goals rfl) rfl), (argE (by (conv => lhs; whnf); all_goals rfl) rfl), trivial⟩ rfl trivial rfl rfl rfl lend0 trivial rfl, ?_⟩
  conv => whnf
  refine ⟨fun hb_14 => ?_, fun hb_14 => ?_⟩
  · replace hF := cond_f hb_14 hF
    conv => whnf
    obtain ⟨r_2, h_r_2, hF⟩ := bind_some hF
    refine ⟨_, _, _, _, _, _, _, _, _, callX false [] [] 0 Try.func52 (by decide) rfl (message_in_ac x_0.Do (0 : Int) (2 : Int) r_2 h_r_2) rfl ⟨(argE (by (conv => lhs; whnf); all_goals rfl) rfl), (argE (by (conv => lhs; whnf); all_goals rfl) rfl), (argE (by (conv => lhs; whnf); all_goals rfl) rfl), trivial⟩ rfl trivial rfl rfl rfl lend0 trivial rfl, ?_⟩
    conv => whnf
    refine ⟨fun hb_15 => ?_, fun hb_15 => ?_⟩
    · replace hF := cond_f hb_15 hF
      conv => whnf
      obtain ⟨r_3, h_r_3, hF⟩ := bind_some hF
      refine ⟨_, _, _, _, _, _, _, _, _, callX false [] [] 0 Try.func52 (by decide) rfl (message_in_ac x_0.Weight (0 : Int) (999 : Int) r_3 h_r_3) rfl ⟨(argE (by (conv => lhs; whnf); all_goals rfl) rfl), (argE (by (conv => lhs; whnf); all_goals rfl) rfl), (argE (by (conv => lhs; whnf); all_goals rfl) rfl), trivial⟩ rfl trivial rfl rfl rfl lend0 trivial rfl, ?_⟩
      conv => whnf
      refine ⟨fun hb_16 => ?_, fun hb_16 => ?_⟩
      · replace hF := cond_f hb_16 hF
        conv => whnf
        obtain ⟨r_4, h_r_4, hF⟩ := bind_some hF
        refine ⟨_, _, _, _, _, _, _, _, _, callX false [] [] 0 Try.func52 (by decide) rfl (message_in_ac x_0.Exception (0 : Int) (3 : Int) r_4 h_r_4) rfl ⟨(argE (by (conv => lhs; whnf); all_goals rfl) rfl), (argE (by (conv => lhs; whnf); all_goals rfl) rfl), (argE (by (conv => lhs; whnf); all_goals rfl) rfl), trivial⟩ rfl trivial rfl rfl rfl lend0 trivial rfl, ?_⟩
        conv => whnf
        refine ⟨fun hb_17 => ?_, fun hb_17 => ?_⟩
        · replace hF := cond_t hb_17 hF
          conv => whnf
          obtain rfl := Option.some.inj hF
          exact ret_gz [] [] [] rfl (argFl (by (conv => lhs; whnf); all_goals rfl)) trivial
        · replace hF := cond_f hb_17 hF
          conv => whnf
          refine ⟨fun hb_18 => ?_, fun hb_18 => ?_⟩
          · replace hF := cond_t hb_18 hF
            conv => whnf
            obtain ⟨r_5, h_r_5, hF⟩ := bind_some hF
            refine ⟨_, _, _, _, _, _, _, _, _, callX false [] [] 0 Try.func79 (by decide) rfl (plate_Valid_ac x_0.First r_5 h_r_5) rfl ⟨(argE (by (conv => lhs; whnf); all_goals rfl) rfl), trivial⟩ rfl trivial rfl rfl rfl lend0 trivial rfl, ?_⟩
            conv => whnf
            refine ⟨fun hb_19 => ?_, fun hb_19 => ?_⟩
            · replace hF := cond_f hb_19 hF
              conv => whnf
              obtain ⟨r_6, h_r_6, hF⟩ := bind_some hF
              refine ⟨_, _, _, _, _, _, _, _, _, callX false [] [] 0 Try.func52 (by decide) rfl (message_in_ac x_0.Count (1 : Int) (99 : Int) r_6 h_r_6) rfl ⟨(argE (by (conv => lhs; whnf); all_goals rfl) rfl), (argE (by (conv => lhs; whnf); all_goals rfl) rfl), (argE (by (conv => lhs; whnf); all_goals rfl) rfl), trivial⟩ rfl trivial rfl rfl rfl lend0 trivial rfl, ?_⟩
              conv => whnf
              refine ⟨fun hb_20 => ?_, fun hb_20 => ?_⟩
              · replace hF := cond_t hb_20 hF
                conv => whnf
                obtain rfl := Option.some.inj hF
                exact ret_gz [] [] [] rfl (argFl (by (conv => lhs; whnf); all_goals rfl)) trivial
              · replace hF := cond_f hb_20 hF
                conv => whnf
                obtain ⟨r_7, h_r_7, hF⟩ := bind_some hF
                refine ⟨_, _, _, _, _, _, _, _, _, callX false [] [] 0 Try.func76 (by decide) rfl (message_describes_ac x_0.Kind r_7 h_r_7) rfl ⟨(argE (by (conv => lhs; whnf); all_goals rfl) rfl), trivial⟩ rfl trivial rfl rfl rfl lend0 trivial rfl, ?_⟩
                conv => whnf
                refine ⟨fun hb_21 => ?_, fun hb_21 => ?_⟩
                · replace hF := cond_t hb_21 hF
                  conv => whnf
                  obtain ⟨r_8, h_r_8, hF⟩ := bind_some hF
                  refine ⟨_, _, _, _, _, _, _, _, _, callX false [] [] 0 Try.func52 (by decide) rfl (message_in_ac x_0.Status (1 : Int) (4 : Int) r_8 h_r_8) rfl ⟨(argE (by (conv => lhs; whnf); all_goals rfl) rfl), (argE (by (conv => lhs; whnf); all_goals rfl) rfl), (argE (by (conv => lhs; whnf); all_goals rfl) rfl), trivial⟩ rfl trivial rfl rfl rfl lend0 trivial rfl, ?_⟩
                  conv => whnf
                  refine ⟨fun hb_22 => ?_, fun hb_22 => ?_⟩
                  · replace hF := cond_f hb_22 hF
                    conv => whnf
                    obtain ⟨r_9, h_r_9, hF⟩ := bind_some hF
                    refine ⟨_, _, _, _, _, _, _, _, _, callX false [] [] 0 Try.func52 (by decide) rfl (message_in_ac x_0.Sequence (1 : Int) (999 : Int) r_9 h_r_9) rfl ⟨(argE (by (conv => lhs; whnf); all_goals rfl) rfl), (argE (by (conv => lhs; whnf); all_goals rfl) rfl), (argE (by (conv => lhs; whnf); all_goals rfl) rfl), trivial⟩ rfl trivial rfl rfl rfl lend0 trivial rfl, ?_⟩
                    conv => whnf
                    refine ⟨fun hb_23 => ?_, fun hb_23 => ?_⟩
                    · replace hF := cond_t hb_23 hF
                      conv => whnf
                      obtain rfl := Option.some.inj hF
                      exact ret_gz [] [] [] rfl (argFl (by (conv => lhs; whnf); all_goals rfl)) trivial
                    · replace hF := cond_f hb_23 hF
                      conv => whnf
                      obtain ⟨r_10, h_r_10, hF⟩ := bind_some hF
                      refine ⟨_, _, _, _, _, _, _, _, _, callX false [] [] 0 Try.func80 (by decide) rfl (slices_ContainsFunc_int_ac x_0.List r_10 h_r_10) rfl ⟨(argE (by (conv => lhs; whnf); all_goals rfl) rfl), (argE (by (conv => lhs; whnf); all_goals rfl) rfl), trivial⟩ rfl trivial rfl rfl rfl lend0 trivial rfl, ?_⟩
                      conv => whnf
                      obtain rfl := Option.some.inj hF
                      exact ret_gz [] [] [] rfl (argE (by (conv => lhs; whnf); all_goals rfl) rfl) trivial
                  · replace hF := cond_t hb_22 hF
                    conv => whnf
                    obtain rfl := Option.some.inj hF
                    exact ret_gz [] [] [] rfl (argFl (by (conv => lhs; whnf); all_goals rfl)) trivial
                · replace hF := cond_f hb_21 hF
                  conv => whnf
                  obtain ⟨r_11, h_r_11, hF⟩ := bind_some hF
                  refine ⟨_, _, _, _, _, _, _, _, _, callX false [] [] 0 Try.func80 (by decide) rfl (slices_ContainsFunc_int_ac x_0.List r_11 h_r_11) rfl ⟨(argE (by (conv => lhs; whnf); all_goals rfl) rfl), (argE (by (conv => lhs; whnf); all_goals rfl) rfl), trivial⟩ rfl trivial rfl rfl rfl lend0 trivial rfl, ?_⟩
                  conv => whnf
                  obtain rfl := Option.some.inj hF
                  exact ret_gz [] [] [] rfl (argE (by (conv => lhs; whnf); all_goals rfl) rfl) trivial
            · replace hF := cond_t hb_19 hF
              conv => whnf
              obtain rfl := Option.some.inj hF
              exact ret_gz [] [] [] rfl (argFl (by (conv => lhs; whnf); all_goals rfl)) trivial
          · replace hF := cond_f hb_18 hF
            conv => whnf
            obtain ⟨r_12, h_r_12, hF⟩ := bind_some hF
            refine ⟨_, _, _, _, _, _, _, _, _, callX false [] [] 0 Try.func76 (by decide) rfl (message_describes_ac x_0.Kind r_12 h_r_12) rfl ⟨(argE (by (conv => lhs; whnf); all_goals rfl) rfl), trivial⟩ rfl trivial rfl rfl rfl lend0 trivial rfl, ?_⟩
            conv => whnf
            refine ⟨fun hb_24 => ?_, fun hb_24 => ?_⟩
            · replace hF := cond_t hb_24 hF
              conv => whnf
              obtain ⟨r_13, h_r_13, hF⟩ := bind_some hF
              refine ⟨_, _, _, _, _, _, _, _, _, callX false [] [] 0 Try.func52 (by decide) rfl (message_in_ac x_0.Status (1 : Int) (4 : Int) r_13 h_r_13) rfl ⟨(argE (by (conv => lhs; whnf); all_goals rfl) rfl), (argE (by (conv => lhs; whnf); all_goals rfl) rfl), (argE (by (conv => lhs; whnf); all_goals rfl) rfl), trivial⟩ rfl trivial rfl rfl rfl lend0 trivial rfl, ?_⟩
              conv => whnf
              refine ⟨fun hb_25 => ?_, fun hb_25 => ?_⟩
              · replace hF := cond_f hb_25 hF
                conv => whnf
                obtain ⟨r_14, h_r_14, hF⟩ := bind_some hF
                refine ⟨_, _, _, _, _, _, _, _, _, callX false [] [] 0 Try.func52 (by decide) rfl (message_in_ac x_0.Sequence (1 : Int) (999 : Int) r_14 h_r_14) rfl ⟨(argE (by (conv => lhs; whnf); all_goals rfl) rfl), (argE (by (conv => lhs; whnf); all_goals rfl) rfl), (argE (by (conv => lhs; whnf); all_goals rfl) rfl), trivial⟩ rfl trivial rfl rfl rfl lend0 trivial rfl, ?_⟩
                conv => whnf
                refine ⟨fun hb_26 => ?_, fun hb_26 => ?_⟩
                · replace hF := cond_t hb_26 hF
                  conv => whnf
                  obtain rfl := Option.some.inj hF
                  exact ret_gz [] [] [] rfl (argFl (by (conv => lhs; whnf); all_goals rfl)) trivial
                · replace hF := cond_f hb_26 hF
                  conv => whnf
                  obtain ⟨r_15, h_r_15, hF⟩ := bind_some hF
                  refine ⟨_, _, _, _, _, _, _, _, _, callX false [] [] 0 Try.func80 (by decide) rfl (slices_ContainsFunc_int_ac x_0.List r_15 h_r_15) rfl ⟨(argE (by (conv => lhs; whnf); all_goals rfl) rfl), (argE (by (conv => lhs; whnf); all_goals rfl) rfl), trivial⟩ rfl trivial rfl rfl rfl lend0 trivial rfl, ?_⟩
                  conv => whnf
                  obtain rfl := Option.some.inj hF
                  exact ret_gz [] [] [] rfl (argE (by (conv => lhs; whnf); all_goals rfl) rfl) trivial
              · replace hF := cond_t hb_25 hF
                conv => whnf
                obtain rfl := Option.some.inj hF
                exact ret_gz [] [] [] rfl (argFl (by (conv => lhs; whnf); all_goals rfl)) trivial
            · replace hF := cond_f hb_24 hF
              conv => whnf
              obtain ⟨r_16, h_r_16, hF⟩ := bind_some hF
              refine ⟨_, _, _, _, _, _, _, _, _, callX false [] [] 0 Try.func80 (by decide) rfl (slices_ContainsFunc_int_ac x_0.List r_16 h_r_16) rfl ⟨(argE (by (conv => lhs; whnf); all_goals rfl) rfl), (argE (by (conv => lhs; whnf); all_goals rfl) rfl), trivial⟩ rfl trivial rfl rfl rfl lend0 trivial rfl, ?_⟩
              conv => whnf
              obtain rfl := Option.some.inj hF
              exact ret_gz [] [] [] rfl (argE (by (conv => lhs; whnf); all_goals rfl) rfl) trivial
      · replace hF := cond_t hb_16 hF
        conv => whnf
        obtain rfl := Option.some.inj hF
        exact ret_gz [] [] [] rfl (argFl (by (conv => lhs; whnf); all_goals rfl)) trivial
    · replace hF := cond_t hb_15 hF
      conv => whnf
      obtain rfl := Option.some.inj hF
      exact ret_gz [] [] [] rfl (argFl (by (conv => lhs; whnf); all_goals rfl)) trivial
  · replace hF := cond_t hb_14 hF
    conv => whnf
    obtain rfl := Option.some.inj hF
    exact ret_gz [] [] [] rfl (argFl (by (conv => lhs; whnf); all_goals rfl)) trivial

set_option maxRecDepth 100000 in
set_option maxHeartbeats 40000000 in
theorem message_Validate_ac (x_0 : Message) (r : Int) (hF : message_Validate x_0 = some r) : AC Try.prog 29 [.agg (encMessage x_0)] [] (.int .i64 r) [] := by
  refine ac_of tab_ok follows_ok Try.func29 rfl Try.ntmps29 rfl ?_
  unfold message_Validate at hF
  conv => whnf
  obtain ⟨r_1, h_r_1, hF⟩ := bind_some hF
  refine ⟨_, _, _, _, _, _, _, _, _, callX false [] [] 0 Try.func52 (by decide) rfl (message_in_ac x_0.Kind (1 : Int) (5 : Int) r_1 h_r_1) rfl ⟨(argE (by (conv => lhs; whnf); all_goals rfl) rfl), (argE (by (conv => lhs; whnf); all_goals rfl) rfl), (argE (by (conv => lhs; whnf); all_goals rfl) rfl), trivial⟩ rfl trivial rfl rfl rfl lend0 trivial rfl, ?_⟩
  conv => whnf
  refine ⟨fun hb_15 => ?_, fun hb_15 => ?_⟩
  · replace hF := cond_t hb_15 hF
    conv => whnf
    obtain rfl := Option.some.inj hF
    exact ret_gz [] [] [] rfl (argE (by (conv => lhs; whnf); all_goals rfl) rfl) trivial
  · replace hF := cond_f hb_15 hF
    conv => whnf
    obtain ⟨r_2, h_r_2, hF⟩ := bind_some hF
    refine ⟨_, _, _, _, _, _, _, _, _, callX false [] [] 0 Try.func53 (by decide) rfl (message_own_ac x_0 r_2 h_r_2) rfl ⟨(argE (by (conv => lhs; whnf); all_goals rfl) rfl), trivial⟩ rfl trivial rfl rfl rfl lend0 trivial rfl, ?_⟩
    conv => whnf
    obtain ⟨r_3, h_r_3, hF⟩ := bind_some hF
    refine ⟨_, _, _, _, _, _, _, _, _, callX false [] [] 0 Try.func35 (by decide) rfl (message_Same_ac x_0 r_2 r_3 h_r_3) rfl ⟨(argE (by (conv => lhs; whnf); all_goals rfl) rfl), (argE (by (conv => lhs; whnf); all_goals rfl) rfl), trivial⟩ rfl trivial rfl rfl rfl lend0 trivial rfl, ?_⟩
    conv => whnf
    refine ⟨by kernel_rfl, ?_⟩
    conv => whnf
    refine ⟨fun hb_16 => ?_, fun hb_16 => ?_⟩
    · replace hF := cond_t hb_16 hF
      conv => whnf
      obtain rfl := Option.some.inj hF
      exact ret_gz [] [] [] rfl (argE (by (conv => lhs; whnf); all_goals rfl) rfl) trivial
    · replace hF := cond_f hb_16 hF
      conv => whnf
      refine len_q (enc := encLeg) (l := x_0.Onward) rfl ?_
      conv => whnf
      refine ⟨fun hb_17 => ?_, fun hb_17 => ?_⟩
      · replace hF := cond_f hb_17 hF
        conv => whnf
        refine len_q (enc := iA) (l := x_0.List) rfl ?_
        conv => whnf
        refine ⟨fun hb_18 => ?_, fun hb_18 => ?_⟩
        · replace hF := cond_t hb_18 hF
          conv => whnf
          obtain rfl := Option.some.inj hF
          exact ret_gz [] [] [] rfl (argE (by (conv => lhs; whnf); all_goals rfl) rfl) trivial
        · replace hF := cond_f hb_18 hF
          conv => whnf
          obtain ⟨r_4, h_r_4, hF⟩ := bind_some hF
          refine ⟨_, _, _, _, _, _, _, _, _, callX false [] [] 0 Try.func54 (by decide) rfl (message_shaped_ac x_0 r_4 h_r_4) rfl ⟨(argE (by (conv => lhs; whnf); all_goals rfl) rfl), trivial⟩ rfl trivial rfl rfl rfl lend0 trivial rfl, ?_⟩
          conv => whnf
          refine ⟨fun hb_19 => ?_, fun hb_19 => ?_⟩
          · replace hF := cond_t hb_19 hF
            conv => whnf
            obtain rfl := Option.some.inj hF
            exact ret_gz [] [] [] rfl (argE (by (conv => lhs; whnf); all_goals rfl) rfl) trivial
          · replace hF := cond_f hb_19 hF
            conv => whnf
            obtain ⟨r_5, h_r_5, hF⟩ := bind_some hF
            refine ⟨_, _, _, _, _, _, _, _, _, callX false [] [] 0 Try.func55 (by decide) rfl (message_ranged_ac x_0 r_5 h_r_5) rfl ⟨(argE (by (conv => lhs; whnf); all_goals rfl) rfl), trivial⟩ rfl trivial rfl rfl rfl lend0 trivial rfl, ?_⟩
            conv => whnf
            refine ⟨fun hb_20 => ?_, fun hb_20 => ?_⟩
            · replace hF := cond_t hb_20 hF
              conv => whnf
              obtain rfl := Option.some.inj hF
              exact ret_gz [] [] [] rfl (argE (by (conv => lhs; whnf); all_goals rfl) rfl) trivial
            · replace hF := cond_f hb_20 hF
              conv => whnf
              obtain ⟨c_1, hc_1, hF⟩ := fin_some hF
              refine sw_loop tab_ok follows_ok (fun y : Nat × Int => message_Validate_L1 x_0 y.1 y.2 = some c_1) (fun y => ⟨eL [(1, .ptr 0 0), (3, .int .i64 y.2)], hL [(0, .box [.int .i64 x_0.Kind, .int .i64 x_0.Do, .str x_0.Port, .int .i64 x_0.Number, .str x_0.In.Flight.Carrier, .int .i64 x_0.In.Flight.Number, .str x_0.In.Flight.Suffix, .int .i64 x_0.In.Flight.Day, .str x_0.In.Port, .str x_0.In.Class, .str x_0.Out.Flight.Carrier, .int .i64 x_0.Out.Flight.Number, .str x_0.Out.Flight.Suffix, .int .i64 x_0.Out.Flight.Day, .str x_0.Out.Port, .str x_0.Out.Class, .lst 6 (x_0.Onward.map encLeg), .int .i64 x_0.First.Lead, .int .i64 x_0.First.Airline, .int .i64 x_0.First.Serial, .int .i64 x_0.Count, .bool x_0.Load, .int .i64 x_0.Status, .int .i64 x_0.Sequence, .int .i64 x_0.Weight, .str x_0.Surname, .str x_0.Given, .int .i64 x_0.Exception, .str x_0.Node, .lst 1 (x_0.List.map iA)])], 1⟩) (fun y => y.1) (9223372036854775807, (1 : Int)) hc_1 (wk_mk [0] [] [] rfl ⟨argP (id := 0) (by (conv => lhs; whnf); all_goals rfl) rfl, argE (by (conv => lhs; whnf); all_goals rfl) rfl, trivial⟩ ⟨boxL rfl rfl rfl ⟨(.ni _ rfl), (.ni _ rfl), (.ni _ rfl), (.ni _ rfl), (.ni _ rfl), (.ni _ rfl), (.ni _ rfl), (.ni _ rfl), (.ni _ rfl), (.ni _ rfl), (.ni _ rfl), (.ni _ rfl), (.ni _ rfl), (.ni _ rfl), (.ni _ rfl), (.ni _ rfl), (.ni _ rfl), (.ni _ rfl), (.ni _ rfl), (.ni _ rfl), (.ni _ rfl), (.ni _ rfl), (.ni _ rfl), (.ni _ rfl), (.ni _ rfl), (.ni _ rfl), (.ni _ rfl), (.ni _ rfl), (.ni _ rfl), (.ni _ rfl), trivial⟩, trivial⟩) ?_
              rintro ⟨q_9, i_6⟩ hL1
              try dsimp only at hL1
              rcases q_9 with _ | q_9
              · rw [message_Validate_L1.eq_1] at hL1
                cases hL1
              rw [message_Validate_L1.eq_2] at hL1
              show awp _ _ _ _ _ _ ⟨eL [(1, .ptr 0 0), (3, .int .i64 i_6)], hL [(0, .box [.int .i64 x_0.Kind, .int .i64 x_0.Do, .str x_0.Port, .int .i64 x_0.Number, .str x_0.In.Flight.Carrier, .int .i64 x_0.In.Flight.Number, .str x_0.In.Flight.Suffix, .int .i64 x_0.In.Flight.Day, .str x_0.In.Port, .str x_0.In.Class, .str x_0.Out.Flight.Carrier, .int .i64 x_0.Out.Flight.Number, .str x_0.Out.Flight.Suffix, .int .i64 x_0.Out.Flight.Day, .str x_0.Out.Port, .str x_0.Out.Class, .lst 6 (x_0.Onward.map encLeg), .int .i64 x_0.First.Lead, .int .i64 x_0.First.Airline, .int .i64 x_0.First.Serial, .int .i64 x_0.Count, .bool x_0.Load, .int .i64 x_0.Status, .int .i64 x_0.Sequence, .int .i64 x_0.Weight, .str x_0.Surname, .str x_0.Given, .int .i64 x_0.Exception, .str x_0.Node, .lst 1 (x_0.List.map iA)])], 1⟩
              conv => whnf
              refine len_q (enc := iA) (l := x_0.List) rfl ?_
              conv => whnf
              refine ⟨fun hb_21 => ?_, fun hb_21 => ?_⟩
              · replace hL1 := cond_t hb_21 hL1
                conv => whnf
                refine ⟨_, rfl, ?_⟩
                conv => whnf
                obtain ⟨e_7, h_e_7, hL1⟩ := bind_some hL1
                refine ix_q (enc := iA) (l := x_0.List) h_e_7 rfl (fun m_e_7 hm_e_7 hx_e_7 => ?_)
                conv => whnf
                obtain ⟨e_8, h_e_8, hL1⟩ := bind_some hL1
                refine ix_q (enc := iA) (l := x_0.List) h_e_8 rfl (fun m_e_8 hm_e_8 hx_e_8 => ?_)
                conv => whnf
                refine ⟨by kernel_rfl, ?_⟩
                conv => whnf
                refine ⟨fun hb_22 => ?_, fun hb_22 => ?_⟩
                · replace hL1 := cond_t hb_22 hL1
                  conv => whnf
                  obtain rfl := Option.some.inj hL1
                  replace hF := fin_ret hF
                  obtain rfl := Option.some.inj hF
                  exact ret_gz [] [] [] rfl (argE (by (conv => lhs; whnf); all_goals rfl) rfl) trivial
                · replace hL1 := cond_f hb_22 hL1
                  conv => whnf
                  refine ⟨_, rfl, ?_⟩
                  conv => whnf
                  exact ⟨(q_9, (w64 (i_6 + (1 : Int)))), [0], [], [], hL1, Nat.lt_succ_self _, wk_mk [0] [] [] rfl ⟨argP (id := 0) (by (conv => lhs; whnf); all_goals rfl) rfl, argE (by (conv => lhs; whnf); all_goals rfl) rfl, trivial⟩ ⟨boxL rfl rfl rfl ⟨(.ni _ rfl), (.ni _ rfl), (.ni _ rfl), (.ni _ rfl), (.ni _ rfl), (.ni _ rfl), (.ni _ rfl), (.ni _ rfl), (.ni _ rfl), (.ni _ rfl), (.ni _ rfl), (.ni _ rfl), (.ni _ rfl), (.ni _ rfl), (.ni _ rfl), (.ni _ rfl), (.ni _ rfl), (.ni _ rfl), (.ni _ rfl), (.ni _ rfl), (.ni _ rfl), (.ni _ rfl), (.ni _ rfl), (.ni _ rfl), (.ni _ rfl), (.ni _ rfl), (.ni _ rfl), (.ni _ rfl), (.ni _ rfl), (.ni _ rfl), trivial⟩, trivial⟩⟩
              · replace hL1 := cond_f hb_21 hL1
                conv => whnf
                obtain rfl := Option.some.inj hL1
                replace hF := fin_brk hF
                try dsimp only at hF
                obtain rfl := Option.some.inj hF
                exact ret_gz [] [] [] rfl (argE (by (conv => lhs; whnf); all_goals rfl) rfl) trivial
      · replace hF := cond_t hb_17 hF
        conv => whnf
        obtain rfl := Option.some.inj hF
        exact ret_gz [] [] [] rfl (argE (by (conv => lhs; whnf); all_goals rfl) rfl) trivial

set_option maxRecDepth 100000 in
set_option maxHeartbeats 40000000 in
theorem strings_Compare_ac (x_0 : ByteArray) (x_1 : ByteArray) (r : Int) (hF : strings_Compare x_0 x_1 = some r) : AC Try.prog 58 [.str x_0, .str x_1] [] (.int .i64 r) [] := by
  obtain rfl := Option.some.inj hF
  exact strings_Compare_ac0 x_0 x_1

set_option maxRecDepth 100000 in
set_option maxHeartbeats 40000000 in
theorem inbox_find_f1_ac (x_0 : Sender) (x_1 : ByteArray) (r : Int) (hF : inbox_find_f1 x_0 x_1 = some r) : AC Try.prog 57 [.agg (encSender x_0), .str x_1] [] (.int .i64 r) [] := by
  refine ac_of tab_ok follows_ok Try.func57 rfl Try.ntmps57 rfl ?_
  unfold inbox_find_f1 at hF
  conv => whnf
  obtain ⟨r_1, h_r_1, hF⟩ := bind_some hF
  refine ⟨_, _, _, _, _, _, _, _, _, callX false [] [] 0 Try.func58 (by decide) rfl (strings_Compare_ac x_0.Port x_1 r_1 h_r_1) rfl ⟨(argE (by (conv => lhs; whnf); all_goals rfl) rfl), (argE (by (conv => lhs; whnf); all_goals rfl) rfl), trivial⟩ rfl trivial rfl rfl rfl lend0 trivial rfl, ?_⟩
  conv => whnf
  obtain rfl := Option.some.inj hF
  exact ret_gz [] [] [] rfl (argE (by (conv => lhs; whnf); all_goals rfl) rfl) trivial

set_option maxRecDepth 100000 in
set_option maxHeartbeats 40000000 in
theorem slices_BinarySearchFunc_string_ac (x_0 : (List Sender)) (x_1 : ByteArray) (r : Int × Bool) (hF : slices_BinarySearchFunc_string x_0 x_1 = some r) : AC Try.prog 56 [.lst 3 (x_0.map encSender), .str x_1, .fn 57 []] [] (.tup [.int .i64 r.1, .bool r.2]) [] := by
  refine ac_of tab_ok follows_ok Try.func56 rfl Try.ntmps56 rfl ?_
  unfold slices_BinarySearchFunc_string at hF
  conv => whnf
  refine len_q (enc := encSender) (l := x_0) rfl ?_
  conv => whnf
  obtain ⟨c_1, hc_1, hF⟩ := fin_some hF
  refine sw_loop tab_ok follows_ok (fun y : Nat × Int × Int => slices_BinarySearchFunc_string_L1 x_0 x_1 y.1 y.2.1 y.2.2 = some c_1) (fun y => ⟨eL [(0, .lst 3 (x_0.map encSender)), (1, .str x_1), (2, .fn 57 []), (8, .int .i64 (x_0.length : Int)), (9, .int .i64 y.2.1), (10, .int .i64 y.2.2)], hL [], 0⟩) (fun y => y.1) (9223372036854775807, (0 : Int), (x_0.length : Int)) hc_1 (wk_mk [] [] [] rfl ⟨argE (by (conv => lhs; whnf); all_goals rfl) rfl, argE (by (conv => lhs; whnf); all_goals rfl) rfl, argE (by (conv => lhs; whnf); all_goals rfl) rfl, argE (by (conv => lhs; whnf); all_goals rfl) rfl, argE (by (conv => lhs; whnf); all_goals rfl) rfl, argE (by (conv => lhs; whnf); all_goals rfl) rfl, trivial⟩ trivial) ?_
  rintro ⟨q_5, i_1, i_2⟩ hL1
  try dsimp only at hL1
  rcases q_5 with _ | q_5
  · rw [slices_BinarySearchFunc_string_L1.eq_1] at hL1
    cases hL1
  rw [slices_BinarySearchFunc_string_L1.eq_2] at hL1
  show awp _ _ _ _ _ _ ⟨eL [(0, .lst 3 (x_0.map encSender)), (1, .str x_1), (2, .fn 57 []), (8, .int .i64 (x_0.length : Int)), (9, .int .i64 i_1), (10, .int .i64 i_2)], hL [], 0⟩
  conv => whnf
  refine ⟨fun hb_10 => ?_, fun hb_10 => ?_⟩
  · replace hL1 := cond_t hb_10 hL1
    conv => whnf
    refine ⟨_, rfl, ?_⟩
    conv => whnf
    refine ⟨_, rfl, ?_⟩
    conv => whnf
    refine ⟨_, shr_q (by decide), ?_⟩
    conv => whnf
    refine ⟨_, rfl, ?_⟩
    conv => whnf
    obtain ⟨e_3, h_e_3, hL1⟩ := bind_some hL1
    refine ix_q (enc := encSender) (l := x_0) h_e_3 rfl (fun m_e_3 hm_e_3 hx_e_3 => ?_)
    conv => whnf
    obtain ⟨r_4, h_r_4, hL1⟩ := bind_some hL1
    refine ⟨_, _, _, _, _, _, _, _, _, callX false [] [] 0 Try.func57 (by decide) rfl (inbox_find_f1_ac e_3 x_1 r_4 h_r_4) rfl ⟨(argE (by (conv => lhs; whnf); all_goals rfl) rfl), (argE (by (conv => lhs; whnf); all_goals rfl) rfl), trivial⟩ rfl trivial rfl rfl rfl lend0 trivial rfl, ?_⟩
    conv => whnf
    refine ⟨fun hb_11 => ?_, fun hb_11 => ?_⟩
    · replace hL1 := cond_t hb_11 hL1
      conv => whnf
      refine ⟨_, rfl, ?_⟩
      conv => whnf
      exact ⟨(q_5, (w64 ((IntKind.i64.wrap (shrF .u64 (IntKind.u64.wrap (w64 (i_1 + i_2))) (1 : Int))) + (1 : Int))), i_2), [], [], [], hL1, Nat.lt_succ_self _, wk_mk [] [] [] rfl ⟨argE (by (conv => lhs; whnf); all_goals rfl) rfl, argE (by (conv => lhs; whnf); all_goals rfl) rfl, argE (by (conv => lhs; whnf); all_goals rfl) rfl, argE (by (conv => lhs; whnf); all_goals rfl) rfl, argE (by (conv => lhs; whnf); all_goals rfl) rfl, argE (by (conv => lhs; whnf); all_goals rfl) rfl, trivial⟩ trivial⟩
    · replace hL1 := cond_f hb_11 hL1
      conv => whnf
      exact ⟨(q_5, i_1, (IntKind.i64.wrap (shrF .u64 (IntKind.u64.wrap (w64 (i_1 + i_2))) (1 : Int)))), [], [], [], hL1, Nat.lt_succ_self _, wk_mk [] [] [] rfl ⟨argE (by (conv => lhs; whnf); all_goals rfl) rfl, argE (by (conv => lhs; whnf); all_goals rfl) rfl, argE (by (conv => lhs; whnf); all_goals rfl) rfl, argE (by (conv => lhs; whnf); all_goals rfl) rfl, argE (by (conv => lhs; whnf); all_goals rfl) rfl, argE (by (conv => lhs; whnf); all_goals rfl) rfl, trivial⟩ trivial⟩
  · replace hL1 := cond_f hb_10 hL1
    conv => whnf
    obtain rfl := Option.some.inj hL1
    replace hF := fin_brk hF
    try dsimp only at hF
    refine ⟨fun hb_12 => ?_, fun hb_12 => ?_⟩
    · replace hF := cond_t hb_12 hF
      conv => whnf
      obtain ⟨e_7, h_e_7, hF⟩ := bind_some hF
      refine ix_q (enc := encSender) (l := x_0) h_e_7 rfl (fun m_e_7 hm_e_7 hx_e_7 => ?_)
      conv => whnf
      obtain ⟨r_8, h_r_8, hF⟩ := bind_some hF
      refine ⟨_, _, _, _, _, _, _, _, _, callX false [] [] 0 Try.func57 (by decide) rfl (inbox_find_f1_ac e_7 x_1 r_8 h_r_8) rfl ⟨(argE (by (conv => lhs; whnf); all_goals rfl) rfl), (argE (by (conv => lhs; whnf); all_goals rfl) rfl), trivial⟩ rfl trivial rfl rfl rfl lend0 trivial rfl, ?_⟩
      conv => whnf
      obtain rfl := Option.some.inj hF
      exact ret_gz [] [] [] rfl (tupL rfl ⟨(argE (by (conv => lhs; whnf); all_goals rfl) rfl), (argE (by (conv => lhs; whnf); all_goals rfl) rfl), trivial⟩) trivial
    · replace hF := cond_f hb_12 hF
      conv => whnf
      obtain rfl := Option.some.inj hF
      exact ret_gz [] [] [] rfl (tupL rfl ⟨(argE (by (conv => lhs; whnf); all_goals rfl) rfl), (argFl (by (conv => lhs; whnf); all_goals rfl)), trivial⟩) trivial

set_option maxRecDepth 100000 in
set_option maxHeartbeats 40000000 in
theorem inbox_find_ac (x_0 : Inbox) (x_1 : ByteArray) (r : Int × Bool) (hF : inbox_find x_0 x_1 = some r) : AC Try.prog 30 [.agg (encInbox x_0), .str x_1] [] (.tup [.int .i64 r.1, .bool r.2]) [] := by
  refine ac_of tab_ok follows_ok Try.func30 rfl Try.ntmps30 rfl ?_
  unfold inbox_find at hF
  conv => whnf
  obtain ⟨r_1, h_r_1, hF⟩ := bind_some hF
  refine ⟨_, _, _, _, _, _, _, _, _, callX false [] [] 0 Try.func56 (by decide) rfl (slices_BinarySearchFunc_string_ac x_0.L x_1 r_1 h_r_1) rfl ⟨(argE (by (conv => lhs; whnf); all_goals rfl) rfl), (argE (by (conv => lhs; whnf); all_goals rfl) rfl), (argE (by (conv => lhs; whnf); all_goals rfl) rfl), trivial⟩ rfl trivial rfl rfl rfl lend0 trivial rfl, ?_⟩
  conv => whnf
  obtain rfl := Option.some.inj hF
  exact ret_gz [] [] [] rfl (tupL rfl ⟨(argE (by (conv => lhs; whnf); all_goals rfl) rfl), (argE (by (conv => lhs; whnf); all_goals rfl) rfl), trivial⟩) trivial

set_option maxRecDepth 100000 in
set_option maxHeartbeats 40000000 in
theorem cmp_isNaN_int_ac (x_0 : Int) (r : Bool) (hF : cmp_isNaN_int x_0 = some r) : AC Try.prog 59 [.int .i64 x_0] [] (.bool r) [] := by
  refine ac_of tab_ok follows_ok Try.func59 rfl Try.ntmps59 rfl ?_
  unfold cmp_isNaN_int at hF
  conv => whnf
  obtain rfl := Option.some.inj hF
  exact ret_gz [] [] [] rfl (argE (by (conv => lhs; whnf); all_goals rfl) rfl) trivial

set_option maxRecDepth 100000 in
set_option maxHeartbeats 40000000 in
theorem cmp_Compare_int_ac (x_0 : Int) (x_1 : Int) (r : Int) (hF : cmp_Compare_int x_0 x_1 = some r) : AC Try.prog 33 [.int .i64 x_0, .int .i64 x_1] [] (.int .i64 r) [] := by
  refine ac_of tab_ok follows_ok Try.func33 rfl Try.ntmps33 rfl ?_
  unfold cmp_Compare_int at hF
  conv => whnf
  obtain ⟨r_1, h_r_1, hF⟩ := bind_some hF
  refine ⟨_, _, _, _, _, _, _, _, _, callX false [] [] 0 Try.func59 (by decide) rfl (cmp_isNaN_int_ac x_0 r_1 h_r_1) rfl ⟨(argE (by (conv => lhs; whnf); all_goals rfl) rfl), trivial⟩ rfl trivial rfl rfl rfl lend0 trivial rfl, ?_⟩
  conv => whnf
  obtain ⟨r_2, h_r_2, hF⟩ := bind_some hF
  refine ⟨_, _, _, _, _, _, _, _, _, callX false [] [] 0 Try.func59 (by decide) rfl (cmp_isNaN_int_ac x_1 r_2 h_r_2) rfl ⟨(argE (by (conv => lhs; whnf); all_goals rfl) rfl), trivial⟩ rfl trivial rfl rfl rfl lend0 trivial rfl, ?_⟩
  conv => whnf
  refine ⟨fun hb_6 => ?_, fun hb_6 => ?_⟩
  · replace hF := cond_t hb_6 hF
    conv => whnf
    refine ⟨fun hb_7 => ?_, fun hb_7 => ?_⟩
    · replace hF := cond_t hb_7 hF
      conv => whnf
      obtain rfl := Option.some.inj hF
      exact ret_gz [] [] [] rfl (argE (by (conv => lhs; whnf); all_goals rfl) rfl) trivial
    · replace hF := cond_f hb_7 hF
      conv => whnf
      obtain rfl := Option.some.inj hF
      exact ret_gz [] [] [] rfl (argE (by (conv => lhs; whnf); all_goals rfl) rfl) trivial
  · replace hF := cond_f hb_6 hF
    conv => whnf
    refine ⟨fun hb_8 => ?_, fun hb_8 => ?_⟩
    · replace hF := cond_t hb_8 hF
      conv => whnf
      obtain rfl := Option.some.inj hF
      exact ret_gz [] [] [] rfl (argE (by (conv => lhs; whnf); all_goals rfl) rfl) trivial
    · replace hF := cond_f hb_8 hF
      conv => whnf
      refine ⟨fun hb_9 => ?_, fun hb_9 => ?_⟩
      · replace hF := cond_t hb_9 hF
        conv => whnf
        obtain rfl := Option.some.inj hF
        exact ret_gz [] [] [] rfl (argE (by (conv => lhs; whnf); all_goals rfl) rfl) trivial
      · replace hF := cond_f hb_9 hF
        conv => whnf
        refine ⟨fun hb_10 => ?_, fun hb_10 => ?_⟩
        · replace hF := cond_t hb_10 hF
          conv => whnf
          obtain rfl := Option.some.inj hF
          exact ret_gz [] [] [] rfl (argE (by (conv => lhs; whnf); all_goals rfl) rfl) trivial
        · replace hF := cond_f hb_10 hF
          conv => whnf
          obtain rfl := Option.some.inj hF
          exact ret_gz [] [] [] rfl (argE (by (conv => lhs; whnf); all_goals rfl) rfl) trivial

set_option maxRecDepth 100000 in
set_option maxHeartbeats 40000000 in
theorem inbox_Receive_f1_ac (x_0 : Message) (x_1 : Int) (r : Int) (hF : inbox_Receive_f1 x_0 x_1 = some r) : AC Try.prog 32 [.agg (encMessage x_0), .int .i64 x_1] [] (.int .i64 r) [] := by
  refine ac_of tab_ok follows_ok Try.func32 rfl Try.ntmps32 rfl ?_
  unfold inbox_Receive_f1 at hF
  conv => whnf
  obtain ⟨r_1, h_r_1, hF⟩ := bind_some hF
  refine ⟨_, _, _, _, _, _, _, _, _, callX false [] [] 0 Try.func33 (by decide) rfl (cmp_Compare_int_ac x_0.Number x_1 r_1 h_r_1) rfl ⟨(argE (by (conv => lhs; whnf); all_goals rfl) rfl), (argE (by (conv => lhs; whnf); all_goals rfl) rfl), trivial⟩ rfl trivial rfl rfl rfl lend0 trivial rfl, ?_⟩
  conv => whnf
  obtain rfl := Option.some.inj hF
  exact ret_gz [] [] [] rfl (argE (by (conv => lhs; whnf); all_goals rfl) rfl) trivial

set_option maxRecDepth 100000 in
set_option maxHeartbeats 40000000 in
theorem slices_BinarySearchFunc_int_ac (x_0 : (List Message)) (x_1 : Int) (r : Int × Bool) (hF : slices_BinarySearchFunc_int x_0 x_1 = some r) : AC Try.prog 31 [.lst 30 (x_0.map encMessage), .int .i64 x_1, .fn 32 []] [] (.tup [.int .i64 r.1, .bool r.2]) [] := by
  refine ac_of tab_ok follows_ok Try.func31 rfl Try.ntmps31 rfl ?_
  unfold slices_BinarySearchFunc_int at hF
  conv => whnf
  refine len_q (enc := encMessage) (l := x_0) rfl ?_
  conv => whnf
  obtain ⟨c_1, hc_1, hF⟩ := fin_some hF
  refine sw_loop tab_ok follows_ok (fun y : Nat × Int × Int => slices_BinarySearchFunc_int_L1 x_0 x_1 y.1 y.2.1 y.2.2 = some c_1) (fun y => ⟨eL [(0, .lst 30 (x_0.map encMessage)), (1, .int .i64 x_1), (2, .fn 32 []), (8, .int .i64 (x_0.length : Int)), (9, .int .i64 y.2.1), (10, .int .i64 y.2.2)], hL [], 0⟩) (fun y => y.1) (9223372036854775807, (0 : Int), (x_0.length : Int)) hc_1 (wk_mk [] [] [] rfl ⟨argE (by (conv => lhs; whnf); all_goals rfl) rfl, argE (by (conv => lhs; whnf); all_goals rfl) rfl, argE (by (conv => lhs; whnf); all_goals rfl) rfl, argE (by (conv => lhs; whnf); all_goals rfl) rfl, argE (by (conv => lhs; whnf); all_goals rfl) rfl, argE (by (conv => lhs; whnf); all_goals rfl) rfl, trivial⟩ trivial) ?_
  rintro ⟨q_5, i_1, i_2⟩ hL1
  try dsimp only at hL1
  rcases q_5 with _ | q_5
  · rw [slices_BinarySearchFunc_int_L1.eq_1] at hL1
    cases hL1
  rw [slices_BinarySearchFunc_int_L1.eq_2] at hL1
  show awp _ _ _ _ _ _ ⟨eL [(0, .lst 30 (x_0.map encMessage)), (1, .int .i64 x_1), (2, .fn 32 []), (8, .int .i64 (x_0.length : Int)), (9, .int .i64 i_1), (10, .int .i64 i_2)], hL [], 0⟩
  conv => whnf
  refine ⟨fun hb_10 => ?_, fun hb_10 => ?_⟩
  · replace hL1 := cond_t hb_10 hL1
    conv => whnf
    refine ⟨_, rfl, ?_⟩
    conv => whnf
    refine ⟨_, rfl, ?_⟩
    conv => whnf
    refine ⟨_, shr_q (by decide), ?_⟩
    conv => whnf
    refine ⟨_, rfl, ?_⟩
    conv => whnf
    obtain ⟨e_3, h_e_3, hL1⟩ := bind_some hL1
    refine ix_q (enc := encMessage) (l := x_0) h_e_3 rfl (fun m_e_3 hm_e_3 hx_e_3 => ?_)
    conv => whnf
    obtain ⟨r_4, h_r_4, hL1⟩ := bind_some hL1
    refine ⟨_, _, _, _, _, _, _, _, _, callX false [] [] 0 Try.func32 (by decide) rfl (inbox_Receive_f1_ac e_3 x_1 r_4 h_r_4) rfl ⟨(argE (by (conv => lhs; whnf); all_goals rfl) rfl), (argE (by (conv => lhs; whnf); all_goals rfl) rfl), trivial⟩ rfl trivial rfl rfl rfl lend0 trivial rfl, ?_⟩
    conv => whnf
    refine ⟨fun hb_11 => ?_, fun hb_11 => ?_⟩
    · replace hL1 := cond_t hb_11 hL1
      conv => whnf
      refine ⟨_, rfl, ?_⟩
      conv => whnf
      exact ⟨(q_5, (w64 ((IntKind.i64.wrap (shrF .u64 (IntKind.u64.wrap (w64 (i_1 + i_2))) (1 : Int))) + (1 : Int))), i_2), [], [], [], hL1, Nat.lt_succ_self _, wk_mk [] [] [] rfl ⟨argE (by (conv => lhs; whnf); all_goals rfl) rfl, argE (by (conv => lhs; whnf); all_goals rfl) rfl, argE (by (conv => lhs; whnf); all_goals rfl) rfl, argE (by (conv => lhs; whnf); all_goals rfl) rfl, argE (by (conv => lhs; whnf); all_goals rfl) rfl, argE (by (conv => lhs; whnf); all_goals rfl) rfl, trivial⟩ trivial⟩
    · replace hL1 := cond_f hb_11 hL1
      conv => whnf
      exact ⟨(q_5, i_1, (IntKind.i64.wrap (shrF .u64 (IntKind.u64.wrap (w64 (i_1 + i_2))) (1 : Int)))), [], [], [], hL1, Nat.lt_succ_self _, wk_mk [] [] [] rfl ⟨argE (by (conv => lhs; whnf); all_goals rfl) rfl, argE (by (conv => lhs; whnf); all_goals rfl) rfl, argE (by (conv => lhs; whnf); all_goals rfl) rfl, argE (by (conv => lhs; whnf); all_goals rfl) rfl, argE (by (conv => lhs; whnf); all_goals rfl) rfl, argE (by (conv => lhs; whnf); all_goals rfl) rfl, trivial⟩ trivial⟩
  · replace hL1 := cond_f hb_10 hL1
    conv => whnf
    obtain rfl := Option.some.inj hL1
    replace hF := fin_brk hF
    try dsimp only at hF
    refine ⟨fun hb_12 => ?_, fun hb_12 => ?_⟩
    · replace hF := cond_t hb_12 hF
      conv => whnf
      obtain ⟨e_7, h_e_7, hF⟩ := bind_some hF
      refine ix_q (enc := encMessage) (l := x_0) h_e_7 rfl (fun m_e_7 hm_e_7 hx_e_7 => ?_)
      conv => whnf
      obtain ⟨r_8, h_r_8, hF⟩ := bind_some hF
      refine ⟨_, _, _, _, _, _, _, _, _, callX false [] [] 0 Try.func32 (by decide) rfl (inbox_Receive_f1_ac e_7 x_1 r_8 h_r_8) rfl ⟨(argE (by (conv => lhs; whnf); all_goals rfl) rfl), (argE (by (conv => lhs; whnf); all_goals rfl) rfl), trivial⟩ rfl trivial rfl rfl rfl lend0 trivial rfl, ?_⟩
      conv => whnf
      obtain rfl := Option.some.inj hF
      exact ret_gz [] [] [] rfl (tupL rfl ⟨(argE (by (conv => lhs; whnf); all_goals rfl) rfl), (argE (by (conv => lhs; whnf); all_goals rfl) rfl), trivial⟩) trivial
    · replace hF := cond_f hb_12 hF
      conv => whnf
      obtain rfl := Option.some.inj hF
      exact ret_gz [] [] [] rfl (tupL rfl ⟨(argE (by (conv => lhs; whnf); all_goals rfl) rfl), (argFl (by (conv => lhs; whnf); all_goals rfl)), trivial⟩) trivial

set_option maxRecDepth 100000 in
set_option maxHeartbeats 40000000 in
theorem slices_Clone_Leg_ac (x_0 : (List Leg)) (r : (List Leg)) (hF : slices_Clone_Leg x_0 = some r) : AC Try.prog 66 [.lst 6 (x_0.map encLeg)] [] (.osl 0) [.row 6 (r.map encLeg)] := by
  refine ac_of tab_ok follows_ok Try.func66 rfl Try.ntmps66 rfl ?_
  unfold slices_Clone_Leg at hF
  conv => whnf
  intro b hb
  conv => whnf
  refine ⟨fun h => ?_, fun h => ?_⟩
  · have hx : x_0 = [] := List.map_eq_nil_iff.1 (hb h)
    subst hx
    obtain ⟨h1, rfl⟩ := apL_some hF
    conv => whnf
    exact ret_gz [] [0] [] rfl (argZ (by (conv => lhs; whnf); all_goals rfl) rfl) ⟨blkZ rfl, trivial⟩
  · conv => whnf
    refine ap_q (enc := encLeg) (l := ([] : List Leg)) (y := x_0) hF rfl rfl (by decide) ?_
    conv => whnf
    exact ret_gz [1] [] [] rfl (argO (id := 1) (by (conv => lhs; whnf); all_goals rfl) rfl) ⟨blkR (fun _ => ⟨rfl, rfl⟩) rfl rfl, trivial⟩

set_option maxRecDepth 100000 in
set_option maxHeartbeats 40000000 in
theorem slices_Clone_int_ac (x_0 : (List Int)) (r : (List Int)) (hF : slices_Clone_int x_0 = some r) : AC Try.prog 67 [.lst 1 (x_0.map iA)] [] (.osl 0) [.row 1 (r.map iA)] := by
  refine ac_of tab_ok follows_ok Try.func67 rfl Try.ntmps67 rfl ?_
  unfold slices_Clone_int at hF
  conv => whnf
  intro b hb
  conv => whnf
  refine ⟨fun h => ?_, fun h => ?_⟩
  · have hx : x_0 = [] := List.map_eq_nil_iff.1 (hb h)
    subst hx
    obtain ⟨h1, rfl⟩ := apL_some hF
    conv => whnf
    exact ret_gz [] [0] [] rfl (argZ (by (conv => lhs; whnf); all_goals rfl) rfl) ⟨blkZ rfl, trivial⟩
  · conv => whnf
    refine ap_q (enc := iA) (l := ([] : List Int)) (y := x_0) hF rfl rfl (by decide) ?_
    conv => whnf
    exact ret_gz [1] [] [] rfl (argO (id := 1) (by (conv => lhs; whnf); all_goals rfl) rfl) ⟨blkR (fun _ => ⟨rfl, rfl⟩) rfl rfl, trivial⟩

set_option maxRecDepth 100000 in
set_option maxHeartbeats 40000000 in
theorem inbox_copied_ac (x_0 : Message) (r : Message) (hF : inbox_copied x_0 = some r) : AC Try.prog 38 [.agg (encMessage x_0)] [] (.agg (encMessage r)) [] := by
  refine ac_of tab_ok follows_ok Try.func38 rfl Try.ntmps38 rfl ?_
  unfold inbox_copied at hF
  conv => whnf
  obtain ⟨r_1, h_r_1, hF⟩ := bind_some hF
  refine ⟨_, _, _, _, _, _, _, _, _, callX false [] [] 1 Try.func66 (by decide) rfl (slices_Clone_Leg_ac x_0.Onward r_1 h_r_1) rfl ⟨(argE (by (conv => lhs; whnf); all_goals rfl) rfl), trivial⟩ rfl trivial rfl rfl rfl lend0 ⟨renR (fun _ => ⟨rfl, rfl⟩), trivial⟩ rfl, ?_⟩
  conv => whnf
  obtain ⟨r_2, h_r_2, hF⟩ := bind_some hF
  refine ⟨_, _, _, _, _, _, _, _, _, callX false [] [] 1 Try.func67 (by decide) rfl (slices_Clone_int_ac x_0.List r_2 h_r_2) rfl ⟨(argE (by (conv => lhs; whnf); all_goals rfl) rfl), trivial⟩ rfl trivial rfl rfl rfl lend0 ⟨renR (fun _ => ⟨rfl, rfl⟩), trivial⟩ rfl, ?_⟩
  conv => whnf
  refine ⟨by kernel_rfl, ?_⟩
  conv => whnf
  obtain rfl := Option.some.inj hF
  exact ret_gz [] [] [2, 4] rfl (argA (c := [.int .i64 x_0.Kind, .int .i64 x_0.Do, .str x_0.Port, .int .i64 x_0.Number, .str x_0.In.Flight.Carrier, .int .i64 x_0.In.Flight.Number, .str x_0.In.Flight.Suffix, .int .i64 x_0.In.Flight.Day, .str x_0.In.Port, .str x_0.In.Class, .str x_0.Out.Flight.Carrier, .int .i64 x_0.Out.Flight.Number, .str x_0.Out.Flight.Suffix, .int .i64 x_0.Out.Flight.Day, .str x_0.Out.Port, .str x_0.Out.Class, .osl 2, .int .i64 x_0.First.Lead, .int .i64 x_0.First.Airline, .int .i64 x_0.First.Serial, .int .i64 x_0.Count, .bool x_0.Load, .int .i64 x_0.Status, .int .i64 x_0.Sequence, .int .i64 x_0.Weight, .str x_0.Surname, .str x_0.Given, .int .i64 x_0.Exception, .str x_0.Node, .osl 4]) (by (conv => lhs; whnf); all_goals rfl) rfl ⟨(.ni _ rfl), (.ni _ rfl), (.ni _ rfl), (.ni _ rfl), (.ni _ rfl), (.ni _ rfl), (.ni _ rfl), (.ni _ rfl), (.ni _ rfl), (.ni _ rfl), (.ni _ rfl), (.ni _ rfl), (.ni _ rfl), (.ni _ rfl), (.ni _ rfl), (.ni _ rfl), (.osl 2 6 _ (by simp) rfl (map_ni (fun _ => ⟨rfl, rfl⟩) _)), (.ni _ rfl), (.ni _ rfl), (.ni _ rfl), (.ni _ rfl), (.ni _ rfl), (.ni _ rfl), (.ni _ rfl), (.ni _ rfl), (.ni _ rfl), (.ni _ rfl), (.ni _ rfl), (.ni _ rfl), (.osl 4 1 _ (by simp) rfl (map_ni (fun _ => ⟨rfl, rfl⟩) _)), trivial⟩) trivial
end Go.Proofs.Ytpipggnfbgjefaa.Ex
