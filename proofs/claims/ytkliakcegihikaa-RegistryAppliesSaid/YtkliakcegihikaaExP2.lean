/- The functions of the program compute what was printed; walks printed by a program. -/
import Derived.Test.YtkliakcegihikaaExF
import Derived.Test.YtkliakcegihikaaExP1
namespace Go.Proofs.Ytkliakcegihikaa.Ex
open Go.RowKit Go.Proofs.Ytkliakcegihikaa.Ax
set_option linter.unusedVariables false
set_option linter.unusedSimpArgs false
set_option maxRecDepth 100000 in
set_option maxHeartbeats 40000000 in
theorem registry_at_ac (x_0 : (List Bag)) (x_1 : Plate) (r : Int × Bool) (hF : registry_at x_0 x_1 = some r) : AC Try.prog 44 [.lst 25 (x_0.map encBag), .agg (encPlate x_1)] [] (.tup [.int .i64 r.1, .bool r.2]) [] := by
  refine ac_of tab_ok follows_ok Try.func44 rfl Try.ntmps44 rfl ?_
  unfold registry_at at hF
  conv => whnf
  refine len_q (enc := encBag) (l := x_0) rfl ?_
  conv => whnf
  obtain ⟨r_1, h_r_1, hF⟩ := bind_some hF
  refine ⟨_, _, _, _, _, _, _, _, callX false [0, 1] [] Try.func71 (by decide) rfl (sort_Search_ac (x_0.length : Int) x_0 x_1 r_1 h_r_1) rfl ⟨(argE (by (conv => lhs; whnf); all_goals rfl) rfl), (argFn (c := [.ptr 0 0, .ptr 1 0]) (by (conv => lhs; whnf); all_goals rfl) rfl ⟨(.ptr 0 0 0 rfl), (.ptr 1 0 1 rfl), trivial⟩), trivial⟩ rfl ⟨rfl, rfl, trivial⟩ rfl rfl rfl lend0 ⟨rfl, rfl, trivial⟩, ?_⟩
  conv => whnf
  refine len_q (enc := encBag) (l := r_1.2.1) rfl ?_
  conv => whnf
  refine ⟨fun hb_2 => ?_, fun hb_2 => ?_⟩
  · replace hF := cond_t hb_2 hF
    conv => whnf
    obtain ⟨e_2, h_e_2, hF⟩ := bind_some hF
    refine ix_q (enc := encBag) (l := r_1.2.1) h_e_2 rfl (fun m_e_2 hm_e_2 hx_e_2 => ?_)
    conv => whnf
    refine ⟨by kernel_rfl, ?_⟩
    conv => whnf
    obtain rfl := Option.some.inj hF
    exact ret_gz [] [] [] rfl (tupL rfl ⟨(argE (by (conv => lhs; whnf); all_goals rfl) rfl), (argE (by (conv => lhs; whnf); all_goals rfl) rfl), trivial⟩) trivial
  · replace hF := cond_f hb_2 hF
    conv => whnf
    refine ⟨by kernel_rfl, ?_⟩
    conv => whnf
    obtain rfl := Option.some.inj hF
    exact ret_gz [] [] [] rfl (tupL rfl ⟨(argE (by (conv => lhs; whnf); all_goals rfl) rfl), (argFl (by (conv => lhs; whnf); all_goals rfl)), trivial⟩) trivial

set_option maxRecDepth 100000 in
set_option maxHeartbeats 40000000 in
theorem registry_fresh_ac (x_0 : Message) (r : Bool) (hF : registry_fresh x_0 = some r) : AC Try.prog 70 [.agg (encMessage x_0)] [] (.bool r) [] := by
  refine ac_of tab_ok follows_ok Try.func70 rfl Try.ntmps70 rfl ?_
  unfold registry_fresh at hF
  conv => whnf
  refine ⟨fun hb_3 => ?_, fun hb_3 => ?_⟩
  · replace hF := cond_f hb_3 hF
    conv => whnf
    refine ⟨fun hb_4 => ?_, fun hb_4 => ?_⟩
    · replace hF := cond_t hb_4 hF
      conv => whnf
      obtain rfl := Option.some.inj hF
      exact ret_gz [] [] [] rfl (argE (by (conv => lhs; whnf); all_goals rfl) rfl) trivial
    · replace hF := cond_f hb_4 hF
      conv => whnf
      obtain rfl := Option.some.inj hF
      exact ret_gz [] [] [] rfl (argFl (by (conv => lhs; whnf); all_goals rfl)) trivial
  · replace hF := cond_t hb_3 hF
    conv => whnf
    obtain rfl := Option.some.inj hF
    exact ret_gz [] [] [] rfl (argE (by (conv => lhs; whnf); all_goals rfl) rfl) trivial

set_option maxRecDepth 100000 in
set_option maxHeartbeats 40000000 in
theorem registry_refused_ac (x_0 : (List Bag)) (x_1 : Message) (x_2 : (List Plate)) (r : Int) (hF : registry_refused x_0 x_1 x_2 = some r) : AC Try.prog 43 [.lst 25 (x_0.map encBag), .agg (encMessage x_1), .lst 3 (x_2.map encPlate)] [] (.int .i64 r) [] := by
  refine ac_of tab_ok follows_ok Try.func43 rfl Try.ntmps43 rfl ?_
  unfold registry_refused at hF
  conv => whnf
  refine len_q (enc := encPlate) (l := x_2) rfl ?_
  conv => whnf
  obtain ⟨c_1, hc_1, hF⟩ := fin_some hF
  refine sw_bv 2 (v := .lst 3 (x_2.map encPlate)) (by (conv => lhs; whnf); all_goals rfl) (fun hb => ?_)
  have hbd_k_3 : x_2.length ≤ 9223372036854775807 := bnd_len (enc := encPlate) (hb)
  refine sw_loop tab_ok follows_ok (fun y : Nat × Int => y.1 ≤ x_2.length ∧ registry_refused_L1 x_0 x_1 (x_2.drop y.1) y.1 y.2 = some c_1) (fun y => ⟨eL [(0, .lst 25 (x_0.map encBag)), (2, .lst 3 (x_2.map encPlate)), (4, .ptr 0 0), (7, .int .i64 y.2), (12, .lst 3 (x_2.map encPlate)), (13, .int .i64 (x_2.length : Int)), (14, .int .i64 (y.1 : Int))], hL [(0, .box [.int .i64 x_1.Kind, .int .i64 x_1.Do, .str x_1.Port, .int .i64 x_1.Number, .str x_1.In.Flight.Carrier, .int .i64 x_1.In.Flight.Number, .str x_1.In.Flight.Suffix, .int .i64 x_1.In.Flight.Day, .str x_1.In.Port, .str x_1.In.Class, .str x_1.Out.Flight.Carrier, .int .i64 x_1.Out.Flight.Number, .str x_1.Out.Flight.Suffix, .int .i64 x_1.Out.Flight.Day, .str x_1.Out.Port, .str x_1.Out.Class, .lst 6 (x_1.Onward.map encLeg), .int .i64 x_1.First.Lead, .int .i64 x_1.First.Airline, .int .i64 x_1.First.Serial, .int .i64 x_1.Count, .bool x_1.Load, .int .i64 x_1.Status, .int .i64 x_1.Sequence, .int .i64 x_1.Weight, .str x_1.Surname, .str x_1.Given, .int .i64 x_1.Exception, .str x_1.Node, .lst 1 (x_1.List.map iA)])], 1⟩) (fun y => x_2.length - y.1) (0, (0 : Int)) ⟨Nat.zero_le _, hc_1⟩ (wk_mk [0] [] [] rfl ⟨argE (by (conv => lhs; whnf); all_goals rfl) rfl, argE (by (conv => lhs; whnf); all_goals rfl) rfl, argP (id := 0) (by (conv => lhs; whnf); all_goals rfl) rfl, argE (by (conv => lhs; whnf); all_goals rfl) rfl, argE (by (conv => lhs; whnf); all_goals rfl) rfl, argE (by (conv => lhs; whnf); all_goals rfl) rfl, argE (by (conv => lhs; whnf); all_goals rfl) rfl, trivial⟩ ⟨boxL rfl rfl rfl ⟨(.ni _ rfl), (.ni _ rfl), (.ni _ rfl), (.ni _ rfl), (.ni _ rfl), (.ni _ rfl), (.ni _ rfl), (.ni _ rfl), (.ni _ rfl), (.ni _ rfl), (.ni _ rfl), (.ni _ rfl), (.ni _ rfl), (.ni _ rfl), (.ni _ rfl), (.ni _ rfl), (.ni _ rfl), (.ni _ rfl), (.ni _ rfl), (.ni _ rfl), (.ni _ rfl), (.ni _ rfl), (.ni _ rfl), (.ni _ rfl), (.ni _ rfl), (.ni _ rfl), (.ni _ rfl), (.ni _ rfl), (.ni _ rfl), (.ni _ rfl), trivial⟩, trivial⟩) ?_
  rintro ⟨k_3, i_1⟩ ⟨hk_k_3, hL1⟩
  try dsimp only at hk_k_3 hL1
  show awp _ _ _ _ _ _ ⟨eL [(0, .lst 25 (x_0.map encBag)), (2, .lst 3 (x_2.map encPlate)), (4, .ptr 0 0), (7, .int .i64 i_1), (12, .lst 3 (x_2.map encPlate)), (13, .int .i64 (x_2.length : Int)), (14, .int .i64 (k_3 : Int))], hL [(0, .box [.int .i64 x_1.Kind, .int .i64 x_1.Do, .str x_1.Port, .int .i64 x_1.Number, .str x_1.In.Flight.Carrier, .int .i64 x_1.In.Flight.Number, .str x_1.In.Flight.Suffix, .int .i64 x_1.In.Flight.Day, .str x_1.In.Port, .str x_1.In.Class, .str x_1.Out.Flight.Carrier, .int .i64 x_1.Out.Flight.Number, .str x_1.Out.Flight.Suffix, .int .i64 x_1.Out.Flight.Day, .str x_1.Out.Port, .str x_1.Out.Class, .lst 6 (x_1.Onward.map encLeg), .int .i64 x_1.First.Lead, .int .i64 x_1.First.Airline, .int .i64 x_1.First.Serial, .int .i64 x_1.Count, .bool x_1.Load, .int .i64 x_1.Status, .int .i64 x_1.Sequence, .int .i64 x_1.Weight, .str x_1.Surname, .str x_1.Given, .int .i64 x_1.Exception, .str x_1.Node, .lst 1 (x_1.List.map iA)])], 1⟩
  conv => whnf
  refine ⟨fun h => ?_, fun h => ?_⟩
  · have hlt_k_3 : k_3 < x_2.length := by have h := of_decide_eq_true h; omega
    obtain ⟨e_4, h_e_4⟩ : ∃ y, x_2[k_3]? = some y := ⟨_, List.getElem?_eq_getElem hlt_k_3⟩
    rw [drop_cons h_e_4, registry_refused_L1.eq_2] at hL1
    conv => whnf
    refine ⟨k_3, _, rfl, ix_map h_e_4, ?_⟩
    conv => whnf
    obtain ⟨r_5, h_r_5, hL1⟩ := bind_some hL1
    refine ⟨_, _, _, _, _, _, _, _, callX false [] [] Try.func44 (by decide) rfl (registry_at_ac x_0 e_4 r_5 h_r_5) rfl ⟨(argE (by (conv => lhs; whnf); all_goals rfl) rfl), (argE (by (conv => lhs; whnf); all_goals rfl) rfl), trivial⟩ rfl trivial rfl rfl rfl lend0 trivial, ?_⟩
    conv => whnf
    refine ⟨fun hb_25 => ?_, fun hb_25 => ?_⟩
    · replace hL1 := cond_t hb_25 hL1
      conv => whnf
      obtain ⟨r_6, h_r_6, hL1⟩ := bind_some hL1
      refine ⟨_, _, _, _, _, _, _, _, callX false [] [] Try.func70 (by decide) rfl (registry_fresh_ac x_1 r_6 h_r_6) rfl ⟨(argE (by (conv => lhs; whnf); all_goals rfl) rfl), trivial⟩ rfl trivial rfl rfl rfl lend0 trivial, ?_⟩
      conv => whnf
      refine ⟨fun hb_26 => ?_, fun hb_26 => ?_⟩
      · replace hL1 := cond_t hb_26 hL1
        conv => whnf
        obtain rfl := Option.some.inj hL1
        replace hF := fin_ret hF
        obtain rfl := Option.some.inj hF
        exact ret_gz [] [] [] rfl (argE (by (conv => lhs; whnf); all_goals rfl) rfl) trivial
      · replace hL1 := cond_f hb_26 hL1
        conv => whnf
        refine ⟨fun h => ?_, fun h => ?_⟩
        · cases (not_kn (hb_25)).symm.trans h
        · conv => whnf
          refine ⟨fun h => ?_, fun h => ?_⟩
          · conv => whnf
            refine ⟨fun hb_27 => ?_, fun hb_27 => ?_⟩
            · replace hL1 := cond_t hb_27 hL1
              conv => whnf
              obtain ⟨e_7, h_e_7, hL1⟩ := bind_some hL1
              refine ix_q (enc := encBag) (l := x_0) h_e_7 rfl (fun m_e_7 hm_e_7 hx_e_7 => ?_)
              conv => whnf
              refine ⟨by kernel_rfl, ?_⟩
              conv => whnf
              refine ⟨fun hb_28 => ?_, fun hb_28 => ?_⟩
              · replace hL1 := cond_t hb_28 hL1
                conv => whnf
                refine ⟨((k_3 + 1 : Nat) : Int), wrapE (by omega) (by omega) (by omega), ?_⟩
                conv => whnf
                exact ⟨(k_3 + 1, (7 : Int)), [0], [], [], ⟨hlt_k_3, hL1⟩, by show x_2.length - (k_3 + 1) < x_2.length - k_3; omega, wk_mk [0] [] [] rfl ⟨argE (by (conv => lhs; whnf); all_goals rfl) rfl, argE (by (conv => lhs; whnf); all_goals rfl) rfl, argP (id := 0) (by (conv => lhs; whnf); all_goals rfl) rfl, argE (by (conv => lhs; whnf); all_goals rfl) rfl, argE (by (conv => lhs; whnf); all_goals rfl) rfl, argE (by (conv => lhs; whnf); all_goals rfl) rfl, argE (by (conv => lhs; whnf); all_goals rfl) rfl, trivial⟩ ⟨boxL rfl rfl rfl ⟨(.ni _ rfl), (.ni _ rfl), (.ni _ rfl), (.ni _ rfl), (.ni _ rfl), (.ni _ rfl), (.ni _ rfl), (.ni _ rfl), (.ni _ rfl), (.ni _ rfl), (.ni _ rfl), (.ni _ rfl), (.ni _ rfl), (.ni _ rfl), (.ni _ rfl), (.ni _ rfl), (.ni _ rfl), (.ni _ rfl), (.ni _ rfl), (.ni _ rfl), (.ni _ rfl), (.ni _ rfl), (.ni _ rfl), (.ni _ rfl), (.ni _ rfl), (.ni _ rfl), (.ni _ rfl), (.ni _ rfl), (.ni _ rfl), (.ni _ rfl), trivial⟩, trivial⟩⟩
              · replace hL1 := cond_f hb_28 hL1
                conv => whnf
                refine ⟨((k_3 + 1 : Nat) : Int), wrapE (by omega) (by omega) (by omega), ?_⟩
                conv => whnf
                exact ⟨(k_3 + 1, i_1), [0], [], [], ⟨hlt_k_3, hL1⟩, by show x_2.length - (k_3 + 1) < x_2.length - k_3; omega, wk_mk [0] [] [] rfl ⟨argE (by (conv => lhs; whnf); all_goals rfl) rfl, argE (by (conv => lhs; whnf); all_goals rfl) rfl, argP (id := 0) (by (conv => lhs; whnf); all_goals rfl) rfl, argE (by (conv => lhs; whnf); all_goals rfl) rfl, argE (by (conv => lhs; whnf); all_goals rfl) rfl, argE (by (conv => lhs; whnf); all_goals rfl) rfl, argE (by (conv => lhs; whnf); all_goals rfl) rfl, trivial⟩ ⟨boxL rfl rfl rfl ⟨(.ni _ rfl), (.ni _ rfl), (.ni _ rfl), (.ni _ rfl), (.ni _ rfl), (.ni _ rfl), (.ni _ rfl), (.ni _ rfl), (.ni _ rfl), (.ni _ rfl), (.ni _ rfl), (.ni _ rfl), (.ni _ rfl), (.ni _ rfl), (.ni _ rfl), (.ni _ rfl), (.ni _ rfl), (.ni _ rfl), (.ni _ rfl), (.ni _ rfl), (.ni _ rfl), (.ni _ rfl), (.ni _ rfl), (.ni _ rfl), (.ni _ rfl), (.ni _ rfl), (.ni _ rfl), (.ni _ rfl), (.ni _ rfl), (.ni _ rfl), trivial⟩, trivial⟩⟩
            · replace hL1 := cond_f hb_27 hL1
              conv => whnf
              refine ⟨by kernel_rfl, ?_⟩
              conv => whnf
              refine ⟨((k_3 + 1 : Nat) : Int), wrapE (by omega) (by omega) (by omega), ?_⟩
              conv => whnf
              exact ⟨(k_3 + 1, i_1), [0], [], [], ⟨hlt_k_3, hL1⟩, by show x_2.length - (k_3 + 1) < x_2.length - k_3; omega, wk_mk [0] [] [] rfl ⟨argE (by (conv => lhs; whnf); all_goals rfl) rfl, argE (by (conv => lhs; whnf); all_goals rfl) rfl, argP (id := 0) (by (conv => lhs; whnf); all_goals rfl) rfl, argE (by (conv => lhs; whnf); all_goals rfl) rfl, argE (by (conv => lhs; whnf); all_goals rfl) rfl, argE (by (conv => lhs; whnf); all_goals rfl) rfl, argE (by (conv => lhs; whnf); all_goals rfl) rfl, trivial⟩ ⟨boxL rfl rfl rfl ⟨(.ni _ rfl), (.ni _ rfl), (.ni _ rfl), (.ni _ rfl), (.ni _ rfl), (.ni _ rfl), (.ni _ rfl), (.ni _ rfl), (.ni _ rfl), (.ni _ rfl), (.ni _ rfl), (.ni _ rfl), (.ni _ rfl), (.ni _ rfl), (.ni _ rfl), (.ni _ rfl), (.ni _ rfl), (.ni _ rfl), (.ni _ rfl), (.ni _ rfl), (.ni _ rfl), (.ni _ rfl), (.ni _ rfl), (.ni _ rfl), (.ni _ rfl), (.ni _ rfl), (.ni _ rfl), (.ni _ rfl), (.ni _ rfl), (.ni _ rfl), trivial⟩, trivial⟩⟩
          · cases (hb_25).symm.trans h
    · replace hL1 := cond_f hb_25 hL1
      conv => whnf
      refine ⟨fun h => ?_, fun h => ?_⟩
      · conv => whnf
        obtain ⟨r_8, h_r_8, hL1⟩ := bind_some hL1
        refine ⟨_, _, _, _, _, _, _, _, callX false [] [] Try.func70 (by decide) rfl (registry_fresh_ac x_1 r_8 h_r_8) rfl ⟨(argE (by (conv => lhs; whnf); all_goals rfl) rfl), trivial⟩ rfl trivial rfl rfl rfl lend0 trivial, ?_⟩
        conv => whnf
        refine ⟨fun hb_29 => ?_, fun hb_29 => ?_⟩
        · replace hL1 := cond_t hb_29 hL1
          conv => whnf
          obtain rfl := Option.some.inj hL1
          replace hF := fin_ret hF
          obtain rfl := Option.some.inj hF
          exact ret_gz [] [] [] rfl (argE (by (conv => lhs; whnf); all_goals rfl) rfl) trivial
        · replace hL1 := cond_f hb_29 hL1
          conv => whnf
          refine ⟨fun h => ?_, fun h => ?_⟩
          · cases (hb_25).symm.trans h
          · conv => whnf
            refine ⟨by kernel_rfl, ?_⟩
            conv => whnf
            refine ⟨((k_3 + 1 : Nat) : Int), wrapE (by omega) (by omega) (by omega), ?_⟩
            conv => whnf
            exact ⟨(k_3 + 1, i_1), [0], [], [], ⟨hlt_k_3, hL1⟩, by show x_2.length - (k_3 + 1) < x_2.length - k_3; omega, wk_mk [0] [] [] rfl ⟨argE (by (conv => lhs; whnf); all_goals rfl) rfl, argE (by (conv => lhs; whnf); all_goals rfl) rfl, argP (id := 0) (by (conv => lhs; whnf); all_goals rfl) rfl, argE (by (conv => lhs; whnf); all_goals rfl) rfl, argE (by (conv => lhs; whnf); all_goals rfl) rfl, argE (by (conv => lhs; whnf); all_goals rfl) rfl, argE (by (conv => lhs; whnf); all_goals rfl) rfl, trivial⟩ ⟨boxL rfl rfl rfl ⟨(.ni _ rfl), (.ni _ rfl), (.ni _ rfl), (.ni _ rfl), (.ni _ rfl), (.ni _ rfl), (.ni _ rfl), (.ni _ rfl), (.ni _ rfl), (.ni _ rfl), (.ni _ rfl), (.ni _ rfl), (.ni _ rfl), (.ni _ rfl), (.ni _ rfl), (.ni _ rfl), (.ni _ rfl), (.ni _ rfl), (.ni _ rfl), (.ni _ rfl), (.ni _ rfl), (.ni _ rfl), (.ni _ rfl), (.ni _ rfl), (.ni _ rfl), (.ni _ rfl), (.ni _ rfl), (.ni _ rfl), (.ni _ rfl), (.ni _ rfl), trivial⟩, trivial⟩⟩
      · cases (not_kn (hb_25)).symm.trans h
  · rw [drop_nil (show x_2.length ≤ k_3 by have h := of_decide_eq_false h; omega), registry_refused_L1.eq_1] at hL1
    conv => whnf
    obtain rfl := Option.some.inj hL1
    replace hF := fin_brk hF
    try dsimp only at hF
    obtain ⟨r_11, h_r_11, hF⟩ := bind_some hF
    refine ⟨_, _, _, _, _, _, _, _, callX false [] [] Try.func70 (by decide) rfl (registry_fresh_ac x_1 r_11 h_r_11) rfl ⟨(argE (by (conv => lhs; whnf); all_goals rfl) rfl), trivial⟩ rfl trivial rfl rfl rfl lend0 trivial, ?_⟩
    conv => whnf
    refine ⟨fun hb_30 => ?_, fun hb_30 => ?_⟩
    · replace hF := cond_t hb_30 hF
      conv => whnf
      refine len_q (enc := encBag) (l := x_0) rfl ?_
      conv => whnf
      refine len_q (enc := encPlate) (l := x_2) rfl ?_
      conv => whnf
      refine ⟨_, rfl, ?_⟩
      conv => whnf
      refine ⟨fun hb_31 => ?_, fun hb_31 => ?_⟩
      · replace hF := cond_t hb_31 hF
        conv => whnf
        obtain rfl := Option.some.inj hF
        exact ret_gz [] [] [] rfl (argE (by (conv => lhs; whnf); all_goals rfl) rfl) trivial
      · replace hF := cond_f hb_31 hF
        conv => whnf
        obtain rfl := Option.some.inj hF
        exact ret_gz [] [] [] rfl (argE (by (conv => lhs; whnf); all_goals rfl) rfl) trivial
    · replace hF := cond_f hb_30 hF
      conv => whnf
      obtain rfl := Option.some.inj hF
      exact ret_gz [] [] [] rfl (argE (by (conv => lhs; whnf); all_goals rfl) rfl) trivial

set_option maxRecDepth 100000 in
set_option maxHeartbeats 40000000 in
theorem registry_described_ac (x_0 : Message) (x_1 : Plate) (r : Bag) (hF : registry_described x_0 x_1 = some r) : AC Try.prog 45 [.agg (encMessage x_0), .agg (encPlate x_1)] [] (.agg (encBag r)) [] := by
  refine ac_of tab_ok follows_ok Try.func45 rfl Try.ntmps45 rfl ?_
  unfold registry_described at hF
  conv => whnf
  obtain ⟨r_1, h_r_1, hF⟩ := bind_some hF
  refine ⟨_, _, _, _, _, _, _, _, callX false [] [] Try.func57 (by decide) rfl (registry_copied_ac (⟨x_1, x_0.In, x_0.Out, x_0.Onward, x_0.Sequence, x_0.Status, x_0.Weight, x_0.Load, x_0.Surname, x_0.Given, x_0.Exception, (⟨#[]⟩ : ByteArray), false⟩ : Bag) r_1 h_r_1) rfl ⟨(argA (c := [.int .i64 x_1.Lead, .int .i64 x_1.Airline, .int .i64 x_1.Serial, .str x_0.In.Flight.Carrier, .int .i64 x_0.In.Flight.Number, .str x_0.In.Flight.Suffix, .int .i64 x_0.In.Flight.Day, .str x_0.In.Port, .str x_0.In.Class, .str x_0.Out.Flight.Carrier, .int .i64 x_0.Out.Flight.Number, .str x_0.Out.Flight.Suffix, .int .i64 x_0.Out.Flight.Day, .str x_0.Out.Port, .str x_0.Out.Class, .lst 6 (x_0.Onward.map encLeg), .int .i64 x_0.Sequence, .int .i64 x_0.Status, .int .i64 x_0.Weight, .bool x_0.Load, .str x_0.Surname, .str x_0.Given, .int .i64 x_0.Exception, .str (⟨#[]⟩ : ByteArray), .fls]) (by (conv => lhs; whnf); all_goals rfl) rfl ⟨(.ni _ rfl), (.ni _ rfl), (.ni _ rfl), (.ni _ rfl), (.ni _ rfl), (.ni _ rfl), (.ni _ rfl), (.ni _ rfl), (.ni _ rfl), (.ni _ rfl), (.ni _ rfl), (.ni _ rfl), (.ni _ rfl), (.ni _ rfl), (.ni _ rfl), (.ni _ rfl), (.ni _ rfl), (.ni _ rfl), (.ni _ rfl), (.ni _ rfl), (.ni _ rfl), (.ni _ rfl), (.ni _ rfl), (.ni _ rfl), .fls, trivial⟩), trivial⟩ rfl trivial rfl rfl rfl lend0 trivial, ?_⟩
  conv => whnf
  obtain rfl := Option.some.inj hF
  exact ret_gz [] [] [] rfl (argE (by (conv => lhs; whnf); all_goals rfl) rfl) trivial

set_option maxRecDepth 100000 in
set_option maxHeartbeats 40000000 in
theorem registry_change_ac (x_0 : Bag) (x_1 : Message) (r : Bag) (hF : registry_change x_0 x_1 = some r) : AC Try.prog 46 [.agg (encBag x_0), .agg (encMessage x_1)] [] (.agg (encBag r)) [] := by
  refine ac_of tab_ok follows_ok Try.func46 rfl Try.ntmps46 rfl ?_
  unfold registry_change at hF
  conv => whnf
  refine ⟨fun hb_3 => ?_, fun hb_3 => ?_⟩
  · replace hF := cond_t hb_3 hF
    conv => whnf
    obtain rfl := Option.some.inj hF
    exact ret_gz [] [] [] rfl (argE (by (conv => lhs; whnf); all_goals rfl) rfl) trivial
  · replace hF := cond_f hb_3 hF
    conv => whnf
    refine ⟨fun hb_4 => ?_, fun hb_4 => ?_⟩
    · replace hF := cond_t hb_4 hF
      conv => whnf
      obtain rfl := Option.some.inj hF
      exact ret_gz [] [] [] rfl (argA (c := [.int .i64 x_0.Plate.Lead, .int .i64 x_0.Plate.Airline, .int .i64 x_0.Plate.Serial, .str x_0.In.Flight.Carrier, .int .i64 x_0.In.Flight.Number, .str x_0.In.Flight.Suffix, .int .i64 x_0.In.Flight.Day, .str x_0.In.Port, .str x_0.In.Class, .str x_0.Out.Flight.Carrier, .int .i64 x_0.Out.Flight.Number, .str x_0.Out.Flight.Suffix, .int .i64 x_0.Out.Flight.Day, .str x_0.Out.Port, .str x_0.Out.Class, .lst 6 (x_0.Onward.map encLeg), .int .i64 x_0.Sequence, .int .i64 x_0.Status, .int .i64 x_0.Weight, .fls, .str x_0.Surname, .str x_0.Given, .int .i64 x_0.Exception, .str x_0.Node, .tru]) (by (conv => lhs; whnf); all_goals rfl) rfl ⟨(.ni _ rfl), (.ni _ rfl), (.ni _ rfl), (.ni _ rfl), (.ni _ rfl), (.ni _ rfl), (.ni _ rfl), (.ni _ rfl), (.ni _ rfl), (.ni _ rfl), (.ni _ rfl), (.ni _ rfl), (.ni _ rfl), (.ni _ rfl), (.ni _ rfl), (.ni _ rfl), (.ni _ rfl), (.ni _ rfl), (.ni _ rfl), .fls, (.ni _ rfl), (.ni _ rfl), (.ni _ rfl), (.ni _ rfl), .tru, trivial⟩) trivial
    · replace hF := cond_f hb_4 hF
      conv => whnf
      obtain ⟨r_1, h_r_1, hF⟩ := bind_some hF
      refine ⟨_, _, _, _, _, _, _, _, callX false [] [] Try.func45 (by decide) rfl (registry_described_ac x_1 x_0.Plate r_1 h_r_1) rfl ⟨(argE (by (conv => lhs; whnf); all_goals rfl) rfl), (argE (by (conv => lhs; whnf); all_goals rfl) rfl), trivial⟩ rfl trivial rfl rfl rfl lend0 trivial, ?_⟩
      conv => whnf
      refine ⟨by kernel_rfl, ?_⟩
      conv => whnf
      obtain rfl := Option.some.inj hF
      exact ret_gz [] [] [] rfl (argE (by (conv => lhs; whnf); all_goals rfl) rfl) trivial

set_option maxRecDepth 100000 in
set_option maxHeartbeats 40000000 in
theorem registry_Apply_ac (x_0 : Registry) (x_1 : Message) (r : Registry × Int) (hF : registry_Apply x_0 x_1 = some r) : AC Try.prog 14 [.agg (encRegistry x_0), .agg (encMessage x_1)] [] (.tup [.agg (encRegistry r.1), .int .i64 r.2]) [] := by
  refine ac_of tab_ok follows_ok Try.func14 rfl Try.ntmps14 rfl ?_
  unfold registry_Apply at hF
  conv => whnf
  obtain ⟨r_1, h_r_1, hF⟩ := bind_some hF
  refine ⟨_, _, _, _, _, _, _, _, callX false [] [] Try.func17 (by decide) rfl (registry_Validate_ac x_0 r_1 h_r_1) rfl ⟨(argE (by (conv => lhs; whnf); all_goals rfl) rfl), trivial⟩ rfl trivial rfl rfl rfl lend0 trivial, ?_⟩
  conv => whnf
  refine ⟨fun hb_15 => ?_, fun hb_15 => ?_⟩
  · replace hF := cond_t hb_15 hF
    conv => whnf
    obtain rfl := Option.some.inj hF
    exact ret_gz [] [] [] rfl (tupL rfl ⟨(argA (c := [.nils]) (by (conv => lhs; whnf); all_goals rfl) rfl ⟨(.nils _), trivial⟩), (argE (by (conv => lhs; whnf); all_goals rfl) rfl), trivial⟩) trivial
  · replace hF := cond_f hb_15 hF
    conv => whnf
    obtain ⟨r_2, h_r_2, hF⟩ := bind_some hF
    refine ⟨_, _, _, _, _, _, _, _, callX false [] [] Try.func40 (by decide) rfl (message_Validate_ac x_1 r_2 h_r_2) rfl ⟨(argE (by (conv => lhs; whnf); all_goals rfl) rfl), trivial⟩ rfl trivial rfl rfl rfl lend0 trivial, ?_⟩
    conv => whnf
    refine ⟨fun hb_16 => ?_, fun hb_16 => ?_⟩
    · replace hF := cond_t hb_16 hF
      conv => whnf
      obtain rfl := Option.some.inj hF
      exact ret_gz [] [] [] rfl (tupL rfl ⟨(argA (c := [.nils]) (by (conv => lhs; whnf); all_goals rfl) rfl ⟨(.nils _), trivial⟩), (argE (by (conv => lhs; whnf); all_goals rfl) rfl), trivial⟩) trivial
    · replace hF := cond_f hb_16 hF
      conv => whnf
      obtain ⟨r_3, h_r_3, hF⟩ := bind_some hF
      refine ⟨_, _, _, _, _, _, _, _, callX false [] [] Try.func41 (by decide) rfl (registry_clone_ac x_0.L r_3 h_r_3) rfl ⟨(argE (by (conv => lhs; whnf); all_goals rfl) rfl), trivial⟩ rfl trivial rfl rfl rfl lend0 ⟨renR (fun _ => ⟨rfl, rfl⟩), trivial⟩, ?_⟩
      conv => whnf
      refine ⟨fun hb_17 => ?_, fun hb_17 => ?_⟩
      · replace hF := cond_t hb_17 hF
        conv => whnf
        obtain rfl := Option.some.inj hF
        exact ret_gz [] [] [5] rfl (tupL rfl ⟨(argA (c := [.osl 5]) (by (conv => lhs; whnf); all_goals rfl) rfl ⟨(.osl 5 25 _ (by simp) rfl (map_ni (fun _ => ⟨rfl, rfl⟩) _)), trivial⟩), (argE (by (conv => lhs; whnf); all_goals rfl) rfl), trivial⟩) trivial
      · replace hF := cond_f hb_17 hF
        conv => whnf
        obtain ⟨r_4, h_r_4, hF⟩ := bind_some hF
        refine ⟨_, _, _, _, _, _, _, _, callX false [] [] Try.func42 (by decide) rfl (message_Plates_ac x_1 r_4 h_r_4) rfl ⟨(argE (by (conv => lhs; whnf); all_goals rfl) rfl), trivial⟩ rfl trivial rfl rfl rfl lend0 trivial, ?_⟩
        conv => whnf
        obtain ⟨r_5, h_r_5, hF⟩ := bind_some hF
        refine ⟨_, _, _, _, _, _, _, _, callX false [] [5] Try.func43 (by decide) rfl (registry_refused_ac r_3 x_1 r_4 r_5 h_r_5) rfl ⟨(argOL 5 (by (conv => lhs; whnf); all_goals rfl) rfl rfl (map_ni (fun _ => ⟨rfl, rfl⟩) _)), (argE (by (conv => lhs; whnf); all_goals rfl) rfl), (argE (by (conv => lhs; whnf); all_goals rfl) rfl), trivial⟩ rfl trivial rfl rfl rfl (lendF rfl) trivial, ?_⟩
        conv => whnf
        refine ⟨fun hb_18 => ?_, fun hb_18 => ?_⟩
        · replace hF := cond_t hb_18 hF
          conv => whnf
          obtain rfl := Option.some.inj hF
          exact ret_gz [] [] [] rfl (tupL rfl ⟨(argA (c := [.nils]) (by (conv => lhs; whnf); all_goals rfl) rfl ⟨(.nils _), trivial⟩), (argE (by (conv => lhs; whnf); all_goals rfl) rfl), trivial⟩) trivial
        · replace hF := cond_f hb_18 hF
          conv => whnf
          refine len_q (enc := encPlate) (l := r_4) rfl ?_
          conv => whnf
          obtain ⟨c_1, hc_1, hF⟩ := fin_some hF
          refine sw_bv 9 (v := .lst 3 (r_4.map encPlate)) (by (conv => lhs; whnf); all_goals rfl) (fun hb => ?_)
          have hbd_k_8 : r_4.length ≤ 9223372036854775807 := bnd_len (enc := encPlate) (hb)
          refine sw_loop tab_ok follows_ok (fun y : Nat × (List Bag) => y.1 ≤ r_4.length ∧ registry_Apply_L1 x_1 (r_4.drop y.1) y.1 y.2 = some c_1) (fun y => ⟨eL [(3, .ptr 0 0), (4, .ptr 1 0), (8, .osl 2), (45, .lst 3 (r_4.map encPlate)), (46, .int .i64 (r_4.length : Int)), (47, .int .i64 (y.1 : Int))], hL [(0, .box [.int .i64 x_1.Kind, .int .i64 x_1.Do, .str x_1.Port, .int .i64 x_1.Number, .str x_1.In.Flight.Carrier, .int .i64 x_1.In.Flight.Number, .str x_1.In.Flight.Suffix, .int .i64 x_1.In.Flight.Day, .str x_1.In.Port, .str x_1.In.Class, .str x_1.Out.Flight.Carrier, .int .i64 x_1.Out.Flight.Number, .str x_1.Out.Flight.Suffix, .int .i64 x_1.Out.Flight.Day, .str x_1.Out.Port, .str x_1.Out.Class, .lst 6 (x_1.Onward.map encLeg), .int .i64 x_1.First.Lead, .int .i64 x_1.First.Airline, .int .i64 x_1.First.Serial, .int .i64 x_1.Count, .bool x_1.Load, .int .i64 x_1.Status, .int .i64 x_1.Sequence, .int .i64 x_1.Weight, .str x_1.Surname, .str x_1.Given, .int .i64 x_1.Exception, .str x_1.Node, .lst 1 (x_1.List.map iA)]), (1, .box [.nils]), (2, .row 25 (y.2.map encBag))], 3⟩) (fun y => r_4.length - y.1) (0, r_3) ⟨Nat.zero_le _, hc_1⟩ (wk_mk [1, 2, 5] [] [] rfl ⟨argP (id := 1) (by (conv => lhs; whnf); all_goals rfl) rfl, argP (id := 2) (by (conv => lhs; whnf); all_goals rfl) rfl, argO (id := 5) (by (conv => lhs; whnf); all_goals rfl) rfl, argE (by (conv => lhs; whnf); all_goals rfl) rfl, argE (by (conv => lhs; whnf); all_goals rfl) rfl, argE (by (conv => lhs; whnf); all_goals rfl) rfl, trivial⟩ ⟨boxL rfl rfl rfl ⟨(.ni _ rfl), (.ni _ rfl), (.ni _ rfl), (.ni _ rfl), (.ni _ rfl), (.ni _ rfl), (.ni _ rfl), (.ni _ rfl), (.ni _ rfl), (.ni _ rfl), (.ni _ rfl), (.ni _ rfl), (.ni _ rfl), (.ni _ rfl), (.ni _ rfl), (.ni _ rfl), (.ni _ rfl), (.ni _ rfl), (.ni _ rfl), (.ni _ rfl), (.ni _ rfl), (.ni _ rfl), (.ni _ rfl), (.ni _ rfl), (.ni _ rfl), (.ni _ rfl), (.ni _ rfl), (.ni _ rfl), (.ni _ rfl), (.ni _ rfl), trivial⟩, boxL rfl rfl rfl ⟨(.ni _ rfl), trivial⟩, blkR (fun _ => ⟨rfl, rfl⟩) rfl rfl, trivial⟩) ?_
          rintro ⟨k_8, a_6⟩ ⟨hk_k_8, hL1⟩
          try dsimp only at hk_k_8 hL1
          show awp _ _ _ _ _ _ ⟨eL [(3, .ptr 0 0), (4, .ptr 1 0), (8, .osl 2), (45, .lst 3 (r_4.map encPlate)), (46, .int .i64 (r_4.length : Int)), (47, .int .i64 (k_8 : Int))], hL [(0, .box [.int .i64 x_1.Kind, .int .i64 x_1.Do, .str x_1.Port, .int .i64 x_1.Number, .str x_1.In.Flight.Carrier, .int .i64 x_1.In.Flight.Number, .str x_1.In.Flight.Suffix, .int .i64 x_1.In.Flight.Day, .str x_1.In.Port, .str x_1.In.Class, .str x_1.Out.Flight.Carrier, .int .i64 x_1.Out.Flight.Number, .str x_1.Out.Flight.Suffix, .int .i64 x_1.Out.Flight.Day, .str x_1.Out.Port, .str x_1.Out.Class, .lst 6 (x_1.Onward.map encLeg), .int .i64 x_1.First.Lead, .int .i64 x_1.First.Airline, .int .i64 x_1.First.Serial, .int .i64 x_1.Count, .bool x_1.Load, .int .i64 x_1.Status, .int .i64 x_1.Sequence, .int .i64 x_1.Weight, .str x_1.Surname, .str x_1.Given, .int .i64 x_1.Exception, .str x_1.Node, .lst 1 (x_1.List.map iA)]), (1, .box [.nils]), (2, .row 25 (a_6.map encBag))], 3⟩
          conv => whnf
          refine ⟨fun h => ?_, fun h => ?_⟩
          · have hlt_k_8 : k_8 < r_4.length := by have h := of_decide_eq_true h; omega
            obtain ⟨e_9, h_e_9⟩ : ∃ y, r_4[k_8]? = some y := ⟨_, List.getElem?_eq_getElem hlt_k_8⟩
            rw [drop_cons h_e_9, registry_Apply_L1.eq_2] at hL1
            conv => whnf
            refine ⟨k_8, _, rfl, ix_map h_e_9, ?_⟩
            conv => whnf
            obtain ⟨r_10, h_r_10, hL1⟩ := bind_some hL1
            refine ⟨_, _, _, _, _, _, _, _, callX false [] [2] Try.func44 (by decide) rfl (registry_at_ac a_6 e_9 r_10 h_r_10) rfl ⟨(argOL 2 (by (conv => lhs; whnf); all_goals rfl) rfl rfl (map_ni (fun _ => ⟨rfl, rfl⟩) _)), (argE (by (conv => lhs; whnf); all_goals rfl) rfl), trivial⟩ rfl trivial rfl rfl rfl (lendF rfl) trivial, ?_⟩
            conv => whnf
            refine ⟨fun hb_19 => ?_, fun hb_19 => ?_⟩
            · replace hL1 := cond_t hb_19 hL1
              conv => whnf
              obtain ⟨l_11, h_l_11, hL1⟩ := bind_some hL1
              refine sub_q01m (enc := encBag) (l := a_6) h_l_11 rfl (fun m_l_11 f_l_11 => ?_)
              conv => whnf
              obtain ⟨r_12, h_r_12, hL1⟩ := bind_some hL1
              refine ⟨_, _, _, _, _, _, _, _, callX false [] [] Try.func45 (by decide) rfl (registry_described_ac x_1 e_9 r_12 h_r_12) rfl ⟨(argE (by (conv => lhs; whnf); all_goals rfl) rfl), (argE (by (conv => lhs; whnf); all_goals rfl) rfl), trivial⟩ rfl trivial rfl rfl rfl lend0 trivial, ?_⟩
              conv => whnf
              obtain ⟨l_13, h_l_13, hL1⟩ := bind_some hL1
              refine sub_q10 (enc := encBag) (l := a_6) h_l_13 rfl (fun n_l_13 f_l_13 => ?_)
              conv => whnf
              obtain ⟨l_14, h_l_14, hL1⟩ := bind_some hL1
              refine ⟨sub_lo f_l_13, sub_le f_l_13, (fun m e => by cases e), ?_⟩
              conv => whnf
              refine ap_q (enc := encBag) (l := ([r_12] : List Bag)) (y := l_13) h_l_14 rfl (sub_part f_l_13) (by decide) ?_
              conv => whnf
              obtain ⟨l_15, h_l_15, hL1⟩ := bind_some hL1
              refine ⟨rfl, rfl, sub_le f_l_11, ?_⟩
              conv => whnf
              refine ap_q (enc := encBag) (l := l_11) (y := l_14) h_l_15 (sub_take f_l_11) rfl (by decide) ?_
              conv => whnf
              refine ⟨by kernel_rfl, ?_⟩
              conv => whnf
              refine ⟨((k_8 + 1 : Nat) : Int), wrapE (by omega) (by omega) (by omega), ?_⟩
              conv => whnf
              exact ⟨(k_8 + 1, l_15), [0, 1, 8], [], [], ⟨hlt_k_8, hL1⟩, by show r_4.length - (k_8 + 1) < r_4.length - k_8; omega, wk_mk [0, 1, 8] [] [] rfl ⟨argP (id := 0) (by (conv => lhs; whnf); all_goals rfl) rfl, argP (id := 1) (by (conv => lhs; whnf); all_goals rfl) rfl, argO (id := 8) (by (conv => lhs; whnf); all_goals rfl) rfl, argE (by (conv => lhs; whnf); all_goals rfl) rfl, argE (by (conv => lhs; whnf); all_goals rfl) rfl, argE (by (conv => lhs; whnf); all_goals rfl) rfl, trivial⟩ ⟨boxL rfl rfl rfl ⟨(.ni _ rfl), (.ni _ rfl), (.ni _ rfl), (.ni _ rfl), (.ni _ rfl), (.ni _ rfl), (.ni _ rfl), (.ni _ rfl), (.ni _ rfl), (.ni _ rfl), (.ni _ rfl), (.ni _ rfl), (.ni _ rfl), (.ni _ rfl), (.ni _ rfl), (.ni _ rfl), (.ni _ rfl), (.ni _ rfl), (.ni _ rfl), (.ni _ rfl), (.ni _ rfl), (.ni _ rfl), (.ni _ rfl), (.ni _ rfl), (.ni _ rfl), (.ni _ rfl), (.ni _ rfl), (.ni _ rfl), (.ni _ rfl), (.ni _ rfl), trivial⟩, boxL rfl rfl rfl ⟨(.ni _ rfl), trivial⟩, blkR (fun _ => ⟨rfl, rfl⟩) rfl rfl, trivial⟩⟩
            · replace hL1 := cond_f hb_19 hL1
              conv => whnf
              refine ⟨fun hb_20 => ?_, fun hb_20 => ?_⟩
              · replace hL1 := cond_t hb_20 hL1
                conv => whnf
                obtain ⟨l_16, h_l_16, hL1⟩ := bind_some hL1
                refine sub_q01m (enc := encBag) (l := a_6) h_l_16 rfl (fun m_l_16 f_l_16 => ?_)
                conv => whnf
                refine ⟨_, rfl, ?_⟩
                conv => whnf
                obtain ⟨l_17, h_l_17, hL1⟩ := bind_some hL1
                refine sub_q10 (enc := encBag) (l := a_6) h_l_17 rfl (fun n_l_17 f_l_17 => ?_)
                conv => whnf
                obtain ⟨l_18, h_l_18, hL1⟩ := bind_some hL1
                refine ⟨rfl, rfl, sub_le f_l_16, ?_⟩
                conv => whnf
                refine ⟨sub_lo f_l_17, sub_le f_l_17, (fun m e => by cases e), ?_⟩
                conv => whnf
                refine ap_q (enc := encBag) (l := l_16) (y := l_17) h_l_18 (sub_take f_l_16) (sub_part f_l_17) (by decide) ?_
                conv => whnf
                refine ⟨by kernel_rfl, ?_⟩
                conv => whnf
                refine ⟨((k_8 + 1 : Nat) : Int), wrapE (by omega) (by omega) (by omega), ?_⟩
                conv => whnf
                exact ⟨(k_8 + 1, l_18), [0, 1, 5], [], [], ⟨hlt_k_8, hL1⟩, by show r_4.length - (k_8 + 1) < r_4.length - k_8; omega, wk_mk [0, 1, 5] [] [] rfl ⟨argP (id := 0) (by (conv => lhs; whnf); all_goals rfl) rfl, argP (id := 1) (by (conv => lhs; whnf); all_goals rfl) rfl, argO (id := 5) (by (conv => lhs; whnf); all_goals rfl) rfl, argE (by (conv => lhs; whnf); all_goals rfl) rfl, argE (by (conv => lhs; whnf); all_goals rfl) rfl, argE (by (conv => lhs; whnf); all_goals rfl) rfl, trivial⟩ ⟨boxL rfl rfl rfl ⟨(.ni _ rfl), (.ni _ rfl), (.ni _ rfl), (.ni _ rfl), (.ni _ rfl), (.ni _ rfl), (.ni _ rfl), (.ni _ rfl), (.ni _ rfl), (.ni _ rfl), (.ni _ rfl), (.ni _ rfl), (.ni _ rfl), (.ni _ rfl), (.ni _ rfl), (.ni _ rfl), (.ni _ rfl), (.ni _ rfl), (.ni _ rfl), (.ni _ rfl), (.ni _ rfl), (.ni _ rfl), (.ni _ rfl), (.ni _ rfl), (.ni _ rfl), (.ni _ rfl), (.ni _ rfl), (.ni _ rfl), (.ni _ rfl), (.ni _ rfl), trivial⟩, boxL rfl rfl rfl ⟨(.ni _ rfl), trivial⟩, blkR (fun _ => ⟨rfl, rfl⟩) rfl rfl, trivial⟩⟩
              · replace hL1 := cond_f hb_20 hL1
                conv => whnf
                obtain ⟨e_19, h_e_19, hL1⟩ := bind_some hL1
                refine ixo_q (enc := encBag) (l := a_6) h_e_19 rfl (fun m_e_19 hm_e_19 hx_e_19 => ?_)
                conv => whnf
                refine ⟨_, ix_map hx_e_19, ?_⟩
                conv => whnf
                obtain ⟨r_20, h_r_20, hL1⟩ := bind_some hL1
                refine ⟨_, _, _, _, _, _, _, _, callX false [] [] Try.func46 (by decide) rfl (registry_change_ac e_19 x_1 r_20 h_r_20) rfl ⟨(argE (by (conv => lhs; whnf); all_goals rfl) rfl), (argE (by (conv => lhs; whnf); all_goals rfl) rfl), trivial⟩ rfl trivial rfl rfl rfl lend0 trivial, ?_⟩
                conv => whnf
                obtain ⟨e_21, h_e_21, hL1⟩ := bind_some hL1
                refine ixo_q (enc := encBag) (l := a_6) h_e_21 rfl (fun m_e_21 hm_e_21 hx_e_21 => ?_)
                conv => whnf
                refine st_q (enc := encBag) (l := a_6) (x' := r_20) (i := r_10.1) hm_e_21 hx_e_21 rfl (Nat.le_of_ble_eq_true rfl) rfl ?_
                conv => whnf
                refine ⟨by kernel_rfl, ?_⟩
                conv => whnf
                refine ⟨((k_8 + 1 : Nat) : Int), wrapE (by omega) (by omega) (by omega), ?_⟩
                conv => whnf
                exact ⟨(k_8 + 1, (a_6.set r_10.1.toNat r_20)), [0, 1, 2], [], [], ⟨hlt_k_8, hL1⟩, by show r_4.length - (k_8 + 1) < r_4.length - k_8; omega, wk_mk [0, 1, 2] [] [] rfl ⟨argP (id := 0) (by (conv => lhs; whnf); all_goals rfl) rfl, argP (id := 1) (by (conv => lhs; whnf); all_goals rfl) rfl, argO (id := 2) (by (conv => lhs; whnf); all_goals rfl) rfl, argE (by (conv => lhs; whnf); all_goals rfl) rfl, argE (by (conv => lhs; whnf); all_goals rfl) rfl, argE (by (conv => lhs; whnf); all_goals rfl) rfl, trivial⟩ ⟨boxL rfl rfl rfl ⟨(.ni _ rfl), (.ni _ rfl), (.ni _ rfl), (.ni _ rfl), (.ni _ rfl), (.ni _ rfl), (.ni _ rfl), (.ni _ rfl), (.ni _ rfl), (.ni _ rfl), (.ni _ rfl), (.ni _ rfl), (.ni _ rfl), (.ni _ rfl), (.ni _ rfl), (.ni _ rfl), (.ni _ rfl), (.ni _ rfl), (.ni _ rfl), (.ni _ rfl), (.ni _ rfl), (.ni _ rfl), (.ni _ rfl), (.ni _ rfl), (.ni _ rfl), (.ni _ rfl), (.ni _ rfl), (.ni _ rfl), (.ni _ rfl), (.ni _ rfl), trivial⟩, boxL rfl rfl rfl ⟨(.ni _ rfl), trivial⟩, blkR (fun _ => ⟨rfl, rfl⟩) rfl rfl, trivial⟩⟩
          · rw [drop_nil (show r_4.length ≤ k_8 by have h := of_decide_eq_false h; omega), registry_Apply_L1.eq_1] at hL1
            conv => whnf
            obtain rfl := Option.some.inj hL1
            replace hF := fin_brk hF
            try dsimp only at hF
            obtain rfl := Option.some.inj hF
            exact ret_gz [] [] [2] rfl (tupL rfl ⟨(argA (c := [.osl 2]) (by (conv => lhs; whnf); all_goals rfl) rfl ⟨(.osl 2 25 _ (by simp) rfl (map_ni (fun _ => ⟨rfl, rfl⟩) _)), trivial⟩), (argE (by (conv => lhs; whnf); all_goals rfl) rfl), trivial⟩) trivial

set_option maxRecDepth 100000 in
set_option maxHeartbeats 40000000 in
theorem registry_Find_ac (x_0 : Registry) (x_1 : Plate) (r : Bag × Bool) (hF : registry_Find x_0 x_1 = some r) : AC Try.prog 21 [.agg (encRegistry x_0), .agg (encPlate x_1)] [] (.tup [.agg (encBag r.1), .bool r.2]) [] := by
  refine ac_of tab_ok follows_ok Try.func21 rfl Try.ntmps21 rfl ?_
  unfold registry_Find at hF
  conv => whnf
  obtain ⟨r_1, h_r_1, hF⟩ := bind_some hF
  refine ⟨_, _, _, _, _, _, _, _, callX false [] [] Try.func17 (by decide) rfl (registry_Validate_ac x_0 r_1 h_r_1) rfl ⟨(argE (by (conv => lhs; whnf); all_goals rfl) rfl), trivial⟩ rfl trivial rfl rfl rfl lend0 trivial, ?_⟩
  conv => whnf
  refine ⟨fun hb_3 => ?_, fun hb_3 => ?_⟩
  · replace hF := cond_t hb_3 hF
    conv => whnf
    obtain rfl := Option.some.inj hF
    exact ret_gz [] [] [] rfl (tupL rfl ⟨(argA (c := [.int .i64 (0 : Int), .int .i64 (0 : Int), .int .i64 (0 : Int), .str (⟨#[]⟩ : ByteArray), .int .i64 (0 : Int), .str (⟨#[]⟩ : ByteArray), .int .i64 (0 : Int), .str (⟨#[]⟩ : ByteArray), .str (⟨#[]⟩ : ByteArray), .str (⟨#[]⟩ : ByteArray), .int .i64 (0 : Int), .str (⟨#[]⟩ : ByteArray), .int .i64 (0 : Int), .str (⟨#[]⟩ : ByteArray), .str (⟨#[]⟩ : ByteArray), .nils, .int .i64 (0 : Int), .int .i64 (0 : Int), .int .i64 (0 : Int), .fls, .str (⟨#[]⟩ : ByteArray), .str (⟨#[]⟩ : ByteArray), .int .i64 (0 : Int), .str (⟨#[]⟩ : ByteArray), .fls]) (by (conv => lhs; whnf); all_goals rfl) rfl ⟨(.ni _ rfl), (.ni _ rfl), (.ni _ rfl), (.ni _ rfl), (.ni _ rfl), (.ni _ rfl), (.ni _ rfl), (.ni _ rfl), (.ni _ rfl), (.ni _ rfl), (.ni _ rfl), (.ni _ rfl), (.ni _ rfl), (.ni _ rfl), (.ni _ rfl), (.nils _), (.ni _ rfl), (.ni _ rfl), (.ni _ rfl), .fls, (.ni _ rfl), (.ni _ rfl), (.ni _ rfl), (.ni _ rfl), .fls, trivial⟩), (argFl (by (conv => lhs; whnf); all_goals rfl)), trivial⟩) trivial
  · replace hF := cond_f hb_3 hF
    conv => whnf
    obtain ⟨r_2, h_r_2, hF⟩ := bind_some hF
    refine ⟨_, _, _, _, _, _, _, _, callX false [] [] Try.func44 (by decide) rfl (registry_at_ac x_0.L x_1 r_2 h_r_2) rfl ⟨(argE (by (conv => lhs; whnf); all_goals rfl) rfl), (argE (by (conv => lhs; whnf); all_goals rfl) rfl), trivial⟩ rfl trivial rfl rfl rfl lend0 trivial, ?_⟩
    conv => whnf
    refine ⟨fun hb_4 => ?_, fun hb_4 => ?_⟩
    · replace hF := cond_t hb_4 hF
      conv => whnf
      obtain rfl := Option.some.inj hF
      exact ret_gz [] [] [] rfl (tupL rfl ⟨(argA (c := [.int .i64 (0 : Int), .int .i64 (0 : Int), .int .i64 (0 : Int), .str (⟨#[]⟩ : ByteArray), .int .i64 (0 : Int), .str (⟨#[]⟩ : ByteArray), .int .i64 (0 : Int), .str (⟨#[]⟩ : ByteArray), .str (⟨#[]⟩ : ByteArray), .str (⟨#[]⟩ : ByteArray), .int .i64 (0 : Int), .str (⟨#[]⟩ : ByteArray), .int .i64 (0 : Int), .str (⟨#[]⟩ : ByteArray), .str (⟨#[]⟩ : ByteArray), .nils, .int .i64 (0 : Int), .int .i64 (0 : Int), .int .i64 (0 : Int), .fls, .str (⟨#[]⟩ : ByteArray), .str (⟨#[]⟩ : ByteArray), .int .i64 (0 : Int), .str (⟨#[]⟩ : ByteArray), .fls]) (by (conv => lhs; whnf); all_goals rfl) rfl ⟨(.ni _ rfl), (.ni _ rfl), (.ni _ rfl), (.ni _ rfl), (.ni _ rfl), (.ni _ rfl), (.ni _ rfl), (.ni _ rfl), (.ni _ rfl), (.ni _ rfl), (.ni _ rfl), (.ni _ rfl), (.ni _ rfl), (.ni _ rfl), (.ni _ rfl), (.nils _), (.ni _ rfl), (.ni _ rfl), (.ni _ rfl), .fls, (.ni _ rfl), (.ni _ rfl), (.ni _ rfl), (.ni _ rfl), .fls, trivial⟩), (argFl (by (conv => lhs; whnf); all_goals rfl)), trivial⟩) trivial
    · replace hF := cond_f hb_4 hF
      conv => whnf
      obtain ⟨e_3, h_e_3, hF⟩ := bind_some hF
      refine ix_q (enc := encBag) (l := x_0.L) h_e_3 rfl (fun m_e_3 hm_e_3 hx_e_3 => ?_)
      conv => whnf
      obtain ⟨r_4, h_r_4, hF⟩ := bind_some hF
      refine ⟨_, _, _, _, _, _, _, _, callX false [] [] Try.func57 (by decide) rfl (registry_copied_ac e_3 r_4 h_r_4) rfl ⟨(argE (by (conv => lhs; whnf); all_goals rfl) rfl), trivial⟩ rfl trivial rfl rfl rfl lend0 trivial, ?_⟩
      conv => whnf
      obtain rfl := Option.some.inj hF
      exact ret_gz [] [] [] rfl (tupL rfl ⟨(argE (by (conv => lhs; whnf); all_goals rfl) rfl), (argT (by (conv => lhs; whnf); all_goals rfl)), trivial⟩) trivial

set_option maxRecDepth 100000 in
set_option maxHeartbeats 40000000 in
theorem law06_awake_ac (r : Bool) (hF : law06_awake = some r) : AC Try.prog 10 [] [] (.bool r) [] := by
  refine ac_of tab_ok follows_ok Try.func10 rfl Try.ntmps10 rfl ?_
  unfold law06_awake at hF
  conv => whnf
  obtain ⟨r_1, h_r_1, hF⟩ := bind_some hF
  refine ⟨_, _, _, _, _, _, _, _, callX false [] [] Try.func26 (by decide) rfl (law06_source_ac (⟨(0 : Int), (117 : Int), (1 : Int)⟩ : Plate) (2 : Int) r_1 h_r_1) rfl ⟨(argE (by (conv => lhs; whnf); all_goals rfl) rfl), (argE (by (conv => lhs; whnf); all_goals rfl) rfl), trivial⟩ rfl trivial rfl rfl rfl lend0 trivial, ?_⟩
  conv => whnf
  obtain ⟨r_2, h_r_2, hF⟩ := bind_some hF
  refine ⟨_, _, _, _, _, _, _, _, callX false [] [] Try.func14 (by decide) rfl (registry_Apply_ac (⟨([] : (List Bag))⟩ : Registry) r_1 r_2 h_r_2) rfl ⟨(argA (c := [.nils]) (by (conv => lhs; whnf); all_goals rfl) rfl ⟨(.nils _), trivial⟩), (argE (by (conv => lhs; whnf); all_goals rfl) rfl), trivial⟩ rfl trivial rfl rfl rfl lend0 trivial, ?_⟩
  conv => whnf
  obtain ⟨r_3, h_r_3, hF⟩ := bind_some hF
  refine ⟨_, _, _, _, _, _, _, _, callX false [] [] Try.func21 (by decide) rfl (registry_Find_ac r_2.1 (⟨(0 : Int), (117 : Int), (2 : Int)⟩ : Plate) r_3 h_r_3) rfl ⟨(argE (by (conv => lhs; whnf); all_goals rfl) rfl), (argE (by (conv => lhs; whnf); all_goals rfl) rfl), trivial⟩ rfl trivial rfl rfl rfl lend0 trivial, ?_⟩
  conv => whnf
  refine ⟨fun hb_5 => ?_, fun hb_5 => ?_⟩
  · replace hF := cond_t hb_5 hF
    conv => whnf
    refine len_q (enc := encBag) (l := r_2.1.L) rfl ?_
    conv => whnf
    refine ⟨fun hb_6 => ?_, fun hb_6 => ?_⟩
    · replace hF := cond_t hb_6 hF
      conv => whnf
      refine ⟨fun hb_7 => ?_, fun hb_7 => ?_⟩
      · replace hF := cond_t hb_7 hF
        conv => whnf
        refine ⟨fun hb_8 => ?_, fun hb_8 => ?_⟩
        · replace hF := cond_t hb_8 hF
          conv => whnf
          obtain rfl := Option.some.inj hF
          exact ret_gz [] [] [] rfl (argE (by (conv => lhs; whnf); all_goals rfl) rfl) trivial
        · replace hF := cond_f hb_8 hF
          conv => whnf
          obtain rfl := Option.some.inj hF
          exact ret_gz [] [] [] rfl (argFl (by (conv => lhs; whnf); all_goals rfl)) trivial
      · replace hF := cond_f hb_7 hF
        conv => whnf
        obtain rfl := Option.some.inj hF
        exact ret_gz [] [] [] rfl (argFl (by (conv => lhs; whnf); all_goals rfl)) trivial
    · replace hF := cond_f hb_6 hF
      conv => whnf
      obtain rfl := Option.some.inj hF
      exact ret_gz [] [] [] rfl (argFl (by (conv => lhs; whnf); all_goals rfl)) trivial
  · replace hF := cond_f hb_5 hF
    conv => whnf
    obtain rfl := Option.some.inj hF
    exact ret_gz [] [] [] rfl (argFl (by (conv => lhs; whnf); all_goals rfl)) trivial

set_option maxRecDepth 100000 in
set_option maxHeartbeats 40000000 in
theorem keep_New_ac (x_0 : (List Int)) (r : Src) (hF : keep_New x_0 = some r) : AC Try.prog 11 [.lst 1 (x_0.map iA)] [] (.ptr 0 0) [.box (encSrc r)] := by
  refine ac_of tab_ok follows_ok Try.func11 rfl Try.ntmps11 rfl ?_
  unfold keep_New at hF
  conv => whnf
  refine len_q (enc := iA) (l := x_0) rfl ?_
  conv => whnf
  refine ⟨fun hb_2 => ?_, fun hb_2 => ?_⟩
  · replace hF := cond_t hb_2 hF
    conv => whnf
    obtain ⟨l_1, h_l_1, hF⟩ := bind_some hF
    refine sl_q0 (enc := iA) (l := x_0) h_l_1 rfl ?_
    conv => whnf
    obtain rfl := Option.some.inj hF
    exact ret_gz [0] [] [] rfl (argP (id := 0) (by (conv => lhs; whnf); all_goals rfl) rfl) ⟨boxL rfl rfl rfl ⟨(.ni _ rfl), (.ni _ rfl), trivial⟩, trivial⟩
  · replace hF := cond_f hb_2 hF
    conv => whnf
    obtain rfl := Option.some.inj hF
    exact ret_gz [0] [] [] rfl (argP (id := 0) (by (conv => lhs; whnf); all_goals rfl) rfl) ⟨boxL rfl rfl rfl ⟨(.ni _ rfl), (.ni _ rfl), trivial⟩, trivial⟩

set_option maxRecDepth 100000 in
set_option maxHeartbeats 40000000 in
theorem keep_Src_Raw_ac (x_0 : Src) (r : Int × Src) (hF : keep_Src_Raw x_0 = some r) : AC Try.prog 63 [.ptr 0 0] [.box (encSrc x_0)] (.int .i64 r.1) [.box (encSrc r.2)] := by
  refine ac_of tab_ok follows_ok Try.func63 rfl Try.ntmps63 rfl ?_
  unfold keep_Src_Raw at hF
  conv => whnf
  refine len_q (enc := iA) (l := x_0.L) rfl ?_
  conv => whnf
  refine ⟨by kernel_rfl, ?_⟩
  conv => whnf
  refine ⟨fun hb_2 => ?_, fun hb_2 => ?_⟩
  · replace hF := cond_t hb_2 hF
    conv => whnf
    obtain rfl := Option.some.inj hF
    exact ret_gz [0] [] [] rfl (argE (by (conv => lhs; whnf); all_goals rfl) rfl) ⟨boxL rfl rfl rfl ⟨(.ni _ rfl), (.ni _ rfl), trivial⟩, trivial⟩
  · replace hF := cond_f hb_2 hF
    conv => whnf
    refine ⟨_, rfl, ?_⟩
    conv => whnf
    refine ⟨_, rfl, ?_⟩
    conv => whnf
    obtain ⟨e_1, h_e_1, hF⟩ := bind_some hF
    refine ix_q (enc := iA) (l := x_0.L) h_e_1 rfl (fun m_e_1 hm_e_1 hx_e_1 => ?_)
    conv => whnf
    refine ⟨by kernel_rfl, ?_⟩
    conv => whnf
    obtain rfl := Option.some.inj hF
    exact ret_gz [0] [] [] rfl (argE (by (conv => lhs; whnf); all_goals rfl) rfl) ⟨boxL rfl rfl rfl ⟨(.ni _ rfl), (.ni _ rfl), trivial⟩, trivial⟩

set_option maxRecDepth 100000 in
set_option maxHeartbeats 40000000 in
theorem keep_Mod_ac (x_0 : Int) (x_1 : Int) (r : Int) (hF : keep_Mod x_0 x_1 = some r) : AC Try.prog 24 [.int .i64 x_0, .int .i64 x_1] [] (.int .i64 r) [] := by
  refine ac_of tab_ok follows_ok Try.func24 rfl Try.ntmps24 rfl ?_
  unfold keep_Mod at hF
  conv => whnf
  refine ⟨fun hb_3 => ?_, fun hb_3 => ?_⟩
  · replace hF := cond_t hb_3 hF
    conv => whnf
    obtain rfl := Option.some.inj hF
    exact ret_gz [] [] [] rfl (argE (by (conv => lhs; whnf); all_goals rfl) rfl) trivial
  · replace hF := cond_f hb_3 hF
    conv => whnf
    obtain ⟨u_1, h_u_1, hF⟩ := bind_some hF
    refine ⟨nz_some h_u_1, _, rfl, ?_⟩
    conv => whnf
    refine ⟨fun hb_4 => ?_, fun hb_4 => ?_⟩
    · replace hF := cond_t hb_4 hF
      conv => whnf
      refine ⟨_, rfl, ?_⟩
      conv => whnf
      obtain rfl := Option.some.inj hF
      exact ret_gz [] [] [] rfl (argE (by (conv => lhs; whnf); all_goals rfl) rfl) trivial
    · replace hF := cond_f hb_4 hF
      conv => whnf
      obtain rfl := Option.some.inj hF
      exact ret_gz [] [] [] rfl (argE (by (conv => lhs; whnf); all_goals rfl) rfl) trivial

set_option maxRecDepth 100000 in
set_option maxHeartbeats 40000000 in
theorem keep_Src_N_ac (x_0 : Src) (x_1 : Int) (r : Int × Src) (hF : keep_Src_N x_0 x_1 = some r) : AC Try.prog 38 [.ptr 0 0, .int .i64 x_1] [.box (encSrc x_0)] (.int .i64 r.1) [.box (encSrc r.2)] := by
  refine ac_of tab_ok follows_ok Try.func38 rfl Try.ntmps38 rfl ?_
  unfold keep_Src_N at hF
  conv => whnf
  obtain ⟨r_1, h_r_1, hF⟩ := bind_some hF
  refine ⟨_, _, _, _, _, _, _, _, callX false [0] [] Try.func63 (by decide) rfl (keep_Src_Raw_ac x_0 r_1 h_r_1) rfl ⟨(argP (id := 0) (by (conv => lhs; whnf); all_goals rfl) rfl), trivial⟩ rfl ⟨rfl, trivial⟩ rfl rfl rfl lend0 ⟨rfl, trivial⟩, ?_⟩
  conv => whnf
  obtain ⟨r_2, h_r_2, hF⟩ := bind_some hF
  refine ⟨_, _, _, _, _, _, _, _, callX false [] [] Try.func24 (by decide) rfl (keep_Mod_ac r_1.1 x_1 r_2 h_r_2) rfl ⟨(argE (by (conv => lhs; whnf); all_goals rfl) rfl), (argE (by (conv => lhs; whnf); all_goals rfl) rfl), trivial⟩ rfl trivial rfl rfl rfl lend0 trivial, ?_⟩
  conv => whnf
  obtain rfl := Option.some.inj hF
  exact ret_gz [0] [] [] rfl (argE (by (conv => lhs; whnf); all_goals rfl) rfl) ⟨boxL rfl rfl rfl ⟨(.ni _ rfl), (.ni _ rfl), trivial⟩, trivial⟩

set_option maxRecDepth 100000 in
set_option maxHeartbeats 40000000 in
theorem keep_Src_Range_ac (x_0 : Src) (x_1 : Int) (x_2 : Int) (r : Int × Src) (hF : keep_Src_Range x_0 x_1 x_2 = some r) : AC Try.prog 23 [.ptr 0 0, .int .i64 x_1, .int .i64 x_2] [.box (encSrc x_0)] (.int .i64 r.1) [.box (encSrc r.2)] := by
  refine ac_of tab_ok follows_ok Try.func23 rfl Try.ntmps23 rfl ?_
  unfold keep_Src_Range at hF
  conv => whnf
  refine ⟨_, rfl, ?_⟩
  conv => whnf
  refine ⟨_, rfl, ?_⟩
  conv => whnf
  obtain ⟨r_1, h_r_1, hF⟩ := bind_some hF
  refine ⟨_, _, _, _, _, _, _, _, callX false [0] [] Try.func38 (by decide) rfl (keep_Src_N_ac x_0 (w64 ((w64 (x_2 - x_1)) + (1 : Int))) r_1 h_r_1) rfl ⟨(argP (id := 0) (by (conv => lhs; whnf); all_goals rfl) rfl), (argE (by (conv => lhs; whnf); all_goals rfl) rfl), trivial⟩ rfl ⟨rfl, trivial⟩ rfl rfl rfl lend0 ⟨rfl, trivial⟩, ?_⟩
  conv => whnf
  refine ⟨_, rfl, ?_⟩
  conv => whnf
  obtain rfl := Option.some.inj hF
  exact ret_gz [0] [] [] rfl (argE (by (conv => lhs; whnf); all_goals rfl) rfl) ⟨boxL rfl rfl rfl ⟨(.ni _ rfl), (.ni _ rfl), trivial⟩, trivial⟩

set_option maxRecDepth 100000 in
set_option maxHeartbeats 40000000 in
theorem keep_Src_Text_ac (x_0 : Src) (x_1 : (List ByteArray)) (r : ByteArray × Src) (hF : keep_Src_Text x_0 x_1 = some r) : AC Try.prog 35 [.ptr 0 0, .lst 1 (x_1.map sA)] [.box (encSrc x_0)] (.str r.1) [.box (encSrc r.2)] := by
  refine ac_of tab_ok follows_ok Try.func35 rfl Try.ntmps35 rfl ?_
  unfold keep_Src_Text at hF
  conv => whnf
  refine len_q (enc := sA) (l := x_1) rfl ?_
  conv => whnf
  obtain ⟨r_1, h_r_1, hF⟩ := bind_some hF
  refine ⟨_, _, _, _, _, _, _, _, callX false [0] [] Try.func38 (by decide) rfl (keep_Src_N_ac x_0 (x_1.length : Int) r_1 h_r_1) rfl ⟨(argP (id := 0) (by (conv => lhs; whnf); all_goals rfl) rfl), (argE (by (conv => lhs; whnf); all_goals rfl) rfl), trivial⟩ rfl ⟨rfl, trivial⟩ rfl rfl rfl lend0 ⟨rfl, trivial⟩, ?_⟩
  conv => whnf
  obtain ⟨e_2, h_e_2, hF⟩ := bind_some hF
  refine ix_q (enc := sA) (l := x_1) h_e_2 rfl (fun m_e_2 hm_e_2 hx_e_2 => ?_)
  conv => whnf
  obtain rfl := Option.some.inj hF
  exact ret_gz [0] [] [] rfl (argE (by (conv => lhs; whnf); all_goals rfl) rfl) ⟨boxL rfl rfl rfl ⟨(.ni _ rfl), (.ni _ rfl), trivial⟩, trivial⟩

set_option maxRecDepth 100000 in
set_option maxHeartbeats 40000000 in
theorem keep_Src_Pick_ac (x_0 : Src) (x_1 : (List Int)) (r : Int × Src) (hF : keep_Src_Pick x_0 x_1 = some r) : AC Try.prog 39 [.ptr 0 0, .lst 1 (x_1.map iA)] [.box (encSrc x_0)] (.int .i64 r.1) [.box (encSrc r.2)] := by
  refine ac_of tab_ok follows_ok Try.func39 rfl Try.ntmps39 rfl ?_
  unfold keep_Src_Pick at hF
  conv => whnf
  refine len_q (enc := iA) (l := x_1) rfl ?_
  conv => whnf
  obtain ⟨r_1, h_r_1, hF⟩ := bind_some hF
  refine ⟨_, _, _, _, _, _, _, _, callX false [0] [] Try.func38 (by decide) rfl (keep_Src_N_ac x_0 (x_1.length : Int) r_1 h_r_1) rfl ⟨(argP (id := 0) (by (conv => lhs; whnf); all_goals rfl) rfl), (argE (by (conv => lhs; whnf); all_goals rfl) rfl), trivial⟩ rfl ⟨rfl, trivial⟩ rfl rfl rfl lend0 ⟨rfl, trivial⟩, ?_⟩
  conv => whnf
  obtain ⟨e_2, h_e_2, hF⟩ := bind_some hF
  refine ix_q (enc := iA) (l := x_1) h_e_2 rfl (fun m_e_2 hm_e_2 hx_e_2 => ?_)
  conv => whnf
  obtain rfl := Option.some.inj hF
  exact ret_gz [0] [] [] rfl (argE (by (conv => lhs; whnf); all_goals rfl) rfl) ⟨boxL rfl rfl rfl ⟨(.ni _ rfl), (.ni _ rfl), trivial⟩, trivial⟩

set_option maxRecDepth 100000 in
set_option maxHeartbeats 40000000 in
theorem keep_Src_AnyPlate_ac (x_0 : Src) (r : Plate × Src) (hF : keep_Src_AnyPlate x_0 = some r) : AC Try.prog 27 [.ptr 0 0] [.box (encSrc x_0)] (.agg (encPlate r.1)) [.box (encSrc r.2)] := by
  refine ac_of tab_ok follows_ok Try.func27 rfl Try.ntmps27 rfl ?_
  unfold keep_Src_AnyPlate at hF
  conv => whnf
  obtain ⟨r_1, h_r_1, hF⟩ := bind_some hF
  refine ⟨_, _, _, _, _, _, _, _, callX false [0] [] Try.func38 (by decide) rfl (keep_Src_N_ac x_0 (2 : Int) r_1 h_r_1) rfl ⟨(argP (id := 0) (by (conv => lhs; whnf); all_goals rfl) rfl), (argE (by (conv => lhs; whnf); all_goals rfl) rfl), trivial⟩ rfl ⟨rfl, trivial⟩ rfl rfl rfl lend0 ⟨rfl, trivial⟩, ?_⟩
  conv => whnf
  obtain ⟨r_2, h_r_2, hF⟩ := bind_some hF
  refine ⟨_, _, _, _, _, _, _, _, callX false [0] [] Try.func38 (by decide) rfl (keep_Src_N_ac r_1.2 (2 : Int) r_2 h_r_2) rfl ⟨(argP (id := 0) (by (conv => lhs; whnf); all_goals rfl) rfl), (argE (by (conv => lhs; whnf); all_goals rfl) rfl), trivial⟩ rfl ⟨rfl, trivial⟩ rfl rfl rfl lend0 ⟨rfl, trivial⟩, ?_⟩
  conv => whnf
  refine ⟨_, rfl, ?_⟩
  conv => whnf
  obtain ⟨r_3, h_r_3, hF⟩ := bind_some hF
  refine ⟨_, _, _, _, _, _, _, _, callX true [0] [4] Try.func39 (by decide) rfl (keep_Src_Pick_ac r_2.2 ([(0 : Int), (1 : Int), (2 : Int), (3 : Int), (5 : Int), (999998 : Int), (999999 : Int)] : List Int) r_3 h_r_3) rfl ⟨(argP (id := 0) (by (conv => lhs; whnf); all_goals rfl) rfl), (argOL 4 (by (conv => lhs; whnf); all_goals rfl) rfl rfl (map_ni (fun _ => ⟨rfl, rfl⟩) _)), trivial⟩ rfl ⟨rfl, trivial⟩ rfl rfl rfl (giveU rfl) ⟨rfl, trivial⟩, ?_⟩
  conv => whnf
  obtain rfl := Option.some.inj hF
  exact ret_gz [0] [] [] rfl (argE (by (conv => lhs; whnf); all_goals rfl) rfl) ⟨boxL rfl rfl rfl ⟨(.ni _ rfl), (.ni _ rfl), trivial⟩, trivial⟩

set_option maxRecDepth 100000 in
set_option maxHeartbeats 40000000 in
theorem keep_Src_Letters_ac (x_0 : Src) (x_1 : Int) (x_2 : Int) (r : ByteArray × Src) (hF : keep_Src_Letters x_0 x_1 x_2 = some r) : AC Try.prog 36 [.ptr 0 0, .int .i64 x_1, .int .i64 x_2] [.box (encSrc x_0)] (.str r.1) [.box (encSrc r.2)] := by
  refine ac_of tab_ok follows_ok Try.func36 rfl Try.ntmps36 rfl ?_
  unfold keep_Src_Letters at hF
  conv => whnf
  obtain ⟨r_1, h_r_1, hF⟩ := bind_some hF
  refine ⟨_, _, _, _, _, _, _, _, callX false [0] [] Try.func23 (by decide) rfl (keep_Src_Range_ac x_0 x_1 x_2 r_1 h_r_1) rfl ⟨(argP (id := 0) (by (conv => lhs; whnf); all_goals rfl) rfl), (argE (by (conv => lhs; whnf); all_goals rfl) rfl), (argE (by (conv => lhs; whnf); all_goals rfl) rfl), trivial⟩ rfl ⟨rfl, trivial⟩ rfl rfl rfl lend0 ⟨rfl, trivial⟩, ?_⟩
  conv => whnf
  obtain ⟨l_2, h_l_2, hF⟩ := bind_some hF
  refine mk_q (enc := (kA .u8)) h_l_2 rfl (by decide) ?_
  conv => whnf
  obtain ⟨c_1, hc_1, hF⟩ := fin_some hF
  refine sw_loop tab_ok follows_ok (fun y : Nat × (List Int) × Int × (List Int) × Int => keep_Src_Letters_L1 y.1 y.2.1 y.2.2.1 y.2.2.2.1 y.2.2.2.2 = some c_1) (fun y => ⟨eL [(0, .ptr 0 0), (7, .osl 1), (8, .int .i64 y.2.2.2.2)], hL [(0, .box [.lst 1 (y.2.1.map iA), .int .i64 y.2.2.1]), (1, .row 1 (y.2.2.2.1.map (kA .u8)))], 2⟩) (fun y => y.1) (9223372036854775807, r_1.2.L, r_1.2.At, l_2, (0 : Int)) hc_1 (wk_mk [0, 2] [] [] rfl ⟨argP (id := 0) (by (conv => lhs; whnf); all_goals rfl) rfl, argO (id := 2) (by (conv => lhs; whnf); all_goals rfl) rfl, argE (by (conv => lhs; whnf); all_goals rfl) rfl, trivial⟩ ⟨boxL rfl rfl rfl ⟨(.ni _ rfl), (.ni _ rfl), trivial⟩, blkR (fun _ => ⟨rfl, rfl⟩) rfl rfl, trivial⟩) ?_
  rintro ⟨q_9, a_3, i_4, a_5, i_6⟩ hL1
  try dsimp only at hL1
  rcases q_9 with _ | q_9
  · rw [keep_Src_Letters_L1.eq_1] at hL1
    cases hL1
  rw [keep_Src_Letters_L1.eq_2] at hL1
  show awp _ _ _ _ _ _ ⟨eL [(0, .ptr 0 0), (7, .osl 1), (8, .int .i64 i_6)], hL [(0, .box [.lst 1 (a_3.map iA), .int .i64 i_4]), (1, .row 1 (a_5.map (kA .u8)))], 2⟩
  conv => whnf
  refine len_q (enc := (kA .u8)) (l := a_5) rfl ?_
  conv => whnf
  refine ⟨fun hb_5 => ?_, fun hb_5 => ?_⟩
  · replace hL1 := cond_t hb_5 hL1
    conv => whnf
    obtain ⟨r_7, h_r_7, hL1⟩ := bind_some hL1
    refine ⟨_, _, _, _, _, _, _, _, callX false [0] [] Try.func38 (by decide) rfl (keep_Src_N_ac (⟨a_3, i_4⟩ : Src) (26 : Int) r_7 h_r_7) rfl ⟨(argP (id := 0) (by (conv => lhs; whnf); all_goals rfl) rfl), (argE (by (conv => lhs; whnf); all_goals rfl) rfl), trivial⟩ rfl ⟨rfl, trivial⟩ rfl rfl rfl lend0 ⟨rfl, trivial⟩, ?_⟩
    conv => whnf
    refine ⟨_, rfl, ?_⟩
    conv => whnf
    refine ⟨_, rfl, ?_⟩
    conv => whnf
    obtain ⟨e_8, h_e_8, hL1⟩ := bind_some hL1
    refine ixo_q (enc := (kA .u8)) (l := a_5) h_e_8 rfl (fun m_e_8 hm_e_8 hx_e_8 => ?_)
    conv => whnf
    refine st_q (enc := (kA .u8)) (l := a_5) (x' := (IntKind.u8.wrap (w64 ((65 : Int) + r_7.1)))) (i := i_6) hm_e_8 hx_e_8 rfl (Nat.le_of_ble_eq_true rfl) rfl ?_
    conv => whnf
    refine ⟨_, rfl, ?_⟩
    conv => whnf
    exact ⟨(q_9, r_7.2.L, r_7.2.At, (a_5.set i_6.toNat (IntKind.u8.wrap (w64 ((65 : Int) + r_7.1)))), (w64 (i_6 + (1 : Int)))), [0, 1], [], [], hL1, Nat.lt_succ_self _, wk_mk [0, 1] [] [] rfl ⟨argP (id := 0) (by (conv => lhs; whnf); all_goals rfl) rfl, argO (id := 1) (by (conv => lhs; whnf); all_goals rfl) rfl, argE (by (conv => lhs; whnf); all_goals rfl) rfl, trivial⟩ ⟨boxL rfl rfl rfl ⟨(.ni _ rfl), (.ni _ rfl), trivial⟩, blkR (fun _ => ⟨rfl, rfl⟩) rfl rfl, trivial⟩⟩
  · replace hL1 := cond_f hb_5 hL1
    conv => whnf
    obtain rfl := Option.some.inj hL1
    replace hF := fin_brk hF
    try dsimp only at hF
    refine ⟨a_5, rfl, ?_⟩
    conv => whnf
    obtain rfl := Option.some.inj hF
    exact ret_gz [0] [] [] rfl (argE (by (conv => lhs; whnf); all_goals rfl) rfl) ⟨boxL rfl rfl rfl ⟨(.ni _ rfl), (.ni _ rfl), trivial⟩, trivial⟩

set_option maxRecDepth 100000 in
set_option maxHeartbeats 40000000 in
theorem keep_Src_AnyFlight_ac (x_0 : Src) (r : Flight × Src) (hF : keep_Src_AnyFlight x_0 = some r) : AC Try.prog 28 [.ptr 0 0] [.box (encSrc x_0)] (.agg (encFlight r.1)) [.box (encSrc r.2)] := by
  refine ac_of tab_ok follows_ok Try.func28 rfl Try.ntmps28 rfl ?_
  unfold keep_Src_AnyFlight at hF
  conv => whnf
  obtain ⟨r_1, h_r_1, hF⟩ := bind_some hF
  refine ⟨_, _, _, _, _, _, _, _, callX true [0] [2] Try.func35 (by decide) rfl (keep_Src_Text_ac x_0 ([(⟨#[83, 75]⟩ : ByteArray), (⟨#[65, 89]⟩ : ByteArray), (⟨#[52, 85]⟩ : ByteArray)] : List ByteArray) r_1 h_r_1) rfl ⟨(argP (id := 0) (by (conv => lhs; whnf); all_goals rfl) rfl), (argOL 2 (by (conv => lhs; whnf); all_goals rfl) rfl rfl (map_ni (fun _ => ⟨rfl, rfl⟩) _)), trivial⟩ rfl ⟨rfl, trivial⟩ rfl rfl rfl (giveU rfl) ⟨rfl, trivial⟩, ?_⟩
  conv => whnf
  obtain ⟨r_2, h_r_2, hF⟩ := bind_some hF
  refine ⟨_, _, _, _, _, _, _, _, callX true [0] [4] Try.func39 (by decide) rfl (keep_Src_Pick_ac r_1.2 ([(1 : Int), (123 : Int), (9999 : Int)] : List Int) r_2 h_r_2) rfl ⟨(argP (id := 0) (by (conv => lhs; whnf); all_goals rfl) rfl), (argOL 4 (by (conv => lhs; whnf); all_goals rfl) rfl rfl (map_ni (fun _ => ⟨rfl, rfl⟩) _)), trivial⟩ rfl ⟨rfl, trivial⟩ rfl rfl rfl (giveU rfl) ⟨rfl, trivial⟩, ?_⟩
  conv => whnf
  obtain ⟨r_3, h_r_3, hF⟩ := bind_some hF
  refine ⟨_, _, _, _, _, _, _, _, callX true [0] [6] Try.func35 (by decide) rfl (keep_Src_Text_ac r_2.2 ([(⟨#[]⟩ : ByteArray), (⟨#[]⟩ : ByteArray), (⟨#[65]⟩ : ByteArray)] : List ByteArray) r_3 h_r_3) rfl ⟨(argP (id := 0) (by (conv => lhs; whnf); all_goals rfl) rfl), (argOL 6 (by (conv => lhs; whnf); all_goals rfl) rfl rfl (map_ni (fun _ => ⟨rfl, rfl⟩) _)), trivial⟩ rfl ⟨rfl, trivial⟩ rfl rfl rfl (giveU rfl) ⟨rfl, trivial⟩, ?_⟩
  conv => whnf
  obtain ⟨r_4, h_r_4, hF⟩ := bind_some hF
  refine ⟨_, _, _, _, _, _, _, _, callX true [0] [8] Try.func39 (by decide) rfl (keep_Src_Pick_ac r_3.2 ([(7 : Int), (8 : Int), (0 : Int), (99 : Int)] : List Int) r_4 h_r_4) rfl ⟨(argP (id := 0) (by (conv => lhs; whnf); all_goals rfl) rfl), (argOL 8 (by (conv => lhs; whnf); all_goals rfl) rfl rfl (map_ni (fun _ => ⟨rfl, rfl⟩) _)), trivial⟩ rfl ⟨rfl, trivial⟩ rfl rfl rfl (giveU rfl) ⟨rfl, trivial⟩, ?_⟩
  conv => whnf
  obtain rfl := Option.some.inj hF
  exact ret_gz [0] [] [] rfl (argE (by (conv => lhs; whnf); all_goals rfl) rfl) ⟨boxL rfl rfl rfl ⟨(.ni _ rfl), (.ni _ rfl), trivial⟩, trivial⟩

set_option maxRecDepth 100000 in
set_option maxHeartbeats 40000000 in
theorem keep_Src_Leg_ac (x_0 : Src) (r : Leg × Src) (hF : keep_Src_Leg x_0 = some r) : AC Try.prog 37 [.ptr 0 0] [.box (encSrc x_0)] (.agg (encLeg r.1)) [.box (encSrc r.2)] := by
  refine ac_of tab_ok follows_ok Try.func37 rfl Try.ntmps37 rfl ?_
  unfold keep_Src_Leg at hF
  conv => whnf
  obtain ⟨r_1, h_r_1, hF⟩ := bind_some hF
  refine ⟨_, _, _, _, _, _, _, _, callX false [0] [] Try.func28 (by decide) rfl (keep_Src_AnyFlight_ac x_0 r_1 h_r_1) rfl ⟨(argP (id := 0) (by (conv => lhs; whnf); all_goals rfl) rfl), trivial⟩ rfl ⟨rfl, trivial⟩ rfl rfl rfl lend0 ⟨rfl, trivial⟩, ?_⟩
  conv => whnf
  obtain ⟨r_2, h_r_2, hF⟩ := bind_some hF
  refine ⟨_, _, _, _, _, _, _, _, callX true [0] [3] Try.func35 (by decide) rfl (keep_Src_Text_ac r_1.2 ([(⟨#[67, 80, 72]⟩ : ByteArray), (⟨#[65, 82, 78]⟩ : ByteArray), (⟨#[79, 83, 76]⟩ : ByteArray)] : List ByteArray) r_2 h_r_2) rfl ⟨(argP (id := 0) (by (conv => lhs; whnf); all_goals rfl) rfl), (argOL 3 (by (conv => lhs; whnf); all_goals rfl) rfl rfl (map_ni (fun _ => ⟨rfl, rfl⟩) _)), trivial⟩ rfl ⟨rfl, trivial⟩ rfl rfl rfl (giveU rfl) ⟨rfl, trivial⟩, ?_⟩
  conv => whnf
  obtain ⟨r_3, h_r_3, hF⟩ := bind_some hF
  refine ⟨_, _, _, _, _, _, _, _, callX true [0] [5] Try.func35 (by decide) rfl (keep_Src_Text_ac r_2.2 ([(⟨#[89]⟩ : ByteArray), (⟨#[67]⟩ : ByteArray), (⟨#[70]⟩ : ByteArray)] : List ByteArray) r_3 h_r_3) rfl ⟨(argP (id := 0) (by (conv => lhs; whnf); all_goals rfl) rfl), (argOL 5 (by (conv => lhs; whnf); all_goals rfl) rfl rfl (map_ni (fun _ => ⟨rfl, rfl⟩) _)), trivial⟩ rfl ⟨rfl, trivial⟩ rfl rfl rfl (giveU rfl) ⟨rfl, trivial⟩, ?_⟩
  conv => whnf
  obtain rfl := Option.some.inj hF
  exact ret_gz [0] [] [] rfl (argE (by (conv => lhs; whnf); all_goals rfl) rfl) ⟨boxL rfl rfl rfl ⟨(.ni _ rfl), (.ni _ rfl), trivial⟩, trivial⟩

set_option maxRecDepth 100000 in
set_option maxHeartbeats 40000000 in
theorem keep_Src_Message_ac (x_0 : Src) (x_1 : Int) (r : Message × Src) (hF : keep_Src_Message x_0 x_1 = some r) : AC Try.prog 13 [.ptr 0 0, .int .i64 x_1] [.box (encSrc x_0)] (.agg (encMessage r.1)) [.box (encSrc r.2)] := by
  refine ac_of tab_ok follows_ok Try.func13 rfl Try.ntmps13 rfl ?_
  unfold keep_Src_Message at hF
  conv => whnf
  refine ⟨fun hb_34 => ?_, fun hb_34 => ?_⟩
  · replace hF := cond_t hb_34 hF
    conv => whnf
    obtain ⟨r_1, h_r_1, hF⟩ := bind_some hF
    refine ⟨_, _, _, _, _, _, _, _, callX false [0] [] Try.func23 (by decide) rfl (keep_Src_Range_ac x_0 (1 : Int) (5 : Int) r_1 h_r_1) rfl ⟨(argP (id := 0) (by (conv => lhs; whnf); all_goals rfl) rfl), (argE (by (conv => lhs; whnf); all_goals rfl) rfl), (argE (by (conv => lhs; whnf); all_goals rfl) rfl), trivial⟩ rfl ⟨rfl, trivial⟩ rfl rfl rfl lend0 ⟨rfl, trivial⟩, ?_⟩
    conv => whnf
    obtain ⟨r_2, h_r_2, hF⟩ := bind_some hF
    refine ⟨_, _, _, _, _, _, _, _, callX true [0] [3] Try.func35 (by decide) rfl (keep_Src_Text_ac r_1.2 ([(⟨#[65, 82, 78]⟩ : ByteArray), (⟨#[67, 80, 72]⟩ : ByteArray)] : List ByteArray) r_2 h_r_2) rfl ⟨(argP (id := 0) (by (conv => lhs; whnf); all_goals rfl) rfl), (argOL 3 (by (conv => lhs; whnf); all_goals rfl) rfl rfl (map_ni (fun _ => ⟨rfl, rfl⟩) _)), trivial⟩ rfl ⟨rfl, trivial⟩ rfl rfl rfl (giveU rfl) ⟨rfl, trivial⟩, ?_⟩
    conv => whnf
    obtain ⟨r_3, h_r_3, hF⟩ := bind_some hF
    refine ⟨_, _, _, _, _, _, _, _, callX false [0] [] Try.func23 (by decide) rfl (keep_Src_Range_ac r_2.2 (1 : Int) (12 : Int) r_3 h_r_3) rfl ⟨(argP (id := 0) (by (conv => lhs; whnf); all_goals rfl) rfl), (argE (by (conv => lhs; whnf); all_goals rfl) rfl), (argE (by (conv => lhs; whnf); all_goals rfl) rfl), trivial⟩ rfl ⟨rfl, trivial⟩ rfl rfl rfl lend0 ⟨rfl, trivial⟩, ?_⟩
    conv => whnf
    refine ⟨fun hb_35 => ?_, fun hb_35 => ?_⟩
    · replace hF := cond_t hb_35 hF
      conv => whnf
      obtain ⟨r_4, h_r_4, hF⟩ := bind_some hF
      refine ⟨_, _, _, _, _, _, _, _, callX false [0] [] Try.func27 (by decide) rfl (keep_Src_AnyPlate_ac r_3.2 r_4 h_r_4) rfl ⟨(argP (id := 0) (by (conv => lhs; whnf); all_goals rfl) rfl), trivial⟩ rfl ⟨rfl, trivial⟩ rfl rfl rfl lend0 ⟨rfl, trivial⟩, ?_⟩
      conv => whnf
      obtain ⟨r_5, h_r_5, hF⟩ := bind_some hF
      refine ⟨_, _, _, _, _, _, _, _, callX false [0] [] Try.func23 (by decide) rfl (keep_Src_Range_ac r_4.2 (1 : Int) (3 : Int) r_5 h_r_5) rfl ⟨(argP (id := 0) (by (conv => lhs; whnf); all_goals rfl) rfl), (argE (by (conv => lhs; whnf); all_goals rfl) rfl), (argE (by (conv => lhs; whnf); all_goals rfl) rfl), trivial⟩ rfl ⟨rfl, trivial⟩ rfl rfl rfl lend0 ⟨rfl, trivial⟩, ?_⟩
      conv => whnf
      obtain ⟨r_6, h_r_6, hF⟩ := bind_some hF
      refine ⟨_, _, _, _, _, _, _, _, callX false [0] [] Try.func36 (by decide) rfl (keep_Src_Letters_ac r_5.2 (1 : Int) (4 : Int) r_6 h_r_6) rfl ⟨(argP (id := 0) (by (conv => lhs; whnf); all_goals rfl) rfl), (argE (by (conv => lhs; whnf); all_goals rfl) rfl), (argE (by (conv => lhs; whnf); all_goals rfl) rfl), trivial⟩ rfl ⟨rfl, trivial⟩ rfl rfl rfl lend0 ⟨rfl, trivial⟩, ?_⟩
      conv => whnf
      obtain rfl := Option.some.inj hF
      exact ret_gz [0] [] [] rfl (argA (c := [.int .i64 r_1.1, .int .i64 (0 : Int), .str r_2.1, .int .i64 r_3.1, .str (⟨#[]⟩ : ByteArray), .int .i64 (0 : Int), .str (⟨#[]⟩ : ByteArray), .int .i64 (0 : Int), .str (⟨#[]⟩ : ByteArray), .str (⟨#[]⟩ : ByteArray), .str (⟨#[]⟩ : ByteArray), .int .i64 (0 : Int), .str (⟨#[]⟩ : ByteArray), .int .i64 (0 : Int), .str (⟨#[]⟩ : ByteArray), .str (⟨#[]⟩ : ByteArray), .nils, .int .i64 r_4.1.Lead, .int .i64 r_4.1.Airline, .int .i64 r_4.1.Serial, .int .i64 r_5.1, .fls, .int .i64 (0 : Int), .int .i64 (0 : Int), .int .i64 (0 : Int), .str (⟨#[]⟩ : ByteArray), .str (⟨#[]⟩ : ByteArray), .int .i64 (0 : Int), .str r_6.1, .nils]) (by (conv => lhs; whnf); all_goals rfl) rfl ⟨(.ni _ rfl), (.ni _ rfl), (.ni _ rfl), (.ni _ rfl), (.ni _ rfl), (.ni _ rfl), (.ni _ rfl), (.ni _ rfl), (.ni _ rfl), (.ni _ rfl), (.ni _ rfl), (.ni _ rfl), (.ni _ rfl), (.ni _ rfl), (.ni _ rfl), (.ni _ rfl), (.nils _), (.ni _ rfl), (.ni _ rfl), (.ni _ rfl), (.ni _ rfl), .fls, (.ni _ rfl), (.ni _ rfl), (.ni _ rfl), (.ni _ rfl), (.ni _ rfl), (.ni _ rfl), (.ni _ rfl), (.nils _), trivial⟩) ⟨boxL rfl rfl rfl ⟨(.ni _ rfl), (.ni _ rfl), trivial⟩, trivial⟩
    · replace hF := cond_f hb_35 hF
      conv => whnf
      refine ⟨fun hb_36 => ?_, fun hb_36 => ?_⟩
      · replace hF := cond_t hb_36 hF
        conv => whnf
        obtain ⟨r_7, h_r_7, hF⟩ := bind_some hF
        refine ⟨_, _, _, _, _, _, _, _, callX false [0] [] Try.func27 (by decide) rfl (keep_Src_AnyPlate_ac r_3.2 r_7 h_r_7) rfl ⟨(argP (id := 0) (by (conv => lhs; whnf); all_goals rfl) rfl), trivial⟩ rfl ⟨rfl, trivial⟩ rfl rfl rfl lend0 ⟨rfl, trivial⟩, ?_⟩
        conv => whnf
        obtain ⟨r_8, h_r_8, hF⟩ := bind_some hF
        refine ⟨_, _, _, _, _, _, _, _, callX false [0] [] Try.func23 (by decide) rfl (keep_Src_Range_ac r_7.2 (1 : Int) (3 : Int) r_8 h_r_8) rfl ⟨(argP (id := 0) (by (conv => lhs; whnf); all_goals rfl) rfl), (argE (by (conv => lhs; whnf); all_goals rfl) rfl), (argE (by (conv => lhs; whnf); all_goals rfl) rfl), trivial⟩ rfl ⟨rfl, trivial⟩ rfl rfl rfl lend0 ⟨rfl, trivial⟩, ?_⟩
        conv => whnf
        obtain ⟨r_9, h_r_9, hF⟩ := bind_some hF
        refine ⟨_, _, _, _, _, _, _, _, callX false [0] [] Try.func37 (by decide) rfl (keep_Src_Leg_ac r_8.2 r_9 h_r_9) rfl ⟨(argP (id := 0) (by (conv => lhs; whnf); all_goals rfl) rfl), trivial⟩ rfl ⟨rfl, trivial⟩ rfl rfl rfl lend0 ⟨rfl, trivial⟩, ?_⟩
        conv => whnf
        obtain rfl := Option.some.inj hF
        exact ret_gz [0] [] [] rfl (argA (c := [.int .i64 r_1.1, .int .i64 (0 : Int), .str r_2.1, .int .i64 r_3.1, .str (⟨#[]⟩ : ByteArray), .int .i64 (0 : Int), .str (⟨#[]⟩ : ByteArray), .int .i64 (0 : Int), .str (⟨#[]⟩ : ByteArray), .str (⟨#[]⟩ : ByteArray), .str r_9.1.Flight.Carrier, .int .i64 r_9.1.Flight.Number, .str r_9.1.Flight.Suffix, .int .i64 r_9.1.Flight.Day, .str r_9.1.Port, .str r_9.1.Class, .nils, .int .i64 r_7.1.Lead, .int .i64 r_7.1.Airline, .int .i64 r_7.1.Serial, .int .i64 r_8.1, .fls, .int .i64 (0 : Int), .int .i64 (0 : Int), .int .i64 (0 : Int), .str (⟨#[]⟩ : ByteArray), .str (⟨#[]⟩ : ByteArray), .int .i64 (0 : Int), .str (⟨#[]⟩ : ByteArray), .nils]) (by (conv => lhs; whnf); all_goals rfl) rfl ⟨(.ni _ rfl), (.ni _ rfl), (.ni _ rfl), (.ni _ rfl), (.ni _ rfl), (.ni _ rfl), (.ni _ rfl), (.ni _ rfl), (.ni _ rfl), (.ni _ rfl), (.ni _ rfl), (.ni _ rfl), (.ni _ rfl), (.ni _ rfl), (.ni _ rfl), (.ni _ rfl), (.nils _), (.ni _ rfl), (.ni _ rfl), (.ni _ rfl), (.ni _ rfl), .fls, (.ni _ rfl), (.ni _ rfl), (.ni _ rfl), (.ni _ rfl), (.ni _ rfl), (.ni _ rfl), (.ni _ rfl), (.nils _), trivial⟩) ⟨boxL rfl rfl rfl ⟨(.ni _ rfl), (.ni _ rfl), trivial⟩, trivial⟩
      · replace hF := cond_f hb_36 hF
        conv => whnf
        refine ⟨fun hb_37 => ?_, fun hb_37 => ?_⟩
        · replace hF := cond_t hb_37 hF
          conv => whnf
          obtain ⟨r_10, h_r_10, hF⟩ := bind_some hF
          refine ⟨_, _, _, _, _, _, _, _, callX false [0] [] Try.func37 (by decide) rfl (keep_Src_Leg_ac r_3.2 r_10 h_r_10) rfl ⟨(argP (id := 0) (by (conv => lhs; whnf); all_goals rfl) rfl), trivial⟩ rfl ⟨rfl, trivial⟩ rfl rfl rfl lend0 ⟨rfl, trivial⟩, ?_⟩
          conv => whnf
          obtain ⟨r_11, h_r_11, hF⟩ := bind_some hF
          refine ⟨_, _, _, _, _, _, _, _, callX false [0] [] Try.func38 (by decide) rfl (keep_Src_N_ac r_10.2 (12 : Int) r_11 h_r_11) rfl ⟨(argP (id := 0) (by (conv => lhs; whnf); all_goals rfl) rfl), (argE (by (conv => lhs; whnf); all_goals rfl) rfl), trivial⟩ rfl ⟨rfl, trivial⟩ rfl rfl rfl lend0 ⟨rfl, trivial⟩, ?_⟩
          conv => whnf
          obtain ⟨c_1, hc_1, hF⟩ := fin_some hF
          refine sw_loop tab_ok follows_ok (fun y : Nat × (List Int) × Int × (List Int) × Int × Int => keep_Src_Message_L1 y.1 y.2.1 y.2.2.1 y.2.2.2.1 y.2.2.2.2.1 y.2.2.2.2.2 = some c_1) (fun y => ⟨eL [(0, .ptr 0 0), (4, .ptr 1 0), (5, .ptr 2 0), (6, .int .i64 y.2.2.2.2.1), (7, .int .i64 y.2.2.2.2.2)], hL [(0, .box [.lst 1 (y.2.1.map iA), .int .i64 y.2.2.1]), (1, .box [.int .i64 (0 : Int), .int .i64 (0 : Int), .str (⟨#[]⟩ : ByteArray), .int .i64 (0 : Int), .str (⟨#[]⟩ : ByteArray), .int .i64 (0 : Int), .str (⟨#[]⟩ : ByteArray), .int .i64 (0 : Int), .str (⟨#[]⟩ : ByteArray), .str (⟨#[]⟩ : ByteArray), .str (⟨#[]⟩ : ByteArray), .int .i64 (0 : Int), .str (⟨#[]⟩ : ByteArray), .int .i64 (0 : Int), .str (⟨#[]⟩ : ByteArray), .str (⟨#[]⟩ : ByteArray), .nils, .int .i64 (0 : Int), .int .i64 (0 : Int), .int .i64 (0 : Int), .int .i64 (0 : Int), .fls, .int .i64 (0 : Int), .int .i64 (0 : Int), .int .i64 (0 : Int), .str (⟨#[]⟩ : ByteArray), .str (⟨#[]⟩ : ByteArray), .int .i64 (0 : Int), .str (⟨#[]⟩ : ByteArray), .nils]), (2, .box [.int .i64 r_1.1, .int .i64 (0 : Int), .str r_2.1, .int .i64 r_3.1, .str (⟨#[]⟩ : ByteArray), .int .i64 (0 : Int), .str (⟨#[]⟩ : ByteArray), .int .i64 (0 : Int), .str (⟨#[]⟩ : ByteArray), .str (⟨#[]⟩ : ByteArray), .str r_10.1.Flight.Carrier, .int .i64 r_10.1.Flight.Number, .str r_10.1.Flight.Suffix, .int .i64 r_10.1.Flight.Day, .str r_10.1.Port, .str r_10.1.Class, .nils, .int .i64 (0 : Int), .int .i64 (0 : Int), .int .i64 (0 : Int), .int .i64 (0 : Int), .fls, .int .i64 (0 : Int), .int .i64 (0 : Int), .int .i64 (0 : Int), .str (⟨#[]⟩ : ByteArray), .str (⟨#[]⟩ : ByteArray), .int .i64 (0 : Int), .str (⟨#[]⟩ : ByteArray), .osl 3]), (3, .row 1 (y.2.2.2.1.map iA))], 4⟩) (fun y => y.1) (9223372036854775807, r_11.2.L, r_11.2.At, ([] : List Int), (0 : Int), r_11.1) hc_1 (wk_mk [0, 1, 6] [3] [] rfl ⟨argP (id := 0) (by (conv => lhs; whnf); all_goals rfl) rfl, argP (id := 1) (by (conv => lhs; whnf); all_goals rfl) rfl, argP (id := 6) (by (conv => lhs; whnf); all_goals rfl) rfl, argE (by (conv => lhs; whnf); all_goals rfl) rfl, argE (by (conv => lhs; whnf); all_goals rfl) rfl, trivial⟩ ⟨boxL rfl rfl rfl ⟨(.ni _ rfl), (.ni _ rfl), trivial⟩, boxL rfl rfl rfl ⟨(.ni _ rfl), (.ni _ rfl), (.ni _ rfl), (.ni _ rfl), (.ni _ rfl), (.ni _ rfl), (.ni _ rfl), (.ni _ rfl), (.ni _ rfl), (.ni _ rfl), (.ni _ rfl), (.ni _ rfl), (.ni _ rfl), (.ni _ rfl), (.ni _ rfl), (.ni _ rfl), (.ni _ rfl), (.ni _ rfl), (.ni _ rfl), (.ni _ rfl), (.ni _ rfl), (.ni _ rfl), (.ni _ rfl), (.ni _ rfl), (.ni _ rfl), (.ni _ rfl), (.ni _ rfl), (.ni _ rfl), (.ni _ rfl), (.ni _ rfl), trivial⟩, boxL rfl rfl rfl ⟨(.ni _ rfl), (.ni _ rfl), (.ni _ rfl), (.ni _ rfl), (.ni _ rfl), (.ni _ rfl), (.ni _ rfl), (.ni _ rfl), (.ni _ rfl), (.ni _ rfl), (.ni _ rfl), (.ni _ rfl), (.ni _ rfl), (.ni _ rfl), (.ni _ rfl), (.ni _ rfl), (.ni _ rfl), (.ni _ rfl), (.ni _ rfl), (.ni _ rfl), (.ni _ rfl), (.ni _ rfl), (.ni _ rfl), (.ni _ rfl), (.ni _ rfl), (.ni _ rfl), (.ni _ rfl), (.ni _ rfl), (.ni _ rfl), (.nilz 3 (by simp)), trivial⟩, blkZ rfl, trivial⟩) ?_
          rintro ⟨q_19, a_12, i_13, a_14, i_15, i_16⟩ hL1
          try dsimp only at hL1
          rcases q_19 with _ | q_19
          · rw [keep_Src_Message_L1.eq_1] at hL1
            cases hL1
          rw [keep_Src_Message_L1.eq_2] at hL1
          show awp _ _ _ _ _ _ ⟨eL [(0, .ptr 0 0), (4, .ptr 1 0), (5, .ptr 2 0), (6, .int .i64 i_15), (7, .int .i64 i_16)], hL [(0, .box [.lst 1 (a_12.map iA), .int .i64 i_13]), (1, .box [.int .i64 (0 : Int), .int .i64 (0 : Int), .str (⟨#[]⟩ : ByteArray), .int .i64 (0 : Int), .str (⟨#[]⟩ : ByteArray), .int .i64 (0 : Int), .str (⟨#[]⟩ : ByteArray), .int .i64 (0 : Int), .str (⟨#[]⟩ : ByteArray), .str (⟨#[]⟩ : ByteArray), .str (⟨#[]⟩ : ByteArray), .int .i64 (0 : Int), .str (⟨#[]⟩ : ByteArray), .int .i64 (0 : Int), .str (⟨#[]⟩ : ByteArray), .str (⟨#[]⟩ : ByteArray), .nils, .int .i64 (0 : Int), .int .i64 (0 : Int), .int .i64 (0 : Int), .int .i64 (0 : Int), .fls, .int .i64 (0 : Int), .int .i64 (0 : Int), .int .i64 (0 : Int), .str (⟨#[]⟩ : ByteArray), .str (⟨#[]⟩ : ByteArray), .int .i64 (0 : Int), .str (⟨#[]⟩ : ByteArray), .nils]), (2, .box [.int .i64 r_1.1, .int .i64 (0 : Int), .str r_2.1, .int .i64 r_3.1, .str (⟨#[]⟩ : ByteArray), .int .i64 (0 : Int), .str (⟨#[]⟩ : ByteArray), .int .i64 (0 : Int), .str (⟨#[]⟩ : ByteArray), .str (⟨#[]⟩ : ByteArray), .str r_10.1.Flight.Carrier, .int .i64 r_10.1.Flight.Number, .str r_10.1.Flight.Suffix, .int .i64 r_10.1.Flight.Day, .str r_10.1.Port, .str r_10.1.Class, .nils, .int .i64 (0 : Int), .int .i64 (0 : Int), .int .i64 (0 : Int), .int .i64 (0 : Int), .fls, .int .i64 (0 : Int), .int .i64 (0 : Int), .int .i64 (0 : Int), .str (⟨#[]⟩ : ByteArray), .str (⟨#[]⟩ : ByteArray), .int .i64 (0 : Int), .str (⟨#[]⟩ : ByteArray), .osl 3]), (3, .row 1 (a_14.map iA))], 4⟩
          conv => whnf
          refine ⟨fun hb_38 => ?_, fun hb_38 => ?_⟩
          · replace hL1 := cond_t hb_38 hL1
            conv => whnf
            obtain ⟨r_17, h_r_17, hL1⟩ := bind_some hL1
            refine ⟨_, _, _, _, _, _, _, _, callX false [0] [] Try.func23 (by decide) rfl (keep_Src_Range_ac (⟨a_12, i_13⟩ : Src) (1 : Int) (3 : Int) r_17 h_r_17) rfl ⟨(argP (id := 0) (by (conv => lhs; whnf); all_goals rfl) rfl), (argE (by (conv => lhs; whnf); all_goals rfl) rfl), (argE (by (conv => lhs; whnf); all_goals rfl) rfl), trivial⟩ rfl ⟨rfl, trivial⟩ rfl rfl rfl lend0 ⟨rfl, trivial⟩, ?_⟩
            conv => whnf
            refine ⟨_, rfl, ?_⟩
            conv => whnf
            obtain ⟨l_18, h_l_18, hL1⟩ := bind_some hL1
            refine ap_q (enc := iA) (l := a_14) (y := ([(w64 (i_15 + r_17.1))] : List Int)) h_l_18 rfl rfl (by decide) ?_
            conv => whnf
            refine ⟨_, rfl, ?_⟩
            conv => whnf
            exact ⟨(q_19, r_17.2.L, r_17.2.At, l_18, (w64 (i_15 + r_17.1)), (w64 (i_16 - (1 : Int)))), [0, 1, 2, 6], [], [], hL1, Nat.lt_succ_self _, wk_mk [0, 1, 2, 6] [] [] rfl ⟨argP (id := 0) (by (conv => lhs; whnf); all_goals rfl) rfl, argP (id := 1) (by (conv => lhs; whnf); all_goals rfl) rfl, argP (id := 2) (by (conv => lhs; whnf); all_goals rfl) rfl, argE (by (conv => lhs; whnf); all_goals rfl) rfl, argE (by (conv => lhs; whnf); all_goals rfl) rfl, trivial⟩ ⟨boxL rfl rfl rfl ⟨(.ni _ rfl), (.ni _ rfl), trivial⟩, boxL rfl rfl rfl ⟨(.ni _ rfl), (.ni _ rfl), (.ni _ rfl), (.ni _ rfl), (.ni _ rfl), (.ni _ rfl), (.ni _ rfl), (.ni _ rfl), (.ni _ rfl), (.ni _ rfl), (.ni _ rfl), (.ni _ rfl), (.ni _ rfl), (.ni _ rfl), (.ni _ rfl), (.ni _ rfl), (.ni _ rfl), (.ni _ rfl), (.ni _ rfl), (.ni _ rfl), (.ni _ rfl), (.ni _ rfl), (.ni _ rfl), (.ni _ rfl), (.ni _ rfl), (.ni _ rfl), (.ni _ rfl), (.ni _ rfl), (.ni _ rfl), (.ni _ rfl), trivial⟩, boxL rfl rfl rfl ⟨(.ni _ rfl), (.ni _ rfl), (.ni _ rfl), (.ni _ rfl), (.ni _ rfl), (.ni _ rfl), (.ni _ rfl), (.ni _ rfl), (.ni _ rfl), (.ni _ rfl), (.ni _ rfl), (.ni _ rfl), (.ni _ rfl), (.ni _ rfl), (.ni _ rfl), (.ni _ rfl), (.ni _ rfl), (.ni _ rfl), (.ni _ rfl), (.ni _ rfl), (.ni _ rfl), (.ni _ rfl), (.ni _ rfl), (.ni _ rfl), (.ni _ rfl), (.ni _ rfl), (.ni _ rfl), (.ni _ rfl), (.ni _ rfl), (.oslg 6 3 rfl), trivial⟩, blkR (fun _ => ⟨rfl, rfl⟩) rfl rfl, trivial⟩⟩
          · replace hL1 := cond_f hb_38 hL1
            conv => whnf
            obtain rfl := Option.some.inj hL1
            replace hF := fin_brk hF
            try dsimp only at hF
            obtain rfl := Option.some.inj hF
            exact ret_gz [0] [] [3] rfl (argA (c := [.int .i64 r_1.1, .int .i64 (0 : Int), .str r_2.1, .int .i64 r_3.1, .str (⟨#[]⟩ : ByteArray), .int .i64 (0 : Int), .str (⟨#[]⟩ : ByteArray), .int .i64 (0 : Int), .str (⟨#[]⟩ : ByteArray), .str (⟨#[]⟩ : ByteArray), .str r_10.1.Flight.Carrier, .int .i64 r_10.1.Flight.Number, .str r_10.1.Flight.Suffix, .int .i64 r_10.1.Flight.Day, .str r_10.1.Port, .str r_10.1.Class, .nils, .int .i64 (0 : Int), .int .i64 (0 : Int), .int .i64 (0 : Int), .int .i64 (0 : Int), .fls, .int .i64 (0 : Int), .int .i64 (0 : Int), .int .i64 (0 : Int), .str (⟨#[]⟩ : ByteArray), .str (⟨#[]⟩ : ByteArray), .int .i64 (0 : Int), .str (⟨#[]⟩ : ByteArray), .osl 3]) (by (conv => lhs; whnf); all_goals rfl) rfl ⟨(.ni _ rfl), (.ni _ rfl), (.ni _ rfl), (.ni _ rfl), (.ni _ rfl), (.ni _ rfl), (.ni _ rfl), (.ni _ rfl), (.ni _ rfl), (.ni _ rfl), (.ni _ rfl), (.ni _ rfl), (.ni _ rfl), (.ni _ rfl), (.ni _ rfl), (.ni _ rfl), (.nils _), (.ni _ rfl), (.ni _ rfl), (.ni _ rfl), (.ni _ rfl), .fls, (.ni _ rfl), (.ni _ rfl), (.ni _ rfl), (.ni _ rfl), (.ni _ rfl), (.ni _ rfl), (.ni _ rfl), (.osl 3 1 _ (by simp) rfl (map_ni (fun _ => ⟨rfl, rfl⟩) _)), trivial⟩) ⟨boxL rfl rfl rfl ⟨(.ni _ rfl), (.ni _ rfl), trivial⟩, trivial⟩
        · replace hF := cond_f hb_37 hF
          conv => whnf
          obtain ⟨r_21, h_r_21, hF⟩ := bind_some hF
          refine ⟨_, _, _, _, _, _, _, _, callX true [0] [7] Try.func39 (by decide) rfl (keep_Src_Pick_ac r_3.2 ([(0 : Int), (0 : Int), (1 : Int), (2 : Int)] : List Int) r_21 h_r_21) rfl ⟨(argP (id := 0) (by (conv => lhs; whnf); all_goals rfl) rfl), (argOL 7 (by (conv => lhs; whnf); all_goals rfl) rfl rfl (map_ni (fun _ => ⟨rfl, rfl⟩) _)), trivial⟩ rfl ⟨rfl, trivial⟩ rfl rfl rfl (giveU rfl) ⟨rfl, trivial⟩, ?_⟩
          conv => whnf
          obtain ⟨r_22, h_r_22, hF⟩ := bind_some hF
          refine ⟨_, _, _, _, _, _, _, _, callX false [0] [] Try.func37 (by decide) rfl (keep_Src_Leg_ac r_21.2 r_22 h_r_22) rfl ⟨(argP (id := 0) (by (conv => lhs; whnf); all_goals rfl) rfl), trivial⟩ rfl ⟨rfl, trivial⟩ rfl rfl rfl lend0 ⟨rfl, trivial⟩, ?_⟩
          conv => whnf
          obtain ⟨r_23, h_r_23, hF⟩ := bind_some hF
          refine ⟨_, _, _, _, _, _, _, _, callX false [0] [] Try.func27 (by decide) rfl (keep_Src_AnyPlate_ac r_22.2 r_23 h_r_23) rfl ⟨(argP (id := 0) (by (conv => lhs; whnf); all_goals rfl) rfl), trivial⟩ rfl ⟨rfl, trivial⟩ rfl rfl rfl lend0 ⟨rfl, trivial⟩, ?_⟩
          conv => whnf
          obtain ⟨r_24, h_r_24, hF⟩ := bind_some hF
          refine ⟨_, _, _, _, _, _, _, _, callX false [0] [] Try.func23 (by decide) rfl (keep_Src_Range_ac r_23.2 (1 : Int) (3 : Int) r_24 h_r_24) rfl ⟨(argP (id := 0) (by (conv => lhs; whnf); all_goals rfl) rfl), (argE (by (conv => lhs; whnf); all_goals rfl) rfl), (argE (by (conv => lhs; whnf); all_goals rfl) rfl), trivial⟩ rfl ⟨rfl, trivial⟩ rfl rfl rfl lend0 ⟨rfl, trivial⟩, ?_⟩
          conv => whnf
          refine ⟨fun hb_39 => ?_, fun hb_39 => ?_⟩
          · replace hF := cond_t hb_39 hF
            conv => whnf
            obtain ⟨r_25, h_r_25, hF⟩ := bind_some hF
            refine ⟨_, _, _, _, _, _, _, _, callX false [0] [] Try.func37 (by decide) rfl (keep_Src_Leg_ac r_24.2 r_25 h_r_25) rfl ⟨(argP (id := 0) (by (conv => lhs; whnf); all_goals rfl) rfl), trivial⟩ rfl ⟨rfl, trivial⟩ rfl rfl rfl lend0 ⟨rfl, trivial⟩, ?_⟩
            conv => whnf
            obtain ⟨r_26, h_r_26, hF⟩ := bind_some hF
            refine ⟨_, _, _, _, _, _, _, _, callX false [0] [] Try.func38 (by decide) rfl (keep_Src_N_ac r_25.2 (4 : Int) r_26 h_r_26) rfl ⟨(argP (id := 0) (by (conv => lhs; whnf); all_goals rfl) rfl), (argE (by (conv => lhs; whnf); all_goals rfl) rfl), trivial⟩ rfl ⟨rfl, trivial⟩ rfl rfl rfl lend0 ⟨rfl, trivial⟩, ?_⟩
            conv => whnf
            obtain ⟨c_2, hc_2, hF⟩ := fin_some hF
            refine sw_loop tab_ok follows_ok (fun y : Nat × (List Int) × Int × (List Leg) × Int => keep_Src_Message_L2 y.1 y.2.1 y.2.2.1 y.2.2.2.1 y.2.2.2.2 = some c_2) (fun y => ⟨eL [(0, .ptr 0 0), (4, .ptr 1 0), (5, .ptr 2 0), (8, .int .i64 y.2.2.2.2)], hL [(0, .box [.lst 1 (y.2.1.map iA), .int .i64 y.2.2.1]), (1, .box [.int .i64 (0 : Int), .int .i64 (0 : Int), .str (⟨#[]⟩ : ByteArray), .int .i64 (0 : Int), .str (⟨#[]⟩ : ByteArray), .int .i64 (0 : Int), .str (⟨#[]⟩ : ByteArray), .int .i64 (0 : Int), .str (⟨#[]⟩ : ByteArray), .str (⟨#[]⟩ : ByteArray), .str (⟨#[]⟩ : ByteArray), .int .i64 (0 : Int), .str (⟨#[]⟩ : ByteArray), .int .i64 (0 : Int), .str (⟨#[]⟩ : ByteArray), .str (⟨#[]⟩ : ByteArray), .nils, .int .i64 (0 : Int), .int .i64 (0 : Int), .int .i64 (0 : Int), .int .i64 (0 : Int), .fls, .int .i64 (0 : Int), .int .i64 (0 : Int), .int .i64 (0 : Int), .str (⟨#[]⟩ : ByteArray), .str (⟨#[]⟩ : ByteArray), .int .i64 (0 : Int), .str (⟨#[]⟩ : ByteArray), .nils]), (2, .box [.int .i64 r_1.1, .int .i64 r_21.1, .str r_2.1, .int .i64 r_3.1, .str r_25.1.Flight.Carrier, .int .i64 r_25.1.Flight.Number, .str r_25.1.Flight.Suffix, .int .i64 r_25.1.Flight.Day, .str r_25.1.Port, .str r_25.1.Class, .str r_22.1.Flight.Carrier, .int .i64 r_22.1.Flight.Number, .str r_22.1.Flight.Suffix, .int .i64 r_22.1.Flight.Day, .str r_22.1.Port, .str r_22.1.Class, .osl 3, .int .i64 r_23.1.Lead, .int .i64 r_23.1.Airline, .int .i64 r_23.1.Serial, .int .i64 r_24.1, .fls, .int .i64 (0 : Int), .int .i64 (0 : Int), .int .i64 (0 : Int), .str (⟨#[]⟩ : ByteArray), .str (⟨#[]⟩ : ByteArray), .int .i64 (0 : Int), .str (⟨#[]⟩ : ByteArray), .nils]), (3, .row 6 (y.2.2.2.1.map encLeg))], 4⟩) (fun y => y.1) (9223372036854775807, r_26.2.L, r_26.2.At, ([] : List Leg), r_26.1) hc_2 (wk_mk [0, 1, 6] [3] [] rfl ⟨argP (id := 0) (by (conv => lhs; whnf); all_goals rfl) rfl, argP (id := 1) (by (conv => lhs; whnf); all_goals rfl) rfl, argP (id := 6) (by (conv => lhs; whnf); all_goals rfl) rfl, argE (by (conv => lhs; whnf); all_goals rfl) rfl, trivial⟩ ⟨boxL rfl rfl rfl ⟨(.ni _ rfl), (.ni _ rfl), trivial⟩, boxL rfl rfl rfl ⟨(.ni _ rfl), (.ni _ rfl), (.ni _ rfl), (.ni _ rfl), (.ni _ rfl), (.ni _ rfl), (.ni _ rfl), (.ni _ rfl), (.ni _ rfl), (.ni _ rfl), (.ni _ rfl), (.ni _ rfl), (.ni _ rfl), (.ni _ rfl), (.ni _ rfl), (.ni _ rfl), (.ni _ rfl), (.ni _ rfl), (.ni _ rfl), (.ni _ rfl), (.ni _ rfl), (.ni _ rfl), (.ni _ rfl), (.ni _ rfl), (.ni _ rfl), (.ni _ rfl), (.ni _ rfl), (.ni _ rfl), (.ni _ rfl), (.ni _ rfl), trivial⟩, boxL rfl rfl rfl ⟨(.ni _ rfl), (.ni _ rfl), (.ni _ rfl), (.ni _ rfl), (.ni _ rfl), (.ni _ rfl), (.ni _ rfl), (.ni _ rfl), (.ni _ rfl), (.ni _ rfl), (.ni _ rfl), (.ni _ rfl), (.ni _ rfl), (.ni _ rfl), (.ni _ rfl), (.ni _ rfl), (.nilz 3 (by simp)), (.ni _ rfl), (.ni _ rfl), (.ni _ rfl), (.ni _ rfl), (.ni _ rfl), (.ni _ rfl), (.ni _ rfl), (.ni _ rfl), (.ni _ rfl), (.ni _ rfl), (.ni _ rfl), (.ni _ rfl), (.ni _ rfl), trivial⟩, blkZ rfl, trivial⟩) ?_
            rintro ⟨q_33, a_27, i_28, a_29, i_30⟩ hL1
            try dsimp only at hL1
            rcases q_33 with _ | q_33
            · rw [keep_Src_Message_L2.eq_1] at hL1
              cases hL1
            rw [keep_Src_Message_L2.eq_2] at hL1
            show awp _ _ _ _ _ _ ⟨eL [(0, .ptr 0 0), (4, .ptr 1 0), (5, .ptr 2 0), (8, .int .i64 i_30)], hL [(0, .box [.lst 1 (a_27.map iA), .int .i64 i_28]), (1, .box [.int .i64 (0 : Int), .int .i64 (0 : Int), .str (⟨#[]⟩ : ByteArray), .int .i64 (0 : Int), .str (⟨#[]⟩ : ByteArray), .int .i64 (0 : Int), .str (⟨#[]⟩ : ByteArray), .int .i64 (0 : Int), .str (⟨#[]⟩ : ByteArray), .str (⟨#[]⟩ : ByteArray), .str (⟨#[]⟩ : ByteArray), .int .i64 (0 : Int), .str (⟨#[]⟩ : ByteArray), .int .i64 (0 : Int), .str (⟨#[]⟩ : ByteArray), .str (⟨#[]⟩ : ByteArray), .nils, .int .i64 (0 : Int), .int .i64 (0 : Int), .int .i64 (0 : Int), .int .i64 (0 : Int), .fls, .int .i64 (0 : Int), .int .i64 (0 : Int), .int .i64 (0 : Int), .str (⟨#[]⟩ : ByteArray), .str (⟨#[]⟩ : ByteArray), .int .i64 (0 : Int), .str (⟨#[]⟩ : ByteArray), .nils]), (2, .box [.int .i64 r_1.1, .int .i64 r_21.1, .str r_2.1, .int .i64 r_3.1, .str r_25.1.Flight.Carrier, .int .i64 r_25.1.Flight.Number, .str r_25.1.Flight.Suffix, .int .i64 r_25.1.Flight.Day, .str r_25.1.Port, .str r_25.1.Class, .str r_22.1.Flight.Carrier, .int .i64 r_22.1.Flight.Number, .str r_22.1.Flight.Suffix, .int .i64 r_22.1.Flight.Day, .str r_22.1.Port, .str r_22.1.Class, .osl 3, .int .i64 r_23.1.Lead, .int .i64 r_23.1.Airline, .int .i64 r_23.1.Serial, .int .i64 r_24.1, .fls, .int .i64 (0 : Int), .int .i64 (0 : Int), .int .i64 (0 : Int), .str (⟨#[]⟩ : ByteArray), .str (⟨#[]⟩ : ByteArray), .int .i64 (0 : Int), .str (⟨#[]⟩ : ByteArray), .nils]), (3, .row 6 (a_29.map encLeg))], 4⟩
            conv => whnf
            refine ⟨fun hb_40 => ?_, fun hb_40 => ?_⟩
            · replace hL1 := cond_t hb_40 hL1
              conv => whnf
              obtain ⟨r_31, h_r_31, hL1⟩ := bind_some hL1
              refine ⟨_, _, _, _, _, _, _, _, callX false [0] [] Try.func37 (by decide) rfl (keep_Src_Leg_ac (⟨a_27, i_28⟩ : Src) r_31 h_r_31) rfl ⟨(argP (id := 0) (by (conv => lhs; whnf); all_goals rfl) rfl), trivial⟩ rfl ⟨rfl, trivial⟩ rfl rfl rfl lend0 ⟨rfl, trivial⟩, ?_⟩
              conv => whnf
              obtain ⟨l_32, h_l_32, hL1⟩ := bind_some hL1
              refine ap_q (enc := encLeg) (l := a_29) (y := ([r_31.1] : List Leg)) h_l_32 rfl rfl (by decide) ?_
              conv => whnf
              refine ⟨by kernel_rfl, ?_⟩
              conv => whnf
              refine ⟨_, rfl, ?_⟩
              conv => whnf
              exact ⟨(q_33, r_31.2.L, r_31.2.At, l_32, (w64 (i_30 - (1 : Int)))), [0, 1, 2, 6], [], [], hL1, Nat.lt_succ_self _, wk_mk [0, 1, 2, 6] [] [] rfl ⟨argP (id := 0) (by (conv => lhs; whnf); all_goals rfl) rfl, argP (id := 1) (by (conv => lhs; whnf); all_goals rfl) rfl, argP (id := 2) (by (conv => lhs; whnf); all_goals rfl) rfl, argE (by (conv => lhs; whnf); all_goals rfl) rfl, trivial⟩ ⟨boxL rfl rfl rfl ⟨(.ni _ rfl), (.ni _ rfl), trivial⟩, boxL rfl rfl rfl ⟨(.ni _ rfl), (.ni _ rfl), (.ni _ rfl), (.ni _ rfl), (.ni _ rfl), (.ni _ rfl), (.ni _ rfl), (.ni _ rfl), (.ni _ rfl), (.ni _ rfl), (.ni _ rfl), (.ni _ rfl), (.ni _ rfl), (.ni _ rfl), (.ni _ rfl), (.ni _ rfl), (.ni _ rfl), (.ni _ rfl), (.ni _ rfl), (.ni _ rfl), (.ni _ rfl), (.ni _ rfl), (.ni _ rfl), (.ni _ rfl), (.ni _ rfl), (.ni _ rfl), (.ni _ rfl), (.ni _ rfl), (.ni _ rfl), (.ni _ rfl), trivial⟩, boxL rfl rfl rfl ⟨(.ni _ rfl), (.ni _ rfl), (.ni _ rfl), (.ni _ rfl), (.ni _ rfl), (.ni _ rfl), (.ni _ rfl), (.ni _ rfl), (.ni _ rfl), (.ni _ rfl), (.ni _ rfl), (.ni _ rfl), (.ni _ rfl), (.ni _ rfl), (.ni _ rfl), (.ni _ rfl), (.oslg 6 3 rfl), (.ni _ rfl), (.ni _ rfl), (.ni _ rfl), (.ni _ rfl), (.ni _ rfl), (.ni _ rfl), (.ni _ rfl), (.ni _ rfl), (.ni _ rfl), (.ni _ rfl), (.ni _ rfl), (.ni _ rfl), (.ni _ rfl), trivial⟩, blkR (fun _ => ⟨rfl, rfl⟩) rfl rfl, trivial⟩⟩
            · replace hL1 := cond_f hb_40 hL1
              conv => whnf
              obtain rfl := Option.some.inj hL1
              replace hF := fin_brk hF
              try dsimp only at hF
              obtain ⟨r_35, h_r_35, hF⟩ := bind_some hF
              refine ⟨_, _, _, _, _, _, _, _, callX false [0] [] Try.func38 (by decide) rfl (keep_Src_N_ac (⟨a_27, i_28⟩ : Src) (3 : Int) r_35 h_r_35) rfl ⟨(argP (id := 0) (by (conv => lhs; whnf); all_goals rfl) rfl), (argE (by (conv => lhs; whnf); all_goals rfl) rfl), trivial⟩ rfl ⟨rfl, trivial⟩ rfl rfl rfl lend0 ⟨rfl, trivial⟩, ?_⟩
              conv => whnf
              obtain ⟨r_36, h_r_36, hF⟩ := bind_some hF
              refine ⟨_, _, _, _, _, _, _, _, callX false [0] [] Try.func23 (by decide) rfl (keep_Src_Range_ac r_35.2 (1 : Int) (4 : Int) r_36 h_r_36) rfl ⟨(argP (id := 0) (by (conv => lhs; whnf); all_goals rfl) rfl), (argE (by (conv => lhs; whnf); all_goals rfl) rfl), (argE (by (conv => lhs; whnf); all_goals rfl) rfl), trivial⟩ rfl ⟨rfl, trivial⟩ rfl rfl rfl lend0 ⟨rfl, trivial⟩, ?_⟩
              conv => whnf
              obtain ⟨r_37, h_r_37, hF⟩ := bind_some hF
              refine ⟨_, _, _, _, _, _, _, _, callX false [0] [] Try.func23 (by decide) rfl (keep_Src_Range_ac r_36.2 (1 : Int) (4 : Int) r_37 h_r_37) rfl ⟨(argP (id := 0) (by (conv => lhs; whnf); all_goals rfl) rfl), (argE (by (conv => lhs; whnf); all_goals rfl) rfl), (argE (by (conv => lhs; whnf); all_goals rfl) rfl), trivial⟩ rfl ⟨rfl, trivial⟩ rfl rfl rfl lend0 ⟨rfl, trivial⟩, ?_⟩
              conv => whnf
              obtain ⟨r_38, h_r_38, hF⟩ := bind_some hF
              refine ⟨_, _, _, _, _, _, _, _, callX true [0] [7] Try.func39 (by decide) rfl (keep_Src_Pick_ac r_37.2 ([(20 : Int), (0 : Int), (999 : Int)] : List Int) r_38 h_r_38) rfl ⟨(argP (id := 0) (by (conv => lhs; whnf); all_goals rfl) rfl), (argOL 7 (by (conv => lhs; whnf); all_goals rfl) rfl rfl (map_ni (fun _ => ⟨rfl, rfl⟩) _)), trivial⟩ rfl ⟨rfl, trivial⟩ rfl rfl rfl (giveU rfl) ⟨rfl, trivial⟩, ?_⟩
              conv => whnf
              obtain ⟨r_39, h_r_39, hF⟩ := bind_some hF
              refine ⟨_, _, _, _, _, _, _, _, callX false [0] [] Try.func36 (by decide) rfl (keep_Src_Letters_ac r_38.2 (1 : Int) (6 : Int) r_39 h_r_39) rfl ⟨(argP (id := 0) (by (conv => lhs; whnf); all_goals rfl) rfl), (argE (by (conv => lhs; whnf); all_goals rfl) rfl), (argE (by (conv => lhs; whnf); all_goals rfl) rfl), trivial⟩ rfl ⟨rfl, trivial⟩ rfl rfl rfl lend0 ⟨rfl, trivial⟩, ?_⟩
              conv => whnf
              obtain ⟨r_40, h_r_40, hF⟩ := bind_some hF
              refine ⟨_, _, _, _, _, _, _, _, callX false [0] [] Try.func36 (by decide) rfl (keep_Src_Letters_ac r_39.2 (0 : Int) (5 : Int) r_40 h_r_40) rfl ⟨(argP (id := 0) (by (conv => lhs; whnf); all_goals rfl) rfl), (argE (by (conv => lhs; whnf); all_goals rfl) rfl), (argE (by (conv => lhs; whnf); all_goals rfl) rfl), trivial⟩ rfl ⟨rfl, trivial⟩ rfl rfl rfl lend0 ⟨rfl, trivial⟩, ?_⟩
              conv => whnf
              obtain ⟨r_41, h_r_41, hF⟩ := bind_some hF
              refine ⟨_, _, _, _, _, _, _, _, callX false [0] [] Try.func23 (by decide) rfl (keep_Src_Range_ac r_40.2 (0 : Int) (3 : Int) r_41 h_r_41) rfl ⟨(argP (id := 0) (by (conv => lhs; whnf); all_goals rfl) rfl), (argE (by (conv => lhs; whnf); all_goals rfl) rfl), (argE (by (conv => lhs; whnf); all_goals rfl) rfl), trivial⟩ rfl ⟨rfl, trivial⟩ rfl rfl rfl lend0 ⟨rfl, trivial⟩, ?_⟩
              conv => whnf
              obtain rfl := Option.some.inj hF
              exact ret_gz [0] [] [3] rfl (argA (c := [.int .i64 r_1.1, .int .i64 r_21.1, .str r_2.1, .int .i64 r_3.1, .str r_25.1.Flight.Carrier, .int .i64 r_25.1.Flight.Number, .str r_25.1.Flight.Suffix, .int .i64 r_25.1.Flight.Day, .str r_25.1.Port, .str r_25.1.Class, .str r_22.1.Flight.Carrier, .int .i64 r_22.1.Flight.Number, .str r_22.1.Flight.Suffix, .int .i64 r_22.1.Flight.Day, .str r_22.1.Port, .str r_22.1.Class, .osl 3, .int .i64 r_23.1.Lead, .int .i64 r_23.1.Airline, .int .i64 r_23.1.Serial, .int .i64 r_24.1, .bool (decide ((0 : Int) < r_35.1)), .int .i64 r_36.1, .int .i64 r_37.1, .int .i64 r_38.1, .str r_39.1, .str r_40.1, .int .i64 r_41.1, .str (⟨#[]⟩ : ByteArray), .nils]) (by (conv => lhs; whnf); all_goals rfl) rfl ⟨(.ni _ rfl), (.ni _ rfl), (.ni _ rfl), (.ni _ rfl), (.ni _ rfl), (.ni _ rfl), (.ni _ rfl), (.ni _ rfl), (.ni _ rfl), (.ni _ rfl), (.ni _ rfl), (.ni _ rfl), (.ni _ rfl), (.ni _ rfl), (.ni _ rfl), (.ni _ rfl), (.osl 3 6 _ (by simp) rfl (map_ni (fun _ => ⟨rfl, rfl⟩) _)), (.ni _ rfl), (.ni _ rfl), (.ni _ rfl), (.ni _ rfl), (.ni _ rfl), (.ni _ rfl), (.ni _ rfl), (.ni _ rfl), (.ni _ rfl), (.ni _ rfl), (.ni _ rfl), (.ni _ rfl), (.nils _), trivial⟩) ⟨boxL rfl rfl rfl ⟨(.ni _ rfl), (.ni _ rfl), trivial⟩, trivial⟩
          · replace hF := cond_f hb_39 hF
            conv => whnf
            obtain ⟨r_42, h_r_42, hF⟩ := bind_some hF
            refine ⟨_, _, _, _, _, _, _, _, callX false [0] [] Try.func38 (by decide) rfl (keep_Src_N_ac r_24.2 (4 : Int) r_42 h_r_42) rfl ⟨(argP (id := 0) (by (conv => lhs; whnf); all_goals rfl) rfl), (argE (by (conv => lhs; whnf); all_goals rfl) rfl), trivial⟩ rfl ⟨rfl, trivial⟩ rfl rfl rfl lend0 ⟨rfl, trivial⟩, ?_⟩
            conv => whnf
            obtain ⟨c_2, hc_2, hF⟩ := fin_some hF
            refine sw_loop tab_ok follows_ok (fun y : Nat × (List Int) × Int × (List Leg) × Int => keep_Src_Message_L2 y.1 y.2.1 y.2.2.1 y.2.2.2.1 y.2.2.2.2 = some c_2) (fun y => ⟨eL [(0, .ptr 0 0), (4, .ptr 1 0), (5, .ptr 2 0), (8, .int .i64 y.2.2.2.2)], hL [(0, .box [.lst 1 (y.2.1.map iA), .int .i64 y.2.2.1]), (1, .box [.int .i64 (0 : Int), .int .i64 (0 : Int), .str (⟨#[]⟩ : ByteArray), .int .i64 (0 : Int), .str (⟨#[]⟩ : ByteArray), .int .i64 (0 : Int), .str (⟨#[]⟩ : ByteArray), .int .i64 (0 : Int), .str (⟨#[]⟩ : ByteArray), .str (⟨#[]⟩ : ByteArray), .str (⟨#[]⟩ : ByteArray), .int .i64 (0 : Int), .str (⟨#[]⟩ : ByteArray), .int .i64 (0 : Int), .str (⟨#[]⟩ : ByteArray), .str (⟨#[]⟩ : ByteArray), .nils, .int .i64 (0 : Int), .int .i64 (0 : Int), .int .i64 (0 : Int), .int .i64 (0 : Int), .fls, .int .i64 (0 : Int), .int .i64 (0 : Int), .int .i64 (0 : Int), .str (⟨#[]⟩ : ByteArray), .str (⟨#[]⟩ : ByteArray), .int .i64 (0 : Int), .str (⟨#[]⟩ : ByteArray), .nils]), (2, .box [.int .i64 r_1.1, .int .i64 r_21.1, .str r_2.1, .int .i64 r_3.1, .str (⟨#[]⟩ : ByteArray), .int .i64 (0 : Int), .str (⟨#[]⟩ : ByteArray), .int .i64 (0 : Int), .str (⟨#[]⟩ : ByteArray), .str (⟨#[]⟩ : ByteArray), .str r_22.1.Flight.Carrier, .int .i64 r_22.1.Flight.Number, .str r_22.1.Flight.Suffix, .int .i64 r_22.1.Flight.Day, .str r_22.1.Port, .str r_22.1.Class, .osl 3, .int .i64 r_23.1.Lead, .int .i64 r_23.1.Airline, .int .i64 r_23.1.Serial, .int .i64 r_24.1, .fls, .int .i64 (0 : Int), .int .i64 (0 : Int), .int .i64 (0 : Int), .str (⟨#[]⟩ : ByteArray), .str (⟨#[]⟩ : ByteArray), .int .i64 (0 : Int), .str (⟨#[]⟩ : ByteArray), .nils]), (3, .row 6 (y.2.2.2.1.map encLeg))], 4⟩) (fun y => y.1) (9223372036854775807, r_42.2.L, r_42.2.At, ([] : List Leg), r_42.1) hc_2 (wk_mk [0, 1, 6] [3] [] rfl ⟨argP (id := 0) (by (conv => lhs; whnf); all_goals rfl) rfl, argP (id := 1) (by (conv => lhs; whnf); all_goals rfl) rfl, argP (id := 6) (by (conv => lhs; whnf); all_goals rfl) rfl, argE (by (conv => lhs; whnf); all_goals rfl) rfl, trivial⟩ ⟨boxL rfl rfl rfl ⟨(.ni _ rfl), (.ni _ rfl), trivial⟩, boxL rfl rfl rfl ⟨(.ni _ rfl), (.ni _ rfl), (.ni _ rfl), (.ni _ rfl), (.ni _ rfl), (.ni _ rfl), (.ni _ rfl), (.ni _ rfl), (.ni _ rfl), (.ni _ rfl), (.ni _ rfl), (.ni _ rfl), (.ni _ rfl), (.ni _ rfl), (.ni _ rfl), (.ni _ rfl), (.ni _ rfl), (.ni _ rfl), (.ni _ rfl), (.ni _ rfl), (.ni _ rfl), (.ni _ rfl), (.ni _ rfl), (.ni _ rfl), (.ni _ rfl), (.ni _ rfl), (.ni _ rfl), (.ni _ rfl), (.ni _ rfl), (.ni _ rfl), trivial⟩, boxL rfl rfl rfl ⟨(.ni _ rfl), (.ni _ rfl), (.ni _ rfl), (.ni _ rfl), (.ni _ rfl), (.ni _ rfl), (.ni _ rfl), (.ni _ rfl), (.ni _ rfl), (.ni _ rfl), (.ni _ rfl), (.ni _ rfl), (.ni _ rfl), (.ni _ rfl), (.ni _ rfl), (.ni _ rfl), (.nilz 3 (by simp)), (.ni _ rfl), (.ni _ rfl), (.ni _ rfl), (.ni _ rfl), (.ni _ rfl), (.ni _ rfl), (.ni _ rfl), (.ni _ rfl), (.ni _ rfl), (.ni _ rfl), (.ni _ rfl), (.ni _ rfl), (.ni _ rfl), trivial⟩, blkZ rfl, trivial⟩) ?_
            rintro ⟨q_49, a_43, i_44, a_45, i_46⟩ hL1
            try dsimp only at hL1
            rcases q_49 with _ | q_49
            · rw [keep_Src_Message_L2.eq_1] at hL1
              cases hL1
            rw [keep_Src_Message_L2.eq_2] at hL1
            show awp _ _ _ _ _ _ ⟨eL [(0, .ptr 0 0), (4, .ptr 1 0), (5, .ptr 2 0), (8, .int .i64 i_46)], hL [(0, .box [.lst 1 (a_43.map iA), .int .i64 i_44]), (1, .box [.int .i64 (0 : Int), .int .i64 (0 : Int), .str (⟨#[]⟩ : ByteArray), .int .i64 (0 : Int), .str (⟨#[]⟩ : ByteArray), .int .i64 (0 : Int), .str (⟨#[]⟩ : ByteArray), .int .i64 (0 : Int), .str (⟨#[]⟩ : ByteArray), .str (⟨#[]⟩ : ByteArray), .str (⟨#[]⟩ : ByteArray), .int .i64 (0 : Int), .str (⟨#[]⟩ : ByteArray), .int .i64 (0 : Int), .str (⟨#[]⟩ : ByteArray), .str (⟨#[]⟩ : ByteArray), .nils, .int .i64 (0 : Int), .int .i64 (0 : Int), .int .i64 (0 : Int), .int .i64 (0 : Int), .fls, .int .i64 (0 : Int), .int .i64 (0 : Int), .int .i64 (0 : Int), .str (⟨#[]⟩ : ByteArray), .str (⟨#[]⟩ : ByteArray), .int .i64 (0 : Int), .str (⟨#[]⟩ : ByteArray), .nils]), (2, .box [.int .i64 r_1.1, .int .i64 r_21.1, .str r_2.1, .int .i64 r_3.1, .str (⟨#[]⟩ : ByteArray), .int .i64 (0 : Int), .str (⟨#[]⟩ : ByteArray), .int .i64 (0 : Int), .str (⟨#[]⟩ : ByteArray), .str (⟨#[]⟩ : ByteArray), .str r_22.1.Flight.Carrier, .int .i64 r_22.1.Flight.Number, .str r_22.1.Flight.Suffix, .int .i64 r_22.1.Flight.Day, .str r_22.1.Port, .str r_22.1.Class, .osl 3, .int .i64 r_23.1.Lead, .int .i64 r_23.1.Airline, .int .i64 r_23.1.Serial, .int .i64 r_24.1, .fls, .int .i64 (0 : Int), .int .i64 (0 : Int), .int .i64 (0 : Int), .str (⟨#[]⟩ : ByteArray), .str (⟨#[]⟩ : ByteArray), .int .i64 (0 : Int), .str (⟨#[]⟩ : ByteArray), .nils]), (3, .row 6 (a_45.map encLeg))], 4⟩
            conv => whnf
            refine ⟨fun hb_41 => ?_, fun hb_41 => ?_⟩
            · replace hL1 := cond_t hb_41 hL1
              conv => whnf
              obtain ⟨r_47, h_r_47, hL1⟩ := bind_some hL1
              refine ⟨_, _, _, _, _, _, _, _, callX false [0] [] Try.func37 (by decide) rfl (keep_Src_Leg_ac (⟨a_43, i_44⟩ : Src) r_47 h_r_47) rfl ⟨(argP (id := 0) (by (conv => lhs; whnf); all_goals rfl) rfl), trivial⟩ rfl ⟨rfl, trivial⟩ rfl rfl rfl lend0 ⟨rfl, trivial⟩, ?_⟩
              conv => whnf
              obtain ⟨l_48, h_l_48, hL1⟩ := bind_some hL1
              refine ap_q (enc := encLeg) (l := a_45) (y := ([r_47.1] : List Leg)) h_l_48 rfl rfl (by decide) ?_
              conv => whnf
              refine ⟨by kernel_rfl, ?_⟩
              conv => whnf
              refine ⟨_, rfl, ?_⟩
              conv => whnf
              exact ⟨(q_49, r_47.2.L, r_47.2.At, l_48, (w64 (i_46 - (1 : Int)))), [0, 1, 2, 6], [], [], hL1, Nat.lt_succ_self _, wk_mk [0, 1, 2, 6] [] [] rfl ⟨argP (id := 0) (by (conv => lhs; whnf); all_goals rfl) rfl, argP (id := 1) (by (conv => lhs; whnf); all_goals rfl) rfl, argP (id := 2) (by (conv => lhs; whnf); all_goals rfl) rfl, argE (by (conv => lhs; whnf); all_goals rfl) rfl, trivial⟩ ⟨boxL rfl rfl rfl ⟨(.ni _ rfl), (.ni _ rfl), trivial⟩, boxL rfl rfl rfl ⟨(.ni _ rfl), (.ni _ rfl), (.ni _ rfl), (.ni _ rfl), (.ni _ rfl), (.ni _ rfl), (.ni _ rfl), (.ni _ rfl), (.ni _ rfl), (.ni _ rfl), (.ni _ rfl), (.ni _ rfl), (.ni _ rfl), (.ni _ rfl), (.ni _ rfl), (.ni _ rfl), (.ni _ rfl), (.ni _ rfl), (.ni _ rfl), (.ni _ rfl), (.ni _ rfl), (.ni _ rfl), (.ni _ rfl), (.ni _ rfl), (.ni _ rfl), (.ni _ rfl), (.ni _ rfl), (.ni _ rfl), (.ni _ rfl), (.ni _ rfl), trivial⟩, boxL rfl rfl rfl ⟨(.ni _ rfl), (.ni _ rfl), (.ni _ rfl), (.ni _ rfl), (.ni _ rfl), (.ni _ rfl), (.ni _ rfl), (.ni _ rfl), (.ni _ rfl), (.ni _ rfl), (.ni _ rfl), (.ni _ rfl), (.ni _ rfl), (.ni _ rfl), (.ni _ rfl), (.ni _ rfl), (.oslg 6 3 rfl), (.ni _ rfl), (.ni _ rfl), (.ni _ rfl), (.ni _ rfl), (.ni _ rfl), (.ni _ rfl), (.ni _ rfl), (.ni _ rfl), (.ni _ rfl), (.ni _ rfl), (.ni _ rfl), (.ni _ rfl), (.ni _ rfl), trivial⟩, blkR (fun _ => ⟨rfl, rfl⟩) rfl rfl, trivial⟩⟩
            · replace hL1 := cond_f hb_41 hL1
              conv => whnf
              obtain rfl := Option.some.inj hL1
              replace hF := fin_brk hF
              try dsimp only at hF
              obtain ⟨r_51, h_r_51, hF⟩ := bind_some hF
              refine ⟨_, _, _, _, _, _, _, _, callX false [0] [] Try.func38 (by decide) rfl (keep_Src_N_ac (⟨a_43, i_44⟩ : Src) (3 : Int) r_51 h_r_51) rfl ⟨(argP (id := 0) (by (conv => lhs; whnf); all_goals rfl) rfl), (argE (by (conv => lhs; whnf); all_goals rfl) rfl), trivial⟩ rfl ⟨rfl, trivial⟩ rfl rfl rfl lend0 ⟨rfl, trivial⟩, ?_⟩
              conv => whnf
              obtain ⟨r_52, h_r_52, hF⟩ := bind_some hF
              refine ⟨_, _, _, _, _, _, _, _, callX false [0] [] Try.func23 (by decide) rfl (keep_Src_Range_ac r_51.2 (1 : Int) (4 : Int) r_52 h_r_52) rfl ⟨(argP (id := 0) (by (conv => lhs; whnf); all_goals rfl) rfl), (argE (by (conv => lhs; whnf); all_goals rfl) rfl), (argE (by (conv => lhs; whnf); all_goals rfl) rfl), trivial⟩ rfl ⟨rfl, trivial⟩ rfl rfl rfl lend0 ⟨rfl, trivial⟩, ?_⟩
              conv => whnf
              obtain ⟨r_53, h_r_53, hF⟩ := bind_some hF
              refine ⟨_, _, _, _, _, _, _, _, callX false [0] [] Try.func23 (by decide) rfl (keep_Src_Range_ac r_52.2 (1 : Int) (4 : Int) r_53 h_r_53) rfl ⟨(argP (id := 0) (by (conv => lhs; whnf); all_goals rfl) rfl), (argE (by (conv => lhs; whnf); all_goals rfl) rfl), (argE (by (conv => lhs; whnf); all_goals rfl) rfl), trivial⟩ rfl ⟨rfl, trivial⟩ rfl rfl rfl lend0 ⟨rfl, trivial⟩, ?_⟩
              conv => whnf
              obtain ⟨r_54, h_r_54, hF⟩ := bind_some hF
              refine ⟨_, _, _, _, _, _, _, _, callX true [0] [7] Try.func39 (by decide) rfl (keep_Src_Pick_ac r_53.2 ([(20 : Int), (0 : Int), (999 : Int)] : List Int) r_54 h_r_54) rfl ⟨(argP (id := 0) (by (conv => lhs; whnf); all_goals rfl) rfl), (argOL 7 (by (conv => lhs; whnf); all_goals rfl) rfl rfl (map_ni (fun _ => ⟨rfl, rfl⟩) _)), trivial⟩ rfl ⟨rfl, trivial⟩ rfl rfl rfl (giveU rfl) ⟨rfl, trivial⟩, ?_⟩
              conv => whnf
              obtain ⟨r_55, h_r_55, hF⟩ := bind_some hF
              refine ⟨_, _, _, _, _, _, _, _, callX false [0] [] Try.func36 (by decide) rfl (keep_Src_Letters_ac r_54.2 (1 : Int) (6 : Int) r_55 h_r_55) rfl ⟨(argP (id := 0) (by (conv => lhs; whnf); all_goals rfl) rfl), (argE (by (conv => lhs; whnf); all_goals rfl) rfl), (argE (by (conv => lhs; whnf); all_goals rfl) rfl), trivial⟩ rfl ⟨rfl, trivial⟩ rfl rfl rfl lend0 ⟨rfl, trivial⟩, ?_⟩
              conv => whnf
              obtain ⟨r_56, h_r_56, hF⟩ := bind_some hF
              refine ⟨_, _, _, _, _, _, _, _, callX false [0] [] Try.func36 (by decide) rfl (keep_Src_Letters_ac r_55.2 (0 : Int) (5 : Int) r_56 h_r_56) rfl ⟨(argP (id := 0) (by (conv => lhs; whnf); all_goals rfl) rfl), (argE (by (conv => lhs; whnf); all_goals rfl) rfl), (argE (by (conv => lhs; whnf); all_goals rfl) rfl), trivial⟩ rfl ⟨rfl, trivial⟩ rfl rfl rfl lend0 ⟨rfl, trivial⟩, ?_⟩
              conv => whnf
              obtain ⟨r_57, h_r_57, hF⟩ := bind_some hF
              refine ⟨_, _, _, _, _, _, _, _, callX false [0] [] Try.func23 (by decide) rfl (keep_Src_Range_ac r_56.2 (0 : Int) (3 : Int) r_57 h_r_57) rfl ⟨(argP (id := 0) (by (conv => lhs; whnf); all_goals rfl) rfl), (argE (by (conv => lhs; whnf); all_goals rfl) rfl), (argE (by (conv => lhs; whnf); all_goals rfl) rfl), trivial⟩ rfl ⟨rfl, trivial⟩ rfl rfl rfl lend0 ⟨rfl, trivial⟩, ?_⟩
              conv => whnf
              obtain rfl := Option.some.inj hF
              exact ret_gz [0] [] [3] rfl (argA (c := [.int .i64 r_1.1, .int .i64 r_21.1, .str r_2.1, .int .i64 r_3.1, .str (⟨#[]⟩ : ByteArray), .int .i64 (0 : Int), .str (⟨#[]⟩ : ByteArray), .int .i64 (0 : Int), .str (⟨#[]⟩ : ByteArray), .str (⟨#[]⟩ : ByteArray), .str r_22.1.Flight.Carrier, .int .i64 r_22.1.Flight.Number, .str r_22.1.Flight.Suffix, .int .i64 r_22.1.Flight.Day, .str r_22.1.Port, .str r_22.1.Class, .osl 3, .int .i64 r_23.1.Lead, .int .i64 r_23.1.Airline, .int .i64 r_23.1.Serial, .int .i64 r_24.1, .bool (decide ((0 : Int) < r_51.1)), .int .i64 r_52.1, .int .i64 r_53.1, .int .i64 r_54.1, .str r_55.1, .str r_56.1, .int .i64 r_57.1, .str (⟨#[]⟩ : ByteArray), .nils]) (by (conv => lhs; whnf); all_goals rfl) rfl ⟨(.ni _ rfl), (.ni _ rfl), (.ni _ rfl), (.ni _ rfl), (.ni _ rfl), (.ni _ rfl), (.ni _ rfl), (.ni _ rfl), (.ni _ rfl), (.ni _ rfl), (.ni _ rfl), (.ni _ rfl), (.ni _ rfl), (.ni _ rfl), (.ni _ rfl), (.ni _ rfl), (.osl 3 6 _ (by simp) rfl (map_ni (fun _ => ⟨rfl, rfl⟩) _)), (.ni _ rfl), (.ni _ rfl), (.ni _ rfl), (.ni _ rfl), (.ni _ rfl), (.ni _ rfl), (.ni _ rfl), (.ni _ rfl), (.ni _ rfl), (.ni _ rfl), (.ni _ rfl), (.ni _ rfl), (.nils _), trivial⟩) ⟨boxL rfl rfl rfl ⟨(.ni _ rfl), (.ni _ rfl), trivial⟩, trivial⟩
  · replace hF := cond_f hb_34 hF
    conv => whnf
    obtain ⟨r_58, h_r_58, hF⟩ := bind_some hF
    refine ⟨_, _, _, _, _, _, _, _, callX true [0] [2] Try.func35 (by decide) rfl (keep_Src_Text_ac x_0 ([(⟨#[65, 82, 78]⟩ : ByteArray), (⟨#[67, 80, 72]⟩ : ByteArray)] : List ByteArray) r_58 h_r_58) rfl ⟨(argP (id := 0) (by (conv => lhs; whnf); all_goals rfl) rfl), (argOL 2 (by (conv => lhs; whnf); all_goals rfl) rfl rfl (map_ni (fun _ => ⟨rfl, rfl⟩) _)), trivial⟩ rfl ⟨rfl, trivial⟩ rfl rfl rfl (giveU rfl) ⟨rfl, trivial⟩, ?_⟩
    conv => whnf
    obtain ⟨r_59, h_r_59, hF⟩ := bind_some hF
    refine ⟨_, _, _, _, _, _, _, _, callX false [0] [] Try.func23 (by decide) rfl (keep_Src_Range_ac r_58.2 (1 : Int) (12 : Int) r_59 h_r_59) rfl ⟨(argP (id := 0) (by (conv => lhs; whnf); all_goals rfl) rfl), (argE (by (conv => lhs; whnf); all_goals rfl) rfl), (argE (by (conv => lhs; whnf); all_goals rfl) rfl), trivial⟩ rfl ⟨rfl, trivial⟩ rfl rfl rfl lend0 ⟨rfl, trivial⟩, ?_⟩
    conv => whnf
    refine ⟨fun hb_42 => ?_, fun hb_42 => ?_⟩
    · replace hF := cond_t hb_42 hF
      conv => whnf
      obtain ⟨r_60, h_r_60, hF⟩ := bind_some hF
      refine ⟨_, _, _, _, _, _, _, _, callX false [0] [] Try.func27 (by decide) rfl (keep_Src_AnyPlate_ac r_59.2 r_60 h_r_60) rfl ⟨(argP (id := 0) (by (conv => lhs; whnf); all_goals rfl) rfl), trivial⟩ rfl ⟨rfl, trivial⟩ rfl rfl rfl lend0 ⟨rfl, trivial⟩, ?_⟩
      conv => whnf
      obtain ⟨r_61, h_r_61, hF⟩ := bind_some hF
      refine ⟨_, _, _, _, _, _, _, _, callX false [0] [] Try.func23 (by decide) rfl (keep_Src_Range_ac r_60.2 (1 : Int) (3 : Int) r_61 h_r_61) rfl ⟨(argP (id := 0) (by (conv => lhs; whnf); all_goals rfl) rfl), (argE (by (conv => lhs; whnf); all_goals rfl) rfl), (argE (by (conv => lhs; whnf); all_goals rfl) rfl), trivial⟩ rfl ⟨rfl, trivial⟩ rfl rfl rfl lend0 ⟨rfl, trivial⟩, ?_⟩
      conv => whnf
      obtain ⟨r_62, h_r_62, hF⟩ := bind_some hF
      refine ⟨_, _, _, _, _, _, _, _, callX false [0] [] Try.func36 (by decide) rfl (keep_Src_Letters_ac r_61.2 (1 : Int) (4 : Int) r_62 h_r_62) rfl ⟨(argP (id := 0) (by (conv => lhs; whnf); all_goals rfl) rfl), (argE (by (conv => lhs; whnf); all_goals rfl) rfl), (argE (by (conv => lhs; whnf); all_goals rfl) rfl), trivial⟩ rfl ⟨rfl, trivial⟩ rfl rfl rfl lend0 ⟨rfl, trivial⟩, ?_⟩
      conv => whnf
      obtain rfl := Option.some.inj hF
      exact ret_gz [0] [] [] rfl (argA (c := [.int .i64 x_1, .int .i64 (0 : Int), .str r_58.1, .int .i64 r_59.1, .str (⟨#[]⟩ : ByteArray), .int .i64 (0 : Int), .str (⟨#[]⟩ : ByteArray), .int .i64 (0 : Int), .str (⟨#[]⟩ : ByteArray), .str (⟨#[]⟩ : ByteArray), .str (⟨#[]⟩ : ByteArray), .int .i64 (0 : Int), .str (⟨#[]⟩ : ByteArray), .int .i64 (0 : Int), .str (⟨#[]⟩ : ByteArray), .str (⟨#[]⟩ : ByteArray), .nils, .int .i64 r_60.1.Lead, .int .i64 r_60.1.Airline, .int .i64 r_60.1.Serial, .int .i64 r_61.1, .fls, .int .i64 (0 : Int), .int .i64 (0 : Int), .int .i64 (0 : Int), .str (⟨#[]⟩ : ByteArray), .str (⟨#[]⟩ : ByteArray), .int .i64 (0 : Int), .str r_62.1, .nils]) (by (conv => lhs; whnf); all_goals rfl) rfl ⟨(.ni _ rfl), (.ni _ rfl), (.ni _ rfl), (.ni _ rfl), (.ni _ rfl), (.ni _ rfl), (.ni _ rfl), (.ni _ rfl), (.ni _ rfl), (.ni _ rfl), (.ni _ rfl), (.ni _ rfl), (.ni _ rfl), (.ni _ rfl), (.ni _ rfl), (.ni _ rfl), (.nils _), (.ni _ rfl), (.ni _ rfl), (.ni _ rfl), (.ni _ rfl), .fls, (.ni _ rfl), (.ni _ rfl), (.ni _ rfl), (.ni _ rfl), (.ni _ rfl), (.ni _ rfl), (.ni _ rfl), (.nils _), trivial⟩) ⟨boxL rfl rfl rfl ⟨(.ni _ rfl), (.ni _ rfl), trivial⟩, trivial⟩
    · replace hF := cond_f hb_42 hF
      conv => whnf
      refine ⟨fun hb_43 => ?_, fun hb_43 => ?_⟩
      · replace hF := cond_t hb_43 hF
        conv => whnf
        obtain ⟨r_63, h_r_63, hF⟩ := bind_some hF
        refine ⟨_, _, _, _, _, _, _, _, callX false [0] [] Try.func27 (by decide) rfl (keep_Src_AnyPlate_ac r_59.2 r_63 h_r_63) rfl ⟨(argP (id := 0) (by (conv => lhs; whnf); all_goals rfl) rfl), trivial⟩ rfl ⟨rfl, trivial⟩ rfl rfl rfl lend0 ⟨rfl, trivial⟩, ?_⟩
        conv => whnf
        obtain ⟨r_64, h_r_64, hF⟩ := bind_some hF
        refine ⟨_, _, _, _, _, _, _, _, callX false [0] [] Try.func23 (by decide) rfl (keep_Src_Range_ac r_63.2 (1 : Int) (3 : Int) r_64 h_r_64) rfl ⟨(argP (id := 0) (by (conv => lhs; whnf); all_goals rfl) rfl), (argE (by (conv => lhs; whnf); all_goals rfl) rfl), (argE (by (conv => lhs; whnf); all_goals rfl) rfl), trivial⟩ rfl ⟨rfl, trivial⟩ rfl rfl rfl lend0 ⟨rfl, trivial⟩, ?_⟩
        conv => whnf
        obtain ⟨r_65, h_r_65, hF⟩ := bind_some hF
        refine ⟨_, _, _, _, _, _, _, _, callX false [0] [] Try.func37 (by decide) rfl (keep_Src_Leg_ac r_64.2 r_65 h_r_65) rfl ⟨(argP (id := 0) (by (conv => lhs; whnf); all_goals rfl) rfl), trivial⟩ rfl ⟨rfl, trivial⟩ rfl rfl rfl lend0 ⟨rfl, trivial⟩, ?_⟩
        conv => whnf
        obtain rfl := Option.some.inj hF
        exact ret_gz [0] [] [] rfl (argA (c := [.int .i64 x_1, .int .i64 (0 : Int), .str r_58.1, .int .i64 r_59.1, .str (⟨#[]⟩ : ByteArray), .int .i64 (0 : Int), .str (⟨#[]⟩ : ByteArray), .int .i64 (0 : Int), .str (⟨#[]⟩ : ByteArray), .str (⟨#[]⟩ : ByteArray), .str r_65.1.Flight.Carrier, .int .i64 r_65.1.Flight.Number, .str r_65.1.Flight.Suffix, .int .i64 r_65.1.Flight.Day, .str r_65.1.Port, .str r_65.1.Class, .nils, .int .i64 r_63.1.Lead, .int .i64 r_63.1.Airline, .int .i64 r_63.1.Serial, .int .i64 r_64.1, .fls, .int .i64 (0 : Int), .int .i64 (0 : Int), .int .i64 (0 : Int), .str (⟨#[]⟩ : ByteArray), .str (⟨#[]⟩ : ByteArray), .int .i64 (0 : Int), .str (⟨#[]⟩ : ByteArray), .nils]) (by (conv => lhs; whnf); all_goals rfl) rfl ⟨(.ni _ rfl), (.ni _ rfl), (.ni _ rfl), (.ni _ rfl), (.ni _ rfl), (.ni _ rfl), (.ni _ rfl), (.ni _ rfl), (.ni _ rfl), (.ni _ rfl), (.ni _ rfl), (.ni _ rfl), (.ni _ rfl), (.ni _ rfl), (.ni _ rfl), (.ni _ rfl), (.nils _), (.ni _ rfl), (.ni _ rfl), (.ni _ rfl), (.ni _ rfl), .fls, (.ni _ rfl), (.ni _ rfl), (.ni _ rfl), (.ni _ rfl), (.ni _ rfl), (.ni _ rfl), (.ni _ rfl), (.nils _), trivial⟩) ⟨boxL rfl rfl rfl ⟨(.ni _ rfl), (.ni _ rfl), trivial⟩, trivial⟩
      · replace hF := cond_f hb_43 hF
        conv => whnf
        refine ⟨fun hb_44 => ?_, fun hb_44 => ?_⟩
        · replace hF := cond_t hb_44 hF
          conv => whnf
          obtain ⟨r_66, h_r_66, hF⟩ := bind_some hF
          refine ⟨_, _, _, _, _, _, _, _, callX false [0] [] Try.func37 (by decide) rfl (keep_Src_Leg_ac r_59.2 r_66 h_r_66) rfl ⟨(argP (id := 0) (by (conv => lhs; whnf); all_goals rfl) rfl), trivial⟩ rfl ⟨rfl, trivial⟩ rfl rfl rfl lend0 ⟨rfl, trivial⟩, ?_⟩
          conv => whnf
          obtain ⟨r_67, h_r_67, hF⟩ := bind_some hF
          refine ⟨_, _, _, _, _, _, _, _, callX false [0] [] Try.func38 (by decide) rfl (keep_Src_N_ac r_66.2 (12 : Int) r_67 h_r_67) rfl ⟨(argP (id := 0) (by (conv => lhs; whnf); all_goals rfl) rfl), (argE (by (conv => lhs; whnf); all_goals rfl) rfl), trivial⟩ rfl ⟨rfl, trivial⟩ rfl rfl rfl lend0 ⟨rfl, trivial⟩, ?_⟩
          conv => whnf
          obtain ⟨c_1, hc_1, hF⟩ := fin_some hF
          refine sw_loop tab_ok follows_ok (fun y : Nat × (List Int) × Int × (List Int) × Int × Int => keep_Src_Message_L1 y.1 y.2.1 y.2.2.1 y.2.2.2.1 y.2.2.2.2.1 y.2.2.2.2.2 = some c_1) (fun y => ⟨eL [(0, .ptr 0 0), (4, .ptr 1 0), (5, .ptr 2 0), (6, .int .i64 y.2.2.2.2.1), (7, .int .i64 y.2.2.2.2.2)], hL [(0, .box [.lst 1 (y.2.1.map iA), .int .i64 y.2.2.1]), (1, .box [.int .i64 (0 : Int), .int .i64 (0 : Int), .str (⟨#[]⟩ : ByteArray), .int .i64 (0 : Int), .str (⟨#[]⟩ : ByteArray), .int .i64 (0 : Int), .str (⟨#[]⟩ : ByteArray), .int .i64 (0 : Int), .str (⟨#[]⟩ : ByteArray), .str (⟨#[]⟩ : ByteArray), .str (⟨#[]⟩ : ByteArray), .int .i64 (0 : Int), .str (⟨#[]⟩ : ByteArray), .int .i64 (0 : Int), .str (⟨#[]⟩ : ByteArray), .str (⟨#[]⟩ : ByteArray), .nils, .int .i64 (0 : Int), .int .i64 (0 : Int), .int .i64 (0 : Int), .int .i64 (0 : Int), .fls, .int .i64 (0 : Int), .int .i64 (0 : Int), .int .i64 (0 : Int), .str (⟨#[]⟩ : ByteArray), .str (⟨#[]⟩ : ByteArray), .int .i64 (0 : Int), .str (⟨#[]⟩ : ByteArray), .nils]), (2, .box [.int .i64 x_1, .int .i64 (0 : Int), .str r_58.1, .int .i64 r_59.1, .str (⟨#[]⟩ : ByteArray), .int .i64 (0 : Int), .str (⟨#[]⟩ : ByteArray), .int .i64 (0 : Int), .str (⟨#[]⟩ : ByteArray), .str (⟨#[]⟩ : ByteArray), .str r_66.1.Flight.Carrier, .int .i64 r_66.1.Flight.Number, .str r_66.1.Flight.Suffix, .int .i64 r_66.1.Flight.Day, .str r_66.1.Port, .str r_66.1.Class, .nils, .int .i64 (0 : Int), .int .i64 (0 : Int), .int .i64 (0 : Int), .int .i64 (0 : Int), .fls, .int .i64 (0 : Int), .int .i64 (0 : Int), .int .i64 (0 : Int), .str (⟨#[]⟩ : ByteArray), .str (⟨#[]⟩ : ByteArray), .int .i64 (0 : Int), .str (⟨#[]⟩ : ByteArray), .osl 3]), (3, .row 1 (y.2.2.2.1.map iA))], 4⟩) (fun y => y.1) (9223372036854775807, r_67.2.L, r_67.2.At, ([] : List Int), (0 : Int), r_67.1) hc_1 (wk_mk [0, 1, 5] [3] [] rfl ⟨argP (id := 0) (by (conv => lhs; whnf); all_goals rfl) rfl, argP (id := 1) (by (conv => lhs; whnf); all_goals rfl) rfl, argP (id := 5) (by (conv => lhs; whnf); all_goals rfl) rfl, argE (by (conv => lhs; whnf); all_goals rfl) rfl, argE (by (conv => lhs; whnf); all_goals rfl) rfl, trivial⟩ ⟨boxL rfl rfl rfl ⟨(.ni _ rfl), (.ni _ rfl), trivial⟩, boxL rfl rfl rfl ⟨(.ni _ rfl), (.ni _ rfl), (.ni _ rfl), (.ni _ rfl), (.ni _ rfl), (.ni _ rfl), (.ni _ rfl), (.ni _ rfl), (.ni _ rfl), (.ni _ rfl), (.ni _ rfl), (.ni _ rfl), (.ni _ rfl), (.ni _ rfl), (.ni _ rfl), (.ni _ rfl), (.ni _ rfl), (.ni _ rfl), (.ni _ rfl), (.ni _ rfl), (.ni _ rfl), (.ni _ rfl), (.ni _ rfl), (.ni _ rfl), (.ni _ rfl), (.ni _ rfl), (.ni _ rfl), (.ni _ rfl), (.ni _ rfl), (.ni _ rfl), trivial⟩, boxL rfl rfl rfl ⟨(.ni _ rfl), (.ni _ rfl), (.ni _ rfl), (.ni _ rfl), (.ni _ rfl), (.ni _ rfl), (.ni _ rfl), (.ni _ rfl), (.ni _ rfl), (.ni _ rfl), (.ni _ rfl), (.ni _ rfl), (.ni _ rfl), (.ni _ rfl), (.ni _ rfl), (.ni _ rfl), (.ni _ rfl), (.ni _ rfl), (.ni _ rfl), (.ni _ rfl), (.ni _ rfl), (.ni _ rfl), (.ni _ rfl), (.ni _ rfl), (.ni _ rfl), (.ni _ rfl), (.ni _ rfl), (.ni _ rfl), (.ni _ rfl), (.nilz 3 (by simp)), trivial⟩, blkZ rfl, trivial⟩) ?_
          rintro ⟨q_75, a_68, i_69, a_70, i_71, i_72⟩ hL1
          try dsimp only at hL1
          rcases q_75 with _ | q_75
          · rw [keep_Src_Message_L1.eq_1] at hL1
            cases hL1
          rw [keep_Src_Message_L1.eq_2] at hL1
          show awp _ _ _ _ _ _ ⟨eL [(0, .ptr 0 0), (4, .ptr 1 0), (5, .ptr 2 0), (6, .int .i64 i_71), (7, .int .i64 i_72)], hL [(0, .box [.lst 1 (a_68.map iA), .int .i64 i_69]), (1, .box [.int .i64 (0 : Int), .int .i64 (0 : Int), .str (⟨#[]⟩ : ByteArray), .int .i64 (0 : Int), .str (⟨#[]⟩ : ByteArray), .int .i64 (0 : Int), .str (⟨#[]⟩ : ByteArray), .int .i64 (0 : Int), .str (⟨#[]⟩ : ByteArray), .str (⟨#[]⟩ : ByteArray), .str (⟨#[]⟩ : ByteArray), .int .i64 (0 : Int), .str (⟨#[]⟩ : ByteArray), .int .i64 (0 : Int), .str (⟨#[]⟩ : ByteArray), .str (⟨#[]⟩ : ByteArray), .nils, .int .i64 (0 : Int), .int .i64 (0 : Int), .int .i64 (0 : Int), .int .i64 (0 : Int), .fls, .int .i64 (0 : Int), .int .i64 (0 : Int), .int .i64 (0 : Int), .str (⟨#[]⟩ : ByteArray), .str (⟨#[]⟩ : ByteArray), .int .i64 (0 : Int), .str (⟨#[]⟩ : ByteArray), .nils]), (2, .box [.int .i64 x_1, .int .i64 (0 : Int), .str r_58.1, .int .i64 r_59.1, .str (⟨#[]⟩ : ByteArray), .int .i64 (0 : Int), .str (⟨#[]⟩ : ByteArray), .int .i64 (0 : Int), .str (⟨#[]⟩ : ByteArray), .str (⟨#[]⟩ : ByteArray), .str r_66.1.Flight.Carrier, .int .i64 r_66.1.Flight.Number, .str r_66.1.Flight.Suffix, .int .i64 r_66.1.Flight.Day, .str r_66.1.Port, .str r_66.1.Class, .nils, .int .i64 (0 : Int), .int .i64 (0 : Int), .int .i64 (0 : Int), .int .i64 (0 : Int), .fls, .int .i64 (0 : Int), .int .i64 (0 : Int), .int .i64 (0 : Int), .str (⟨#[]⟩ : ByteArray), .str (⟨#[]⟩ : ByteArray), .int .i64 (0 : Int), .str (⟨#[]⟩ : ByteArray), .osl 3]), (3, .row 1 (a_70.map iA))], 4⟩
          conv => whnf
          refine ⟨fun hb_45 => ?_, fun hb_45 => ?_⟩
          · replace hL1 := cond_t hb_45 hL1
            conv => whnf
            obtain ⟨r_73, h_r_73, hL1⟩ := bind_some hL1
            refine ⟨_, _, _, _, _, _, _, _, callX false [0] [] Try.func23 (by decide) rfl (keep_Src_Range_ac (⟨a_68, i_69⟩ : Src) (1 : Int) (3 : Int) r_73 h_r_73) rfl ⟨(argP (id := 0) (by (conv => lhs; whnf); all_goals rfl) rfl), (argE (by (conv => lhs; whnf); all_goals rfl) rfl), (argE (by (conv => lhs; whnf); all_goals rfl) rfl), trivial⟩ rfl ⟨rfl, trivial⟩ rfl rfl rfl lend0 ⟨rfl, trivial⟩, ?_⟩
            conv => whnf
            refine ⟨_, rfl, ?_⟩
            conv => whnf
            obtain ⟨l_74, h_l_74, hL1⟩ := bind_some hL1
            refine ap_q (enc := iA) (l := a_70) (y := ([(w64 (i_71 + r_73.1))] : List Int)) h_l_74 rfl rfl (by decide) ?_
            conv => whnf
            refine ⟨_, rfl, ?_⟩
            conv => whnf
            exact ⟨(q_75, r_73.2.L, r_73.2.At, l_74, (w64 (i_71 + r_73.1)), (w64 (i_72 - (1 : Int)))), [0, 1, 2, 6], [], [], hL1, Nat.lt_succ_self _, wk_mk [0, 1, 2, 6] [] [] rfl ⟨argP (id := 0) (by (conv => lhs; whnf); all_goals rfl) rfl, argP (id := 1) (by (conv => lhs; whnf); all_goals rfl) rfl, argP (id := 2) (by (conv => lhs; whnf); all_goals rfl) rfl, argE (by (conv => lhs; whnf); all_goals rfl) rfl, argE (by (conv => lhs; whnf); all_goals rfl) rfl, trivial⟩ ⟨boxL rfl rfl rfl ⟨(.ni _ rfl), (.ni _ rfl), trivial⟩, boxL rfl rfl rfl ⟨(.ni _ rfl), (.ni _ rfl), (.ni _ rfl), (.ni _ rfl), (.ni _ rfl), (.ni _ rfl), (.ni _ rfl), (.ni _ rfl), (.ni _ rfl), (.ni _ rfl), (.ni _ rfl), (.ni _ rfl), (.ni _ rfl), (.ni _ rfl), (.ni _ rfl), (.ni _ rfl), (.ni _ rfl), (.ni _ rfl), (.ni _ rfl), (.ni _ rfl), (.ni _ rfl), (.ni _ rfl), (.ni _ rfl), (.ni _ rfl), (.ni _ rfl), (.ni _ rfl), (.ni _ rfl), (.ni _ rfl), (.ni _ rfl), (.ni _ rfl), trivial⟩, boxL rfl rfl rfl ⟨(.ni _ rfl), (.ni _ rfl), (.ni _ rfl), (.ni _ rfl), (.ni _ rfl), (.ni _ rfl), (.ni _ rfl), (.ni _ rfl), (.ni _ rfl), (.ni _ rfl), (.ni _ rfl), (.ni _ rfl), (.ni _ rfl), (.ni _ rfl), (.ni _ rfl), (.ni _ rfl), (.ni _ rfl), (.ni _ rfl), (.ni _ rfl), (.ni _ rfl), (.ni _ rfl), (.ni _ rfl), (.ni _ rfl), (.ni _ rfl), (.ni _ rfl), (.ni _ rfl), (.ni _ rfl), (.ni _ rfl), (.ni _ rfl), (.oslg 6 3 rfl), trivial⟩, blkR (fun _ => ⟨rfl, rfl⟩) rfl rfl, trivial⟩⟩
          · replace hL1 := cond_f hb_45 hL1
            conv => whnf
            obtain rfl := Option.some.inj hL1
            replace hF := fin_brk hF
            try dsimp only at hF
            obtain rfl := Option.some.inj hF
            exact ret_gz [0] [] [3] rfl (argA (c := [.int .i64 x_1, .int .i64 (0 : Int), .str r_58.1, .int .i64 r_59.1, .str (⟨#[]⟩ : ByteArray), .int .i64 (0 : Int), .str (⟨#[]⟩ : ByteArray), .int .i64 (0 : Int), .str (⟨#[]⟩ : ByteArray), .str (⟨#[]⟩ : ByteArray), .str r_66.1.Flight.Carrier, .int .i64 r_66.1.Flight.Number, .str r_66.1.Flight.Suffix, .int .i64 r_66.1.Flight.Day, .str r_66.1.Port, .str r_66.1.Class, .nils, .int .i64 (0 : Int), .int .i64 (0 : Int), .int .i64 (0 : Int), .int .i64 (0 : Int), .fls, .int .i64 (0 : Int), .int .i64 (0 : Int), .int .i64 (0 : Int), .str (⟨#[]⟩ : ByteArray), .str (⟨#[]⟩ : ByteArray), .int .i64 (0 : Int), .str (⟨#[]⟩ : ByteArray), .osl 3]) (by (conv => lhs; whnf); all_goals rfl) rfl ⟨(.ni _ rfl), (.ni _ rfl), (.ni _ rfl), (.ni _ rfl), (.ni _ rfl), (.ni _ rfl), (.ni _ rfl), (.ni _ rfl), (.ni _ rfl), (.ni _ rfl), (.ni _ rfl), (.ni _ rfl), (.ni _ rfl), (.ni _ rfl), (.ni _ rfl), (.ni _ rfl), (.nils _), (.ni _ rfl), (.ni _ rfl), (.ni _ rfl), (.ni _ rfl), .fls, (.ni _ rfl), (.ni _ rfl), (.ni _ rfl), (.ni _ rfl), (.ni _ rfl), (.ni _ rfl), (.ni _ rfl), (.osl 3 1 _ (by simp) rfl (map_ni (fun _ => ⟨rfl, rfl⟩) _)), trivial⟩) ⟨boxL rfl rfl rfl ⟨(.ni _ rfl), (.ni _ rfl), trivial⟩, trivial⟩
        · replace hF := cond_f hb_44 hF
          conv => whnf
          obtain ⟨r_77, h_r_77, hF⟩ := bind_some hF
          refine ⟨_, _, _, _, _, _, _, _, callX true [0] [6] Try.func39 (by decide) rfl (keep_Src_Pick_ac r_59.2 ([(0 : Int), (0 : Int), (1 : Int), (2 : Int)] : List Int) r_77 h_r_77) rfl ⟨(argP (id := 0) (by (conv => lhs; whnf); all_goals rfl) rfl), (argOL 6 (by (conv => lhs; whnf); all_goals rfl) rfl rfl (map_ni (fun _ => ⟨rfl, rfl⟩) _)), trivial⟩ rfl ⟨rfl, trivial⟩ rfl rfl rfl (giveU rfl) ⟨rfl, trivial⟩, ?_⟩
          conv => whnf
          obtain ⟨r_78, h_r_78, hF⟩ := bind_some hF
          refine ⟨_, _, _, _, _, _, _, _, callX false [0] [] Try.func37 (by decide) rfl (keep_Src_Leg_ac r_77.2 r_78 h_r_78) rfl ⟨(argP (id := 0) (by (conv => lhs; whnf); all_goals rfl) rfl), trivial⟩ rfl ⟨rfl, trivial⟩ rfl rfl rfl lend0 ⟨rfl, trivial⟩, ?_⟩
          conv => whnf
          obtain ⟨r_79, h_r_79, hF⟩ := bind_some hF
          refine ⟨_, _, _, _, _, _, _, _, callX false [0] [] Try.func27 (by decide) rfl (keep_Src_AnyPlate_ac r_78.2 r_79 h_r_79) rfl ⟨(argP (id := 0) (by (conv => lhs; whnf); all_goals rfl) rfl), trivial⟩ rfl ⟨rfl, trivial⟩ rfl rfl rfl lend0 ⟨rfl, trivial⟩, ?_⟩
          conv => whnf
          obtain ⟨r_80, h_r_80, hF⟩ := bind_some hF
          refine ⟨_, _, _, _, _, _, _, _, callX false [0] [] Try.func23 (by decide) rfl (keep_Src_Range_ac r_79.2 (1 : Int) (3 : Int) r_80 h_r_80) rfl ⟨(argP (id := 0) (by (conv => lhs; whnf); all_goals rfl) rfl), (argE (by (conv => lhs; whnf); all_goals rfl) rfl), (argE (by (conv => lhs; whnf); all_goals rfl) rfl), trivial⟩ rfl ⟨rfl, trivial⟩ rfl rfl rfl lend0 ⟨rfl, trivial⟩, ?_⟩
          conv => whnf
          refine ⟨fun hb_46 => ?_, fun hb_46 => ?_⟩
          · replace hF := cond_t hb_46 hF
            conv => whnf
            obtain ⟨r_81, h_r_81, hF⟩ := bind_some hF
            refine ⟨_, _, _, _, _, _, _, _, callX false [0] [] Try.func37 (by decide) rfl (keep_Src_Leg_ac r_80.2 r_81 h_r_81) rfl ⟨(argP (id := 0) (by (conv => lhs; whnf); all_goals rfl) rfl), trivial⟩ rfl ⟨rfl, trivial⟩ rfl rfl rfl lend0 ⟨rfl, trivial⟩, ?_⟩
            conv => whnf
            obtain ⟨r_82, h_r_82, hF⟩ := bind_some hF
            refine ⟨_, _, _, _, _, _, _, _, callX false [0] [] Try.func38 (by decide) rfl (keep_Src_N_ac r_81.2 (4 : Int) r_82 h_r_82) rfl ⟨(argP (id := 0) (by (conv => lhs; whnf); all_goals rfl) rfl), (argE (by (conv => lhs; whnf); all_goals rfl) rfl), trivial⟩ rfl ⟨rfl, trivial⟩ rfl rfl rfl lend0 ⟨rfl, trivial⟩, ?_⟩
            conv => whnf
            obtain ⟨c_2, hc_2, hF⟩ := fin_some hF
            refine sw_loop tab_ok follows_ok (fun y : Nat × (List Int) × Int × (List Leg) × Int => keep_Src_Message_L2 y.1 y.2.1 y.2.2.1 y.2.2.2.1 y.2.2.2.2 = some c_2) (fun y => ⟨eL [(0, .ptr 0 0), (4, .ptr 1 0), (5, .ptr 2 0), (8, .int .i64 y.2.2.2.2)], hL [(0, .box [.lst 1 (y.2.1.map iA), .int .i64 y.2.2.1]), (1, .box [.int .i64 (0 : Int), .int .i64 (0 : Int), .str (⟨#[]⟩ : ByteArray), .int .i64 (0 : Int), .str (⟨#[]⟩ : ByteArray), .int .i64 (0 : Int), .str (⟨#[]⟩ : ByteArray), .int .i64 (0 : Int), .str (⟨#[]⟩ : ByteArray), .str (⟨#[]⟩ : ByteArray), .str (⟨#[]⟩ : ByteArray), .int .i64 (0 : Int), .str (⟨#[]⟩ : ByteArray), .int .i64 (0 : Int), .str (⟨#[]⟩ : ByteArray), .str (⟨#[]⟩ : ByteArray), .nils, .int .i64 (0 : Int), .int .i64 (0 : Int), .int .i64 (0 : Int), .int .i64 (0 : Int), .fls, .int .i64 (0 : Int), .int .i64 (0 : Int), .int .i64 (0 : Int), .str (⟨#[]⟩ : ByteArray), .str (⟨#[]⟩ : ByteArray), .int .i64 (0 : Int), .str (⟨#[]⟩ : ByteArray), .nils]), (2, .box [.int .i64 x_1, .int .i64 r_77.1, .str r_58.1, .int .i64 r_59.1, .str r_81.1.Flight.Carrier, .int .i64 r_81.1.Flight.Number, .str r_81.1.Flight.Suffix, .int .i64 r_81.1.Flight.Day, .str r_81.1.Port, .str r_81.1.Class, .str r_78.1.Flight.Carrier, .int .i64 r_78.1.Flight.Number, .str r_78.1.Flight.Suffix, .int .i64 r_78.1.Flight.Day, .str r_78.1.Port, .str r_78.1.Class, .osl 3, .int .i64 r_79.1.Lead, .int .i64 r_79.1.Airline, .int .i64 r_79.1.Serial, .int .i64 r_80.1, .fls, .int .i64 (0 : Int), .int .i64 (0 : Int), .int .i64 (0 : Int), .str (⟨#[]⟩ : ByteArray), .str (⟨#[]⟩ : ByteArray), .int .i64 (0 : Int), .str (⟨#[]⟩ : ByteArray), .nils]), (3, .row 6 (y.2.2.2.1.map encLeg))], 4⟩) (fun y => y.1) (9223372036854775807, r_82.2.L, r_82.2.At, ([] : List Leg), r_82.1) hc_2 (wk_mk [0, 1, 5] [3] [] rfl ⟨argP (id := 0) (by (conv => lhs; whnf); all_goals rfl) rfl, argP (id := 1) (by (conv => lhs; whnf); all_goals rfl) rfl, argP (id := 5) (by (conv => lhs; whnf); all_goals rfl) rfl, argE (by (conv => lhs; whnf); all_goals rfl) rfl, trivial⟩ ⟨boxL rfl rfl rfl ⟨(.ni _ rfl), (.ni _ rfl), trivial⟩, boxL rfl rfl rfl ⟨(.ni _ rfl), (.ni _ rfl), (.ni _ rfl), (.ni _ rfl), (.ni _ rfl), (.ni _ rfl), (.ni _ rfl), (.ni _ rfl), (.ni _ rfl), (.ni _ rfl), (.ni _ rfl), (.ni _ rfl), (.ni _ rfl), (.ni _ rfl), (.ni _ rfl), (.ni _ rfl), (.ni _ rfl), (.ni _ rfl), (.ni _ rfl), (.ni _ rfl), (.ni _ rfl), (.ni _ rfl), (.ni _ rfl), (.ni _ rfl), (.ni _ rfl), (.ni _ rfl), (.ni _ rfl), (.ni _ rfl), (.ni _ rfl), (.ni _ rfl), trivial⟩, boxL rfl rfl rfl ⟨(.ni _ rfl), (.ni _ rfl), (.ni _ rfl), (.ni _ rfl), (.ni _ rfl), (.ni _ rfl), (.ni _ rfl), (.ni _ rfl), (.ni _ rfl), (.ni _ rfl), (.ni _ rfl), (.ni _ rfl), (.ni _ rfl), (.ni _ rfl), (.ni _ rfl), (.ni _ rfl), (.nilz 3 (by simp)), (.ni _ rfl), (.ni _ rfl), (.ni _ rfl), (.ni _ rfl), (.ni _ rfl), (.ni _ rfl), (.ni _ rfl), (.ni _ rfl), (.ni _ rfl), (.ni _ rfl), (.ni _ rfl), (.ni _ rfl), (.ni _ rfl), trivial⟩, blkZ rfl, trivial⟩) ?_
            rintro ⟨q_89, a_83, i_84, a_85, i_86⟩ hL1
            try dsimp only at hL1
            rcases q_89 with _ | q_89
            · rw [keep_Src_Message_L2.eq_1] at hL1
              cases hL1
            rw [keep_Src_Message_L2.eq_2] at hL1
            show awp _ _ _ _ _ _ ⟨eL [(0, .ptr 0 0), (4, .ptr 1 0), (5, .ptr 2 0), (8, .int .i64 i_86)], hL [(0, .box [.lst 1 (a_83.map iA), .int .i64 i_84]), (1, .box [.int .i64 (0 : Int), .int .i64 (0 : Int), .str (⟨#[]⟩ : ByteArray), .int .i64 (0 : Int), .str (⟨#[]⟩ : ByteArray), .int .i64 (0 : Int), .str (⟨#[]⟩ : ByteArray), .int .i64 (0 : Int), .str (⟨#[]⟩ : ByteArray), .str (⟨#[]⟩ : ByteArray), .str (⟨#[]⟩ : ByteArray), .int .i64 (0 : Int), .str (⟨#[]⟩ : ByteArray), .int .i64 (0 : Int), .str (⟨#[]⟩ : ByteArray), .str (⟨#[]⟩ : ByteArray), .nils, .int .i64 (0 : Int), .int .i64 (0 : Int), .int .i64 (0 : Int), .int .i64 (0 : Int), .fls, .int .i64 (0 : Int), .int .i64 (0 : Int), .int .i64 (0 : Int), .str (⟨#[]⟩ : ByteArray), .str (⟨#[]⟩ : ByteArray), .int .i64 (0 : Int), .str (⟨#[]⟩ : ByteArray), .nils]), (2, .box [.int .i64 x_1, .int .i64 r_77.1, .str r_58.1, .int .i64 r_59.1, .str r_81.1.Flight.Carrier, .int .i64 r_81.1.Flight.Number, .str r_81.1.Flight.Suffix, .int .i64 r_81.1.Flight.Day, .str r_81.1.Port, .str r_81.1.Class, .str r_78.1.Flight.Carrier, .int .i64 r_78.1.Flight.Number, .str r_78.1.Flight.Suffix, .int .i64 r_78.1.Flight.Day, .str r_78.1.Port, .str r_78.1.Class, .osl 3, .int .i64 r_79.1.Lead, .int .i64 r_79.1.Airline, .int .i64 r_79.1.Serial, .int .i64 r_80.1, .fls, .int .i64 (0 : Int), .int .i64 (0 : Int), .int .i64 (0 : Int), .str (⟨#[]⟩ : ByteArray), .str (⟨#[]⟩ : ByteArray), .int .i64 (0 : Int), .str (⟨#[]⟩ : ByteArray), .nils]), (3, .row 6 (a_85.map encLeg))], 4⟩
            conv => whnf
            refine ⟨fun hb_47 => ?_, fun hb_47 => ?_⟩
            · replace hL1 := cond_t hb_47 hL1
              conv => whnf
              obtain ⟨r_87, h_r_87, hL1⟩ := bind_some hL1
              refine ⟨_, _, _, _, _, _, _, _, callX false [0] [] Try.func37 (by decide) rfl (keep_Src_Leg_ac (⟨a_83, i_84⟩ : Src) r_87 h_r_87) rfl ⟨(argP (id := 0) (by (conv => lhs; whnf); all_goals rfl) rfl), trivial⟩ rfl ⟨rfl, trivial⟩ rfl rfl rfl lend0 ⟨rfl, trivial⟩, ?_⟩
              conv => whnf
              obtain ⟨l_88, h_l_88, hL1⟩ := bind_some hL1
              refine ap_q (enc := encLeg) (l := a_85) (y := ([r_87.1] : List Leg)) h_l_88 rfl rfl (by decide) ?_
              conv => whnf
              refine ⟨by kernel_rfl, ?_⟩
              conv => whnf
              refine ⟨_, rfl, ?_⟩
              conv => whnf
              exact ⟨(q_89, r_87.2.L, r_87.2.At, l_88, (w64 (i_86 - (1 : Int)))), [0, 1, 2, 6], [], [], hL1, Nat.lt_succ_self _, wk_mk [0, 1, 2, 6] [] [] rfl ⟨argP (id := 0) (by (conv => lhs; whnf); all_goals rfl) rfl, argP (id := 1) (by (conv => lhs; whnf); all_goals rfl) rfl, argP (id := 2) (by (conv => lhs; whnf); all_goals rfl) rfl, argE (by (conv => lhs; whnf); all_goals rfl) rfl, trivial⟩ ⟨boxL rfl rfl rfl ⟨(.ni _ rfl), (.ni _ rfl), trivial⟩, boxL rfl rfl rfl ⟨(.ni _ rfl), (.ni _ rfl), (.ni _ rfl), (.ni _ rfl), (.ni _ rfl), (.ni _ rfl), (.ni _ rfl), (.ni _ rfl), (.ni _ rfl), (.ni _ rfl), (.ni _ rfl), (.ni _ rfl), (.ni _ rfl), (.ni _ rfl), (.ni _ rfl), (.ni _ rfl), (.ni _ rfl), (.ni _ rfl), (.ni _ rfl), (.ni _ rfl), (.ni _ rfl), (.ni _ rfl), (.ni _ rfl), (.ni _ rfl), (.ni _ rfl), (.ni _ rfl), (.ni _ rfl), (.ni _ rfl), (.ni _ rfl), (.ni _ rfl), trivial⟩, boxL rfl rfl rfl ⟨(.ni _ rfl), (.ni _ rfl), (.ni _ rfl), (.ni _ rfl), (.ni _ rfl), (.ni _ rfl), (.ni _ rfl), (.ni _ rfl), (.ni _ rfl), (.ni _ rfl), (.ni _ rfl), (.ni _ rfl), (.ni _ rfl), (.ni _ rfl), (.ni _ rfl), (.ni _ rfl), (.oslg 6 3 rfl), (.ni _ rfl), (.ni _ rfl), (.ni _ rfl), (.ni _ rfl), (.ni _ rfl), (.ni _ rfl), (.ni _ rfl), (.ni _ rfl), (.ni _ rfl), (.ni _ rfl), (.ni _ rfl), (.ni _ rfl), (.ni _ rfl), trivial⟩, blkR (fun _ => ⟨rfl, rfl⟩) rfl rfl, trivial⟩⟩
            · replace hL1 := cond_f hb_47 hL1
              conv => whnf
              obtain rfl := Option.some.inj hL1
              replace hF := fin_brk hF
              try dsimp only at hF
              obtain ⟨r_91, h_r_91, hF⟩ := bind_some hF
              refine ⟨_, _, _, _, _, _, _, _, callX false [0] [] Try.func38 (by decide) rfl (keep_Src_N_ac (⟨a_83, i_84⟩ : Src) (3 : Int) r_91 h_r_91) rfl ⟨(argP (id := 0) (by (conv => lhs; whnf); all_goals rfl) rfl), (argE (by (conv => lhs; whnf); all_goals rfl) rfl), trivial⟩ rfl ⟨rfl, trivial⟩ rfl rfl rfl lend0 ⟨rfl, trivial⟩, ?_⟩
              conv => whnf
              obtain ⟨r_92, h_r_92, hF⟩ := bind_some hF
              refine ⟨_, _, _, _, _, _, _, _, callX false [0] [] Try.func23 (by decide) rfl (keep_Src_Range_ac r_91.2 (1 : Int) (4 : Int) r_92 h_r_92) rfl ⟨(argP (id := 0) (by (conv => lhs; whnf); all_goals rfl) rfl), (argE (by (conv => lhs; whnf); all_goals rfl) rfl), (argE (by (conv => lhs; whnf); all_goals rfl) rfl), trivial⟩ rfl ⟨rfl, trivial⟩ rfl rfl rfl lend0 ⟨rfl, trivial⟩, ?_⟩
              conv => whnf
              obtain ⟨r_93, h_r_93, hF⟩ := bind_some hF
              refine ⟨_, _, _, _, _, _, _, _, callX false [0] [] Try.func23 (by decide) rfl (keep_Src_Range_ac r_92.2 (1 : Int) (4 : Int) r_93 h_r_93) rfl ⟨(argP (id := 0) (by (conv => lhs; whnf); all_goals rfl) rfl), (argE (by (conv => lhs; whnf); all_goals rfl) rfl), (argE (by (conv => lhs; whnf); all_goals rfl) rfl), trivial⟩ rfl ⟨rfl, trivial⟩ rfl rfl rfl lend0 ⟨rfl, trivial⟩, ?_⟩
              conv => whnf
              obtain ⟨r_94, h_r_94, hF⟩ := bind_some hF
              refine ⟨_, _, _, _, _, _, _, _, callX true [0] [7] Try.func39 (by decide) rfl (keep_Src_Pick_ac r_93.2 ([(20 : Int), (0 : Int), (999 : Int)] : List Int) r_94 h_r_94) rfl ⟨(argP (id := 0) (by (conv => lhs; whnf); all_goals rfl) rfl), (argOL 7 (by (conv => lhs; whnf); all_goals rfl) rfl rfl (map_ni (fun _ => ⟨rfl, rfl⟩) _)), trivial⟩ rfl ⟨rfl, trivial⟩ rfl rfl rfl (giveU rfl) ⟨rfl, trivial⟩, ?_⟩
              conv => whnf
              obtain ⟨r_95, h_r_95, hF⟩ := bind_some hF
              refine ⟨_, _, _, _, _, _, _, _, callX false [0] [] Try.func36 (by decide) rfl (keep_Src_Letters_ac r_94.2 (1 : Int) (6 : Int) r_95 h_r_95) rfl ⟨(argP (id := 0) (by (conv => lhs; whnf); all_goals rfl) rfl), (argE (by (conv => lhs; whnf); all_goals rfl) rfl), (argE (by (conv => lhs; whnf); all_goals rfl) rfl), trivial⟩ rfl ⟨rfl, trivial⟩ rfl rfl rfl lend0 ⟨rfl, trivial⟩, ?_⟩
              conv => whnf
              obtain ⟨r_96, h_r_96, hF⟩ := bind_some hF
              refine ⟨_, _, _, _, _, _, _, _, callX false [0] [] Try.func36 (by decide) rfl (keep_Src_Letters_ac r_95.2 (0 : Int) (5 : Int) r_96 h_r_96) rfl ⟨(argP (id := 0) (by (conv => lhs; whnf); all_goals rfl) rfl), (argE (by (conv => lhs; whnf); all_goals rfl) rfl), (argE (by (conv => lhs; whnf); all_goals rfl) rfl), trivial⟩ rfl ⟨rfl, trivial⟩ rfl rfl rfl lend0 ⟨rfl, trivial⟩, ?_⟩
              conv => whnf
              obtain ⟨r_97, h_r_97, hF⟩ := bind_some hF
              refine ⟨_, _, _, _, _, _, _, _, callX false [0] [] Try.func23 (by decide) rfl (keep_Src_Range_ac r_96.2 (0 : Int) (3 : Int) r_97 h_r_97) rfl ⟨(argP (id := 0) (by (conv => lhs; whnf); all_goals rfl) rfl), (argE (by (conv => lhs; whnf); all_goals rfl) rfl), (argE (by (conv => lhs; whnf); all_goals rfl) rfl), trivial⟩ rfl ⟨rfl, trivial⟩ rfl rfl rfl lend0 ⟨rfl, trivial⟩, ?_⟩
              conv => whnf
              obtain rfl := Option.some.inj hF
              exact ret_gz [0] [] [3] rfl (argA (c := [.int .i64 x_1, .int .i64 r_77.1, .str r_58.1, .int .i64 r_59.1, .str r_81.1.Flight.Carrier, .int .i64 r_81.1.Flight.Number, .str r_81.1.Flight.Suffix, .int .i64 r_81.1.Flight.Day, .str r_81.1.Port, .str r_81.1.Class, .str r_78.1.Flight.Carrier, .int .i64 r_78.1.Flight.Number, .str r_78.1.Flight.Suffix, .int .i64 r_78.1.Flight.Day, .str r_78.1.Port, .str r_78.1.Class, .osl 3, .int .i64 r_79.1.Lead, .int .i64 r_79.1.Airline, .int .i64 r_79.1.Serial, .int .i64 r_80.1, .bool (decide ((0 : Int) < r_91.1)), .int .i64 r_92.1, .int .i64 r_93.1, .int .i64 r_94.1, .str r_95.1, .str r_96.1, .int .i64 r_97.1, .str (⟨#[]⟩ : ByteArray), .nils]) (by (conv => lhs; whnf); all_goals rfl) rfl ⟨(.ni _ rfl), (.ni _ rfl), (.ni _ rfl), (.ni _ rfl), (.ni _ rfl), (.ni _ rfl), (.ni _ rfl), (.ni _ rfl), (.ni _ rfl), (.ni _ rfl), (.ni _ rfl), (.ni _ rfl), (.ni _ rfl), (.ni _ rfl), (.ni _ rfl), (.ni _ rfl), (.osl 3 6 _ (by simp) rfl (map_ni (fun _ => ⟨rfl, rfl⟩) _)), (.ni _ rfl), (.ni _ rfl), (.ni _ rfl), (.ni _ rfl), (.ni _ rfl), (.ni _ rfl), (.ni _ rfl), (.ni _ rfl), (.ni _ rfl), (.ni _ rfl), (.ni _ rfl), (.ni _ rfl), (.nils _), trivial⟩) ⟨boxL rfl rfl rfl ⟨(.ni _ rfl), (.ni _ rfl), trivial⟩, trivial⟩
          · replace hF := cond_f hb_46 hF
            conv => whnf
            obtain ⟨r_98, h_r_98, hF⟩ := bind_some hF
            refine ⟨_, _, _, _, _, _, _, _, callX false [0] [] Try.func38 (by decide) rfl (keep_Src_N_ac r_80.2 (4 : Int) r_98 h_r_98) rfl ⟨(argP (id := 0) (by (conv => lhs; whnf); all_goals rfl) rfl), (argE (by (conv => lhs; whnf); all_goals rfl) rfl), trivial⟩ rfl ⟨rfl, trivial⟩ rfl rfl rfl lend0 ⟨rfl, trivial⟩, ?_⟩
            conv => whnf
            obtain ⟨c_2, hc_2, hF⟩ := fin_some hF
            refine sw_loop tab_ok follows_ok (fun y : Nat × (List Int) × Int × (List Leg) × Int => keep_Src_Message_L2 y.1 y.2.1 y.2.2.1 y.2.2.2.1 y.2.2.2.2 = some c_2) (fun y => ⟨eL [(0, .ptr 0 0), (4, .ptr 1 0), (5, .ptr 2 0), (8, .int .i64 y.2.2.2.2)], hL [(0, .box [.lst 1 (y.2.1.map iA), .int .i64 y.2.2.1]), (1, .box [.int .i64 (0 : Int), .int .i64 (0 : Int), .str (⟨#[]⟩ : ByteArray), .int .i64 (0 : Int), .str (⟨#[]⟩ : ByteArray), .int .i64 (0 : Int), .str (⟨#[]⟩ : ByteArray), .int .i64 (0 : Int), .str (⟨#[]⟩ : ByteArray), .str (⟨#[]⟩ : ByteArray), .str (⟨#[]⟩ : ByteArray), .int .i64 (0 : Int), .str (⟨#[]⟩ : ByteArray), .int .i64 (0 : Int), .str (⟨#[]⟩ : ByteArray), .str (⟨#[]⟩ : ByteArray), .nils, .int .i64 (0 : Int), .int .i64 (0 : Int), .int .i64 (0 : Int), .int .i64 (0 : Int), .fls, .int .i64 (0 : Int), .int .i64 (0 : Int), .int .i64 (0 : Int), .str (⟨#[]⟩ : ByteArray), .str (⟨#[]⟩ : ByteArray), .int .i64 (0 : Int), .str (⟨#[]⟩ : ByteArray), .nils]), (2, .box [.int .i64 x_1, .int .i64 r_77.1, .str r_58.1, .int .i64 r_59.1, .str (⟨#[]⟩ : ByteArray), .int .i64 (0 : Int), .str (⟨#[]⟩ : ByteArray), .int .i64 (0 : Int), .str (⟨#[]⟩ : ByteArray), .str (⟨#[]⟩ : ByteArray), .str r_78.1.Flight.Carrier, .int .i64 r_78.1.Flight.Number, .str r_78.1.Flight.Suffix, .int .i64 r_78.1.Flight.Day, .str r_78.1.Port, .str r_78.1.Class, .osl 3, .int .i64 r_79.1.Lead, .int .i64 r_79.1.Airline, .int .i64 r_79.1.Serial, .int .i64 r_80.1, .fls, .int .i64 (0 : Int), .int .i64 (0 : Int), .int .i64 (0 : Int), .str (⟨#[]⟩ : ByteArray), .str (⟨#[]⟩ : ByteArray), .int .i64 (0 : Int), .str (⟨#[]⟩ : ByteArray), .nils]), (3, .row 6 (y.2.2.2.1.map encLeg))], 4⟩) (fun y => y.1) (9223372036854775807, r_98.2.L, r_98.2.At, ([] : List Leg), r_98.1) hc_2 (wk_mk [0, 1, 5] [3] [] rfl ⟨argP (id := 0) (by (conv => lhs; whnf); all_goals rfl) rfl, argP (id := 1) (by (conv => lhs; whnf); all_goals rfl) rfl, argP (id := 5) (by (conv => lhs; whnf); all_goals rfl) rfl, argE (by (conv => lhs; whnf); all_goals rfl) rfl, trivial⟩ ⟨boxL rfl rfl rfl ⟨(.ni _ rfl), (.ni _ rfl), trivial⟩, boxL rfl rfl rfl ⟨(.ni _ rfl), (.ni _ rfl), (.ni _ rfl), (.ni _ rfl), (.ni _ rfl), (.ni _ rfl), (.ni _ rfl), (.ni _ rfl), (.ni _ rfl), (.ni _ rfl), (.ni _ rfl), (.ni _ rfl), (.ni _ rfl), (.ni _ rfl), (.ni _ rfl), (.ni _ rfl), (.ni _ rfl), (.ni _ rfl), (.ni _ rfl), (.ni _ rfl), (.ni _ rfl), (.ni _ rfl), (.ni _ rfl), (.ni _ rfl), (.ni _ rfl), (.ni _ rfl), (.ni _ rfl), (.ni _ rfl), (.ni _ rfl), (.ni _ rfl), trivial⟩, boxL rfl rfl rfl ⟨(.ni _ rfl), (.ni _ rfl), (.ni _ rfl), (.ni _ rfl), (.ni _ rfl), (.ni _ rfl), (.ni _ rfl), (.ni _ rfl), (.ni _ rfl), (.ni _ rfl), (.ni _ rfl), (.ni _ rfl), (.ni _ rfl), (.ni _ rfl), (.ni _ rfl), (.ni _ rfl), (.nilz 3 (by simp)), (.ni _ rfl), (.ni _ rfl), (.ni _ rfl), (.ni _ rfl), (.ni _ rfl), (.ni _ rfl), (.ni _ rfl), (.ni _ rfl), (.ni _ rfl), (.ni _ rfl), (.ni _ rfl), (.ni _ rfl), (.ni _ rfl), trivial⟩, blkZ rfl, trivial⟩) ?_
            rintro ⟨q_105, a_99, i_100, a_101, i_102⟩ hL1
            try dsimp only at hL1
            rcases q_105 with _ | q_105
            · rw [keep_Src_Message_L2.eq_1] at hL1
              cases hL1
            rw [keep_Src_Message_L2.eq_2] at hL1
            show awp _ _ _ _ _ _ ⟨eL [(0, .ptr 0 0), (4, .ptr 1 0), (5, .ptr 2 0), (8, .int .i64 i_102)], hL [(0, .box [.lst 1 (a_99.map iA), .int .i64 i_100]), (1, .box [.int .i64 (0 : Int), .int .i64 (0 : Int), .str (⟨#[]⟩ : ByteArray), .int .i64 (0 : Int), .str (⟨#[]⟩ : ByteArray), .int .i64 (0 : Int), .str (⟨#[]⟩ : ByteArray), .int .i64 (0 : Int), .str (⟨#[]⟩ : ByteArray), .str (⟨#[]⟩ : ByteArray), .str (⟨#[]⟩ : ByteArray), .int .i64 (0 : Int), .str (⟨#[]⟩ : ByteArray), .int .i64 (0 : Int), .str (⟨#[]⟩ : ByteArray), .str (⟨#[]⟩ : ByteArray), .nils, .int .i64 (0 : Int), .int .i64 (0 : Int), .int .i64 (0 : Int), .int .i64 (0 : Int), .fls, .int .i64 (0 : Int), .int .i64 (0 : Int), .int .i64 (0 : Int), .str (⟨#[]⟩ : ByteArray), .str (⟨#[]⟩ : ByteArray), .int .i64 (0 : Int), .str (⟨#[]⟩ : ByteArray), .nils]), (2, .box [.int .i64 x_1, .int .i64 r_77.1, .str r_58.1, .int .i64 r_59.1, .str (⟨#[]⟩ : ByteArray), .int .i64 (0 : Int), .str (⟨#[]⟩ : ByteArray), .int .i64 (0 : Int), .str (⟨#[]⟩ : ByteArray), .str (⟨#[]⟩ : ByteArray), .str r_78.1.Flight.Carrier, .int .i64 r_78.1.Flight.Number, .str r_78.1.Flight.Suffix, .int .i64 r_78.1.Flight.Day, .str r_78.1.Port, .str r_78.1.Class, .osl 3, .int .i64 r_79.1.Lead, .int .i64 r_79.1.Airline, .int .i64 r_79.1.Serial, .int .i64 r_80.1, .fls, .int .i64 (0 : Int), .int .i64 (0 : Int), .int .i64 (0 : Int), .str (⟨#[]⟩ : ByteArray), .str (⟨#[]⟩ : ByteArray), .int .i64 (0 : Int), .str (⟨#[]⟩ : ByteArray), .nils]), (3, .row 6 (a_101.map encLeg))], 4⟩
            conv => whnf
            refine ⟨fun hb_48 => ?_, fun hb_48 => ?_⟩
            · replace hL1 := cond_t hb_48 hL1
              conv => whnf
              obtain ⟨r_103, h_r_103, hL1⟩ := bind_some hL1
              refine ⟨_, _, _, _, _, _, _, _, callX false [0] [] Try.func37 (by decide) rfl (keep_Src_Leg_ac (⟨a_99, i_100⟩ : Src) r_103 h_r_103) rfl ⟨(argP (id := 0) (by (conv => lhs; whnf); all_goals rfl) rfl), trivial⟩ rfl ⟨rfl, trivial⟩ rfl rfl rfl lend0 ⟨rfl, trivial⟩, ?_⟩
              conv => whnf
              obtain ⟨l_104, h_l_104, hL1⟩ := bind_some hL1
              refine ap_q (enc := encLeg) (l := a_101) (y := ([r_103.1] : List Leg)) h_l_104 rfl rfl (by decide) ?_
              conv => whnf
              refine ⟨by kernel_rfl, ?_⟩
              conv => whnf
              refine ⟨_, rfl, ?_⟩
              conv => whnf
              exact ⟨(q_105, r_103.2.L, r_103.2.At, l_104, (w64 (i_102 - (1 : Int)))), [0, 1, 2, 6], [], [], hL1, Nat.lt_succ_self _, wk_mk [0, 1, 2, 6] [] [] rfl ⟨argP (id := 0) (by (conv => lhs; whnf); all_goals rfl) rfl, argP (id := 1) (by (conv => lhs; whnf); all_goals rfl) rfl, argP (id := 2) (by (conv => lhs; whnf); all_goals rfl) rfl, argE (by (conv => lhs; whnf); all_goals rfl) rfl, trivial⟩ ⟨boxL rfl rfl rfl ⟨(.ni _ rfl), (.ni _ rfl), trivial⟩, boxL rfl rfl rfl ⟨(.ni _ rfl), (.ni _ rfl), (.ni _ rfl), (.ni _ rfl), (.ni _ rfl), (.ni _ rfl), (.ni _ rfl), (.ni _ rfl), (.ni _ rfl), (.ni _ rfl), (.ni _ rfl), (.ni _ rfl), (.ni _ rfl), (.ni _ rfl), (.ni _ rfl), (.ni _ rfl), (.ni _ rfl), (.ni _ rfl), (.ni _ rfl), (.ni _ rfl), (.ni _ rfl), (.ni _ rfl), (.ni _ rfl), (.ni _ rfl), (.ni _ rfl), (.ni _ rfl), (.ni _ rfl), (.ni _ rfl), (.ni _ rfl), (.ni _ rfl), trivial⟩, boxL rfl rfl rfl ⟨(.ni _ rfl), (.ni _ rfl), (.ni _ rfl), (.ni _ rfl), (.ni _ rfl), (.ni _ rfl), (.ni _ rfl), (.ni _ rfl), (.ni _ rfl), (.ni _ rfl), (.ni _ rfl), (.ni _ rfl), (.ni _ rfl), (.ni _ rfl), (.ni _ rfl), (.ni _ rfl), (.oslg 6 3 rfl), (.ni _ rfl), (.ni _ rfl), (.ni _ rfl), (.ni _ rfl), (.ni _ rfl), (.ni _ rfl), (.ni _ rfl), (.ni _ rfl), (.ni _ rfl), (.ni _ rfl), (.ni _ rfl), (.ni _ rfl), (.ni _ rfl), trivial⟩, blkR (fun _ => ⟨rfl, rfl⟩) rfl rfl, trivial⟩⟩
            · replace hL1 := cond_f hb_48 hL1
              conv => whnf
              obtain rfl := Option.some.inj hL1
              replace hF := fin_brk hF
              try dsimp only at hF
              obtain ⟨r_107, h_r_107, hF⟩ := bind_some hF
              refine ⟨_, _, _, _, _, _, _, _, callX false [0] [] Try.func38 (by decide) rfl (keep_Src_N_ac (⟨a_99, i_100⟩ : Src) (3 : Int) r_107 h_r_107) rfl ⟨(argP (id := 0) (by (conv => lhs; whnf); all_goals rfl) rfl), (argE (by (conv => lhs; whnf); all_goals rfl) rfl), trivial⟩ rfl ⟨rfl, trivial⟩ rfl rfl rfl lend0 ⟨rfl, trivial⟩, ?_⟩
              conv => whnf
              obtain ⟨r_108, h_r_108, hF⟩ := bind_some hF
              refine ⟨_, _, _, _, _, _, _, _, callX false [0] [] Try.func23 (by decide) rfl (keep_Src_Range_ac r_107.2 (1 : Int) (4 : Int) r_108 h_r_108) rfl ⟨(argP (id := 0) (by (conv => lhs; whnf); all_goals rfl) rfl), (argE (by (conv => lhs; whnf); all_goals rfl) rfl), (argE (by (conv => lhs; whnf); all_goals rfl) rfl), trivial⟩ rfl ⟨rfl, trivial⟩ rfl rfl rfl lend0 ⟨rfl, trivial⟩, ?_⟩
              conv => whnf
              obtain ⟨r_109, h_r_109, hF⟩ := bind_some hF
              refine ⟨_, _, _, _, _, _, _, _, callX false [0] [] Try.func23 (by decide) rfl (keep_Src_Range_ac r_108.2 (1 : Int) (4 : Int) r_109 h_r_109) rfl ⟨(argP (id := 0) (by (conv => lhs; whnf); all_goals rfl) rfl), (argE (by (conv => lhs; whnf); all_goals rfl) rfl), (argE (by (conv => lhs; whnf); all_goals rfl) rfl), trivial⟩ rfl ⟨rfl, trivial⟩ rfl rfl rfl lend0 ⟨rfl, trivial⟩, ?_⟩
              conv => whnf
              obtain ⟨r_110, h_r_110, hF⟩ := bind_some hF
              refine ⟨_, _, _, _, _, _, _, _, callX true [0] [7] Try.func39 (by decide) rfl (keep_Src_Pick_ac r_109.2 ([(20 : Int), (0 : Int), (999 : Int)] : List Int) r_110 h_r_110) rfl ⟨(argP (id := 0) (by (conv => lhs; whnf); all_goals rfl) rfl), (argOL 7 (by (conv => lhs; whnf); all_goals rfl) rfl rfl (map_ni (fun _ => ⟨rfl, rfl⟩) _)), trivial⟩ rfl ⟨rfl, trivial⟩ rfl rfl rfl (giveU rfl) ⟨rfl, trivial⟩, ?_⟩
              conv => whnf
              obtain ⟨r_111, h_r_111, hF⟩ := bind_some hF
              refine ⟨_, _, _, _, _, _, _, _, callX false [0] [] Try.func36 (by decide) rfl (keep_Src_Letters_ac r_110.2 (1 : Int) (6 : Int) r_111 h_r_111) rfl ⟨(argP (id := 0) (by (conv => lhs; whnf); all_goals rfl) rfl), (argE (by (conv => lhs; whnf); all_goals rfl) rfl), (argE (by (conv => lhs; whnf); all_goals rfl) rfl), trivial⟩ rfl ⟨rfl, trivial⟩ rfl rfl rfl lend0 ⟨rfl, trivial⟩, ?_⟩
              conv => whnf
              obtain ⟨r_112, h_r_112, hF⟩ := bind_some hF
              refine ⟨_, _, _, _, _, _, _, _, callX false [0] [] Try.func36 (by decide) rfl (keep_Src_Letters_ac r_111.2 (0 : Int) (5 : Int) r_112 h_r_112) rfl ⟨(argP (id := 0) (by (conv => lhs; whnf); all_goals rfl) rfl), (argE (by (conv => lhs; whnf); all_goals rfl) rfl), (argE (by (conv => lhs; whnf); all_goals rfl) rfl), trivial⟩ rfl ⟨rfl, trivial⟩ rfl rfl rfl lend0 ⟨rfl, trivial⟩, ?_⟩
              conv => whnf
              obtain ⟨r_113, h_r_113, hF⟩ := bind_some hF
              refine ⟨_, _, _, _, _, _, _, _, callX false [0] [] Try.func23 (by decide) rfl (keep_Src_Range_ac r_112.2 (0 : Int) (3 : Int) r_113 h_r_113) rfl ⟨(argP (id := 0) (by (conv => lhs; whnf); all_goals rfl) rfl), (argE (by (conv => lhs; whnf); all_goals rfl) rfl), (argE (by (conv => lhs; whnf); all_goals rfl) rfl), trivial⟩ rfl ⟨rfl, trivial⟩ rfl rfl rfl lend0 ⟨rfl, trivial⟩, ?_⟩
              conv => whnf
              obtain rfl := Option.some.inj hF
              exact ret_gz [0] [] [3] rfl (argA (c := [.int .i64 x_1, .int .i64 r_77.1, .str r_58.1, .int .i64 r_59.1, .str (⟨#[]⟩ : ByteArray), .int .i64 (0 : Int), .str (⟨#[]⟩ : ByteArray), .int .i64 (0 : Int), .str (⟨#[]⟩ : ByteArray), .str (⟨#[]⟩ : ByteArray), .str r_78.1.Flight.Carrier, .int .i64 r_78.1.Flight.Number, .str r_78.1.Flight.Suffix, .int .i64 r_78.1.Flight.Day, .str r_78.1.Port, .str r_78.1.Class, .osl 3, .int .i64 r_79.1.Lead, .int .i64 r_79.1.Airline, .int .i64 r_79.1.Serial, .int .i64 r_80.1, .bool (decide ((0 : Int) < r_107.1)), .int .i64 r_108.1, .int .i64 r_109.1, .int .i64 r_110.1, .str r_111.1, .str r_112.1, .int .i64 r_113.1, .str (⟨#[]⟩ : ByteArray), .nils]) (by (conv => lhs; whnf); all_goals rfl) rfl ⟨(.ni _ rfl), (.ni _ rfl), (.ni _ rfl), (.ni _ rfl), (.ni _ rfl), (.ni _ rfl), (.ni _ rfl), (.ni _ rfl), (.ni _ rfl), (.ni _ rfl), (.ni _ rfl), (.ni _ rfl), (.ni _ rfl), (.ni _ rfl), (.ni _ rfl), (.ni _ rfl), (.osl 3 6 _ (by simp) rfl (map_ni (fun _ => ⟨rfl, rfl⟩) _)), (.ni _ rfl), (.ni _ rfl), (.ni _ rfl), (.ni _ rfl), (.ni _ rfl), (.ni _ rfl), (.ni _ rfl), (.ni _ rfl), (.ni _ rfl), (.ni _ rfl), (.ni _ rfl), (.ni _ rfl), (.nils _), trivial⟩) ⟨boxL rfl rfl rfl ⟨(.ni _ rfl), (.ni _ rfl), trivial⟩, trivial⟩

set_option maxRecDepth 100000 in
set_option maxHeartbeats 40000000 in
theorem ref01_Valid_ac (x_0 : Plate) (r : Bool) (hF : ref01_Valid x_0 = some r) : AC Try.prog 55 [.agg (encPlate x_0)] [] (.bool r) [] := by
  refine ac_of tab_ok follows_ok Try.func55 rfl Try.ntmps55 rfl ?_
  unfold ref01_Valid at hF
  conv => whnf
  refine ⟨fun hb_6 => ?_, fun hb_6 => ?_⟩
  · replace hF := cond_t hb_6 hF
    conv => whnf
    refine ⟨fun hb_7 => ?_, fun hb_7 => ?_⟩
    · replace hF := cond_t hb_7 hF
      conv => whnf
      refine ⟨fun hb_8 => ?_, fun hb_8 => ?_⟩
      · replace hF := cond_t hb_8 hF
        conv => whnf
        refine ⟨fun hb_9 => ?_, fun hb_9 => ?_⟩
        · replace hF := cond_t hb_9 hF
          conv => whnf
          refine ⟨fun hb_10 => ?_, fun hb_10 => ?_⟩
          · replace hF := cond_t hb_10 hF
            conv => whnf
            obtain rfl := Option.some.inj hF
            exact ret_gz [] [] [] rfl (argE (by (conv => lhs; whnf); all_goals rfl) rfl) trivial
          · replace hF := cond_f hb_10 hF
            conv => whnf
            obtain rfl := Option.some.inj hF
            exact ret_gz [] [] [] rfl (argFl (by (conv => lhs; whnf); all_goals rfl)) trivial
        · replace hF := cond_f hb_9 hF
          conv => whnf
          obtain rfl := Option.some.inj hF
          exact ret_gz [] [] [] rfl (argFl (by (conv => lhs; whnf); all_goals rfl)) trivial
      · replace hF := cond_f hb_8 hF
        conv => whnf
        obtain rfl := Option.some.inj hF
        exact ret_gz [] [] [] rfl (argFl (by (conv => lhs; whnf); all_goals rfl)) trivial
    · replace hF := cond_f hb_7 hF
      conv => whnf
      obtain rfl := Option.some.inj hF
      exact ret_gz [] [] [] rfl (argFl (by (conv => lhs; whnf); all_goals rfl)) trivial
  · replace hF := cond_f hb_6 hF
    conv => whnf
    obtain rfl := Option.some.inj hF
    exact ret_gz [] [] [] rfl (argFl (by (conv => lhs; whnf); all_goals rfl)) trivial

set_option maxRecDepth 100000 in
set_option maxHeartbeats 40000000 in
theorem ref01_sign_ac (x_0 : Int) (x_1 : Int) (r : Int) (hF : ref01_sign x_0 x_1 = some r) : AC Try.prog 62 [.int .i64 x_0, .int .i64 x_1] [] (.int .i64 r) [] := by
  refine ac_of tab_ok follows_ok Try.func62 rfl Try.ntmps62 rfl ?_
  unfold ref01_sign at hF
  conv => whnf
  refine ⟨fun hb_3 => ?_, fun hb_3 => ?_⟩
  · replace hF := cond_t hb_3 hF
    conv => whnf
    obtain rfl := Option.some.inj hF
    exact ret_gz [] [] [] rfl (argE (by (conv => lhs; whnf); all_goals rfl) rfl) trivial
  · replace hF := cond_f hb_3 hF
    conv => whnf
    refine ⟨fun hb_4 => ?_, fun hb_4 => ?_⟩
    · replace hF := cond_t hb_4 hF
      conv => whnf
      obtain rfl := Option.some.inj hF
      exact ret_gz [] [] [] rfl (argE (by (conv => lhs; whnf); all_goals rfl) rfl) trivial
    · replace hF := cond_f hb_4 hF
      conv => whnf
      obtain rfl := Option.some.inj hF
      exact ret_gz [] [] [] rfl (argE (by (conv => lhs; whnf); all_goals rfl) rfl) trivial
end Go.Proofs.Ytkliakcegihikaa.Ex
