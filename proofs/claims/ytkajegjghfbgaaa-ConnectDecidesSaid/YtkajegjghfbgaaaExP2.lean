/- The functions of the program compute what was printed; walks printed by a program. -/
import Derived.Test.YtkajegjghfbgaaaExF
import Derived.Test.YtkajegjghfbgaaaMp
import Derived.Test.YtkajegjghfbgaaaSrtLate
import Derived.Test.YtkajegjghfbgaaaExP1
namespace Go.Proofs.Ytkajegjghfbgaaa.Ex
open Go.RowKit Go.Proofs.Ytkajegjghfbgaaa.Ax
set_option linter.unusedVariables false
set_option linter.unusedSimpArgs false
set_option maxRecDepth 100000 in
set_option maxHeartbeats 40000000 in
theorem connect_arguments_ac (x_0 : (List Minimum)) (x_1 : (List HoldRule)) (x_2 : (List Connecting)) (x_3 : Int) (r : Int) (hF : connect_arguments x_0 x_1 x_2 x_3 = some r) : AC Try.prog 40 [.lst 3 (x_0.map encMinimum), .lst 3 (x_1.map encHoldRule), .lst 7 (x_2.map encConnecting), .int .i64 x_3] [] (.int .i64 r) [] := by
  refine ac_of tab_ok follows_ok Try.func40 rfl Try.ntmps40 rfl ?_
  unfold connect_arguments at hF
  conv => whnf
  obtain ⟨r_1, h_r_1, hF⟩ := bind_some hF
  refine ⟨_, _, _, _, _, _, _, _, _, callX false [] [] 0 Try.func14 (by decide) rfl (connect_Validate_ac x_0 r_1 h_r_1) rfl ⟨(argE (by (conv => lhs; whnf); all_goals rfl) rfl), trivial⟩ rfl trivial rfl rfl rfl lend0 trivial rfl, ?_⟩
  conv => whnf
  refine ⟨fun hb_18 => ?_, fun hb_18 => ?_⟩
  · replace hF := cond_t hb_18 hF
    conv => whnf
    obtain rfl := Option.some.inj hF
    exact ret_gz [] [] [] rfl (argE (by (conv => lhs; whnf); all_goals rfl) rfl) trivial
  · replace hF := cond_f hb_18 hF
    conv => whnf
    obtain ⟨r_2, h_r_2, hF⟩ := bind_some hF
    refine ⟨_, _, _, _, _, _, _, _, _, callX false [] [] 0 Try.func33 (by decide) rfl (connect_in_ac x_3 (0 : Int) (1048576 : Int) r_2 h_r_2) rfl ⟨(argE (by (conv => lhs; whnf); all_goals rfl) rfl), (argE (by (conv => lhs; whnf); all_goals rfl) rfl), (argE (by (conv => lhs; whnf); all_goals rfl) rfl), trivial⟩ rfl trivial rfl rfl rfl lend0 trivial rfl, ?_⟩
    conv => whnf
    refine ⟨fun hb_19 => ?_, fun hb_19 => ?_⟩
    · replace hF := cond_t hb_19 hF
      conv => whnf
      obtain rfl := Option.some.inj hF
      exact ret_gz [] [] [] rfl (argE (by (conv => lhs; whnf); all_goals rfl) rfl) trivial
    · replace hF := cond_f hb_19 hF
      conv => whnf
      refine len_q (enc := encHoldRule) (l := x_1) rfl ?_
      conv => whnf
      refine ⟨fun hb_20 => ?_, fun hb_20 => ?_⟩
      · replace hF := cond_f hb_20 hF
        conv => whnf
        refine len_q (enc := encConnecting) (l := x_2) rfl ?_
        conv => whnf
        refine ⟨fun hb_21 => ?_, fun hb_21 => ?_⟩
        · replace hF := cond_t hb_21 hF
          conv => whnf
          obtain rfl := Option.some.inj hF
          exact ret_gz [] [] [] rfl (argE (by (conv => lhs; whnf); all_goals rfl) rfl) trivial
        · replace hF := cond_f hb_21 hF
          conv => whnf
          refine len_q (enc := encHoldRule) (l := x_1) rfl ?_
          conv => whnf
          obtain ⟨c_1, hc_1, hF⟩ := fin_some hF
          refine sw_bv 1 (v := .lst 3 (x_1.map encHoldRule)) (by (conv => lhs; whnf); all_goals rfl) (fun hb => ?_)
          have hbd_k_4 : x_1.length ≤ 9223372036854775807 := bnd_len (enc := encHoldRule) (hb)
          refine sw_loop tab_ok follows_ok (fun y : Nat => y ≤ x_1.length ∧ connect_arguments_L1 (x_1.drop y) y = some c_1) (fun y => ⟨eL [(2, .lst 7 (x_2.map encConnecting)), (31, .lst 3 (x_1.map encHoldRule)), (32, .int .i64 (x_1.length : Int)), (33, .int .i64 (y : Int))], hL [], 0⟩) (fun y => x_1.length - y) 0 ⟨Nat.zero_le _, hc_1⟩ (wk_mk [] [] [] rfl ⟨argE (by (conv => lhs; whnf); all_goals rfl) rfl, argE (by (conv => lhs; whnf); all_goals rfl) rfl, argE (by (conv => lhs; whnf); all_goals rfl) rfl, argE (by (conv => lhs; whnf); all_goals rfl) rfl, trivial⟩ trivial) ?_
          rintro k_4 ⟨hk_k_4, hL1⟩
          try dsimp only at hk_k_4 hL1
          show awp _ _ _ _ _ _ ⟨eL [(2, .lst 7 (x_2.map encConnecting)), (31, .lst 3 (x_1.map encHoldRule)), (32, .int .i64 (x_1.length : Int)), (33, .int .i64 (k_4 : Int))], hL [], 0⟩
          conv => whnf
          refine ⟨fun h => ?_, fun h => ?_⟩
          · have hlt_k_4 : k_4 < x_1.length := by have h := of_decide_eq_true h; omega
            obtain ⟨e_5, h_e_5⟩ : ∃ y, x_1[k_4]? = some y := ⟨_, List.getElem?_eq_getElem hlt_k_4⟩
            rw [drop_cons h_e_5, connect_arguments_L1.eq_2] at hL1
            conv => whnf
            refine ⟨k_4, _, rfl, ix_map h_e_5, ?_⟩
            conv => whnf
            obtain ⟨r_6, h_r_6, hL1⟩ := bind_some hL1
            refine ⟨_, _, _, _, _, _, _, _, _, callX false [] [] 0 Try.func49 (by decide) rfl (connect_possible_ac e_5 r_6 h_r_6) rfl ⟨(argE (by (conv => lhs; whnf); all_goals rfl) rfl), trivial⟩ rfl trivial rfl rfl rfl lend0 trivial rfl, ?_⟩
            conv => whnf
            refine ⟨fun hb_22 => ?_, fun hb_22 => ?_⟩
            · replace hL1 := cond_t hb_22 hL1
              conv => whnf
              obtain rfl := Option.some.inj hL1
              replace hF := fin_ret hF
              obtain rfl := Option.some.inj hF
              exact ret_gz [] [] [] rfl (argE (by (conv => lhs; whnf); all_goals rfl) rfl) trivial
            · replace hL1 := cond_f hb_22 hL1
              conv => whnf
              refine ⟨((k_4 + 1 : Nat) : Int), wrapE (by omega) (by omega) (by omega), ?_⟩
              conv => whnf
              exact ⟨k_4 + 1, [], [], [], ⟨hlt_k_4, hL1⟩, by show x_1.length - (k_4 + 1) < x_1.length - k_4; omega, wk_mk [] [] [] rfl ⟨argE (by (conv => lhs; whnf); all_goals rfl) rfl, argE (by (conv => lhs; whnf); all_goals rfl) rfl, argE (by (conv => lhs; whnf); all_goals rfl) rfl, argE (by (conv => lhs; whnf); all_goals rfl) rfl, trivial⟩ trivial⟩
          · rw [drop_nil (show x_1.length ≤ k_4 by have h := of_decide_eq_false h; omega), connect_arguments_L1.eq_1] at hL1
            conv => whnf
            obtain rfl := Option.some.inj hL1
            replace hF := fin_brk hF
            try dsimp only at hF
            refine ⟨_, mp_mk rfl, ?_⟩
            conv => whnf
            refine len_q (enc := encConnecting) (l := x_2) rfl ?_
            conv => whnf
            obtain ⟨c_2, hc_2, hF⟩ := fin_some hF
            refine sw_bv 2 (v := .lst 7 (x_2.map encConnecting)) (by (conv => lhs; whnf); all_goals rfl) (fun hb => ?_)
            have hbd_k_11 : x_2.length ≤ 9223372036854775807 := bnd_len (enc := encConnecting) (hb)
            refine sw_loop tab_ok follows_ok (fun y : Nat × (List Plate) => y.1 ≤ x_2.length ∧ connect_arguments_L2 (x_2.drop y.1) y.1 y.2 = some c_2) (fun y => ⟨eL [(2, .lst 7 (x_2.map encConnecting)), (12, .mp 0), (42, .lst 7 (x_2.map encConnecting)), (43, .int .i64 (x_2.length : Int)), (44, .int .i64 (y.1 : Int))], hL [(0, .obj (mpR y.2))], 1⟩) (fun y => x_2.length - y.1) (0, ([] : List Plate)) ⟨Nat.zero_le _, hc_2⟩ (wk_mk [0] [] [] rfl ⟨argE (by (conv => lhs; whnf); all_goals rfl) rfl, argM (id := 0) (by (conv => lhs; whnf); all_goals rfl) rfl, argE (by (conv => lhs; whnf); all_goals rfl) rfl, argE (by (conv => lhs; whnf); all_goals rfl) rfl, argE (by (conv => lhs; whnf); all_goals rfl) rfl, trivial⟩ ⟨blkM rfl rfl, trivial⟩) ?_
            rintro ⟨k_11, a_9⟩ ⟨hk_k_11, hL1⟩
            try dsimp only at hk_k_11 hL1
            show awp _ _ _ _ _ _ ⟨eL [(2, .lst 7 (x_2.map encConnecting)), (12, .mp 0), (42, .lst 7 (x_2.map encConnecting)), (43, .int .i64 (x_2.length : Int)), (44, .int .i64 (k_11 : Int))], hL [(0, .obj (mpR a_9))], 1⟩
            conv => whnf
            refine ⟨fun h => ?_, fun h => ?_⟩
            · have hlt_k_11 : k_11 < x_2.length := by have h := of_decide_eq_true h; omega
              obtain ⟨e_12, h_e_12⟩ : ∃ y, x_2[k_11]? = some y := ⟨_, List.getElem?_eq_getElem hlt_k_11⟩
              rw [drop_cons h_e_12, connect_arguments_L2.eq_2] at hL1
              conv => whnf
              refine ⟨k_11, _, rfl, ix_map h_e_12, ?_⟩
              conv => whnf
              obtain ⟨r_13, h_r_13, hL1⟩ := bind_some hL1
              refine ⟨_, _, _, _, _, _, _, _, _, callX false [] [] 0 Try.func47 (by decide) rfl (connect_valid_ac e_12 r_13 h_r_13) rfl ⟨(argE (by (conv => lhs; whnf); all_goals rfl) rfl), trivial⟩ rfl trivial rfl rfl rfl lend0 trivial rfl, ?_⟩
              conv => whnf
              refine ⟨fun hb_23 => ?_, fun hb_23 => ?_⟩
              · replace hL1 := cond_t hb_23 hL1
                conv => whnf
                obtain rfl := Option.some.inj hL1
                replace hF := fin_ret hF
                obtain rfl := Option.some.inj hF
                exact ret_gz [] [] [] rfl (argE (by (conv => lhs; whnf); all_goals rfl) rfl) trivial
              · replace hL1 := cond_f hb_23 hL1
                conv => whnf
                obtain ⟨m_14, h_m_14, hL1⟩ := bind_some hL1
                refine ⟨_, mp_up (x := e_12.Plate) (E := a_9) rfl rfl rfl rfl rfl h_m_14, ?_⟩
                conv => whnf
                refine ⟨((k_11 + 1 : Nat) : Int), wrapE (by omega) (by omega) (by omega), ?_⟩
                conv => whnf
                exact ⟨(k_11 + 1, m_14), [0], [], [], ⟨hlt_k_11, hL1⟩, by show x_2.length - (k_11 + 1) < x_2.length - k_11; omega, wk_mk [0] [] [] rfl ⟨argE (by (conv => lhs; whnf); all_goals rfl) rfl, argM (id := 0) (by (conv => lhs; whnf); all_goals rfl) rfl, argE (by (conv => lhs; whnf); all_goals rfl) rfl, argE (by (conv => lhs; whnf); all_goals rfl) rfl, argE (by (conv => lhs; whnf); all_goals rfl) rfl, trivial⟩ ⟨blkM rfl rfl, trivial⟩⟩
            · rw [drop_nil (show x_2.length ≤ k_11 by have h := of_decide_eq_false h; omega), connect_arguments_L2.eq_1] at hL1
              conv => whnf
              obtain rfl := Option.some.inj hL1
              replace hF := fin_brk hF
              try dsimp only at hF
              refine ⟨_, mp_len rfl rfl rfl, ?_⟩
              conv => whnf
              refine len_q (enc := encConnecting) (l := x_2) rfl ?_
              conv => whnf
              refine ⟨fun hb_24 => ?_, fun hb_24 => ?_⟩
              · replace hF := cond_t hb_24 hF
                conv => whnf
                obtain rfl := Option.some.inj hF
                exact ret_gz [] [] [] rfl (argE (by (conv => lhs; whnf); all_goals rfl) rfl) trivial
              · replace hF := cond_f hb_24 hF
                conv => whnf
                obtain rfl := Option.some.inj hF
                exact ret_gz [] [] [] rfl (argE (by (conv => lhs; whnf); all_goals rfl) rfl) trivial
      · replace hF := cond_t hb_20 hF
        conv => whnf
        obtain rfl := Option.some.inj hF
        exact ret_gz [] [] [] rfl (argE (by (conv => lhs; whnf); all_goals rfl) rfl) trivial

set_option maxRecDepth 100000 in
set_option maxHeartbeats 40000000 in
theorem slices_SortFunc_late_ac (x_0 : (List Late)) (r : (List Late)) (hF : slices_SortFunc_late x_0 = some r) : AC Try.prog 41 [.osl 0, .fn 42 []] [.row 2 (x_0.map encLate)] (.tup []) [.row 2 (r.map encLate)] := by
  exact srtLate_ac x_0 r hF

set_option maxRecDepth 100000 in
set_option maxHeartbeats 40000000 in
theorem connect_wait_f1_ac (x_0 : Late) (x_1 : HoldRule) (r : Bool) (hF : connect_wait_f1 x_0 x_1 = some r) : AC Try.prog 53 [.agg (encLate x_0), .iptr [.int .i64 x_1.Kind, .int .i64 x_1.N, .int .i64 x_1.Most]] [] (.bool r) [] := by
  refine ac_of tab_ok follows_ok Try.func53 rfl Try.ntmps53 rfl ?_
  unfold connect_wait_f1 at hF
  conv => whnf
  obtain rfl := Option.some.inj hF
  exact ret_gz [] [] [] rfl (argE (by (conv => lhs; whnf); all_goals rfl) rfl) trivial

set_option maxRecDepth 100000 in
set_option maxHeartbeats 40000000 in
theorem slices_IndexFunc_late_ac (x_0 : (List Late)) (x_1 : HoldRule) (r : Int) (hF : slices_IndexFunc_late x_0 x_1 = some r) : AC Try.prog 52 [.lst 2 (x_0.map encLate), .fn 53 [.iptr [.int .i64 x_1.Kind, .int .i64 x_1.N, .int .i64 x_1.Most]]] [] (.int .i64 r) [] := by
  refine ac_of tab_ok follows_ok Try.func52 rfl Try.ntmps52 rfl ?_
  unfold slices_IndexFunc_late at hF
  conv => whnf
  refine len_q (enc := encLate) (l := x_0) rfl ?_
  conv => whnf
  obtain ⟨c_1, hc_1, hF⟩ := fin_some hF
  refine sw_bv 0 (v := .lst 2 (x_0.map encLate)) (by (conv => lhs; whnf); all_goals rfl) (fun hb => ?_)
  have hbd_k_2 : x_0.length ≤ 9223372036854775807 := bnd_len (enc := encLate) (hb)
  refine sw_loop tab_ok follows_ok (fun y : Nat => y ≤ x_0.length ∧ slices_IndexFunc_late_L1 x_1 (x_0.drop y) y = some c_1) (fun y => ⟨eL [(0, .lst 2 (x_0.map encLate)), (1, .fn 53 [.iptr [.int .i64 x_1.Kind, .int .i64 x_1.N, .int .i64 x_1.Most]]), (7, .int .i64 (x_0.length : Int)), (8, .int .i64 (y : Int))], hL [], 0⟩) (fun y => x_0.length - y) 0 ⟨Nat.zero_le _, hc_1⟩ (wk_mk [] [] [] rfl ⟨argE (by (conv => lhs; whnf); all_goals rfl) rfl, argE (by (conv => lhs; whnf); all_goals rfl) rfl, argE (by (conv => lhs; whnf); all_goals rfl) rfl, argE (by (conv => lhs; whnf); all_goals rfl) rfl, trivial⟩ trivial) ?_
  rintro k_2 ⟨hk_k_2, hL1⟩
  try dsimp only at hk_k_2 hL1
  show awp _ _ _ _ _ _ ⟨eL [(0, .lst 2 (x_0.map encLate)), (1, .fn 53 [.iptr [.int .i64 x_1.Kind, .int .i64 x_1.N, .int .i64 x_1.Most]]), (7, .int .i64 (x_0.length : Int)), (8, .int .i64 (k_2 : Int))], hL [], 0⟩
  conv => whnf
  refine ⟨fun h => ?_, fun h => ?_⟩
  · have hlt_k_2 : k_2 < x_0.length := by have h := of_decide_eq_true h; omega
    obtain ⟨e_3, h_e_3⟩ : ∃ y, x_0[k_2]? = some y := ⟨_, List.getElem?_eq_getElem hlt_k_2⟩
    rw [drop_cons h_e_3, slices_IndexFunc_late_L1.eq_2] at hL1
    conv => whnf
    refine ⟨k_2, _, rfl, ix_map h_e_3, ?_⟩
    conv => whnf
    obtain ⟨r_4, h_r_4, hL1⟩ := bind_some hL1
    refine ⟨_, _, _, _, _, _, _, _, _, callX false [] [] 0 Try.func53 (by decide) rfl (connect_wait_f1_ac e_3 x_1 r_4 h_r_4) rfl ⟨(argE (by (conv => lhs; whnf); all_goals rfl) rfl), (argE (by (conv => lhs; whnf); all_goals rfl) rfl), trivial⟩ rfl trivial rfl rfl rfl lend0 trivial rfl, ?_⟩
    conv => whnf
    refine ⟨fun hb_7 => ?_, fun hb_7 => ?_⟩
    · replace hL1 := cond_t hb_7 hL1
      conv => whnf
      obtain rfl := Option.some.inj hL1
      replace hF := fin_ret hF
      obtain rfl := Option.some.inj hF
      exact ret_gz [] [] [] rfl (argE (by (conv => lhs; whnf); all_goals rfl) rfl) trivial
    · replace hL1 := cond_f hb_7 hL1
      conv => whnf
      refine ⟨((k_2 + 1 : Nat) : Int), wrapE (by omega) (by omega) (by omega), ?_⟩
      conv => whnf
      exact ⟨k_2 + 1, [], [], [], ⟨hlt_k_2, hL1⟩, by show x_0.length - (k_2 + 1) < x_0.length - k_2; omega, wk_mk [] [] [] rfl ⟨argE (by (conv => lhs; whnf); all_goals rfl) rfl, argE (by (conv => lhs; whnf); all_goals rfl) rfl, argE (by (conv => lhs; whnf); all_goals rfl) rfl, argE (by (conv => lhs; whnf); all_goals rfl) rfl, trivial⟩ trivial⟩
  · rw [drop_nil (show x_0.length ≤ k_2 by have h := of_decide_eq_false h; omega), slices_IndexFunc_late_L1.eq_1] at hL1
    conv => whnf
    obtain rfl := Option.some.inj hL1
    replace hF := fin_brk hF
    try dsimp only at hF
    obtain rfl := Option.some.inj hF
    exact ret_gz [] [] [] rfl (argE (by (conv => lhs; whnf); all_goals rfl) rfl) trivial

set_option maxRecDepth 100000 in
set_option maxHeartbeats 40000000 in
theorem connect_wait_ac (x_0 : HoldRule) (x_1 : (List Late)) (r : Int × Bool) (hF : connect_wait x_0 x_1 = some r) : AC Try.prog 43 [.agg (encHoldRule x_0), .lst 2 (x_1.map encLate)] [] (.tup [.int .i64 r.1, .bool r.2]) [] := by
  refine ac_of tab_ok follows_ok Try.func43 rfl Try.ntmps43 rfl ?_
  unfold connect_wait at hF
  conv => whnf
  refine ⟨fun hb_7 => ?_, fun hb_7 => ?_⟩
  · replace hF := cond_t hb_7 hF
    conv => whnf
    refine len_q (enc := encLate) (l := x_1) rfl ?_
    conv => whnf
    refine ⟨fun hb_8 => ?_, fun hb_8 => ?_⟩
    · replace hF := cond_t hb_8 hF
      conv => whnf
      refine ⟨_, rfl, ?_⟩
      conv => whnf
      obtain ⟨e_1, h_e_1, hF⟩ := bind_some hF
      refine ix_q (enc := encLate) (l := x_1) h_e_1 rfl (fun m_e_1 hm_e_1 hx_e_1 => ?_)
      conv => whnf
      refine ⟨by kernel_rfl, ?_⟩
      conv => whnf
      refine ⟨fun hb_9 => ?_, fun hb_9 => ?_⟩
      · replace hF := cond_t hb_9 hF
        conv => whnf
        refine ⟨_, rfl, ?_⟩
        conv => whnf
        obtain ⟨e_2, h_e_2, hF⟩ := bind_some hF
        refine ix_q (enc := encLate) (l := x_1) h_e_2 rfl (fun m_e_2 hm_e_2 hx_e_2 => ?_)
        conv => whnf
        obtain rfl := Option.some.inj hF
        exact ret_gz [] [] [] rfl (tupL rfl ⟨(argE (by (conv => lhs; whnf); all_goals rfl) rfl), (argT (by (conv => lhs; whnf); all_goals rfl)), trivial⟩) trivial
      · replace hF := cond_f hb_9 hF
        conv => whnf
        obtain rfl := Option.some.inj hF
        exact ret_gz [] [] [] rfl (tupL rfl ⟨(argE (by (conv => lhs; whnf); all_goals rfl) rfl), (argFl (by (conv => lhs; whnf); all_goals rfl)), trivial⟩) trivial
    · replace hF := cond_f hb_8 hF
      conv => whnf
      refine ⟨by kernel_rfl, ?_⟩
      conv => whnf
      obtain rfl := Option.some.inj hF
      exact ret_gz [] [] [] rfl (tupL rfl ⟨(argE (by (conv => lhs; whnf); all_goals rfl) rfl), (argFl (by (conv => lhs; whnf); all_goals rfl)), trivial⟩) trivial
  · replace hF := cond_f hb_7 hF
    conv => whnf
    refine ⟨fun hb_10 => ?_, fun hb_10 => ?_⟩
    · replace hF := cond_t hb_10 hF
      conv => whnf
      obtain ⟨r_3, h_r_3, hF⟩ := bind_some hF
      refine ⟨_, _, _, _, _, _, _, _, _, callX false [] [0] 0 Try.func52 (by decide) rfl (slices_IndexFunc_late_ac x_1 x_0 r_3 h_r_3) rfl ⟨(argE (by (conv => lhs; whnf); all_goals rfl) rfl), (argFn (c := [.ptr 0 0]) (by (conv => lhs; whnf); all_goals rfl) rfl ⟨(argIb 0 _ rfl rfl rfl rfl rfl), trivial⟩), trivial⟩ rfl trivial rfl rfl rfl (lendF rfl) trivial rfl, ?_⟩
      conv => whnf
      refine ⟨fun hb_11 => ?_, fun hb_11 => ?_⟩
      · replace hF := cond_t hb_11 hF
        conv => whnf
        obtain ⟨e_4, h_e_4, hF⟩ := bind_some hF
        refine ix_q (enc := encLate) (l := x_1) h_e_4 rfl (fun m_e_4 hm_e_4 hx_e_4 => ?_)
        conv => whnf
        refine ⟨by kernel_rfl, ?_⟩
        conv => whnf
        refine ⟨fun hb_12 => ?_, fun hb_12 => ?_⟩
        · replace hF := cond_t hb_12 hF
          conv => whnf
          obtain ⟨e_5, h_e_5, hF⟩ := bind_some hF
          refine ix_q (enc := encLate) (l := x_1) h_e_5 rfl (fun m_e_5 hm_e_5 hx_e_5 => ?_)
          conv => whnf
          obtain rfl := Option.some.inj hF
          exact ret_gz [] [] [] rfl (tupL rfl ⟨(argE (by (conv => lhs; whnf); all_goals rfl) rfl), (argT (by (conv => lhs; whnf); all_goals rfl)), trivial⟩) trivial
        · replace hF := cond_f hb_12 hF
          conv => whnf
          obtain rfl := Option.some.inj hF
          exact ret_gz [] [] [] rfl (tupL rfl ⟨(argE (by (conv => lhs; whnf); all_goals rfl) rfl), (argFl (by (conv => lhs; whnf); all_goals rfl)), trivial⟩) trivial
      · replace hF := cond_f hb_11 hF
        conv => whnf
        refine ⟨by kernel_rfl, ?_⟩
        conv => whnf
        obtain rfl := Option.some.inj hF
        exact ret_gz [] [] [] rfl (tupL rfl ⟨(argE (by (conv => lhs; whnf); all_goals rfl) rfl), (argFl (by (conv => lhs; whnf); all_goals rfl)), trivial⟩) trivial
    · replace hF := cond_f hb_10 hF
      conv => whnf
      obtain rfl := Option.some.inj hF
      exact ret_gz [] [] [] rfl (tupL rfl ⟨(argE (by (conv => lhs; whnf); all_goals rfl) rfl), (argT (by (conv => lhs; whnf); all_goals rfl)), trivial⟩) trivial

set_option maxRecDepth 100000 in
set_option maxHeartbeats 40000000 in
theorem connect_Decide_ac (x_0 : (List Minimum)) (x_1 : (List HoldRule)) (x_2 : (List Connecting)) (x_3 : Int) (r : Hold × Int) (hF : connect_Decide x_0 x_1 x_2 x_3 = some r) : AC Try.prog 23 [.lst 3 (x_0.map encMinimum), .lst 3 (x_1.map encHoldRule), .lst 7 (x_2.map encConnecting), .int .i64 x_3] [] (.tup [.agg (encHold r.1), .int .i64 r.2]) [] := by
  refine ac_of tab_ok follows_ok Try.func23 rfl Try.ntmps23 rfl ?_
  unfold connect_Decide at hF
  conv => whnf
  obtain ⟨r_1, h_r_1, hF⟩ := bind_some hF
  refine ⟨_, _, _, _, _, _, _, _, _, callX false [] [] 0 Try.func40 (by decide) rfl (connect_arguments_ac x_0 x_1 x_2 x_3 r_1 h_r_1) rfl ⟨(argE (by (conv => lhs; whnf); all_goals rfl) rfl), (argE (by (conv => lhs; whnf); all_goals rfl) rfl), (argE (by (conv => lhs; whnf); all_goals rfl) rfl), (argE (by (conv => lhs; whnf); all_goals rfl) rfl), trivial⟩ rfl trivial rfl rfl rfl lend0 trivial rfl, ?_⟩
  conv => whnf
  refine ⟨fun hb_28 => ?_, fun hb_28 => ?_⟩
  · replace hF := cond_t hb_28 hF
    conv => whnf
    obtain rfl := Option.some.inj hF
    exact ret_gz [] [] [] rfl (tupL rfl ⟨(argA (c := [.int .i64 (0 : Int), .int .i64 (0 : Int), .nils]) (by (conv => lhs; whnf); all_goals rfl) rfl ⟨(.ni _ rfl), (.ni _ rfl), (.nils _), trivial⟩), (argE (by (conv => lhs; whnf); all_goals rfl) rfl), trivial⟩) trivial
  · replace hF := cond_f hb_28 hF
    conv => whnf
    refine len_q (enc := encConnecting) (l := x_2) rfl ?_
    conv => whnf
    obtain ⟨c_1, hc_1, hF⟩ := fin_some hF
    refine sw_bv 2 (v := .lst 7 (x_2.map encConnecting)) (by (conv => lhs; whnf); all_goals rfl) (fun hb => ?_)
    have hbd_k_4 : x_2.length ≤ 9223372036854775807 := bnd_len (enc := encConnecting) (hb)
    refine sw_loop tab_ok follows_ok (fun y : Nat × (List Late) => y.1 ≤ x_2.length ∧ connect_Decide_L1 x_0 x_3 (x_2.drop y.1) y.1 y.2 = some c_1) (fun y => ⟨eL [(0, .lst 3 (x_0.map encMinimum)), (1, .lst 3 (x_1.map encHoldRule)), (2, .lst 7 (x_2.map encConnecting)), (3, .int .i64 x_3), (8, .ptr 0 0), (11, .osl 1), (34, .lst 7 (x_2.map encConnecting)), (35, .int .i64 (x_2.length : Int)), (36, .int .i64 (y.1 : Int))], hL [(0, .box [.int .i64 (0 : Int), .int .i64 (0 : Int), .nils]), (1, .row 2 (y.2.map encLate))], 2⟩) (fun y => x_2.length - y.1) (0, ([] : List Late)) ⟨Nat.zero_le _, hc_1⟩ (wk_mk [0] [1] [] rfl ⟨argE (by (conv => lhs; whnf); all_goals rfl) rfl, argE (by (conv => lhs; whnf); all_goals rfl) rfl, argE (by (conv => lhs; whnf); all_goals rfl) rfl, argE (by (conv => lhs; whnf); all_goals rfl) rfl, argP (id := 0) (by (conv => lhs; whnf); all_goals rfl) rfl, argZ (by (conv => lhs; whnf); all_goals rfl) rfl, argE (by (conv => lhs; whnf); all_goals rfl) rfl, argE (by (conv => lhs; whnf); all_goals rfl) rfl, argE (by (conv => lhs; whnf); all_goals rfl) rfl, trivial⟩ ⟨boxL rfl rfl rfl ⟨(.ni _ rfl), (.ni _ rfl), (.ni _ rfl), trivial⟩, blkZ rfl, trivial⟩) ?_
    rintro ⟨k_4, a_2⟩ ⟨hk_k_4, hL1⟩
    try dsimp only at hk_k_4 hL1
    show awp _ _ _ _ _ _ ⟨eL [(0, .lst 3 (x_0.map encMinimum)), (1, .lst 3 (x_1.map encHoldRule)), (2, .lst 7 (x_2.map encConnecting)), (3, .int .i64 x_3), (8, .ptr 0 0), (11, .osl 1), (34, .lst 7 (x_2.map encConnecting)), (35, .int .i64 (x_2.length : Int)), (36, .int .i64 (k_4 : Int))], hL [(0, .box [.int .i64 (0 : Int), .int .i64 (0 : Int), .nils]), (1, .row 2 (a_2.map encLate))], 2⟩
    conv => whnf
    refine ⟨fun h => ?_, fun h => ?_⟩
    · have hlt_k_4 : k_4 < x_2.length := by have h := of_decide_eq_true h; omega
      obtain ⟨e_5, h_e_5⟩ : ∃ y, x_2[k_4]? = some y := ⟨_, List.getElem?_eq_getElem hlt_k_4⟩
      rw [drop_cons h_e_5, connect_Decide_L1.eq_2] at hL1
      conv => whnf
      refine ⟨k_4, _, rfl, ix_map h_e_5, ?_⟩
      conv => whnf
      obtain ⟨r_6, h_r_6, hL1⟩ := bind_some hL1
      refine ⟨_, _, _, _, _, _, _, _, _, callX false [] [] 0 Try.func26 (by decide) rfl (connect_Slack_ac x_0 e_5 x_3 r_6 h_r_6) rfl ⟨(argE (by (conv => lhs; whnf); all_goals rfl) rfl), (argE (by (conv => lhs; whnf); all_goals rfl) rfl), (argE (by (conv => lhs; whnf); all_goals rfl) rfl), trivial⟩ rfl trivial rfl rfl rfl lend0 trivial rfl, ?_⟩
      conv => whnf
      refine ⟨fun hb_29 => ?_, fun hb_29 => ?_⟩
      · replace hL1 := cond_t hb_29 hL1
        conv => whnf
        refine ⟨fun hb_30 => ?_, fun hb_30 => ?_⟩
        · replace hL1 := cond_t hb_30 hL1
          conv => whnf
          refine ⟨_, rfl, ?_⟩
          conv => whnf
          obtain ⟨l_7, h_l_7, hL1⟩ := bind_some hL1
          refine ap_q (enc := encLate) (l := a_2) (y := ([(⟨(IntKind.i64.wrap (0 - r_6.1)), e_5.Category⟩ : Late)] : List Late)) h_l_7 rfl rfl (by decide) ?_
          conv => whnf
          refine ⟨((k_4 + 1 : Nat) : Int), wrapE (by omega) (by omega) (by omega), ?_⟩
          conv => whnf
          exact ⟨(k_4 + 1, l_7), [0, 5], [], [], ⟨hlt_k_4, hL1⟩, by show x_2.length - (k_4 + 1) < x_2.length - k_4; omega, wk_mk [0, 5] [] [] rfl ⟨argE (by (conv => lhs; whnf); all_goals rfl) rfl, argE (by (conv => lhs; whnf); all_goals rfl) rfl, argE (by (conv => lhs; whnf); all_goals rfl) rfl, argE (by (conv => lhs; whnf); all_goals rfl) rfl, argP (id := 0) (by (conv => lhs; whnf); all_goals rfl) rfl, argO (id := 5) (by (conv => lhs; whnf); all_goals rfl) rfl, argE (by (conv => lhs; whnf); all_goals rfl) rfl, argE (by (conv => lhs; whnf); all_goals rfl) rfl, argE (by (conv => lhs; whnf); all_goals rfl) rfl, trivial⟩ ⟨boxL rfl rfl rfl ⟨(.ni _ rfl), (.ni _ rfl), (.ni _ rfl), trivial⟩, blkR (fun _ => ⟨rfl, rfl⟩) rfl rfl, trivial⟩⟩
        · replace hL1 := cond_f hb_30 hL1
          conv => whnf
          refine ⟨((k_4 + 1 : Nat) : Int), wrapE (by omega) (by omega) (by omega), ?_⟩
          conv => whnf
          exact ⟨(k_4 + 1, a_2), [0, 1], [], [], ⟨hlt_k_4, hL1⟩, by show x_2.length - (k_4 + 1) < x_2.length - k_4; omega, wk_mk [0, 1] [] [] rfl ⟨argE (by (conv => lhs; whnf); all_goals rfl) rfl, argE (by (conv => lhs; whnf); all_goals rfl) rfl, argE (by (conv => lhs; whnf); all_goals rfl) rfl, argE (by (conv => lhs; whnf); all_goals rfl) rfl, argP (id := 0) (by (conv => lhs; whnf); all_goals rfl) rfl, argO (id := 1) (by (conv => lhs; whnf); all_goals rfl) rfl, argE (by (conv => lhs; whnf); all_goals rfl) rfl, argE (by (conv => lhs; whnf); all_goals rfl) rfl, argE (by (conv => lhs; whnf); all_goals rfl) rfl, trivial⟩ ⟨boxL rfl rfl rfl ⟨(.ni _ rfl), (.ni _ rfl), (.ni _ rfl), trivial⟩, blkR (fun _ => ⟨rfl, rfl⟩) rfl rfl, trivial⟩⟩
      · replace hL1 := cond_f hb_29 hL1
        conv => whnf
        refine ⟨((k_4 + 1 : Nat) : Int), wrapE (by omega) (by omega) (by omega), ?_⟩
        conv => whnf
        exact ⟨(k_4 + 1, a_2), [0, 1], [], [], ⟨hlt_k_4, hL1⟩, by show x_2.length - (k_4 + 1) < x_2.length - k_4; omega, wk_mk [0, 1] [] [] rfl ⟨argE (by (conv => lhs; whnf); all_goals rfl) rfl, argE (by (conv => lhs; whnf); all_goals rfl) rfl, argE (by (conv => lhs; whnf); all_goals rfl) rfl, argE (by (conv => lhs; whnf); all_goals rfl) rfl, argP (id := 0) (by (conv => lhs; whnf); all_goals rfl) rfl, argO (id := 1) (by (conv => lhs; whnf); all_goals rfl) rfl, argE (by (conv => lhs; whnf); all_goals rfl) rfl, argE (by (conv => lhs; whnf); all_goals rfl) rfl, argE (by (conv => lhs; whnf); all_goals rfl) rfl, trivial⟩ ⟨boxL rfl rfl rfl ⟨(.ni _ rfl), (.ni _ rfl), (.ni _ rfl), trivial⟩, blkR (fun _ => ⟨rfl, rfl⟩) rfl rfl, trivial⟩⟩
    · rw [drop_nil (show x_2.length ≤ k_4 by have h := of_decide_eq_false h; omega), connect_Decide_L1.eq_1] at hL1
      conv => whnf
      obtain rfl := Option.some.inj hL1
      replace hF := fin_brk hF
      try dsimp only at hF
      obtain ⟨r_10, h_r_10, hF⟩ := bind_some hF
      refine ⟨_, _, _, _, _, _, _, _, _, callX false [1] [] 0 Try.func41 (by decide) rfl (slices_SortFunc_late_ac a_2 r_10 h_r_10) rfl ⟨(argO (id := 1) (by (conv => lhs; whnf); all_goals rfl) rfl), (argE (by (conv => lhs; whnf); all_goals rfl) rfl), trivial⟩ rfl ⟨(grR (fun _ => ⟨rfl, rfl⟩) rfl), trivial⟩ rfl rfl rfl lend0 ⟨renR (fun _ => ⟨rfl, rfl⟩), trivial⟩ rfl, ?_⟩
      conv => whnf
      refine len_q (enc := encHoldRule) (l := x_1) rfl ?_
      conv => whnf
      obtain ⟨c_2, hc_2, hF⟩ := fin_some hF
      refine sw_bv 1 (v := .lst 3 (x_1.map encHoldRule)) (by (conv => lhs; whnf); all_goals rfl) (fun hb => ?_)
      have hbd_k_12 : x_1.length ≤ 9223372036854775807 := bnd_len (enc := encHoldRule) (hb)
      refine sw_loop tab_ok follows_ok (fun y : Nat => y ≤ x_1.length ∧ connect_Decide_L2 r_10 (x_1.drop y) y = some c_2) (fun y => ⟨eL [(0, .lst 3 (x_0.map encMinimum)), (2, .lst 7 (x_2.map encConnecting)), (3, .int .i64 x_3), (8, .ptr 0 0), (11, .osl 1), (16, .ptr 2 0), (64, .lst 3 (x_1.map encHoldRule)), (65, .int .i64 (x_1.length : Int)), (66, .int .i64 (y : Int))], hL [(0, .box [.int .i64 (0 : Int), .int .i64 (0 : Int), .nils]), (1, .row 2 (r_10.map encLate)), (2, .box [.int .i64 (0 : Int), .int .i64 (-1 : Int), .nils])], 3⟩) (fun y => x_1.length - y) 0 ⟨Nat.zero_le _, hc_2⟩ (wk_mk [0, 1, 3] [] [] rfl ⟨argE (by (conv => lhs; whnf); all_goals rfl) rfl, argE (by (conv => lhs; whnf); all_goals rfl) rfl, argE (by (conv => lhs; whnf); all_goals rfl) rfl, argP (id := 0) (by (conv => lhs; whnf); all_goals rfl) rfl, argO (id := 1) (by (conv => lhs; whnf); all_goals rfl) rfl, argP (id := 3) (by (conv => lhs; whnf); all_goals rfl) rfl, argE (by (conv => lhs; whnf); all_goals rfl) rfl, argE (by (conv => lhs; whnf); all_goals rfl) rfl, argE (by (conv => lhs; whnf); all_goals rfl) rfl, trivial⟩ ⟨boxL rfl rfl rfl ⟨(.ni _ rfl), (.ni _ rfl), (.ni _ rfl), trivial⟩, blkR (fun _ => ⟨rfl, rfl⟩) rfl rfl, boxL rfl rfl rfl ⟨(.ni _ rfl), (.ni _ rfl), (.ni _ rfl), trivial⟩, trivial⟩) ?_
      rintro k_12 ⟨hk_k_12, hL1⟩
      try dsimp only at hk_k_12 hL1
      show awp _ _ _ _ _ _ ⟨eL [(0, .lst 3 (x_0.map encMinimum)), (2, .lst 7 (x_2.map encConnecting)), (3, .int .i64 x_3), (8, .ptr 0 0), (11, .osl 1), (16, .ptr 2 0), (64, .lst 3 (x_1.map encHoldRule)), (65, .int .i64 (x_1.length : Int)), (66, .int .i64 (k_12 : Int))], hL [(0, .box [.int .i64 (0 : Int), .int .i64 (0 : Int), .nils]), (1, .row 2 (r_10.map encLate)), (2, .box [.int .i64 (0 : Int), .int .i64 (-1 : Int), .nils])], 3⟩
      conv => whnf
      refine ⟨fun h => ?_, fun h => ?_⟩
      · have hlt_k_12 : k_12 < x_1.length := by have h := of_decide_eq_true h; omega
        obtain ⟨e_13, h_e_13⟩ : ∃ y, x_1[k_12]? = some y := ⟨_, List.getElem?_eq_getElem hlt_k_12⟩
        rw [drop_cons h_e_13, connect_Decide_L2.eq_2] at hL1
        conv => whnf
        refine ⟨k_12, _, rfl, ix_map h_e_13, ?_⟩
        conv => whnf
        obtain ⟨r_14, h_r_14, hL1⟩ := bind_some hL1
        refine ⟨_, _, _, _, _, _, _, _, _, callX false [] [1] 0 Try.func43 (by decide) rfl (connect_wait_ac e_13 r_10 r_14 h_r_14) rfl ⟨(argE (by (conv => lhs; whnf); all_goals rfl) rfl), (argOL 1 (by (conv => lhs; whnf); all_goals rfl) rfl rfl (map_ni (fun _ => ⟨rfl, rfl⟩) _)), trivial⟩ rfl trivial rfl rfl rfl (lendF rfl) trivial rfl, ?_⟩
        conv => whnf
        refine ⟨fun hb_31 => ?_, fun hb_31 => ?_⟩
        · replace hL1 := cond_t hb_31 hL1
          conv => whnf
          obtain rfl := Option.some.inj hL1
          replace hF := fin_brk hF
          try dsimp only at hF
          refine len_q (enc := encConnecting) (l := x_2) rfl ?_
          conv => whnf
          obtain ⟨c_3, hc_3, hF⟩ := fin_some hF
          refine sw_bv 2 (v := .lst 7 (x_2.map encConnecting)) (by (conv => lhs; whnf); all_goals rfl) (fun hb => ?_)
          have hbd_k_19 : x_2.length ≤ 9223372036854775807 := bnd_len (enc := encConnecting) (hb)
          refine sw_loop tab_ok follows_ok (fun y : Nat × (List Plate) => y.1 ≤ x_2.length ∧ connect_Decide_L3 x_0 x_3 (r_14.1, (k_12 : Int)) (x_2.drop y.1) y.1 y.2 = some c_3) (fun y => ⟨eL [(0, .lst 3 (x_0.map encMinimum)), (3, .int .i64 x_3), (8, .ptr 0 0), (16, .ptr 1 0), (83, .lst 7 (x_2.map encConnecting)), (84, .int .i64 (x_2.length : Int)), (85, .int .i64 (y.1 : Int))], hL [(0, .box [.int .i64 (0 : Int), .int .i64 (0 : Int), .nils]), (1, .box [.int .i64 r_14.1, .int .i64 (k_12 : Int), .osl 2]), (2, .row 3 (y.2.map encPlate))], 3⟩) (fun y => x_2.length - y.1) (0, ([] : List Plate)) ⟨Nat.zero_le _, hc_3⟩ (wk_mk [0, 2] [2] [] rfl ⟨argE (by (conv => lhs; whnf); all_goals rfl) rfl, argE (by (conv => lhs; whnf); all_goals rfl) rfl, argP (id := 0) (by (conv => lhs; whnf); all_goals rfl) rfl, argP (id := 2) (by (conv => lhs; whnf); all_goals rfl) rfl, argE (by (conv => lhs; whnf); all_goals rfl) rfl, argE (by (conv => lhs; whnf); all_goals rfl) rfl, argE (by (conv => lhs; whnf); all_goals rfl) rfl, trivial⟩ ⟨boxL rfl rfl rfl ⟨(.ni _ rfl), (.ni _ rfl), (.ni _ rfl), trivial⟩, boxL rfl rfl rfl ⟨(.ni _ rfl), (.ni _ rfl), (.nilz 2 (by simp)), trivial⟩, blkZ rfl, trivial⟩) ?_
          rintro ⟨k_19, a_17⟩ ⟨hk_k_19, hL1⟩
          try dsimp only at hk_k_19 hL1
          show awp _ _ _ _ _ _ ⟨eL [(0, .lst 3 (x_0.map encMinimum)), (3, .int .i64 x_3), (8, .ptr 0 0), (16, .ptr 1 0), (83, .lst 7 (x_2.map encConnecting)), (84, .int .i64 (x_2.length : Int)), (85, .int .i64 (k_19 : Int))], hL [(0, .box [.int .i64 (0 : Int), .int .i64 (0 : Int), .nils]), (1, .box [.int .i64 r_14.1, .int .i64 (k_12 : Int), .osl 2]), (2, .row 3 (a_17.map encPlate))], 3⟩
          conv => whnf
          refine ⟨fun h => ?_, fun h => ?_⟩
          · have hlt_k_19 : k_19 < x_2.length := by have h := of_decide_eq_true h; omega
            obtain ⟨e_20, h_e_20⟩ : ∃ y, x_2[k_19]? = some y := ⟨_, List.getElem?_eq_getElem hlt_k_19⟩
            rw [drop_cons h_e_20, connect_Decide_L3.eq_2] at hL1
            conv => whnf
            refine ⟨k_19, _, rfl, ix_map h_e_20, ?_⟩
            conv => whnf
            obtain ⟨r_21, h_r_21, hL1⟩ := bind_some hL1
            refine ⟨_, _, _, _, _, _, _, _, _, callX false [] [] 0 Try.func26 (by decide) rfl (connect_Slack_ac x_0 e_20 x_3 r_21 h_r_21) rfl ⟨(argE (by (conv => lhs; whnf); all_goals rfl) rfl), (argE (by (conv => lhs; whnf); all_goals rfl) rfl), (argE (by (conv => lhs; whnf); all_goals rfl) rfl), trivial⟩ rfl trivial rfl rfl rfl lend0 trivial rfl, ?_⟩
            conv => whnf
            refine ⟨fun hb_32 => ?_, fun hb_32 => ?_⟩
            · replace hL1 := cond_f hb_32 hL1
              conv => whnf
              refine ⟨_, rfl, ?_⟩
              conv => whnf
              refine ⟨fun hb_33 => ?_, fun hb_33 => ?_⟩
              · replace hL1 := cond_t hb_33 hL1
                conv => whnf
                obtain ⟨l_23, h_l_23, hL1⟩ := bind_some hL1
                refine ap_q (enc := encPlate) (l := a_17) (y := ([e_20.Plate] : List Plate)) h_l_23 rfl rfl (by decide) ?_
                conv => whnf
                refine ⟨((k_19 + 1 : Nat) : Int), wrapE (by omega) (by omega) (by omega), ?_⟩
                conv => whnf
                exact ⟨(k_19 + 1, l_23), [0, 1, 6], [], [], ⟨hlt_k_19, hL1⟩, by show x_2.length - (k_19 + 1) < x_2.length - k_19; omega, wk_mk [0, 1, 6] [] [] rfl ⟨argE (by (conv => lhs; whnf); all_goals rfl) rfl, argE (by (conv => lhs; whnf); all_goals rfl) rfl, argP (id := 0) (by (conv => lhs; whnf); all_goals rfl) rfl, argP (id := 1) (by (conv => lhs; whnf); all_goals rfl) rfl, argE (by (conv => lhs; whnf); all_goals rfl) rfl, argE (by (conv => lhs; whnf); all_goals rfl) rfl, argE (by (conv => lhs; whnf); all_goals rfl) rfl, trivial⟩ ⟨boxL rfl rfl rfl ⟨(.ni _ rfl), (.ni _ rfl), (.ni _ rfl), trivial⟩, boxL rfl rfl rfl ⟨(.ni _ rfl), (.ni _ rfl), (.oslg 6 2 rfl), trivial⟩, blkR (fun _ => ⟨rfl, rfl⟩) rfl rfl, trivial⟩⟩
              · replace hL1 := cond_f hb_33 hL1
                conv => whnf
                refine ⟨((k_19 + 1 : Nat) : Int), wrapE (by omega) (by omega) (by omega), ?_⟩
                conv => whnf
                exact ⟨(k_19 + 1, a_17), [0, 1, 2], [], [], ⟨hlt_k_19, hL1⟩, by show x_2.length - (k_19 + 1) < x_2.length - k_19; omega, wk_mk [0, 1, 2] [] [] rfl ⟨argE (by (conv => lhs; whnf); all_goals rfl) rfl, argE (by (conv => lhs; whnf); all_goals rfl) rfl, argP (id := 0) (by (conv => lhs; whnf); all_goals rfl) rfl, argP (id := 1) (by (conv => lhs; whnf); all_goals rfl) rfl, argE (by (conv => lhs; whnf); all_goals rfl) rfl, argE (by (conv => lhs; whnf); all_goals rfl) rfl, argE (by (conv => lhs; whnf); all_goals rfl) rfl, trivial⟩ ⟨boxL rfl rfl rfl ⟨(.ni _ rfl), (.ni _ rfl), (.ni _ rfl), trivial⟩, boxL rfl rfl rfl ⟨(.ni _ rfl), (.ni _ rfl), (.oslg 2 2 rfl), trivial⟩, blkR (fun _ => ⟨rfl, rfl⟩) rfl rfl, trivial⟩⟩
            · replace hL1 := cond_t hb_32 hL1
              conv => whnf
              obtain ⟨l_22, h_l_22, hL1⟩ := bind_some hL1
              refine ap_q (enc := encPlate) (l := a_17) (y := ([e_20.Plate] : List Plate)) h_l_22 rfl rfl (by decide) ?_
              conv => whnf
              refine ⟨((k_19 + 1 : Nat) : Int), wrapE (by omega) (by omega) (by omega), ?_⟩
              conv => whnf
              exact ⟨(k_19 + 1, l_22), [0, 1, 6], [], [], ⟨hlt_k_19, hL1⟩, by show x_2.length - (k_19 + 1) < x_2.length - k_19; omega, wk_mk [0, 1, 6] [] [] rfl ⟨argE (by (conv => lhs; whnf); all_goals rfl) rfl, argE (by (conv => lhs; whnf); all_goals rfl) rfl, argP (id := 0) (by (conv => lhs; whnf); all_goals rfl) rfl, argP (id := 1) (by (conv => lhs; whnf); all_goals rfl) rfl, argE (by (conv => lhs; whnf); all_goals rfl) rfl, argE (by (conv => lhs; whnf); all_goals rfl) rfl, argE (by (conv => lhs; whnf); all_goals rfl) rfl, trivial⟩ ⟨boxL rfl rfl rfl ⟨(.ni _ rfl), (.ni _ rfl), (.ni _ rfl), trivial⟩, boxL rfl rfl rfl ⟨(.ni _ rfl), (.ni _ rfl), (.oslg 6 2 rfl), trivial⟩, blkR (fun _ => ⟨rfl, rfl⟩) rfl rfl, trivial⟩⟩
          · rw [drop_nil (show x_2.length ≤ k_19 by have h := of_decide_eq_false h; omega), connect_Decide_L3.eq_1] at hL1
            conv => whnf
            obtain rfl := Option.some.inj hL1
            replace hF := fin_brk hF
            try dsimp only at hF
            obtain rfl := Option.some.inj hF
            exact ret_gz [] [] [2] rfl (tupL rfl ⟨(argA (c := [.int .i64 r_14.1, .int .i64 (k_12 : Int), .osl 2]) (by (conv => lhs; whnf); all_goals rfl) rfl ⟨(.ni _ rfl), (.ni _ rfl), (.osl 2 3 _ (by simp) rfl (map_ni (fun _ => ⟨rfl, rfl⟩) _)), trivial⟩), (argE (by (conv => lhs; whnf); all_goals rfl) rfl), trivial⟩) trivial
        · replace hL1 := cond_f hb_31 hL1
          conv => whnf
          refine ⟨((k_12 + 1 : Nat) : Int), wrapE (by omega) (by omega) (by omega), ?_⟩
          conv => whnf
          exact ⟨k_12 + 1, [0, 1, 2], [], [], ⟨hlt_k_12, hL1⟩, by show x_1.length - (k_12 + 1) < x_1.length - k_12; omega, wk_mk [0, 1, 2] [] [] rfl ⟨argE (by (conv => lhs; whnf); all_goals rfl) rfl, argE (by (conv => lhs; whnf); all_goals rfl) rfl, argE (by (conv => lhs; whnf); all_goals rfl) rfl, argP (id := 0) (by (conv => lhs; whnf); all_goals rfl) rfl, argO (id := 1) (by (conv => lhs; whnf); all_goals rfl) rfl, argP (id := 2) (by (conv => lhs; whnf); all_goals rfl) rfl, argE (by (conv => lhs; whnf); all_goals rfl) rfl, argE (by (conv => lhs; whnf); all_goals rfl) rfl, argE (by (conv => lhs; whnf); all_goals rfl) rfl, trivial⟩ ⟨boxL rfl rfl rfl ⟨(.ni _ rfl), (.ni _ rfl), (.ni _ rfl), trivial⟩, blkR (fun _ => ⟨rfl, rfl⟩) rfl rfl, boxL rfl rfl rfl ⟨(.ni _ rfl), (.ni _ rfl), (.ni _ rfl), trivial⟩, trivial⟩⟩
      · rw [drop_nil (show x_1.length ≤ k_12 by have h := of_decide_eq_false h; omega), connect_Decide_L2.eq_1] at hL1
        conv => whnf
        obtain rfl := Option.some.inj hL1
        replace hF := fin_brk hF
        try dsimp only at hF
        refine len_q (enc := encConnecting) (l := x_2) rfl ?_
        conv => whnf
        obtain ⟨c_3, hc_3, hF⟩ := fin_some hF
        refine sw_bv 2 (v := .lst 7 (x_2.map encConnecting)) (by (conv => lhs; whnf); all_goals rfl) (fun hb => ?_)
        have hbd_k_19 : x_2.length ≤ 9223372036854775807 := bnd_len (enc := encConnecting) (hb)
        refine sw_loop tab_ok follows_ok (fun y : Nat × (List Plate) => y.1 ≤ x_2.length ∧ connect_Decide_L3 x_0 x_3 ((0 : Int), (-1 : Int)) (x_2.drop y.1) y.1 y.2 = some c_3) (fun y => ⟨eL [(0, .lst 3 (x_0.map encMinimum)), (3, .int .i64 x_3), (8, .ptr 0 0), (16, .ptr 1 0), (83, .lst 7 (x_2.map encConnecting)), (84, .int .i64 (x_2.length : Int)), (85, .int .i64 (y.1 : Int))], hL [(0, .box [.int .i64 (0 : Int), .int .i64 (0 : Int), .nils]), (1, .box [.int .i64 (0 : Int), .int .i64 (-1 : Int), .osl 2]), (2, .row 3 (y.2.map encPlate))], 3⟩) (fun y => x_2.length - y.1) (0, ([] : List Plate)) ⟨Nat.zero_le _, hc_3⟩ (wk_mk [0, 2] [2] [] rfl ⟨argE (by (conv => lhs; whnf); all_goals rfl) rfl, argE (by (conv => lhs; whnf); all_goals rfl) rfl, argP (id := 0) (by (conv => lhs; whnf); all_goals rfl) rfl, argP (id := 2) (by (conv => lhs; whnf); all_goals rfl) rfl, argE (by (conv => lhs; whnf); all_goals rfl) rfl, argE (by (conv => lhs; whnf); all_goals rfl) rfl, argE (by (conv => lhs; whnf); all_goals rfl) rfl, trivial⟩ ⟨boxL rfl rfl rfl ⟨(.ni _ rfl), (.ni _ rfl), (.ni _ rfl), trivial⟩, boxL rfl rfl rfl ⟨(.ni _ rfl), (.ni _ rfl), (.nilz 2 (by simp)), trivial⟩, blkZ rfl, trivial⟩) ?_
        rintro ⟨k_19, a_17⟩ ⟨hk_k_19, hL1⟩
        try dsimp only at hk_k_19 hL1
        show awp _ _ _ _ _ _ ⟨eL [(0, .lst 3 (x_0.map encMinimum)), (3, .int .i64 x_3), (8, .ptr 0 0), (16, .ptr 1 0), (83, .lst 7 (x_2.map encConnecting)), (84, .int .i64 (x_2.length : Int)), (85, .int .i64 (k_19 : Int))], hL [(0, .box [.int .i64 (0 : Int), .int .i64 (0 : Int), .nils]), (1, .box [.int .i64 (0 : Int), .int .i64 (-1 : Int), .osl 2]), (2, .row 3 (a_17.map encPlate))], 3⟩
        conv => whnf
        refine ⟨fun h => ?_, fun h => ?_⟩
        · have hlt_k_19 : k_19 < x_2.length := by have h := of_decide_eq_true h; omega
          obtain ⟨e_20, h_e_20⟩ : ∃ y, x_2[k_19]? = some y := ⟨_, List.getElem?_eq_getElem hlt_k_19⟩
          rw [drop_cons h_e_20, connect_Decide_L3.eq_2] at hL1
          conv => whnf
          refine ⟨k_19, _, rfl, ix_map h_e_20, ?_⟩
          conv => whnf
          obtain ⟨r_21, h_r_21, hL1⟩ := bind_some hL1
          refine ⟨_, _, _, _, _, _, _, _, _, callX false [] [] 0 Try.func26 (by decide) rfl (connect_Slack_ac x_0 e_20 x_3 r_21 h_r_21) rfl ⟨(argE (by (conv => lhs; whnf); all_goals rfl) rfl), (argE (by (conv => lhs; whnf); all_goals rfl) rfl), (argE (by (conv => lhs; whnf); all_goals rfl) rfl), trivial⟩ rfl trivial rfl rfl rfl lend0 trivial rfl, ?_⟩
          conv => whnf
          refine ⟨fun hb_34 => ?_, fun hb_34 => ?_⟩
          · replace hL1 := cond_f hb_34 hL1
            conv => whnf
            refine ⟨_, rfl, ?_⟩
            conv => whnf
            refine ⟨fun hb_35 => ?_, fun hb_35 => ?_⟩
            · replace hL1 := cond_t hb_35 hL1
              conv => whnf
              obtain ⟨l_23, h_l_23, hL1⟩ := bind_some hL1
              refine ap_q (enc := encPlate) (l := a_17) (y := ([e_20.Plate] : List Plate)) h_l_23 rfl rfl (by decide) ?_
              conv => whnf
              refine ⟨((k_19 + 1 : Nat) : Int), wrapE (by omega) (by omega) (by omega), ?_⟩
              conv => whnf
              exact ⟨(k_19 + 1, l_23), [0, 1, 6], [], [], ⟨hlt_k_19, hL1⟩, by show x_2.length - (k_19 + 1) < x_2.length - k_19; omega, wk_mk [0, 1, 6] [] [] rfl ⟨argE (by (conv => lhs; whnf); all_goals rfl) rfl, argE (by (conv => lhs; whnf); all_goals rfl) rfl, argP (id := 0) (by (conv => lhs; whnf); all_goals rfl) rfl, argP (id := 1) (by (conv => lhs; whnf); all_goals rfl) rfl, argE (by (conv => lhs; whnf); all_goals rfl) rfl, argE (by (conv => lhs; whnf); all_goals rfl) rfl, argE (by (conv => lhs; whnf); all_goals rfl) rfl, trivial⟩ ⟨boxL rfl rfl rfl ⟨(.ni _ rfl), (.ni _ rfl), (.ni _ rfl), trivial⟩, boxL rfl rfl rfl ⟨(.ni _ rfl), (.ni _ rfl), (.oslg 6 2 rfl), trivial⟩, blkR (fun _ => ⟨rfl, rfl⟩) rfl rfl, trivial⟩⟩
            · replace hL1 := cond_f hb_35 hL1
              conv => whnf
              refine ⟨((k_19 + 1 : Nat) : Int), wrapE (by omega) (by omega) (by omega), ?_⟩
              conv => whnf
              exact ⟨(k_19 + 1, a_17), [0, 1, 2], [], [], ⟨hlt_k_19, hL1⟩, by show x_2.length - (k_19 + 1) < x_2.length - k_19; omega, wk_mk [0, 1, 2] [] [] rfl ⟨argE (by (conv => lhs; whnf); all_goals rfl) rfl, argE (by (conv => lhs; whnf); all_goals rfl) rfl, argP (id := 0) (by (conv => lhs; whnf); all_goals rfl) rfl, argP (id := 1) (by (conv => lhs; whnf); all_goals rfl) rfl, argE (by (conv => lhs; whnf); all_goals rfl) rfl, argE (by (conv => lhs; whnf); all_goals rfl) rfl, argE (by (conv => lhs; whnf); all_goals rfl) rfl, trivial⟩ ⟨boxL rfl rfl rfl ⟨(.ni _ rfl), (.ni _ rfl), (.ni _ rfl), trivial⟩, boxL rfl rfl rfl ⟨(.ni _ rfl), (.ni _ rfl), (.oslg 2 2 rfl), trivial⟩, blkR (fun _ => ⟨rfl, rfl⟩) rfl rfl, trivial⟩⟩
          · replace hL1 := cond_t hb_34 hL1
            conv => whnf
            obtain ⟨l_22, h_l_22, hL1⟩ := bind_some hL1
            refine ap_q (enc := encPlate) (l := a_17) (y := ([e_20.Plate] : List Plate)) h_l_22 rfl rfl (by decide) ?_
            conv => whnf
            refine ⟨((k_19 + 1 : Nat) : Int), wrapE (by omega) (by omega) (by omega), ?_⟩
            conv => whnf
            exact ⟨(k_19 + 1, l_22), [0, 1, 6], [], [], ⟨hlt_k_19, hL1⟩, by show x_2.length - (k_19 + 1) < x_2.length - k_19; omega, wk_mk [0, 1, 6] [] [] rfl ⟨argE (by (conv => lhs; whnf); all_goals rfl) rfl, argE (by (conv => lhs; whnf); all_goals rfl) rfl, argP (id := 0) (by (conv => lhs; whnf); all_goals rfl) rfl, argP (id := 1) (by (conv => lhs; whnf); all_goals rfl) rfl, argE (by (conv => lhs; whnf); all_goals rfl) rfl, argE (by (conv => lhs; whnf); all_goals rfl) rfl, argE (by (conv => lhs; whnf); all_goals rfl) rfl, trivial⟩ ⟨boxL rfl rfl rfl ⟨(.ni _ rfl), (.ni _ rfl), (.ni _ rfl), trivial⟩, boxL rfl rfl rfl ⟨(.ni _ rfl), (.ni _ rfl), (.oslg 6 2 rfl), trivial⟩, blkR (fun _ => ⟨rfl, rfl⟩) rfl rfl, trivial⟩⟩
        · rw [drop_nil (show x_2.length ≤ k_19 by have h := of_decide_eq_false h; omega), connect_Decide_L3.eq_1] at hL1
          conv => whnf
          obtain rfl := Option.some.inj hL1
          replace hF := fin_brk hF
          try dsimp only at hF
          obtain rfl := Option.some.inj hF
          exact ret_gz [] [] [2] rfl (tupL rfl ⟨(argA (c := [.int .i64 (0 : Int), .int .i64 (-1 : Int), .osl 2]) (by (conv => lhs; whnf); all_goals rfl) rfl ⟨(.ni _ rfl), (.ni _ rfl), (.osl 2 3 _ (by simp) rfl (map_ni (fun _ => ⟨rfl, rfl⟩) _)), trivial⟩), (argE (by (conv => lhs; whnf); all_goals rfl) rfl), trivial⟩) trivial

set_option maxRecDepth 100000 in
set_option maxHeartbeats 40000000 in
theorem law24_awake_ac (r : Bool) (hF : law24_awake = some r) : AC Try.prog 18 [] [] (.bool r) [] := by
  refine ac_of tab_ok follows_ok Try.func18 rfl Try.ntmps18 rfl ?_
  unfold law24_awake at hF
  conv => whnf
  obtain ⟨r_1, h_r_1, hF⟩ := bind_some hF
  refine ⟨_, _, _, _, _, _, _, _, _, callX false [] [] 0 Try.func36 (by decide) rfl (law24_table_ac r_1 h_r_1) rfl trivial rfl trivial rfl rfl rfl lend0 trivial rfl, ?_⟩
  conv => whnf
  obtain ⟨r_2, h_r_2, hF⟩ := bind_some hF
  refine ⟨_, _, _, _, _, _, _, _, _, callX false [] [] 0 Try.func16 (by decide) rfl (connect_Least_ac r_1 (0 : Int) (1 : Int) r_2 h_r_2) rfl ⟨(argE (by (conv => lhs; whnf); all_goals rfl) rfl), (argE (by (conv => lhs; whnf); all_goals rfl) rfl), (argE (by (conv => lhs; whnf); all_goals rfl) rfl), trivial⟩ rfl trivial rfl rfl rfl lend0 trivial rfl, ?_⟩
  conv => whnf
  obtain ⟨r_3, h_r_3, hF⟩ := bind_some hF
  refine ⟨_, _, _, _, _, _, _, _, _, callX false [] [] 0 Try.func36 (by decide) rfl (law24_table_ac r_3 h_r_3) rfl trivial rfl trivial rfl rfl rfl lend0 trivial rfl, ?_⟩
  conv => whnf
  obtain ⟨r_4, h_r_4, hF⟩ := bind_some hF
  refine ⟨_, _, _, _, _, _, _, _, _, callX false [] [] 0 Try.func37 (by decide) rfl (law24_late_ac r_4 h_r_4) rfl trivial rfl trivial rfl rfl rfl lend0 trivial rfl, ?_⟩
  conv => whnf
  obtain ⟨e_5, h_e_5, hF⟩ := bind_some hF
  refine ix_q (enc := encConnecting) (l := r_4) h_e_5 rfl (fun m_e_5 hm_e_5 hx_e_5 => ?_)
  conv => whnf
  obtain ⟨r_6, h_r_6, hF⟩ := bind_some hF
  refine ⟨_, _, _, _, _, _, _, _, _, callX false [] [] 0 Try.func26 (by decide) rfl (connect_Slack_ac r_3 e_5 (105 : Int) r_6 h_r_6) rfl ⟨(argE (by (conv => lhs; whnf); all_goals rfl) rfl), (argE (by (conv => lhs; whnf); all_goals rfl) rfl), (argE (by (conv => lhs; whnf); all_goals rfl) rfl), trivial⟩ rfl trivial rfl rfl rfl lend0 trivial rfl, ?_⟩
  conv => whnf
  obtain ⟨r_7, h_r_7, hF⟩ := bind_some hF
  refine ⟨_, _, _, _, _, _, _, _, _, callX false [] [] 0 Try.func36 (by decide) rfl (law24_table_ac r_7 h_r_7) rfl trivial rfl trivial rfl rfl rfl lend0 trivial rfl, ?_⟩
  conv => whnf
  obtain ⟨r_8, h_r_8, hF⟩ := bind_some hF
  refine ⟨_, _, _, _, _, _, _, _, _, callX false [] [] 0 Try.func38 (by decide) rfl (law24_rules_ac r_8 h_r_8) rfl trivial rfl trivial rfl rfl rfl lend0 trivial rfl, ?_⟩
  conv => whnf
  obtain ⟨r_9, h_r_9, hF⟩ := bind_some hF
  refine ⟨_, _, _, _, _, _, _, _, _, callX false [] [] 0 Try.func37 (by decide) rfl (law24_late_ac r_9 h_r_9) rfl trivial rfl trivial rfl rfl rfl lend0 trivial rfl, ?_⟩
  conv => whnf
  obtain ⟨r_10, h_r_10, hF⟩ := bind_some hF
  refine ⟨_, _, _, _, _, _, _, _, _, callX false [] [] 0 Try.func23 (by decide) rfl (connect_Decide_ac r_7 r_8 r_9 (105 : Int) r_10 h_r_10) rfl ⟨(argE (by (conv => lhs; whnf); all_goals rfl) rfl), (argE (by (conv => lhs; whnf); all_goals rfl) rfl), (argE (by (conv => lhs; whnf); all_goals rfl) rfl), (argE (by (conv => lhs; whnf); all_goals rfl) rfl), trivial⟩ rfl trivial rfl rfl rfl lend0 trivial rfl, ?_⟩
  conv => whnf
  refine ⟨fun hb_9 => ?_, fun hb_9 => ?_⟩
  · replace hF := cond_t hb_9 hF
    conv => whnf
    refine ⟨fun hb_10 => ?_, fun hb_10 => ?_⟩
    · replace hF := cond_t hb_10 hF
      conv => whnf
      refine ⟨fun hb_11 => ?_, fun hb_11 => ?_⟩
      · replace hF := cond_t hb_11 hF
        conv => whnf
        refine ⟨fun hb_12 => ?_, fun hb_12 => ?_⟩
        · replace hF := cond_t hb_12 hF
          conv => whnf
          refine ⟨fun hb_13 => ?_, fun hb_13 => ?_⟩
          · replace hF := cond_t hb_13 hF
            conv => whnf
            refine ⟨fun hb_14 => ?_, fun hb_14 => ?_⟩
            · replace hF := cond_t hb_14 hF
              conv => whnf
              refine ⟨fun hb_15 => ?_, fun hb_15 => ?_⟩
              · replace hF := cond_t hb_15 hF
                conv => whnf
                refine len_q (enc := encPlate) (l := r_10.1.Left) rfl ?_
                conv => whnf
                refine ⟨fun hb_16 => ?_, fun hb_16 => ?_⟩
                · replace hF := cond_t hb_16 hF
                  conv => whnf
                  obtain ⟨e_11, h_e_11, hF⟩ := bind_some hF
                  refine ix_q (enc := encPlate) (l := r_10.1.Left) h_e_11 rfl (fun m_e_11 hm_e_11 hx_e_11 => ?_)
                  conv => whnf
                  obtain ⟨r_12, h_r_12, hF⟩ := bind_some hF
                  refine ⟨_, _, _, _, _, _, _, _, _, callX false [] [] 0 Try.func39 (by decide) rfl (keep_Plates_ac (2 : Int) r_12 h_r_12) rfl ⟨(argE (by (conv => lhs; whnf); all_goals rfl) rfl), trivial⟩ rfl trivial rfl rfl rfl lend0 trivial rfl, ?_⟩
                  conv => whnf
                  refine ⟨by kernel_rfl, ?_⟩
                  conv => whnf
                  obtain rfl := Option.some.inj hF
                  exact ret_gz [] [] [] rfl (argE (by (conv => lhs; whnf); all_goals rfl) rfl) trivial
                · replace hF := cond_f hb_16 hF
                  conv => whnf
                  refine ⟨by kernel_rfl, ?_⟩
                  conv => whnf
                  obtain rfl := Option.some.inj hF
                  exact ret_gz [] [] [] rfl (argFl (by (conv => lhs; whnf); all_goals rfl)) trivial
              · replace hF := cond_f hb_15 hF
                conv => whnf
                refine ⟨by kernel_rfl, ?_⟩
                conv => whnf
                obtain rfl := Option.some.inj hF
                exact ret_gz [] [] [] rfl (argFl (by (conv => lhs; whnf); all_goals rfl)) trivial
            · replace hF := cond_f hb_14 hF
              conv => whnf
              refine ⟨by kernel_rfl, ?_⟩
              conv => whnf
              obtain rfl := Option.some.inj hF
              exact ret_gz [] [] [] rfl (argFl (by (conv => lhs; whnf); all_goals rfl)) trivial
          · replace hF := cond_f hb_13 hF
            conv => whnf
            refine ⟨by kernel_rfl, ?_⟩
            conv => whnf
            obtain rfl := Option.some.inj hF
            exact ret_gz [] [] [] rfl (argFl (by (conv => lhs; whnf); all_goals rfl)) trivial
        · replace hF := cond_f hb_12 hF
          conv => whnf
          refine ⟨by kernel_rfl, ?_⟩
          conv => whnf
          obtain rfl := Option.some.inj hF
          exact ret_gz [] [] [] rfl (argFl (by (conv => lhs; whnf); all_goals rfl)) trivial
      · replace hF := cond_f hb_11 hF
        conv => whnf
        refine ⟨by kernel_rfl, ?_⟩
        conv => whnf
        obtain rfl := Option.some.inj hF
        exact ret_gz [] [] [] rfl (argFl (by (conv => lhs; whnf); all_goals rfl)) trivial
    · replace hF := cond_f hb_10 hF
      conv => whnf
      refine ⟨by kernel_rfl, ?_⟩
      conv => whnf
      obtain rfl := Option.some.inj hF
      exact ret_gz [] [] [] rfl (argFl (by (conv => lhs; whnf); all_goals rfl)) trivial
  · replace hF := cond_f hb_9 hF
    conv => whnf
    refine ⟨by kernel_rfl, ?_⟩
    conv => whnf
    obtain rfl := Option.some.inj hF
    exact ret_gz [] [] [] rfl (argFl (by (conv => lhs; whnf); all_goals rfl)) trivial

set_option maxRecDepth 100000 in
set_option maxHeartbeats 40000000 in
theorem keep_Src_Connections_ac (x_0 : Src) (x_1 : Int) (r : (List Connecting) × Src) (hF : keep_Src_Connections x_0 x_1 = some r) : AC Try.prog 21 [.ptr 0 0, .int .i64 x_1] [.box (encSrc x_0)] (.osl 1) [.box (encSrc r.2), .row 7 (r.1.map encConnecting)] := by
  refine ac_of tab_ok follows_ok Try.func21 rfl Try.ntmps21 rfl ?_
  unfold keep_Src_Connections at hF
  conv => whnf
  refine ⟨_, rfl, ?_⟩
  conv => whnf
  obtain ⟨r_1, h_r_1, hF⟩ := bind_some hF
  refine ⟨_, _, _, _, _, _, _, _, _, callX false [0] [] 0 Try.func22 (by decide) rfl (keep_Src_N_ac x_0 (w64 (x_1 + (1 : Int))) r_1 h_r_1) rfl ⟨(argP (id := 0) (by (conv => lhs; whnf); all_goals rfl) rfl), (argE (by (conv => lhs; whnf); all_goals rfl) rfl), trivial⟩ rfl ⟨rfl, trivial⟩ rfl rfl rfl lend0 ⟨rfl, trivial⟩ rfl, ?_⟩
  conv => whnf
  obtain ⟨c_1, hc_1, hF⟩ := fin_some hF
  refine sw_loop tab_ok follows_ok (fun y : Nat × (List Int) × Int × (List Connecting) × Int => keep_Src_Connections_L1 y.1 y.2.1 y.2.2.1 y.2.2.2.1 y.2.2.2.2 = some c_1) (fun y => ⟨eL [(0, .ptr 0 0), (5, .osl 1), (6, .int .i64 y.2.2.2.2)], hL [(0, .box [.lst 1 (y.2.1.map iA), .int .i64 y.2.2.1]), (1, .row 7 (y.2.2.2.1.map encConnecting))], 2⟩) (fun y => y.1) (9223372036854775807, r_1.2.L, r_1.2.At, ([] : List Connecting), r_1.1) hc_1 (wk_mk [0] [1] [] rfl ⟨argP (id := 0) (by (conv => lhs; whnf); all_goals rfl) rfl, argZ (by (conv => lhs; whnf); all_goals rfl) rfl, argE (by (conv => lhs; whnf); all_goals rfl) rfl, trivial⟩ ⟨boxL rfl rfl rfl ⟨(.ni _ rfl), (.ni _ rfl), trivial⟩, blkZ rfl, trivial⟩) ?_
  rintro ⟨q_12, a_2, i_3, a_4, i_5⟩ hL1
  try dsimp only at hL1
  rcases q_12 with _ | q_12
  · rw [keep_Src_Connections_L1.eq_1] at hL1
    cases hL1
  rw [keep_Src_Connections_L1.eq_2] at hL1
  show awp _ _ _ _ _ _ ⟨eL [(0, .ptr 0 0), (5, .osl 1), (6, .int .i64 i_5)], hL [(0, .box [.lst 1 (a_2.map iA), .int .i64 i_3]), (1, .row 7 (a_4.map encConnecting))], 2⟩
  conv => whnf
  refine ⟨fun hb_5 => ?_, fun hb_5 => ?_⟩
  · replace hL1 := cond_t hb_5 hL1
    conv => whnf
    refine len_q (enc := encConnecting) (l := a_4) rfl ?_
    conv => whnf
    obtain ⟨r_6, h_r_6, hL1⟩ := bind_some hL1
    refine ⟨_, _, _, _, _, _, _, _, _, callX false [] [] 0 Try.func39 (by decide) rfl (keep_Plates_ac (a_4.length : Int) r_6 h_r_6) rfl ⟨(argE (by (conv => lhs; whnf); all_goals rfl) rfl), trivial⟩ rfl trivial rfl rfl rfl lend0 trivial rfl, ?_⟩
    conv => whnf
    obtain ⟨r_7, h_r_7, hL1⟩ := bind_some hL1
    refine ⟨_, _, _, _, _, _, _, _, _, callX false [0] [] 0 Try.func22 (by decide) rfl (keep_Src_N_ac (⟨a_2, i_3⟩ : Src) (40 : Int) r_7 h_r_7) rfl ⟨(argP (id := 0) (by (conv => lhs; whnf); all_goals rfl) rfl), (argE (by (conv => lhs; whnf); all_goals rfl) rfl), trivial⟩ rfl ⟨rfl, trivial⟩ rfl rfl rfl lend0 ⟨rfl, trivial⟩ rfl, ?_⟩
    conv => whnf
    refine ⟨_, rfl, ?_⟩
    conv => whnf
    obtain ⟨r_8, h_r_8, hL1⟩ := bind_some hL1
    refine ⟨_, _, _, _, _, _, _, _, _, callX false [0] [] 0 Try.func22 (by decide) rfl (keep_Src_N_ac r_7.2 (4 : Int) r_8 h_r_8) rfl ⟨(argP (id := 0) (by (conv => lhs; whnf); all_goals rfl) rfl), (argE (by (conv => lhs; whnf); all_goals rfl) rfl), trivial⟩ rfl ⟨rfl, trivial⟩ rfl rfl rfl lend0 ⟨rfl, trivial⟩ rfl, ?_⟩
    conv => whnf
    obtain ⟨r_9, h_r_9, hL1⟩ := bind_some hL1
    refine ⟨_, _, _, _, _, _, _, _, _, callX false [0] [] 0 Try.func22 (by decide) rfl (keep_Src_N_ac r_8.2 (4 : Int) r_9 h_r_9) rfl ⟨(argP (id := 0) (by (conv => lhs; whnf); all_goals rfl) rfl), (argE (by (conv => lhs; whnf); all_goals rfl) rfl), trivial⟩ rfl ⟨rfl, trivial⟩ rfl rfl rfl lend0 ⟨rfl, trivial⟩ rfl, ?_⟩
    conv => whnf
    obtain ⟨r_10, h_r_10, hL1⟩ := bind_some hL1
    refine ⟨_, _, _, _, _, _, _, _, _, callX false [0] [] 0 Try.func22 (by decide) rfl (keep_Src_N_ac r_9.2 (5 : Int) r_10 h_r_10) rfl ⟨(argP (id := 0) (by (conv => lhs; whnf); all_goals rfl) rfl), (argE (by (conv => lhs; whnf); all_goals rfl) rfl), trivial⟩ rfl ⟨rfl, trivial⟩ rfl rfl rfl lend0 ⟨rfl, trivial⟩ rfl, ?_⟩
    conv => whnf
    obtain ⟨l_11, h_l_11, hL1⟩ := bind_some hL1
    refine ap_q (enc := encConnecting) (l := a_4) (y := ([(⟨r_6, (w64 ((40 : Int) + r_7.1)), r_8.1, r_9.1, r_10.1⟩ : Connecting)] : List Connecting)) h_l_11 rfl rfl (by decide) ?_
    conv => whnf
    refine ⟨_, rfl, ?_⟩
    conv => whnf
    exact ⟨(q_12, r_10.2.L, r_10.2.At, l_11, (w64 (i_5 - (1 : Int)))), [0, 8], [], [], hL1, Nat.lt_succ_self _, wk_mk [0, 8] [] [] rfl ⟨argP (id := 0) (by (conv => lhs; whnf); all_goals rfl) rfl, argO (id := 8) (by (conv => lhs; whnf); all_goals rfl) rfl, argE (by (conv => lhs; whnf); all_goals rfl) rfl, trivial⟩ ⟨boxL rfl rfl rfl ⟨(.ni _ rfl), (.ni _ rfl), trivial⟩, blkR (fun _ => ⟨rfl, rfl⟩) rfl rfl, trivial⟩⟩
  · replace hL1 := cond_f hb_5 hL1
    conv => whnf
    obtain rfl := Option.some.inj hL1
    replace hF := fin_brk hF
    try dsimp only at hF
    obtain rfl := Option.some.inj hF
    exact ret_gz [0, 1] [] [] rfl (argO (id := 1) (by (conv => lhs; whnf); all_goals rfl) rfl) ⟨boxL rfl rfl rfl ⟨(.ni _ rfl), (.ni _ rfl), trivial⟩, blkR (fun _ => ⟨rfl, rfl⟩) rfl rfl, trivial⟩

set_option maxRecDepth 100000 in
set_option maxHeartbeats 40000000 in
theorem keep_Src_Plate_ac (x_0 : Src) (x_1 : Int) (r : Plate × Src) (hF : keep_Src_Plate x_0 x_1 = some r) : AC Try.prog 27 [.ptr 0 0, .int .i64 x_1] [.box (encSrc x_0)] (.agg (encPlate r.1)) [.box (encSrc r.2)] := by
  refine ac_of tab_ok follows_ok Try.func27 rfl Try.ntmps27 rfl ?_
  unfold keep_Src_Plate at hF
  conv => whnf
  obtain ⟨r_1, h_r_1, hF⟩ := bind_some hF
  refine ⟨_, _, _, _, _, _, _, _, _, callX false [0] [] 0 Try.func22 (by decide) rfl (keep_Src_N_ac x_0 x_1 r_1 h_r_1) rfl ⟨(argP (id := 0) (by (conv => lhs; whnf); all_goals rfl) rfl), (argE (by (conv => lhs; whnf); all_goals rfl) rfl), trivial⟩ rfl ⟨rfl, trivial⟩ rfl rfl rfl lend0 ⟨rfl, trivial⟩ rfl, ?_⟩
  conv => whnf
  obtain ⟨r_2, h_r_2, hF⟩ := bind_some hF
  refine ⟨_, _, _, _, _, _, _, _, _, callX false [] [] 0 Try.func39 (by decide) rfl (keep_Plates_ac r_1.1 r_2 h_r_2) rfl ⟨(argE (by (conv => lhs; whnf); all_goals rfl) rfl), trivial⟩ rfl trivial rfl rfl rfl lend0 trivial rfl, ?_⟩
  conv => whnf
  obtain rfl := Option.some.inj hF
  exact ret_gz [0] [] [] rfl (argE (by (conv => lhs; whnf); all_goals rfl) rfl) ⟨boxL rfl rfl rfl ⟨(.ni _ rfl), (.ni _ rfl), trivial⟩, trivial⟩

set_option maxRecDepth 100000 in
set_option maxHeartbeats 40000000 in
theorem ref01_Valid_ac (x_0 : Plate) (r : Bool) (hF : ref01_Valid x_0 = some r) : AC Try.prog 56 [.agg (encPlate x_0)] [] (.bool r) [] := by
  refine ac_of tab_ok follows_ok Try.func56 rfl Try.ntmps56 rfl ?_
  unfold ref01_Valid at hF
  conv => whnf
  refine ⟨fun hb_6 => ?_, fun hb_6 => ?_⟩
  · replace hF := cond_t hb_6 hF
    conv => whnf
    refine ⟨fun hb_7 => ?_, fun hb_7 => ?_⟩
    · replace hF := cond_t hb_7 hF
      conv => whnf
      refine ⟨fun hb_8 => ?_, fun hb_8 => ?_⟩
      · replace hF := cond_t hb_8 hF
        conv => whnf
        refine ⟨fun hb_9 => ?_, fun hb_9 => ?_⟩
        · replace hF := cond_t hb_9 hF
          conv => whnf
          refine ⟨fun hb_10 => ?_, fun hb_10 => ?_⟩
          · replace hF := cond_t hb_10 hF
            conv => whnf
            obtain rfl := Option.some.inj hF
            exact ret_gz [] [] [] rfl (argE (by (conv => lhs; whnf); all_goals rfl) rfl) trivial
          · replace hF := cond_f hb_10 hF
            conv => whnf
            obtain rfl := Option.some.inj hF
            exact ret_gz [] [] [] rfl (argFl (by (conv => lhs; whnf); all_goals rfl)) trivial
        · replace hF := cond_f hb_9 hF
          conv => whnf
          obtain rfl := Option.some.inj hF
          exact ret_gz [] [] [] rfl (argFl (by (conv => lhs; whnf); all_goals rfl)) trivial
      · replace hF := cond_f hb_8 hF
        conv => whnf
        obtain rfl := Option.some.inj hF
        exact ret_gz [] [] [] rfl (argFl (by (conv => lhs; whnf); all_goals rfl)) trivial
    · replace hF := cond_f hb_7 hF
      conv => whnf
      obtain rfl := Option.some.inj hF
      exact ret_gz [] [] [] rfl (argFl (by (conv => lhs; whnf); all_goals rfl)) trivial
  · replace hF := cond_f hb_6 hF
    conv => whnf
    obtain rfl := Option.some.inj hF
    exact ret_gz [] [] [] rfl (argFl (by (conv => lhs; whnf); all_goals rfl)) trivial

set_option maxRecDepth 100000 in
set_option maxHeartbeats 40000000 in
theorem ref24_Valid_ac (x_0 : Connecting) (r : Bool) (hF : ref24_Valid x_0 = some r) : AC Try.prog 48 [.agg (encConnecting x_0)] [] (.bool r) [] := by
  refine ac_of tab_ok follows_ok Try.func48 rfl Try.ntmps48 rfl ?_
  unfold ref24_Valid at hF
  conv => whnf
  obtain ⟨r_1, h_r_1, hF⟩ := bind_some hF
  refine ⟨_, _, _, _, _, _, _, _, _, callX false [] [] 0 Try.func56 (by decide) rfl (ref01_Valid_ac x_0.Plate r_1 h_r_1) rfl ⟨(argE (by (conv => lhs; whnf); all_goals rfl) rfl), trivial⟩ rfl trivial rfl rfl rfl lend0 trivial rfl, ?_⟩
  conv => whnf
  refine ⟨fun hb_7 => ?_, fun hb_7 => ?_⟩
  · replace hF := cond_t hb_7 hF
    conv => whnf
    refine ⟨fun hb_8 => ?_, fun hb_8 => ?_⟩
    · replace hF := cond_t hb_8 hF
      conv => whnf
      refine ⟨fun hb_9 => ?_, fun hb_9 => ?_⟩
      · replace hF := cond_t hb_9 hF
        conv => whnf
        obtain ⟨r_2, h_r_2, hF⟩ := bind_some hF
        refine ⟨_, _, _, _, _, _, _, _, _, callX false [] [] 0 Try.func34 (by decide) rfl (ref24_terminal_ac x_0.From r_2 h_r_2) rfl ⟨(argE (by (conv => lhs; whnf); all_goals rfl) rfl), trivial⟩ rfl trivial rfl rfl rfl lend0 trivial rfl, ?_⟩
        conv => whnf
        refine ⟨fun hb_10 => ?_, fun hb_10 => ?_⟩
        · replace hF := cond_t hb_10 hF
          conv => whnf
          obtain ⟨r_3, h_r_3, hF⟩ := bind_some hF
          refine ⟨_, _, _, _, _, _, _, _, _, callX false [] [] 0 Try.func34 (by decide) rfl (ref24_terminal_ac x_0.To r_3 h_r_3) rfl ⟨(argE (by (conv => lhs; whnf); all_goals rfl) rfl), trivial⟩ rfl trivial rfl rfl rfl lend0 trivial rfl, ?_⟩
          conv => whnf
          refine ⟨fun hb_11 => ?_, fun hb_11 => ?_⟩
          · replace hF := cond_t hb_11 hF
            conv => whnf
            refine ⟨fun hb_12 => ?_, fun hb_12 => ?_⟩
            · replace hF := cond_t hb_12 hF
              conv => whnf
              obtain rfl := Option.some.inj hF
              exact ret_gz [] [] [] rfl (argE (by (conv => lhs; whnf); all_goals rfl) rfl) trivial
            · replace hF := cond_f hb_12 hF
              conv => whnf
              obtain rfl := Option.some.inj hF
              exact ret_gz [] [] [] rfl (argFl (by (conv => lhs; whnf); all_goals rfl)) trivial
          · replace hF := cond_f hb_11 hF
            conv => whnf
            obtain rfl := Option.some.inj hF
            exact ret_gz [] [] [] rfl (argFl (by (conv => lhs; whnf); all_goals rfl)) trivial
        · replace hF := cond_f hb_10 hF
          conv => whnf
          obtain rfl := Option.some.inj hF
          exact ret_gz [] [] [] rfl (argFl (by (conv => lhs; whnf); all_goals rfl)) trivial
      · replace hF := cond_f hb_9 hF
        conv => whnf
        obtain rfl := Option.some.inj hF
        exact ret_gz [] [] [] rfl (argFl (by (conv => lhs; whnf); all_goals rfl)) trivial
    · replace hF := cond_f hb_8 hF
      conv => whnf
      obtain rfl := Option.some.inj hF
      exact ret_gz [] [] [] rfl (argFl (by (conv => lhs; whnf); all_goals rfl)) trivial
  · replace hF := cond_f hb_7 hF
    conv => whnf
    obtain rfl := Option.some.inj hF
    exact ret_gz [] [] [] rfl (argFl (by (conv => lhs; whnf); all_goals rfl)) trivial

set_option maxRecDepth 100000 in
set_option maxHeartbeats 40000000 in
theorem ref24_Slack_ac (x_0 : (List Minimum)) (x_1 : Connecting) (x_2 : Int) (r : Int × Bool) (hF : ref24_Slack x_0 x_1 x_2 = some r) : AC Try.prog 28 [.lst 3 (x_0.map encMinimum), .agg (encConnecting x_1), .int .i64 x_2] [] (.tup [.int .i64 r.1, .bool r.2]) [] := by
  refine ac_of tab_ok follows_ok Try.func28 rfl Try.ntmps28 rfl ?_
  unfold ref24_Slack at hF
  conv => whnf
  obtain ⟨r_1, h_r_1, hF⟩ := bind_some hF
  refine ⟨_, _, _, _, _, _, _, _, _, callX false [] [] 0 Try.func48 (by decide) rfl (ref24_Valid_ac x_1 r_1 h_r_1) rfl ⟨(argE (by (conv => lhs; whnf); all_goals rfl) rfl), trivial⟩ rfl trivial rfl rfl rfl lend0 trivial rfl, ?_⟩
  conv => whnf
  refine ⟨fun hb_5 => ?_, fun hb_5 => ?_⟩
  · replace hF := cond_f hb_5 hF
    conv => whnf
    refine ⟨fun hb_6 => ?_, fun hb_6 => ?_⟩
    · replace hF := cond_f hb_6 hF
      conv => whnf
      refine ⟨fun hb_7 => ?_, fun hb_7 => ?_⟩
      · replace hF := cond_t hb_7 hF
        conv => whnf
        obtain rfl := Option.some.inj hF
        exact ret_gz [] [] [] rfl (tupL rfl ⟨(argE (by (conv => lhs; whnf); all_goals rfl) rfl), (argFl (by (conv => lhs; whnf); all_goals rfl)), trivial⟩) trivial
      · replace hF := cond_f hb_7 hF
        conv => whnf
        obtain ⟨r_2, h_r_2, hF⟩ := bind_some hF
        refine ⟨_, _, _, _, _, _, _, _, _, callX false [] [] 0 Try.func17 (by decide) rfl (ref24_Least_ac x_0 x_1.From x_1.To r_2 h_r_2) rfl ⟨(argE (by (conv => lhs; whnf); all_goals rfl) rfl), (argE (by (conv => lhs; whnf); all_goals rfl) rfl), (argE (by (conv => lhs; whnf); all_goals rfl) rfl), trivial⟩ rfl trivial rfl rfl rfl lend0 trivial rfl, ?_⟩
        conv => whnf
        refine ⟨fun hb_8 => ?_, fun hb_8 => ?_⟩
        · replace hF := cond_t hb_8 hF
          conv => whnf
          obtain rfl := Option.some.inj hF
          exact ret_gz [] [] [] rfl (tupL rfl ⟨(argE (by (conv => lhs; whnf); all_goals rfl) rfl), (argFl (by (conv => lhs; whnf); all_goals rfl)), trivial⟩) trivial
        · replace hF := cond_f hb_8 hF
          conv => whnf
          refine ⟨_, rfl, ?_⟩
          conv => whnf
          refine ⟨_, rfl, ?_⟩
          conv => whnf
          obtain rfl := Option.some.inj hF
          exact ret_gz [] [] [] rfl (tupL rfl ⟨(argE (by (conv => lhs; whnf); all_goals rfl) rfl), (argT (by (conv => lhs; whnf); all_goals rfl)), trivial⟩) trivial
    · replace hF := cond_t hb_6 hF
      conv => whnf
      obtain rfl := Option.some.inj hF
      exact ret_gz [] [] [] rfl (tupL rfl ⟨(argE (by (conv => lhs; whnf); all_goals rfl) rfl), (argFl (by (conv => lhs; whnf); all_goals rfl)), trivial⟩) trivial
  · replace hF := cond_t hb_5 hF
    conv => whnf
    obtain rfl := Option.some.inj hF
    exact ret_gz [] [] [] rfl (tupL rfl ⟨(argE (by (conv => lhs; whnf); all_goals rfl) rfl), (argFl (by (conv => lhs; whnf); all_goals rfl)), trivial⟩) trivial

set_option maxRecDepth 100000 in
set_option maxHeartbeats 40000000 in
theorem connect_Classify_ac (x_0 : Int) (x_1 : Int) (r : Int) (hF : connect_Classify x_0 x_1 = some r) : AC Try.prog 29 [.int .i64 x_0, .int .i64 x_1] [] (.int .i64 r) [] := by
  refine ac_of tab_ok follows_ok Try.func29 rfl Try.ntmps29 rfl ?_
  unfold connect_Classify at hF
  conv => whnf
  refine ⟨fun hb_3 => ?_, fun hb_3 => ?_⟩
  · replace hF := cond_t hb_3 hF
    conv => whnf
    obtain rfl := Option.some.inj hF
    exact ret_gz [] [] [] rfl (argE (by (conv => lhs; whnf); all_goals rfl) rfl) trivial
  · replace hF := cond_f hb_3 hF
    conv => whnf
    refine ⟨_, rfl, ?_⟩
    conv => whnf
    refine ⟨fun hb_4 => ?_, fun hb_4 => ?_⟩
    · replace hF := cond_t hb_4 hF
      conv => whnf
      obtain rfl := Option.some.inj hF
      exact ret_gz [] [] [] rfl (argE (by (conv => lhs; whnf); all_goals rfl) rfl) trivial
    · replace hF := cond_f hb_4 hF
      conv => whnf
      obtain rfl := Option.some.inj hF
      exact ret_gz [] [] [] rfl (argE (by (conv => lhs; whnf); all_goals rfl) rfl) trivial

set_option maxRecDepth 100000 in
set_option maxHeartbeats 40000000 in
theorem ref24_Classify_ac (x_0 : Int) (x_1 : Int) (r : Int) (hF : ref24_Classify x_0 x_1 = some r) : AC Try.prog 30 [.int .i64 x_0, .int .i64 x_1] [] (.int .i64 r) [] := by
  refine ac_of tab_ok follows_ok Try.func30 rfl Try.ntmps30 rfl ?_
  unfold ref24_Classify at hF
  conv => whnf
  refine ⟨fun hb_3 => ?_, fun hb_3 => ?_⟩
  · replace hF := cond_t hb_3 hF
    conv => whnf
    obtain rfl := Option.some.inj hF
    exact ret_gz [] [] [] rfl (argE (by (conv => lhs; whnf); all_goals rfl) rfl) trivial
  · replace hF := cond_f hb_3 hF
    conv => whnf
    refine ⟨_, rfl, ?_⟩
    conv => whnf
    refine ⟨fun hb_4 => ?_, fun hb_4 => ?_⟩
    · replace hF := cond_t hb_4 hF
      conv => whnf
      obtain rfl := Option.some.inj hF
      exact ret_gz [] [] [] rfl (argE (by (conv => lhs; whnf); all_goals rfl) rfl) trivial
    · replace hF := cond_f hb_4 hF
      conv => whnf
      obtain rfl := Option.some.inj hF
      exact ret_gz [] [] [] rfl (argE (by (conv => lhs; whnf); all_goals rfl) rfl) trivial

set_option maxRecDepth 100000 in
set_option maxHeartbeats 40000000 in
theorem keep_Src_Holds_ac (x_0 : Src) (x_1 : Int) (r : (List HoldRule) × Src) (hF : keep_Src_Holds x_0 x_1 = some r) : AC Try.prog 20 [.ptr 0 0, .int .i64 x_1] [.box (encSrc x_0)] (.lst 3 (r.1.map encHoldRule)) [.box (encSrc r.2)] := by
  refine ac_of tab_ok follows_ok Try.func20 rfl Try.ntmps20 rfl ?_
  unfold keep_Src_Holds at hF
  conv => whnf
  refine ⟨_, rfl, ?_⟩
  conv => whnf
  obtain ⟨r_1, h_r_1, hF⟩ := bind_some hF
  refine ⟨_, _, _, _, _, _, _, _, _, callX false [0] [] 0 Try.func22 (by decide) rfl (keep_Src_N_ac x_0 (w64 (x_1 + (1 : Int))) r_1 h_r_1) rfl ⟨(argP (id := 0) (by (conv => lhs; whnf); all_goals rfl) rfl), (argE (by (conv => lhs; whnf); all_goals rfl) rfl), trivial⟩ rfl ⟨rfl, trivial⟩ rfl rfl rfl lend0 ⟨rfl, trivial⟩ rfl, ?_⟩
  conv => whnf
  obtain ⟨c_1, hc_1, hF⟩ := fin_some hF
  refine sw_loop tab_ok follows_ok (fun y : Nat × (List Int) × Int × (List HoldRule) × Int => keep_Src_Holds_L1 y.1 y.2.1 y.2.2.1 y.2.2.2.1 y.2.2.2.2 = some c_1) (fun y => ⟨eL [(0, .ptr 0 0), (5, .osl 1), (6, .int .i64 y.2.2.2.2)], hL [(0, .box [.lst 1 (y.2.1.map iA), .int .i64 y.2.2.1]), (1, .row 3 (y.2.2.2.1.map encHoldRule))], 2⟩) (fun y => y.1) (9223372036854775807, r_1.2.L, r_1.2.At, ([] : List HoldRule), r_1.1) hc_1 (wk_mk [0] [1] [] rfl ⟨argP (id := 0) (by (conv => lhs; whnf); all_goals rfl) rfl, argZ (by (conv => lhs; whnf); all_goals rfl) rfl, argE (by (conv => lhs; whnf); all_goals rfl) rfl, trivial⟩ ⟨boxL rfl rfl rfl ⟨(.ni _ rfl), (.ni _ rfl), trivial⟩, blkZ rfl, trivial⟩) ?_
  rintro ⟨q_20, a_2, i_3, a_4, i_5⟩ hL1
  try dsimp only at hL1
  rcases q_20 with _ | q_20
  · rw [keep_Src_Holds_L1.eq_1] at hL1
    cases hL1
  rw [keep_Src_Holds_L1.eq_2] at hL1
  show awp _ _ _ _ _ _ ⟨eL [(0, .ptr 0 0), (5, .osl 1), (6, .int .i64 i_5)], hL [(0, .box [.lst 1 (a_2.map iA), .int .i64 i_3]), (1, .row 3 (a_4.map encHoldRule))], 2⟩
  conv => whnf
  refine ⟨fun hb_21 => ?_, fun hb_21 => ?_⟩
  · replace hL1 := cond_t hb_21 hL1
    conv => whnf
    obtain ⟨r_6, h_r_6, hL1⟩ := bind_some hL1
    refine ⟨_, _, _, _, _, _, _, _, _, callX false [0] [] 0 Try.func22 (by decide) rfl (keep_Src_N_ac (⟨a_2, i_3⟩ : Src) (5 : Int) r_6 h_r_6) rfl ⟨(argP (id := 0) (by (conv => lhs; whnf); all_goals rfl) rfl), (argE (by (conv => lhs; whnf); all_goals rfl) rfl), trivial⟩ rfl ⟨rfl, trivial⟩ rfl rfl rfl lend0 ⟨rfl, trivial⟩ rfl, ?_⟩
    conv => whnf
    refine ⟨fun hb_22 => ?_, fun hb_22 => ?_⟩
    · replace hL1 := cond_t hb_22 hL1
      conv => whnf
      refine ⟨fun h => ?_, fun h => ?_⟩
      · conv => whnf
        obtain ⟨r_7, h_r_7, hL1⟩ := bind_some hL1
        refine ⟨_, _, _, _, _, _, _, _, _, callX false [0] [] 0 Try.func22 (by decide) rfl (keep_Src_N_ac r_6.2 (5 : Int) r_7 h_r_7) rfl ⟨(argP (id := 0) (by (conv => lhs; whnf); all_goals rfl) rfl), (argE (by (conv => lhs; whnf); all_goals rfl) rfl), trivial⟩ rfl ⟨rfl, trivial⟩ rfl rfl rfl lend0 ⟨rfl, trivial⟩ rfl, ?_⟩
        conv => whnf
        refine ⟨_, rfl, ?_⟩
        conv => whnf
        obtain ⟨r_8, h_r_8, hL1⟩ := bind_some hL1
        refine ⟨_, _, _, _, _, _, _, _, _, callX false [0] [] 0 Try.func22 (by decide) rfl (keep_Src_N_ac r_7.2 (15 : Int) r_8 h_r_8) rfl ⟨(argP (id := 0) (by (conv => lhs; whnf); all_goals rfl) rfl), (argE (by (conv => lhs; whnf); all_goals rfl) rfl), trivial⟩ rfl ⟨rfl, trivial⟩ rfl rfl rfl lend0 ⟨rfl, trivial⟩ rfl, ?_⟩
        conv => whnf
        refine ⟨_, rfl, ?_⟩
        conv => whnf
        obtain ⟨l_9, h_l_9, hL1⟩ := bind_some hL1
        refine ap_q (enc := encHoldRule) (l := a_4) (y := ([(⟨(1 : Int), (w64 ((1 : Int) + r_7.1)), (w64 ((1 : Int) + r_8.1))⟩ : HoldRule)] : List HoldRule)) h_l_9 rfl rfl (by decide) ?_
        conv => whnf
        refine ⟨_, rfl, ?_⟩
        conv => whnf
        exact ⟨(q_20, r_8.2.L, r_8.2.At, l_9, (w64 (i_5 - (1 : Int)))), [0, 6], [], [], hL1, Nat.lt_succ_self _, wk_mk [0, 6] [] [] rfl ⟨argP (id := 0) (by (conv => lhs; whnf); all_goals rfl) rfl, argO (id := 6) (by (conv => lhs; whnf); all_goals rfl) rfl, argE (by (conv => lhs; whnf); all_goals rfl) rfl, trivial⟩ ⟨boxL rfl rfl rfl ⟨(.ni _ rfl), (.ni _ rfl), trivial⟩, blkR (fun _ => ⟨rfl, rfl⟩) rfl rfl, trivial⟩⟩
      · cases (hb_22).symm.trans h
    · replace hL1 := cond_f hb_22 hL1
      conv => whnf
      refine ⟨fun hb_23 => ?_, fun hb_23 => ?_⟩
      · replace hL1 := cond_t hb_23 hL1
        conv => whnf
        obtain ⟨r_10, h_r_10, hL1⟩ := bind_some hL1
        refine ⟨_, _, _, _, _, _, _, _, _, callX false [0] [] 0 Try.func22 (by decide) rfl (keep_Src_N_ac r_6.2 (5 : Int) r_10 h_r_10) rfl ⟨(argP (id := 0) (by (conv => lhs; whnf); all_goals rfl) rfl), (argE (by (conv => lhs; whnf); all_goals rfl) rfl), trivial⟩ rfl ⟨rfl, trivial⟩ rfl rfl rfl lend0 ⟨rfl, trivial⟩ rfl, ?_⟩
        conv => whnf
        refine ⟨_, rfl, ?_⟩
        conv => whnf
        obtain ⟨r_11, h_r_11, hL1⟩ := bind_some hL1
        refine ⟨_, _, _, _, _, _, _, _, _, callX false [0] [] 0 Try.func22 (by decide) rfl (keep_Src_N_ac r_10.2 (15 : Int) r_11 h_r_11) rfl ⟨(argP (id := 0) (by (conv => lhs; whnf); all_goals rfl) rfl), (argE (by (conv => lhs; whnf); all_goals rfl) rfl), trivial⟩ rfl ⟨rfl, trivial⟩ rfl rfl rfl lend0 ⟨rfl, trivial⟩ rfl, ?_⟩
        conv => whnf
        refine ⟨_, rfl, ?_⟩
        conv => whnf
        obtain ⟨l_12, h_l_12, hL1⟩ := bind_some hL1
        refine ap_q (enc := encHoldRule) (l := a_4) (y := ([(⟨(1 : Int), (w64 ((1 : Int) + r_10.1)), (w64 ((1 : Int) + r_11.1))⟩ : HoldRule)] : List HoldRule)) h_l_12 rfl rfl (by decide) ?_
        conv => whnf
        refine ⟨_, rfl, ?_⟩
        conv => whnf
        exact ⟨(q_20, r_11.2.L, r_11.2.At, l_12, (w64 (i_5 - (1 : Int)))), [0, 6], [], [], hL1, Nat.lt_succ_self _, wk_mk [0, 6] [] [] rfl ⟨argP (id := 0) (by (conv => lhs; whnf); all_goals rfl) rfl, argO (id := 6) (by (conv => lhs; whnf); all_goals rfl) rfl, argE (by (conv => lhs; whnf); all_goals rfl) rfl, trivial⟩ ⟨boxL rfl rfl rfl ⟨(.ni _ rfl), (.ni _ rfl), trivial⟩, blkR (fun _ => ⟨rfl, rfl⟩) rfl rfl, trivial⟩⟩
      · replace hL1 := cond_f hb_23 hL1
        conv => whnf
        refine ⟨fun hb_24 => ?_, fun hb_24 => ?_⟩
        · replace hL1 := cond_t hb_24 hL1
          conv => whnf
          refine ⟨fun h => ?_, fun h => ?_⟩
          · conv => whnf
            obtain ⟨r_13, h_r_13, hL1⟩ := bind_some hL1
            refine ⟨_, _, _, _, _, _, _, _, _, callX false [0] [] 0 Try.func22 (by decide) rfl (keep_Src_N_ac r_6.2 (5 : Int) r_13 h_r_13) rfl ⟨(argP (id := 0) (by (conv => lhs; whnf); all_goals rfl) rfl), (argE (by (conv => lhs; whnf); all_goals rfl) rfl), trivial⟩ rfl ⟨rfl, trivial⟩ rfl rfl rfl lend0 ⟨rfl, trivial⟩ rfl, ?_⟩
            conv => whnf
            obtain ⟨r_14, h_r_14, hL1⟩ := bind_some hL1
            refine ⟨_, _, _, _, _, _, _, _, _, callX false [0] [] 0 Try.func22 (by decide) rfl (keep_Src_N_ac r_13.2 (15 : Int) r_14 h_r_14) rfl ⟨(argP (id := 0) (by (conv => lhs; whnf); all_goals rfl) rfl), (argE (by (conv => lhs; whnf); all_goals rfl) rfl), trivial⟩ rfl ⟨rfl, trivial⟩ rfl rfl rfl lend0 ⟨rfl, trivial⟩ rfl, ?_⟩
            conv => whnf
            refine ⟨_, rfl, ?_⟩
            conv => whnf
            obtain ⟨l_15, h_l_15, hL1⟩ := bind_some hL1
            refine ap_q (enc := encHoldRule) (l := a_4) (y := ([(⟨(2 : Int), r_13.1, (w64 ((1 : Int) + r_14.1))⟩ : HoldRule)] : List HoldRule)) h_l_15 rfl rfl (by decide) ?_
            conv => whnf
            refine ⟨_, rfl, ?_⟩
            conv => whnf
            exact ⟨(q_20, r_14.2.L, r_14.2.At, l_15, (w64 (i_5 - (1 : Int)))), [0, 6], [], [], hL1, Nat.lt_succ_self _, wk_mk [0, 6] [] [] rfl ⟨argP (id := 0) (by (conv => lhs; whnf); all_goals rfl) rfl, argO (id := 6) (by (conv => lhs; whnf); all_goals rfl) rfl, argE (by (conv => lhs; whnf); all_goals rfl) rfl, trivial⟩ ⟨boxL rfl rfl rfl ⟨(.ni _ rfl), (.ni _ rfl), trivial⟩, blkR (fun _ => ⟨rfl, rfl⟩) rfl rfl, trivial⟩⟩
          · cases (hb_24).symm.trans h
        · replace hL1 := cond_f hb_24 hL1
          conv => whnf
          refine ⟨fun hb_25 => ?_, fun hb_25 => ?_⟩
          · replace hL1 := cond_t hb_25 hL1
            conv => whnf
            obtain ⟨r_16, h_r_16, hL1⟩ := bind_some hL1
            refine ⟨_, _, _, _, _, _, _, _, _, callX false [0] [] 0 Try.func22 (by decide) rfl (keep_Src_N_ac r_6.2 (5 : Int) r_16 h_r_16) rfl ⟨(argP (id := 0) (by (conv => lhs; whnf); all_goals rfl) rfl), (argE (by (conv => lhs; whnf); all_goals rfl) rfl), trivial⟩ rfl ⟨rfl, trivial⟩ rfl rfl rfl lend0 ⟨rfl, trivial⟩ rfl, ?_⟩
            conv => whnf
            obtain ⟨r_17, h_r_17, hL1⟩ := bind_some hL1
            refine ⟨_, _, _, _, _, _, _, _, _, callX false [0] [] 0 Try.func22 (by decide) rfl (keep_Src_N_ac r_16.2 (15 : Int) r_17 h_r_17) rfl ⟨(argP (id := 0) (by (conv => lhs; whnf); all_goals rfl) rfl), (argE (by (conv => lhs; whnf); all_goals rfl) rfl), trivial⟩ rfl ⟨rfl, trivial⟩ rfl rfl rfl lend0 ⟨rfl, trivial⟩ rfl, ?_⟩
            conv => whnf
            refine ⟨_, rfl, ?_⟩
            conv => whnf
            obtain ⟨l_18, h_l_18, hL1⟩ := bind_some hL1
            refine ap_q (enc := encHoldRule) (l := a_4) (y := ([(⟨(2 : Int), r_16.1, (w64 ((1 : Int) + r_17.1))⟩ : HoldRule)] : List HoldRule)) h_l_18 rfl rfl (by decide) ?_
            conv => whnf
            refine ⟨_, rfl, ?_⟩
            conv => whnf
            exact ⟨(q_20, r_17.2.L, r_17.2.At, l_18, (w64 (i_5 - (1 : Int)))), [0, 6], [], [], hL1, Nat.lt_succ_self _, wk_mk [0, 6] [] [] rfl ⟨argP (id := 0) (by (conv => lhs; whnf); all_goals rfl) rfl, argO (id := 6) (by (conv => lhs; whnf); all_goals rfl) rfl, argE (by (conv => lhs; whnf); all_goals rfl) rfl, trivial⟩ ⟨boxL rfl rfl rfl ⟨(.ni _ rfl), (.ni _ rfl), trivial⟩, blkR (fun _ => ⟨rfl, rfl⟩) rfl rfl, trivial⟩⟩
          · replace hL1 := cond_f hb_25 hL1
            conv => whnf
            obtain ⟨l_19, h_l_19, hL1⟩ := bind_some hL1
            refine ap_q (enc := encHoldRule) (l := a_4) (y := ([(⟨(3 : Int), (0 : Int), (0 : Int)⟩ : HoldRule)] : List HoldRule)) h_l_19 rfl rfl (by decide) ?_
            conv => whnf
            refine ⟨_, rfl, ?_⟩
            conv => whnf
            exact ⟨(q_20, r_6.2.L, r_6.2.At, l_19, (w64 (i_5 - (1 : Int)))), [0, 4], [], [], hL1, Nat.lt_succ_self _, wk_mk [0, 4] [] [] rfl ⟨argP (id := 0) (by (conv => lhs; whnf); all_goals rfl) rfl, argO (id := 4) (by (conv => lhs; whnf); all_goals rfl) rfl, argE (by (conv => lhs; whnf); all_goals rfl) rfl, trivial⟩ ⟨boxL rfl rfl rfl ⟨(.ni _ rfl), (.ni _ rfl), trivial⟩, blkR (fun _ => ⟨rfl, rfl⟩) rfl rfl, trivial⟩⟩
  · replace hL1 := cond_f hb_21 hL1
    conv => whnf
    obtain rfl := Option.some.inj hL1
    replace hF := fin_brk hF
    try dsimp only at hF
    obtain rfl := Option.some.inj hF
    exact ret_gz [0] [] [1] rfl (argOL 1 (by (conv => lhs; whnf); all_goals rfl) rfl rfl (map_ni (fun _ => ⟨rfl, rfl⟩) _)) ⟨boxL rfl rfl rfl ⟨(.ni _ rfl), (.ni _ rfl), trivial⟩, trivial⟩

set_option maxRecDepth 100000 in
set_option maxHeartbeats 40000000 in
theorem keep_Src_Connections_v2_ac (x_0 : Src) (x_1 : Int) (r : (List Connecting) × Src) (hF : keep_Src_Connections_v2 x_0 x_1 = some r) : AC Try.prog 21 [.ptr 0 0, .int .i64 x_1] [.box (encSrc x_0)] (.lst 7 (r.1.map encConnecting)) [.box (encSrc r.2)] := by
  refine ac_of tab_ok follows_ok Try.func21 rfl Try.ntmps21 rfl ?_
  unfold keep_Src_Connections_v2 at hF
  conv => whnf
  refine ⟨_, rfl, ?_⟩
  conv => whnf
  obtain ⟨r_1, h_r_1, hF⟩ := bind_some hF
  refine ⟨_, _, _, _, _, _, _, _, _, callX false [0] [] 0 Try.func22 (by decide) rfl (keep_Src_N_ac x_0 (w64 (x_1 + (1 : Int))) r_1 h_r_1) rfl ⟨(argP (id := 0) (by (conv => lhs; whnf); all_goals rfl) rfl), (argE (by (conv => lhs; whnf); all_goals rfl) rfl), trivial⟩ rfl ⟨rfl, trivial⟩ rfl rfl rfl lend0 ⟨rfl, trivial⟩ rfl, ?_⟩
  conv => whnf
  obtain ⟨c_1, hc_1, hF⟩ := fin_some hF
  refine sw_loop tab_ok follows_ok (fun y : Nat × (List Int) × Int × (List Connecting) × Int => keep_Src_Connections_v2_L1 y.1 y.2.1 y.2.2.1 y.2.2.2.1 y.2.2.2.2 = some c_1) (fun y => ⟨eL [(0, .ptr 0 0), (5, .osl 1), (6, .int .i64 y.2.2.2.2)], hL [(0, .box [.lst 1 (y.2.1.map iA), .int .i64 y.2.2.1]), (1, .row 7 (y.2.2.2.1.map encConnecting))], 2⟩) (fun y => y.1) (9223372036854775807, r_1.2.L, r_1.2.At, ([] : List Connecting), r_1.1) hc_1 (wk_mk [0] [1] [] rfl ⟨argP (id := 0) (by (conv => lhs; whnf); all_goals rfl) rfl, argZ (by (conv => lhs; whnf); all_goals rfl) rfl, argE (by (conv => lhs; whnf); all_goals rfl) rfl, trivial⟩ ⟨boxL rfl rfl rfl ⟨(.ni _ rfl), (.ni _ rfl), trivial⟩, blkZ rfl, trivial⟩) ?_
  rintro ⟨q_12, a_2, i_3, a_4, i_5⟩ hL1
  try dsimp only at hL1
  rcases q_12 with _ | q_12
  · rw [keep_Src_Connections_v2_L1.eq_1] at hL1
    cases hL1
  rw [keep_Src_Connections_v2_L1.eq_2] at hL1
  show awp _ _ _ _ _ _ ⟨eL [(0, .ptr 0 0), (5, .osl 1), (6, .int .i64 i_5)], hL [(0, .box [.lst 1 (a_2.map iA), .int .i64 i_3]), (1, .row 7 (a_4.map encConnecting))], 2⟩
  conv => whnf
  refine ⟨fun hb_5 => ?_, fun hb_5 => ?_⟩
  · replace hL1 := cond_t hb_5 hL1
    conv => whnf
    refine len_q (enc := encConnecting) (l := a_4) rfl ?_
    conv => whnf
    obtain ⟨r_6, h_r_6, hL1⟩ := bind_some hL1
    refine ⟨_, _, _, _, _, _, _, _, _, callX false [] [] 0 Try.func39 (by decide) rfl (keep_Plates_ac (a_4.length : Int) r_6 h_r_6) rfl ⟨(argE (by (conv => lhs; whnf); all_goals rfl) rfl), trivial⟩ rfl trivial rfl rfl rfl lend0 trivial rfl, ?_⟩
    conv => whnf
    obtain ⟨r_7, h_r_7, hL1⟩ := bind_some hL1
    refine ⟨_, _, _, _, _, _, _, _, _, callX false [0] [] 0 Try.func22 (by decide) rfl (keep_Src_N_ac (⟨a_2, i_3⟩ : Src) (40 : Int) r_7 h_r_7) rfl ⟨(argP (id := 0) (by (conv => lhs; whnf); all_goals rfl) rfl), (argE (by (conv => lhs; whnf); all_goals rfl) rfl), trivial⟩ rfl ⟨rfl, trivial⟩ rfl rfl rfl lend0 ⟨rfl, trivial⟩ rfl, ?_⟩
    conv => whnf
    refine ⟨_, rfl, ?_⟩
    conv => whnf
    obtain ⟨r_8, h_r_8, hL1⟩ := bind_some hL1
    refine ⟨_, _, _, _, _, _, _, _, _, callX false [0] [] 0 Try.func22 (by decide) rfl (keep_Src_N_ac r_7.2 (4 : Int) r_8 h_r_8) rfl ⟨(argP (id := 0) (by (conv => lhs; whnf); all_goals rfl) rfl), (argE (by (conv => lhs; whnf); all_goals rfl) rfl), trivial⟩ rfl ⟨rfl, trivial⟩ rfl rfl rfl lend0 ⟨rfl, trivial⟩ rfl, ?_⟩
    conv => whnf
    obtain ⟨r_9, h_r_9, hL1⟩ := bind_some hL1
    refine ⟨_, _, _, _, _, _, _, _, _, callX false [0] [] 0 Try.func22 (by decide) rfl (keep_Src_N_ac r_8.2 (4 : Int) r_9 h_r_9) rfl ⟨(argP (id := 0) (by (conv => lhs; whnf); all_goals rfl) rfl), (argE (by (conv => lhs; whnf); all_goals rfl) rfl), trivial⟩ rfl ⟨rfl, trivial⟩ rfl rfl rfl lend0 ⟨rfl, trivial⟩ rfl, ?_⟩
    conv => whnf
    obtain ⟨r_10, h_r_10, hL1⟩ := bind_some hL1
    refine ⟨_, _, _, _, _, _, _, _, _, callX false [0] [] 0 Try.func22 (by decide) rfl (keep_Src_N_ac r_9.2 (5 : Int) r_10 h_r_10) rfl ⟨(argP (id := 0) (by (conv => lhs; whnf); all_goals rfl) rfl), (argE (by (conv => lhs; whnf); all_goals rfl) rfl), trivial⟩ rfl ⟨rfl, trivial⟩ rfl rfl rfl lend0 ⟨rfl, trivial⟩ rfl, ?_⟩
    conv => whnf
    obtain ⟨l_11, h_l_11, hL1⟩ := bind_some hL1
    refine ap_q (enc := encConnecting) (l := a_4) (y := ([(⟨r_6, (w64 ((40 : Int) + r_7.1)), r_8.1, r_9.1, r_10.1⟩ : Connecting)] : List Connecting)) h_l_11 rfl rfl (by decide) ?_
    conv => whnf
    refine ⟨_, rfl, ?_⟩
    conv => whnf
    exact ⟨(q_12, r_10.2.L, r_10.2.At, l_11, (w64 (i_5 - (1 : Int)))), [0, 8], [], [], hL1, Nat.lt_succ_self _, wk_mk [0, 8] [] [] rfl ⟨argP (id := 0) (by (conv => lhs; whnf); all_goals rfl) rfl, argO (id := 8) (by (conv => lhs; whnf); all_goals rfl) rfl, argE (by (conv => lhs; whnf); all_goals rfl) rfl, trivial⟩ ⟨boxL rfl rfl rfl ⟨(.ni _ rfl), (.ni _ rfl), trivial⟩, blkR (fun _ => ⟨rfl, rfl⟩) rfl rfl, trivial⟩⟩
  · replace hL1 := cond_f hb_5 hL1
    conv => whnf
    obtain rfl := Option.some.inj hL1
    replace hF := fin_brk hF
    try dsimp only at hF
    obtain rfl := Option.some.inj hF
    exact ret_gz [0] [] [1] rfl (argOL 1 (by (conv => lhs; whnf); all_goals rfl) rfl rfl (map_ni (fun _ => ⟨rfl, rfl⟩) _)) ⟨boxL rfl rfl rfl ⟨(.ni _ rfl), (.ni _ rfl), trivial⟩, trivial⟩

set_option maxRecDepth 100000 in
set_option maxHeartbeats 40000000 in
theorem ref23_SamePlates_ac (x_0 : (List Plate)) (x_1 : (List Plate)) (r : Bool) (hF : ref23_SamePlates x_0 x_1 = some r) : AC Try.prog 25 [.lst 3 (x_0.map encPlate), .lst 3 (x_1.map encPlate)] [] (.bool r) [] := by
  refine ac_of tab_ok follows_ok Try.func25 rfl Try.ntmps25 rfl ?_
  unfold ref23_SamePlates at hF
  conv => whnf
  refine len_q (enc := encPlate) (l := x_0) rfl ?_
  conv => whnf
  refine len_q (enc := encPlate) (l := x_1) rfl ?_
  conv => whnf
  refine ⟨fun hb_8 => ?_, fun hb_8 => ?_⟩
  · replace hF := cond_t hb_8 hF
    conv => whnf
    obtain rfl := Option.some.inj hF
    exact ret_gz [] [] [] rfl (argFl (by (conv => lhs; whnf); all_goals rfl)) trivial
  · replace hF := cond_f hb_8 hF
    conv => whnf
    obtain ⟨c_1, hc_1, hF⟩ := fin_some hF
    refine sw_bv 0 (v := .lst 3 (x_0.map encPlate)) (by (conv => lhs; whnf); all_goals rfl) (fun hb => ?_)
    have hbd_k_2 : x_0.length ≤ 9223372036854775807 := bnd_len (enc := encPlate) (hb)
    refine sw_loop tab_ok follows_ok (fun y : Nat => y ≤ x_0.length ∧ ref23_SamePlates_L1 x_1 (x_0.drop y) y = some c_1) (fun y => ⟨eL [(0, .lst 3 (x_0.map encPlate)), (1, .lst 3 (x_1.map encPlate)), (5, .int .i64 (y : Int))], hL [], 0⟩) (fun y => x_0.length - y) 0 ⟨Nat.zero_le _, hc_1⟩ (wk_mk [] [] [] rfl ⟨argE (by (conv => lhs; whnf); all_goals rfl) rfl, argE (by (conv => lhs; whnf); all_goals rfl) rfl, argE (by (conv => lhs; whnf); all_goals rfl) rfl, trivial⟩ trivial) ?_
    rintro k_2 ⟨hk_k_2, hL1⟩
    try dsimp only at hk_k_2 hL1
    show awp _ _ _ _ _ _ ⟨eL [(0, .lst 3 (x_0.map encPlate)), (1, .lst 3 (x_1.map encPlate)), (5, .int .i64 (k_2 : Int))], hL [], 0⟩
    conv => whnf
    refine len_q (enc := encPlate) (l := x_0) rfl ?_
    conv => whnf
    refine ⟨fun h => ?_, fun h => ?_⟩
    · have hlt_k_2 : k_2 < x_0.length := by have h := of_decide_eq_true h; omega
      obtain ⟨e_3, h_e_3⟩ : ∃ y, x_0[k_2]? = some y := ⟨_, List.getElem?_eq_getElem hlt_k_2⟩
      rw [drop_cons h_e_3, ref23_SamePlates_L1.eq_2] at hL1
      conv => whnf
      refine ⟨k_2, _, rfl, ix_map h_e_3, ?_⟩
      conv => whnf
      obtain ⟨e_4, h_e_4, hL1⟩ := bind_some hL1
      refine ix_q (enc := encPlate) (l := x_1) h_e_4 rfl (fun m_e_4 hm_e_4 hx_e_4 => ?_)
      conv => whnf
      refine ⟨by kernel_rfl, ?_⟩
      conv => whnf
      refine ⟨fun hb_9 => ?_, fun hb_9 => ?_⟩
      · replace hL1 := cond_t hb_9 hL1
        conv => whnf
        obtain rfl := Option.some.inj hL1
        replace hF := fin_ret hF
        obtain rfl := Option.some.inj hF
        exact ret_gz [] [] [] rfl (argFl (by (conv => lhs; whnf); all_goals rfl)) trivial
      · replace hL1 := cond_f hb_9 hL1
        conv => whnf
        refine ⟨((k_2 + 1 : Nat) : Int), wrapE (by omega) (by omega) (by omega), ?_⟩
        conv => whnf
        exact ⟨k_2 + 1, [], [], [], ⟨hlt_k_2, hL1⟩, by show x_0.length - (k_2 + 1) < x_0.length - k_2; omega, wk_mk [] [] [] rfl ⟨argE (by (conv => lhs; whnf); all_goals rfl) rfl, argE (by (conv => lhs; whnf); all_goals rfl) rfl, argE (by (conv => lhs; whnf); all_goals rfl) rfl, trivial⟩ trivial⟩
    · rw [drop_nil (show x_0.length ≤ k_2 by have h := of_decide_eq_false h; omega), ref23_SamePlates_L1.eq_1] at hL1
      conv => whnf
      obtain rfl := Option.some.inj hL1
      replace hF := fin_brk hF
      try dsimp only at hF
      obtain rfl := Option.some.inj hF
      exact ret_gz [] [] [] rfl (argT (by (conv => lhs; whnf); all_goals rfl)) trivial

set_option maxRecDepth 100000 in
set_option maxHeartbeats 40000000 in
theorem ref24_rule_ac (x_0 : HoldRule) (r : Bool) (hF : ref24_rule x_0 = some r) : AC Try.prog 54 [.agg (encHoldRule x_0)] [] (.bool r) [] := by
  refine ac_of tab_ok follows_ok Try.func54 rfl Try.ntmps54 rfl ?_
  unfold ref24_rule at hF
  conv => whnf
  refine ⟨fun hb_18 => ?_, fun hb_18 => ?_⟩
  · replace hF := cond_t hb_18 hF
    conv => whnf
    refine ⟨fun hb_19 => ?_, fun hb_19 => ?_⟩
    · replace hF := cond_t hb_19 hF
      conv => whnf
      refine ⟨fun hb_20 => ?_, fun hb_20 => ?_⟩
      · replace hF := cond_t hb_20 hF
        conv => whnf
        refine ⟨fun hb_21 => ?_, fun hb_21 => ?_⟩
        · replace hF := cond_t hb_21 hF
          conv => whnf
          obtain rfl := Option.some.inj hF
          exact ret_gz [] [] [] rfl (argE (by (conv => lhs; whnf); all_goals rfl) rfl) trivial
        · replace hF := cond_f hb_21 hF
          conv => whnf
          obtain rfl := Option.some.inj hF
          exact ret_gz [] [] [] rfl (argFl (by (conv => lhs; whnf); all_goals rfl)) trivial
      · replace hF := cond_f hb_20 hF
        conv => whnf
        obtain rfl := Option.some.inj hF
        exact ret_gz [] [] [] rfl (argFl (by (conv => lhs; whnf); all_goals rfl)) trivial
    · replace hF := cond_f hb_19 hF
      conv => whnf
      refine ⟨fun hb_22 => ?_, fun hb_22 => ?_⟩
      · replace hF := cond_t hb_22 hF
        conv => whnf
        refine ⟨fun hb_23 => ?_, fun hb_23 => ?_⟩
        · replace hF := cond_t hb_23 hF
          conv => whnf
          refine ⟨fun hb_24 => ?_, fun hb_24 => ?_⟩
          · replace hF := cond_t hb_24 hF
            conv => whnf
            obtain rfl := Option.some.inj hF
            exact ret_gz [] [] [] rfl (argE (by (conv => lhs; whnf); all_goals rfl) rfl) trivial
          · replace hF := cond_f hb_24 hF
            conv => whnf
            obtain rfl := Option.some.inj hF
            exact ret_gz [] [] [] rfl (argFl (by (conv => lhs; whnf); all_goals rfl)) trivial
        · replace hF := cond_f hb_23 hF
          conv => whnf
          obtain rfl := Option.some.inj hF
          exact ret_gz [] [] [] rfl (argFl (by (conv => lhs; whnf); all_goals rfl)) trivial
      · replace hF := cond_f hb_22 hF
        conv => whnf
        refine ⟨fun hb_25 => ?_, fun hb_25 => ?_⟩
        · replace hF := cond_t hb_25 hF
          conv => whnf
          refine ⟨fun hb_26 => ?_, fun hb_26 => ?_⟩
          · replace hF := cond_t hb_26 hF
            conv => whnf
            obtain rfl := Option.some.inj hF
            exact ret_gz [] [] [] rfl (argE (by (conv => lhs; whnf); all_goals rfl) rfl) trivial
          · replace hF := cond_f hb_26 hF
            conv => whnf
            obtain rfl := Option.some.inj hF
            exact ret_gz [] [] [] rfl (argFl (by (conv => lhs; whnf); all_goals rfl)) trivial
        · replace hF := cond_f hb_25 hF
          conv => whnf
          obtain rfl := Option.some.inj hF
          exact ret_gz [] [] [] rfl (argFl (by (conv => lhs; whnf); all_goals rfl)) trivial
  · replace hF := cond_f hb_18 hF
    conv => whnf
    refine ⟨fun hb_27 => ?_, fun hb_27 => ?_⟩
    · replace hF := cond_t hb_27 hF
      conv => whnf
      refine ⟨fun hb_28 => ?_, fun hb_28 => ?_⟩
      · replace hF := cond_t hb_28 hF
        conv => whnf
        refine ⟨fun hb_29 => ?_, fun hb_29 => ?_⟩
        · replace hF := cond_t hb_29 hF
          conv => whnf
          obtain rfl := Option.some.inj hF
          exact ret_gz [] [] [] rfl (argFl (by (conv => lhs; whnf); all_goals rfl)) trivial
        · replace hF := cond_f hb_29 hF
          conv => whnf
          obtain rfl := Option.some.inj hF
          exact ret_gz [] [] [] rfl (argFl (by (conv => lhs; whnf); all_goals rfl)) trivial
      · replace hF := cond_f hb_28 hF
        conv => whnf
        obtain rfl := Option.some.inj hF
        exact ret_gz [] [] [] rfl (argFl (by (conv => lhs; whnf); all_goals rfl)) trivial
    · replace hF := cond_f hb_27 hF
      conv => whnf
      refine ⟨fun hb_30 => ?_, fun hb_30 => ?_⟩
      · replace hF := cond_t hb_30 hF
        conv => whnf
        refine ⟨fun hb_31 => ?_, fun hb_31 => ?_⟩
        · replace hF := cond_t hb_31 hF
          conv => whnf
          refine ⟨fun hb_32 => ?_, fun hb_32 => ?_⟩
          · replace hF := cond_t hb_32 hF
            conv => whnf
            obtain rfl := Option.some.inj hF
            exact ret_gz [] [] [] rfl (argFl (by (conv => lhs; whnf); all_goals rfl)) trivial
          · replace hF := cond_f hb_32 hF
            conv => whnf
            obtain rfl := Option.some.inj hF
            exact ret_gz [] [] [] rfl (argFl (by (conv => lhs; whnf); all_goals rfl)) trivial
        · replace hF := cond_f hb_31 hF
          conv => whnf
          obtain rfl := Option.some.inj hF
          exact ret_gz [] [] [] rfl (argFl (by (conv => lhs; whnf); all_goals rfl)) trivial
      · replace hF := cond_f hb_30 hF
        conv => whnf
        refine ⟨fun hb_33 => ?_, fun hb_33 => ?_⟩
        · replace hF := cond_t hb_33 hF
          conv => whnf
          refine ⟨fun hb_34 => ?_, fun hb_34 => ?_⟩
          · replace hF := cond_t hb_34 hF
            conv => whnf
            obtain rfl := Option.some.inj hF
            exact ret_gz [] [] [] rfl (argE (by (conv => lhs; whnf); all_goals rfl) rfl) trivial
          · replace hF := cond_f hb_34 hF
            conv => whnf
            obtain rfl := Option.some.inj hF
            exact ret_gz [] [] [] rfl (argFl (by (conv => lhs; whnf); all_goals rfl)) trivial
        · replace hF := cond_f hb_33 hF
          conv => whnf
          obtain rfl := Option.some.inj hF
          exact ret_gz [] [] [] rfl (argFl (by (conv => lhs; whnf); all_goals rfl)) trivial

set_option maxRecDepth 100000 in
set_option maxHeartbeats 40000000 in
theorem ref24_Check_ac (x_0 : (List Minimum)) (x_1 : (List HoldRule)) (x_2 : (List Connecting)) (x_3 : Int) (r : Int) (hF : ref24_Check x_0 x_1 x_2 x_3 = some r) : AC Try.prog 44 [.lst 3 (x_0.map encMinimum), .lst 3 (x_1.map encHoldRule), .lst 7 (x_2.map encConnecting), .int .i64 x_3] [] (.int .i64 r) [] := by
  refine ac_of tab_ok follows_ok Try.func44 rfl Try.ntmps44 rfl ?_
  unfold ref24_Check at hF
  conv => whnf
  obtain ⟨r_1, h_r_1, hF⟩ := bind_some hF
  refine ⟨_, _, _, _, _, _, _, _, _, callX false [] [] 0 Try.func15 (by decide) rfl (ref24_Validate_ac x_0 r_1 h_r_1) rfl ⟨(argE (by (conv => lhs; whnf); all_goals rfl) rfl), trivial⟩ rfl trivial rfl rfl rfl lend0 trivial rfl, ?_⟩
  conv => whnf
  refine ⟨fun hb_40 => ?_, fun hb_40 => ?_⟩
  · replace hF := cond_t hb_40 hF
    conv => whnf
    obtain rfl := Option.some.inj hF
    exact ret_gz [] [] [] rfl (argE (by (conv => lhs; whnf); all_goals rfl) rfl) trivial
  · replace hF := cond_f hb_40 hF
    conv => whnf
    refine ⟨fun hb_41 => ?_, fun hb_41 => ?_⟩
    · replace hF := cond_f hb_41 hF
      conv => whnf
      refine ⟨fun hb_42 => ?_, fun hb_42 => ?_⟩
      · replace hF := cond_t hb_42 hF
        conv => whnf
        obtain rfl := Option.some.inj hF
        exact ret_gz [] [] [] rfl (argE (by (conv => lhs; whnf); all_goals rfl) rfl) trivial
      · replace hF := cond_f hb_42 hF
        conv => whnf
        refine len_q (enc := encHoldRule) (l := x_1) rfl ?_
        conv => whnf
        refine ⟨fun hb_43 => ?_, fun hb_43 => ?_⟩
        · replace hF := cond_f hb_43 hF
          conv => whnf
          refine len_q (enc := encConnecting) (l := x_2) rfl ?_
          conv => whnf
          refine ⟨fun hb_44 => ?_, fun hb_44 => ?_⟩
          · replace hF := cond_t hb_44 hF
            conv => whnf
            obtain rfl := Option.some.inj hF
            exact ret_gz [] [] [] rfl (argE (by (conv => lhs; whnf); all_goals rfl) rfl) trivial
          · replace hF := cond_f hb_44 hF
            conv => whnf
            obtain ⟨c_1, hc_1, hF⟩ := fin_some hF
            refine sw_bv 1 (v := .lst 3 (x_1.map encHoldRule)) (by (conv => lhs; whnf); all_goals rfl) (fun hb => ?_)
            have hbd_k_3 : x_1.length ≤ 9223372036854775807 := bnd_len (enc := encHoldRule) (hb)
            refine sw_loop tab_ok follows_ok (fun y : Nat => y ≤ x_1.length ∧ ref24_Check_L1 (x_1.drop y) y = some c_1) (fun y => ⟨eL [(1, .lst 3 (x_1.map encHoldRule)), (2, .lst 7 (x_2.map encConnecting)), (10, .int .i64 (y : Int))], hL [], 0⟩) (fun y => x_1.length - y) 0 ⟨Nat.zero_le _, hc_1⟩ (wk_mk [] [] [] rfl ⟨argE (by (conv => lhs; whnf); all_goals rfl) rfl, argE (by (conv => lhs; whnf); all_goals rfl) rfl, argE (by (conv => lhs; whnf); all_goals rfl) rfl, trivial⟩ trivial) ?_
            rintro k_3 ⟨hk_k_3, hL1⟩
            try dsimp only at hk_k_3 hL1
            show awp _ _ _ _ _ _ ⟨eL [(1, .lst 3 (x_1.map encHoldRule)), (2, .lst 7 (x_2.map encConnecting)), (10, .int .i64 (k_3 : Int))], hL [], 0⟩
            conv => whnf
            refine len_q (enc := encHoldRule) (l := x_1) rfl ?_
            conv => whnf
            refine ⟨fun h => ?_, fun h => ?_⟩
            · have hlt_k_3 : k_3 < x_1.length := by have h := of_decide_eq_true h; omega
              obtain ⟨e_4, h_e_4⟩ : ∃ y, x_1[k_3]? = some y := ⟨_, List.getElem?_eq_getElem hlt_k_3⟩
              rw [drop_cons h_e_4, ref24_Check_L1.eq_2] at hL1
              conv => whnf
              refine ⟨k_3, _, rfl, ix_map h_e_4, ?_⟩
              conv => whnf
              obtain ⟨r_5, h_r_5, hL1⟩ := bind_some hL1
              refine ⟨_, _, _, _, _, _, _, _, _, callX false [] [] 0 Try.func54 (by decide) rfl (ref24_rule_ac e_4 r_5 h_r_5) rfl ⟨(argE (by (conv => lhs; whnf); all_goals rfl) rfl), trivial⟩ rfl trivial rfl rfl rfl lend0 trivial rfl, ?_⟩
              conv => whnf
              refine ⟨fun hb_45 => ?_, fun hb_45 => ?_⟩
              · replace hL1 := cond_t hb_45 hL1
                conv => whnf
                obtain rfl := Option.some.inj hL1
                replace hF := fin_ret hF
                obtain rfl := Option.some.inj hF
                exact ret_gz [] [] [] rfl (argE (by (conv => lhs; whnf); all_goals rfl) rfl) trivial
              · replace hL1 := cond_f hb_45 hL1
                conv => whnf
                refine ⟨((k_3 + 1 : Nat) : Int), wrapE (by omega) (by omega) (by omega), ?_⟩
                conv => whnf
                exact ⟨k_3 + 1, [], [], [], ⟨hlt_k_3, hL1⟩, by show x_1.length - (k_3 + 1) < x_1.length - k_3; omega, wk_mk [] [] [] rfl ⟨argE (by (conv => lhs; whnf); all_goals rfl) rfl, argE (by (conv => lhs; whnf); all_goals rfl) rfl, argE (by (conv => lhs; whnf); all_goals rfl) rfl, trivial⟩ trivial⟩
            · rw [drop_nil (show x_1.length ≤ k_3 by have h := of_decide_eq_false h; omega), ref24_Check_L1.eq_1] at hL1
              conv => whnf
              obtain rfl := Option.some.inj hL1
              replace hF := fin_brk hF
              try dsimp only at hF
              obtain ⟨c_2, hc_2, hF⟩ := fin_some hF
              refine sw_bv 2 (v := .lst 7 (x_2.map encConnecting)) (by (conv => lhs; whnf); all_goals rfl) (fun hb => ?_)
              have hbd_k_9 : x_2.length ≤ 9223372036854775807 := bnd_len (enc := encConnecting) (hb)
              refine sw_loop tab_ok follows_ok (fun y : Nat => y ≤ x_2.length ∧ ref24_Check_L2 (x_2.drop y) y = some c_2) (fun y => ⟨eL [(2, .lst 7 (x_2.map encConnecting)), (11, .int .i64 (y : Int))], hL [], 0⟩) (fun y => x_2.length - y) 0 ⟨Nat.zero_le _, hc_2⟩ (wk_mk [] [] [] rfl ⟨argE (by (conv => lhs; whnf); all_goals rfl) rfl, argE (by (conv => lhs; whnf); all_goals rfl) rfl, trivial⟩ trivial) ?_
              rintro k_9 ⟨hk_k_9, hL1⟩
              try dsimp only at hk_k_9 hL1
              show awp _ _ _ _ _ _ ⟨eL [(2, .lst 7 (x_2.map encConnecting)), (11, .int .i64 (k_9 : Int))], hL [], 0⟩
              conv => whnf
              refine len_q (enc := encConnecting) (l := x_2) rfl ?_
              conv => whnf
              refine ⟨fun h => ?_, fun h => ?_⟩
              · have hlt_k_9 : k_9 < x_2.length := by have h := of_decide_eq_true h; omega
                obtain ⟨e_10, h_e_10⟩ : ∃ y, x_2[k_9]? = some y := ⟨_, List.getElem?_eq_getElem hlt_k_9⟩
                rw [drop_cons h_e_10, ref24_Check_L2.eq_2] at hL1
                conv => whnf
                refine ⟨k_9, _, rfl, ix_map h_e_10, ?_⟩
                conv => whnf
                obtain ⟨r_11, h_r_11, hL1⟩ := bind_some hL1
                refine ⟨_, _, _, _, _, _, _, _, _, callX false [] [] 0 Try.func48 (by decide) rfl (ref24_Valid_ac e_10 r_11 h_r_11) rfl ⟨(argE (by (conv => lhs; whnf); all_goals rfl) rfl), trivial⟩ rfl trivial rfl rfl rfl lend0 trivial rfl, ?_⟩
                conv => whnf
                refine ⟨fun hb_46 => ?_, fun hb_46 => ?_⟩
                · replace hL1 := cond_t hb_46 hL1
                  conv => whnf
                  obtain rfl := Option.some.inj hL1
                  replace hF := fin_ret hF
                  obtain rfl := Option.some.inj hF
                  exact ret_gz [] [] [] rfl (argE (by (conv => lhs; whnf); all_goals rfl) rfl) trivial
                · replace hL1 := cond_f hb_46 hL1
                  conv => whnf
                  refine ⟨((k_9 + 1 : Nat) : Int), wrapE (by omega) (by omega) (by omega), ?_⟩
                  conv => whnf
                  exact ⟨k_9 + 1, [], [], [], ⟨hlt_k_9, hL1⟩, by show x_2.length - (k_9 + 1) < x_2.length - k_9; omega, wk_mk [] [] [] rfl ⟨argE (by (conv => lhs; whnf); all_goals rfl) rfl, argE (by (conv => lhs; whnf); all_goals rfl) rfl, trivial⟩ trivial⟩
              · rw [drop_nil (show x_2.length ≤ k_9 by have h := of_decide_eq_false h; omega), ref24_Check_L2.eq_1] at hL1
                conv => whnf
                obtain rfl := Option.some.inj hL1
                replace hF := fin_brk hF
                try dsimp only at hF
                obtain ⟨c_3, hc_3, hF⟩ := fin_some hF
                refine sw_bv 2 (v := .lst 7 (x_2.map encConnecting)) (by (conv => lhs; whnf); all_goals rfl) (fun hb => ?_)
                have hbd_k_15 : x_2.length ≤ 9223372036854775807 := bnd_len (enc := encConnecting) (hb)
                refine sw_loop tab_ok follows_ok (fun y : Nat => y ≤ x_2.length ∧ ref24_Check_L3 x_2 (x_2.drop y) y = some c_3) (fun y => ⟨eL [(2, .lst 7 (x_2.map encConnecting)), (12, .int .i64 (y : Int))], hL [], 0⟩) (fun y => x_2.length - y) 0 ⟨Nat.zero_le _, hc_3⟩ (wk_mk [] [] [] rfl ⟨argE (by (conv => lhs; whnf); all_goals rfl) rfl, argE (by (conv => lhs; whnf); all_goals rfl) rfl, trivial⟩ trivial) ?_
                rintro k_15 ⟨hk_k_15, hL1⟩
                try dsimp only at hk_k_15 hL1
                show awp _ _ _ _ _ _ ⟨eL [(2, .lst 7 (x_2.map encConnecting)), (12, .int .i64 (k_15 : Int))], hL [], 0⟩
                conv => whnf
                refine len_q (enc := encConnecting) (l := x_2) rfl ?_
                conv => whnf
                refine ⟨fun h => ?_, fun h => ?_⟩
                · have hlt_k_15 : k_15 < x_2.length := by have h := of_decide_eq_true h; omega
                  obtain ⟨e_16, h_e_16⟩ : ∃ y, x_2[k_15]? = some y := ⟨_, List.getElem?_eq_getElem hlt_k_15⟩
                  rw [drop_cons h_e_16, ref24_Check_L3.eq_2] at hL1
                  conv => whnf
                  obtain ⟨c_4, hc_4, hL1⟩ := sub_some hL1
                  refine sw_loop tab_ok follows_ok (fun y : Nat × Int => ref24_Check_L4 x_2 k_15 e_16 y.1 y.2 = some c_4) (fun y => ⟨eL [(2, .lst 7 (x_2.map encConnecting)), (12, .int .i64 (k_15 : Int)), (13, .int .i64 y.2)], hL [], 0⟩) (fun y => y.1) (9223372036854775807, (0 : Int)) hc_4 (wk_mk [] [] [] rfl ⟨argE (by (conv => lhs; whnf); all_goals rfl) rfl, argE (by (conv => lhs; whnf); all_goals rfl) rfl, argE (by (conv => lhs; whnf); all_goals rfl) rfl, trivial⟩ trivial) ?_
                  rintro ⟨q_19, i_17⟩ hL2
                  try dsimp only at hL2
                  rcases q_19 with _ | q_19
                  · rw [ref24_Check_L4.eq_1] at hL2
                    cases hL2
                  rw [ref24_Check_L4.eq_2] at hL2
                  show awp _ _ _ _ _ _ ⟨eL [(2, .lst 7 (x_2.map encConnecting)), (12, .int .i64 (k_15 : Int)), (13, .int .i64 i_17)], hL [], 0⟩
                  conv => whnf
                  refine ⟨fun hb_47 => ?_, fun hb_47 => ?_⟩
                  · replace hL2 := cond_t hb_47 hL2
                    conv => whnf
                    refine ⟨k_15, _, rfl, ix_map h_e_16, ?_⟩
                    conv => whnf
                    obtain ⟨e_18, h_e_18, hL2⟩ := bind_some hL2
                    refine ix_q (enc := encConnecting) (l := x_2) h_e_18 rfl (fun m_e_18 hm_e_18 hx_e_18 => ?_)
                    conv => whnf
                    refine ⟨by kernel_rfl, ?_⟩
                    conv => whnf
                    refine ⟨fun hb_48 => ?_, fun hb_48 => ?_⟩
                    · replace hL2 := cond_t hb_48 hL2
                      conv => whnf
                      obtain rfl := Option.some.inj hL2
                      replace hL1 := sub_ret hL1
                      obtain rfl := Option.some.inj hL1
                      replace hF := fin_ret hF
                      obtain rfl := Option.some.inj hF
                      exact ret_gz [] [] [] rfl (argE (by (conv => lhs; whnf); all_goals rfl) rfl) trivial
                    · replace hL2 := cond_f hb_48 hL2
                      conv => whnf
                      refine ⟨_, rfl, ?_⟩
                      conv => whnf
                      exact ⟨(q_19, (w64 (i_17 + (1 : Int)))), [], [], [], hL2, Nat.lt_succ_self _, wk_mk [] [] [] rfl ⟨argE (by (conv => lhs; whnf); all_goals rfl) rfl, argE (by (conv => lhs; whnf); all_goals rfl) rfl, argE (by (conv => lhs; whnf); all_goals rfl) rfl, trivial⟩ trivial⟩
                  · replace hL2 := cond_f hb_47 hL2
                    conv => whnf
                    obtain rfl := Option.some.inj hL2
                    replace hL1 := sub_brk hL1
                    try dsimp only at hL1
                    refine ⟨((k_15 + 1 : Nat) : Int), wrapE (by omega) (by omega) (by omega), ?_⟩
                    conv => whnf
                    exact ⟨k_15 + 1, [], [], [], ⟨hlt_k_15, hL1⟩, by show x_2.length - (k_15 + 1) < x_2.length - k_15; omega, wk_mk [] [] [] rfl ⟨argE (by (conv => lhs; whnf); all_goals rfl) rfl, argE (by (conv => lhs; whnf); all_goals rfl) rfl, trivial⟩ trivial⟩
                · rw [drop_nil (show x_2.length ≤ k_15 by have h := of_decide_eq_false h; omega), ref24_Check_L3.eq_1] at hL1
                  conv => whnf
                  obtain rfl := Option.some.inj hL1
                  replace hF := fin_brk hF
                  try dsimp only at hF
                  obtain rfl := Option.some.inj hF
                  exact ret_gz [] [] [] rfl (argE (by (conv => lhs; whnf); all_goals rfl) rfl) trivial
        · replace hF := cond_t hb_43 hF
          conv => whnf
          obtain rfl := Option.some.inj hF
          exact ret_gz [] [] [] rfl (argE (by (conv => lhs; whnf); all_goals rfl) rfl) trivial
    · replace hF := cond_t hb_41 hF
      conv => whnf
      obtain rfl := Option.some.inj hF
      exact ret_gz [] [] [] rfl (argE (by (conv => lhs; whnf); all_goals rfl) rfl) trivial

set_option maxRecDepth 100000 in
set_option maxHeartbeats 40000000 in
theorem ref24_Makes_ac (x_0 : (List Minimum)) (x_1 : Connecting) (x_2 : Int) (x_3 : Int) (r : Bool) (hF : ref24_Makes x_0 x_1 x_2 x_3 = some r) : AC Try.prog 46 [.lst 3 (x_0.map encMinimum), .agg (encConnecting x_1), .int .i64 x_2, .int .i64 x_3] [] (.bool r) [] := by
  refine ac_of tab_ok follows_ok Try.func46 rfl Try.ntmps46 rfl ?_
  unfold ref24_Makes at hF
  conv => whnf
  obtain ⟨r_1, h_r_1, hF⟩ := bind_some hF
  refine ⟨_, _, _, _, _, _, _, _, _, callX false [] [] 0 Try.func28 (by decide) rfl (ref24_Slack_ac x_0 x_1 x_2 r_1 h_r_1) rfl ⟨(argE (by (conv => lhs; whnf); all_goals rfl) rfl), (argE (by (conv => lhs; whnf); all_goals rfl) rfl), (argE (by (conv => lhs; whnf); all_goals rfl) rfl), trivial⟩ rfl trivial rfl rfl rfl lend0 trivial rfl, ?_⟩
  conv => whnf
  refine ⟨fun hb_2 => ?_, fun hb_2 => ?_⟩
  · replace hF := cond_t hb_2 hF
    conv => whnf
    refine ⟨_, rfl, ?_⟩
    conv => whnf
    obtain rfl := Option.some.inj hF
    exact ret_gz [] [] [] rfl (argE (by (conv => lhs; whnf); all_goals rfl) rfl) trivial
  · replace hF := cond_f hb_2 hF
    conv => whnf
    obtain rfl := Option.some.inj hF
    exact ret_gz [] [] [] rfl (argFl (by (conv => lhs; whnf); all_goals rfl)) trivial

set_option maxRecDepth 100000 in
set_option maxHeartbeats 40000000 in
theorem ref24_applies_ac (x_0 : (List Minimum)) (x_1 : HoldRule) (x_2 : (List Connecting)) (x_3 : Int) (x_4 : Int) (r : Bool) (hF : ref24_applies x_0 x_1 x_2 x_3 x_4 = some r) : AC Try.prog 45 [.lst 3 (x_0.map encMinimum), .agg (encHoldRule x_1), .lst 7 (x_2.map encConnecting), .int .i64 x_3, .int .i64 x_4] [] (.bool r) [] := by
  refine ac_of tab_ok follows_ok Try.func45 rfl Try.ntmps45 rfl ?_
  unfold ref24_applies at hF
  conv => whnf
  obtain ⟨c_1, hc_1, hF⟩ := fin_some hF
  refine sw_bv 2 (v := .lst 7 (x_2.map encConnecting)) (by (conv => lhs; whnf); all_goals rfl) (fun hb => ?_)
  have hbd_k_3 : x_2.length ≤ 9223372036854775807 := bnd_len (enc := encConnecting) (hb)
  refine sw_loop tab_ok follows_ok (fun y : Nat × Int => y.1 ≤ x_2.length ∧ ref24_applies_L1 x_0 x_1 x_3 x_4 (x_2.drop y.1) y.1 y.2 = some c_1) (fun y => ⟨eL [(0, .lst 3 (x_0.map encMinimum)), (2, .lst 7 (x_2.map encConnecting)), (3, .int .i64 x_3), (4, .int .i64 x_4), (6, .ptr 0 0), (11, .int .i64 y.2), (12, .int .i64 (y.1 : Int))], hL [(0, .box [.int .i64 x_1.Kind, .int .i64 x_1.N, .int .i64 x_1.Most])], 1⟩) (fun y => x_2.length - y.1) (0, (0 : Int)) ⟨Nat.zero_le _, hc_1⟩ (wk_mk [0] [] [] rfl ⟨argE (by (conv => lhs; whnf); all_goals rfl) rfl, argE (by (conv => lhs; whnf); all_goals rfl) rfl, argE (by (conv => lhs; whnf); all_goals rfl) rfl, argE (by (conv => lhs; whnf); all_goals rfl) rfl, argP (id := 0) (by (conv => lhs; whnf); all_goals rfl) rfl, argE (by (conv => lhs; whnf); all_goals rfl) rfl, argE (by (conv => lhs; whnf); all_goals rfl) rfl, trivial⟩ ⟨boxL rfl rfl rfl ⟨(.ni _ rfl), (.ni _ rfl), (.ni _ rfl), trivial⟩, trivial⟩) ?_
  rintro ⟨k_3, i_1⟩ ⟨hk_k_3, hL1⟩
  try dsimp only at hk_k_3 hL1
  show awp _ _ _ _ _ _ ⟨eL [(0, .lst 3 (x_0.map encMinimum)), (2, .lst 7 (x_2.map encConnecting)), (3, .int .i64 x_3), (4, .int .i64 x_4), (6, .ptr 0 0), (11, .int .i64 i_1), (12, .int .i64 (k_3 : Int))], hL [(0, .box [.int .i64 x_1.Kind, .int .i64 x_1.N, .int .i64 x_1.Most])], 1⟩
  conv => whnf
  refine len_q (enc := encConnecting) (l := x_2) rfl ?_
  conv => whnf
  refine ⟨fun h => ?_, fun h => ?_⟩
  · have hlt_k_3 : k_3 < x_2.length := by have h := of_decide_eq_true h; omega
    obtain ⟨e_4, h_e_4⟩ : ∃ y, x_2[k_3]? = some y := ⟨_, List.getElem?_eq_getElem hlt_k_3⟩
    rw [drop_cons h_e_4, ref24_applies_L1.eq_2] at hL1
    conv => whnf
    refine ⟨k_3, _, rfl, ix_map h_e_4, ?_⟩
    conv => whnf
    obtain ⟨r_5, h_r_5, hL1⟩ := bind_some hL1
    refine ⟨_, _, _, _, _, _, _, _, _, callX false [] [] 0 Try.func46 (by decide) rfl (ref24_Makes_ac x_0 e_4 x_3 (0 : Int) r_5 h_r_5) rfl ⟨(argE (by (conv => lhs; whnf); all_goals rfl) rfl), (argE (by (conv => lhs; whnf); all_goals rfl) rfl), (argE (by (conv => lhs; whnf); all_goals rfl) rfl), (argE (by (conv => lhs; whnf); all_goals rfl) rfl), trivial⟩ rfl trivial rfl rfl rfl lend0 trivial rfl, ?_⟩
    conv => whnf
    refine ⟨fun hb_20 => ?_, fun hb_20 => ?_⟩
    · replace hL1 := cond_f hb_20 hL1
      conv => whnf
      refine ⟨k_3, _, rfl, ix_map h_e_4, ?_⟩
      conv => whnf
      obtain ⟨r_6, h_r_6, hL1⟩ := bind_some hL1
      refine ⟨_, _, _, _, _, _, _, _, _, callX false [] [] 0 Try.func46 (by decide) rfl (ref24_Makes_ac x_0 e_4 x_3 x_4 r_6 h_r_6) rfl ⟨(argE (by (conv => lhs; whnf); all_goals rfl) rfl), (argE (by (conv => lhs; whnf); all_goals rfl) rfl), (argE (by (conv => lhs; whnf); all_goals rfl) rfl), (argE (by (conv => lhs; whnf); all_goals rfl) rfl), trivial⟩ rfl trivial rfl rfl rfl lend0 trivial rfl, ?_⟩
      conv => whnf
      refine ⟨fun hb_21 => ?_, fun hb_21 => ?_⟩
      · replace hL1 := cond_t hb_21 hL1
        conv => whnf
        refine ⟨((k_3 + 1 : Nat) : Int), wrapE (by omega) (by omega) (by omega), ?_⟩
        conv => whnf
        exact ⟨(k_3 + 1, i_1), [0], [], [], ⟨hlt_k_3, hL1⟩, by show x_2.length - (k_3 + 1) < x_2.length - k_3; omega, wk_mk [0] [] [] rfl ⟨argE (by (conv => lhs; whnf); all_goals rfl) rfl, argE (by (conv => lhs; whnf); all_goals rfl) rfl, argE (by (conv => lhs; whnf); all_goals rfl) rfl, argE (by (conv => lhs; whnf); all_goals rfl) rfl, argP (id := 0) (by (conv => lhs; whnf); all_goals rfl) rfl, argE (by (conv => lhs; whnf); all_goals rfl) rfl, argE (by (conv => lhs; whnf); all_goals rfl) rfl, trivial⟩ ⟨boxL rfl rfl rfl ⟨(.ni _ rfl), (.ni _ rfl), (.ni _ rfl), trivial⟩, trivial⟩⟩
      · replace hL1 := cond_f hb_21 hL1
        conv => whnf
        refine ⟨fun hb_22 => ?_, fun hb_22 => ?_⟩
        · replace hL1 := cond_t hb_22 hL1
          conv => whnf
          refine ⟨k_3, _, rfl, ix_map h_e_4, ?_⟩
          conv => whnf
          refine ⟨by kernel_rfl, ?_⟩
          conv => whnf
          refine ⟨fun hb_23 => ?_, fun hb_23 => ?_⟩
          · replace hL1 := cond_t hb_23 hL1
            conv => whnf
            obtain rfl := Option.some.inj hL1
            replace hF := fin_ret hF
            obtain rfl := Option.some.inj hF
            exact ret_gz [] [] [] rfl (argT (by (conv => lhs; whnf); all_goals rfl)) trivial
          · replace hL1 := cond_f hb_23 hL1
            conv => whnf
            refine ⟨_, rfl, ?_⟩
            conv => whnf
            refine ⟨((k_3 + 1 : Nat) : Int), wrapE (by omega) (by omega) (by omega), ?_⟩
            conv => whnf
            exact ⟨(k_3 + 1, (w64 (i_1 + (1 : Int)))), [0], [], [], ⟨hlt_k_3, hL1⟩, by show x_2.length - (k_3 + 1) < x_2.length - k_3; omega, wk_mk [0] [] [] rfl ⟨argE (by (conv => lhs; whnf); all_goals rfl) rfl, argE (by (conv => lhs; whnf); all_goals rfl) rfl, argE (by (conv => lhs; whnf); all_goals rfl) rfl, argE (by (conv => lhs; whnf); all_goals rfl) rfl, argP (id := 0) (by (conv => lhs; whnf); all_goals rfl) rfl, argE (by (conv => lhs; whnf); all_goals rfl) rfl, argE (by (conv => lhs; whnf); all_goals rfl) rfl, trivial⟩ ⟨boxL rfl rfl rfl ⟨(.ni _ rfl), (.ni _ rfl), (.ni _ rfl), trivial⟩, trivial⟩⟩
        · replace hL1 := cond_f hb_22 hL1
          conv => whnf
          refine ⟨by kernel_rfl, ?_⟩
          conv => whnf
          refine ⟨_, rfl, ?_⟩
          conv => whnf
          refine ⟨((k_3 + 1 : Nat) : Int), wrapE (by omega) (by omega) (by omega), ?_⟩
          conv => whnf
          exact ⟨(k_3 + 1, (w64 (i_1 + (1 : Int)))), [0], [], [], ⟨hlt_k_3, hL1⟩, by show x_2.length - (k_3 + 1) < x_2.length - k_3; omega, wk_mk [0] [] [] rfl ⟨argE (by (conv => lhs; whnf); all_goals rfl) rfl, argE (by (conv => lhs; whnf); all_goals rfl) rfl, argE (by (conv => lhs; whnf); all_goals rfl) rfl, argE (by (conv => lhs; whnf); all_goals rfl) rfl, argP (id := 0) (by (conv => lhs; whnf); all_goals rfl) rfl, argE (by (conv => lhs; whnf); all_goals rfl) rfl, argE (by (conv => lhs; whnf); all_goals rfl) rfl, trivial⟩ ⟨boxL rfl rfl rfl ⟨(.ni _ rfl), (.ni _ rfl), (.ni _ rfl), trivial⟩, trivial⟩⟩
    · replace hL1 := cond_t hb_20 hL1
      conv => whnf
      refine ⟨((k_3 + 1 : Nat) : Int), wrapE (by omega) (by omega) (by omega), ?_⟩
      conv => whnf
      exact ⟨(k_3 + 1, i_1), [0], [], [], ⟨hlt_k_3, hL1⟩, by show x_2.length - (k_3 + 1) < x_2.length - k_3; omega, wk_mk [0] [] [] rfl ⟨argE (by (conv => lhs; whnf); all_goals rfl) rfl, argE (by (conv => lhs; whnf); all_goals rfl) rfl, argE (by (conv => lhs; whnf); all_goals rfl) rfl, argE (by (conv => lhs; whnf); all_goals rfl) rfl, argP (id := 0) (by (conv => lhs; whnf); all_goals rfl) rfl, argE (by (conv => lhs; whnf); all_goals rfl) rfl, argE (by (conv => lhs; whnf); all_goals rfl) rfl, trivial⟩ ⟨boxL rfl rfl rfl ⟨(.ni _ rfl), (.ni _ rfl), (.ni _ rfl), trivial⟩, trivial⟩⟩
  · rw [drop_nil (show x_2.length ≤ k_3 by have h := of_decide_eq_false h; omega), ref24_applies_L1.eq_1] at hL1
    conv => whnf
    obtain rfl := Option.some.inj hL1
    replace hF := fin_brk hF
    try dsimp only at hF
    refine ⟨fun hb_24 => ?_, fun hb_24 => ?_⟩
    · replace hF := cond_t hb_24 hF
      conv => whnf
      obtain rfl := Option.some.inj hF
      exact ret_gz [] [] [] rfl (argE (by (conv => lhs; whnf); all_goals rfl) rfl) trivial
    · replace hF := cond_f hb_24 hF
      conv => whnf
      obtain rfl := Option.some.inj hF
      exact ret_gz [] [] [] rfl (argFl (by (conv => lhs; whnf); all_goals rfl)) trivial

set_option maxRecDepth 100000 in
set_option maxHeartbeats 40000000 in
theorem ref24_Decide_ac (x_0 : (List Minimum)) (x_1 : (List HoldRule)) (x_2 : (List Connecting)) (x_3 : Int) (r : Hold × Int) (hF : ref24_Decide x_0 x_1 x_2 x_3 = some r) : AC Try.prog 24 [.lst 3 (x_0.map encMinimum), .lst 3 (x_1.map encHoldRule), .lst 7 (x_2.map encConnecting), .int .i64 x_3] [] (.tup [.agg (encHold r.1), .int .i64 r.2]) [] := by
  refine ac_of tab_ok follows_ok Try.func24 rfl Try.ntmps24 rfl ?_
  unfold ref24_Decide at hF
  conv => whnf
  obtain ⟨r_1, h_r_1, hF⟩ := bind_some hF
  refine ⟨_, _, _, _, _, _, _, _, _, callX false [] [] 0 Try.func44 (by decide) rfl (ref24_Check_ac x_0 x_1 x_2 x_3 r_1 h_r_1) rfl ⟨(argE (by (conv => lhs; whnf); all_goals rfl) rfl), (argE (by (conv => lhs; whnf); all_goals rfl) rfl), (argE (by (conv => lhs; whnf); all_goals rfl) rfl), (argE (by (conv => lhs; whnf); all_goals rfl) rfl), trivial⟩ rfl trivial rfl rfl rfl lend0 trivial rfl, ?_⟩
  conv => whnf
  refine ⟨fun hb_101 => ?_, fun hb_101 => ?_⟩
  · replace hF := cond_t hb_101 hF
    conv => whnf
    obtain rfl := Option.some.inj hF
    exact ret_gz [] [] [] rfl (tupL rfl ⟨(argA (c := [.int .i64 (0 : Int), .int .i64 (0 : Int), .nils]) (by (conv => lhs; whnf); all_goals rfl) rfl ⟨(.ni _ rfl), (.ni _ rfl), (.nils _), trivial⟩), (argE (by (conv => lhs; whnf); all_goals rfl) rfl), trivial⟩) trivial
  · replace hF := cond_f hb_101 hF
    conv => whnf
    obtain ⟨c_1, hc_1, hF⟩ := fin_some hF
    refine sw_bv 1 (v := .lst 3 (x_1.map encHoldRule)) (by (conv => lhs; whnf); all_goals rfl) (fun hb => ?_)
    have hbd_k_5 : x_1.length ≤ 9223372036854775807 := bnd_len (enc := encHoldRule) (hb)
    refine sw_loop tab_ok follows_ok (fun y : Nat × Int × Int => y.1 ≤ x_1.length ∧ ref24_Decide_L1 x_0 x_2 x_3 (x_1.drop y.1) y.1 y.2.1 y.2.2 = some c_1) (fun y => ⟨eL [(0, .lst 3 (x_0.map encMinimum)), (1, .lst 3 (x_1.map encHoldRule)), (2, .lst 7 (x_2.map encConnecting)), (3, .int .i64 x_3), (8, .ptr 0 0), (11, .ptr 1 0), (12, .int .i64 (y.1 : Int))], hL [(0, .box [.int .i64 (0 : Int), .int .i64 (0 : Int), .nils]), (1, .box [.int .i64 y.2.1, .int .i64 y.2.2, .nils])], 2⟩) (fun y => x_1.length - y.1) (0, (0 : Int), (-1 : Int)) ⟨Nat.zero_le _, hc_1⟩ (wk_mk [0, 2] [] [] rfl ⟨argE (by (conv => lhs; whnf); all_goals rfl) rfl, argE (by (conv => lhs; whnf); all_goals rfl) rfl, argE (by (conv => lhs; whnf); all_goals rfl) rfl, argE (by (conv => lhs; whnf); all_goals rfl) rfl, argP (id := 0) (by (conv => lhs; whnf); all_goals rfl) rfl, argP (id := 2) (by (conv => lhs; whnf); all_goals rfl) rfl, argE (by (conv => lhs; whnf); all_goals rfl) rfl, trivial⟩ ⟨boxL rfl rfl rfl ⟨(.ni _ rfl), (.ni _ rfl), (.ni _ rfl), trivial⟩, boxL rfl rfl rfl ⟨(.ni _ rfl), (.ni _ rfl), (.ni _ rfl), trivial⟩, trivial⟩) ?_
    rintro ⟨k_5, i_2, i_3⟩ ⟨hk_k_5, hL1⟩
    try dsimp only at hk_k_5 hL1
    show awp _ _ _ _ _ _ ⟨eL [(0, .lst 3 (x_0.map encMinimum)), (1, .lst 3 (x_1.map encHoldRule)), (2, .lst 7 (x_2.map encConnecting)), (3, .int .i64 x_3), (8, .ptr 0 0), (11, .ptr 1 0), (12, .int .i64 (k_5 : Int))], hL [(0, .box [.int .i64 (0 : Int), .int .i64 (0 : Int), .nils]), (1, .box [.int .i64 i_2, .int .i64 i_3, .nils])], 2⟩
    conv => whnf
    refine len_q (enc := encHoldRule) (l := x_1) rfl ?_
    conv => whnf
    refine ⟨fun h => ?_, fun h => ?_⟩
    · have hlt_k_5 : k_5 < x_1.length := by have h := of_decide_eq_true h; omega
      obtain ⟨e_6, h_e_6⟩ : ∃ y, x_1[k_5]? = some y := ⟨_, List.getElem?_eq_getElem hlt_k_5⟩
      rw [drop_cons h_e_6, ref24_Decide_L1.eq_2] at hL1
      conv => whnf
      refine ⟨fun hb_102 => ?_, fun hb_102 => ?_⟩
      · replace hL1 := cond_t hb_102 hL1
        conv => whnf
        refine ⟨k_5, _, rfl, ix_map h_e_6, ?_⟩
        conv => whnf
        refine ⟨fun hb_103 => ?_, fun hb_103 => ?_⟩
        · replace hL1 := cond_t hb_103 hL1
          conv => whnf
          obtain rfl := Option.some.inj hL1
          replace hF := fin_brk hF
          try dsimp only at hF
          obtain ⟨c_3, hc_3, hF⟩ := fin_some hF
          refine sw_bv 2 (v := .lst 7 (x_2.map encConnecting)) (by (conv => lhs; whnf); all_goals rfl) (fun hb => ?_)
          have hbd_k_20 : x_2.length ≤ 9223372036854775807 := bnd_len (enc := encConnecting) (hb)
          refine sw_loop tab_ok follows_ok (fun y : Nat × (List Plate) => y.1 ≤ x_2.length ∧ ref24_Decide_L3 x_0 x_3 (i_2, (k_5 : Int)) (x_2.drop y.1) y.1 y.2 = some c_3) (fun y => ⟨eL [(0, .lst 3 (x_0.map encMinimum)), (2, .lst 7 (x_2.map encConnecting)), (3, .int .i64 x_3), (8, .ptr 0 0), (11, .ptr 1 0), (16, .int .i64 (y.1 : Int))], hL [(0, .box [.int .i64 (0 : Int), .int .i64 (0 : Int), .nils]), (1, .box [.int .i64 i_2, .int .i64 (k_5 : Int), .osl 2]), (2, .row 3 (y.2.map encPlate))], 3⟩) (fun y => x_2.length - y.1) (0, ([] : List Plate)) ⟨Nat.zero_le _, hc_3⟩ (wk_mk [0, 1] [2] [] rfl ⟨argE (by (conv => lhs; whnf); all_goals rfl) rfl, argE (by (conv => lhs; whnf); all_goals rfl) rfl, argE (by (conv => lhs; whnf); all_goals rfl) rfl, argP (id := 0) (by (conv => lhs; whnf); all_goals rfl) rfl, argP (id := 1) (by (conv => lhs; whnf); all_goals rfl) rfl, argE (by (conv => lhs; whnf); all_goals rfl) rfl, trivial⟩ ⟨boxL rfl rfl rfl ⟨(.ni _ rfl), (.ni _ rfl), (.ni _ rfl), trivial⟩, boxL rfl rfl rfl ⟨(.ni _ rfl), (.ni _ rfl), (.nilz 2 (by simp)), trivial⟩, blkZ rfl, trivial⟩) ?_
          rintro ⟨k_20, a_18⟩ ⟨hk_k_20, hL1⟩
          try dsimp only at hk_k_20 hL1
          show awp _ _ _ _ _ _ ⟨eL [(0, .lst 3 (x_0.map encMinimum)), (2, .lst 7 (x_2.map encConnecting)), (3, .int .i64 x_3), (8, .ptr 0 0), (11, .ptr 1 0), (16, .int .i64 (k_20 : Int))], hL [(0, .box [.int .i64 (0 : Int), .int .i64 (0 : Int), .nils]), (1, .box [.int .i64 i_2, .int .i64 (k_5 : Int), .osl 2]), (2, .row 3 (a_18.map encPlate))], 3⟩
          conv => whnf
          refine len_q (enc := encConnecting) (l := x_2) rfl ?_
          conv => whnf
          refine ⟨fun h => ?_, fun h => ?_⟩
          · have hlt_k_20 : k_20 < x_2.length := by have h := of_decide_eq_true h; omega
            obtain ⟨e_21, h_e_21⟩ : ∃ y, x_2[k_20]? = some y := ⟨_, List.getElem?_eq_getElem hlt_k_20⟩
            rw [drop_cons h_e_21, ref24_Decide_L3.eq_2] at hL1
            conv => whnf
            refine ⟨k_20, _, rfl, ix_map h_e_21, ?_⟩
            conv => whnf
            obtain ⟨r_22, h_r_22, hL1⟩ := bind_some hL1
            refine ⟨_, _, _, _, _, _, _, _, _, callX false [] [] 0 Try.func46 (by decide) rfl (ref24_Makes_ac x_0 e_21 x_3 i_2 r_22 h_r_22) rfl ⟨(argE (by (conv => lhs; whnf); all_goals rfl) rfl), (argE (by (conv => lhs; whnf); all_goals rfl) rfl), (argE (by (conv => lhs; whnf); all_goals rfl) rfl), (argE (by (conv => lhs; whnf); all_goals rfl) rfl), trivial⟩ rfl trivial rfl rfl rfl lend0 trivial rfl, ?_⟩
            conv => whnf
            refine ⟨by kernel_rfl, ?_⟩
            conv => whnf
            refine ⟨fun hb_104 => ?_, fun hb_104 => ?_⟩
            · replace hL1 := cond_t hb_104 hL1
              conv => whnf
              refine ⟨k_20, _, rfl, ix_map h_e_21, ?_⟩
              conv => whnf
              obtain ⟨l_23, h_l_23, hL1⟩ := bind_some hL1
              refine ap_q (enc := encPlate) (l := a_18) (y := ([e_21.Plate] : List Plate)) h_l_23 rfl rfl (by decide) ?_
              conv => whnf
              refine ⟨by kernel_rfl, ?_⟩
              conv => whnf
              refine ⟨((k_20 + 1 : Nat) : Int), wrapE (by omega) (by omega) (by omega), ?_⟩
              conv => whnf
              exact ⟨(k_20 + 1, l_23), [0, 1, 5], [], [], ⟨hlt_k_20, hL1⟩, by show x_2.length - (k_20 + 1) < x_2.length - k_20; omega, wk_mk [0, 1, 5] [] [] rfl ⟨argE (by (conv => lhs; whnf); all_goals rfl) rfl, argE (by (conv => lhs; whnf); all_goals rfl) rfl, argE (by (conv => lhs; whnf); all_goals rfl) rfl, argP (id := 0) (by (conv => lhs; whnf); all_goals rfl) rfl, argP (id := 1) (by (conv => lhs; whnf); all_goals rfl) rfl, argE (by (conv => lhs; whnf); all_goals rfl) rfl, trivial⟩ ⟨boxL rfl rfl rfl ⟨(.ni _ rfl), (.ni _ rfl), (.ni _ rfl), trivial⟩, boxL rfl rfl rfl ⟨(.ni _ rfl), (.ni _ rfl), (.oslg 5 2 rfl), trivial⟩, blkR (fun _ => ⟨rfl, rfl⟩) rfl rfl, trivial⟩⟩
            · replace hL1 := cond_f hb_104 hL1
              conv => whnf
              refine ⟨((k_20 + 1 : Nat) : Int), wrapE (by omega) (by omega) (by omega), ?_⟩
              conv => whnf
              exact ⟨(k_20 + 1, a_18), [0, 1, 2], [], [], ⟨hlt_k_20, hL1⟩, by show x_2.length - (k_20 + 1) < x_2.length - k_20; omega, wk_mk [0, 1, 2] [] [] rfl ⟨argE (by (conv => lhs; whnf); all_goals rfl) rfl, argE (by (conv => lhs; whnf); all_goals rfl) rfl, argE (by (conv => lhs; whnf); all_goals rfl) rfl, argP (id := 0) (by (conv => lhs; whnf); all_goals rfl) rfl, argP (id := 1) (by (conv => lhs; whnf); all_goals rfl) rfl, argE (by (conv => lhs; whnf); all_goals rfl) rfl, trivial⟩ ⟨boxL rfl rfl rfl ⟨(.ni _ rfl), (.ni _ rfl), (.ni _ rfl), trivial⟩, boxL rfl rfl rfl ⟨(.ni _ rfl), (.ni _ rfl), (.oslg 2 2 rfl), trivial⟩, blkR (fun _ => ⟨rfl, rfl⟩) rfl rfl, trivial⟩⟩
          · rw [drop_nil (show x_2.length ≤ k_20 by have h := of_decide_eq_false h; omega), ref24_Decide_L3.eq_1] at hL1
            conv => whnf
            obtain rfl := Option.some.inj hL1
            replace hF := fin_brk hF
            try dsimp only at hF
            obtain rfl := Option.some.inj hF
            exact ret_gz [] [] [2] rfl (tupL rfl ⟨(argA (c := [.int .i64 i_2, .int .i64 (k_5 : Int), .osl 2]) (by (conv => lhs; whnf); all_goals rfl) rfl ⟨(.ni _ rfl), (.ni _ rfl), (.osl 2 3 _ (by simp) rfl (map_ni (fun _ => ⟨rfl, rfl⟩) _)), trivial⟩), (argE (by (conv => lhs; whnf); all_goals rfl) rfl), trivial⟩) trivial
        · replace hL1 := cond_f hb_103 hL1
          conv => whnf
          obtain ⟨c_2, hc_2, hL1⟩ := sub_some hL1
          refine sw_bv 2 (v := .lst 7 (x_2.map encConnecting)) (by (conv => lhs; whnf); all_goals rfl) (fun hb => ?_)
          have hbd_k_10 : x_2.length ≤ 9223372036854775807 := bnd_len (enc := encConnecting) (hb)
          refine sw_loop tab_ok follows_ok (fun y : Nat × Int × Int => y.1 ≤ x_2.length ∧ ref24_Decide_L2 x_0 x_2 x_3 k_5 e_6 (x_2.drop y.1) y.1 y.2.1 y.2.2 = some c_2) (fun y => ⟨eL [(0, .lst 3 (x_0.map encMinimum)), (1, .lst 3 (x_1.map encHoldRule)), (2, .lst 7 (x_2.map encConnecting)), (3, .int .i64 x_3), (8, .ptr 0 0), (11, .ptr 1 0), (12, .int .i64 (k_5 : Int)), (13, .int .i64 (y.1 : Int))], hL [(0, .box [.int .i64 (0 : Int), .int .i64 (0 : Int), .nils]), (1, .box [.int .i64 y.2.1, .int .i64 y.2.2, .nils])], 2⟩) (fun y => x_2.length - y.1) (0, i_2, i_3) ⟨Nat.zero_le _, hc_2⟩ (wk_mk [0, 1] [] [] rfl ⟨argE (by (conv => lhs; whnf); all_goals rfl) rfl, argE (by (conv => lhs; whnf); all_goals rfl) rfl, argE (by (conv => lhs; whnf); all_goals rfl) rfl, argE (by (conv => lhs; whnf); all_goals rfl) rfl, argP (id := 0) (by (conv => lhs; whnf); all_goals rfl) rfl, argP (id := 1) (by (conv => lhs; whnf); all_goals rfl) rfl, argE (by (conv => lhs; whnf); all_goals rfl) rfl, argE (by (conv => lhs; whnf); all_goals rfl) rfl, trivial⟩ ⟨boxL rfl rfl rfl ⟨(.ni _ rfl), (.ni _ rfl), (.ni _ rfl), trivial⟩, boxL rfl rfl rfl ⟨(.ni _ rfl), (.ni _ rfl), (.ni _ rfl), trivial⟩, trivial⟩) ?_
          rintro ⟨k_10, i_7, i_8⟩ ⟨hk_k_10, hL2⟩
          try dsimp only at hk_k_10 hL2
          show awp _ _ _ _ _ _ ⟨eL [(0, .lst 3 (x_0.map encMinimum)), (1, .lst 3 (x_1.map encHoldRule)), (2, .lst 7 (x_2.map encConnecting)), (3, .int .i64 x_3), (8, .ptr 0 0), (11, .ptr 1 0), (12, .int .i64 (k_5 : Int)), (13, .int .i64 (k_10 : Int))], hL [(0, .box [.int .i64 (0 : Int), .int .i64 (0 : Int), .nils]), (1, .box [.int .i64 i_7, .int .i64 i_8, .nils])], 2⟩
          conv => whnf
          refine len_q (enc := encConnecting) (l := x_2) rfl ?_
          conv => whnf
          refine ⟨fun h => ?_, fun h => ?_⟩
          · have hlt_k_10 : k_10 < x_2.length := by have h := of_decide_eq_true h; omega
            obtain ⟨e_11, h_e_11⟩ : ∃ y, x_2[k_10]? = some y := ⟨_, List.getElem?_eq_getElem hlt_k_10⟩
            rw [drop_cons h_e_11, ref24_Decide_L2.eq_2] at hL2
            conv => whnf
            refine ⟨k_10, _, rfl, ix_map h_e_11, ?_⟩
            conv => whnf
            obtain ⟨r_12, h_r_12, hL2⟩ := bind_some hL2
            refine ⟨_, _, _, _, _, _, _, _, _, callX false [] [] 0 Try.func28 (by decide) rfl (ref24_Slack_ac x_0 e_11 x_3 r_12 h_r_12) rfl ⟨(argE (by (conv => lhs; whnf); all_goals rfl) rfl), (argE (by (conv => lhs; whnf); all_goals rfl) rfl), (argE (by (conv => lhs; whnf); all_goals rfl) rfl), trivial⟩ rfl trivial rfl rfl rfl lend0 trivial rfl, ?_⟩
            conv => whnf
            refine ⟨fun hb_105 => ?_, fun hb_105 => ?_⟩
            · replace hL2 := cond_f hb_105 hL2
              conv => whnf
              refine ⟨fun hb_106 => ?_, fun hb_106 => ?_⟩
              · replace hL2 := cond_f hb_106 hL2
                conv => whnf
                refine ⟨_, rfl, ?_⟩
                conv => whnf
                refine ⟨k_5, _, rfl, ix_map h_e_6, ?_⟩
                conv => whnf
                refine ⟨fun hb_107 => ?_, fun hb_107 => ?_⟩
                · replace hL2 := cond_f hb_107 hL2
                  conv => whnf
                  refine ⟨k_5, _, rfl, ix_map h_e_6, ?_⟩
                  conv => whnf
                  refine ⟨_, rfl, ?_⟩
                  conv => whnf
                  obtain ⟨r_13, h_r_13, hL2⟩ := bind_some hL2
                  refine ⟨_, _, _, _, _, _, _, _, _, callX false [] [] 0 Try.func45 (by decide) rfl (ref24_applies_ac x_0 e_6 x_2 x_3 (IntKind.i64.wrap (0 - r_12.1)) r_13 h_r_13) rfl ⟨(argE (by (conv => lhs; whnf); all_goals rfl) rfl), (argE (by (conv => lhs; whnf); all_goals rfl) rfl), (argE (by (conv => lhs; whnf); all_goals rfl) rfl), (argE (by (conv => lhs; whnf); all_goals rfl) rfl), (argE (by (conv => lhs; whnf); all_goals rfl) rfl), trivial⟩ rfl trivial rfl rfl rfl lend0 trivial rfl, ?_⟩
                  conv => whnf
                  refine ⟨fun hb_108 => ?_, fun hb_108 => ?_⟩
                  · replace hL2 := cond_t hb_108 hL2
                    conv => whnf
                    refine ⟨((k_10 + 1 : Nat) : Int), wrapE (by omega) (by omega) (by omega), ?_⟩
                    conv => whnf
                    exact ⟨(k_10 + 1, i_7, i_8), [0, 1], [], [], ⟨hlt_k_10, hL2⟩, by show x_2.length - (k_10 + 1) < x_2.length - k_10; omega, wk_mk [0, 1] [] [] rfl ⟨argE (by (conv => lhs; whnf); all_goals rfl) rfl, argE (by (conv => lhs; whnf); all_goals rfl) rfl, argE (by (conv => lhs; whnf); all_goals rfl) rfl, argE (by (conv => lhs; whnf); all_goals rfl) rfl, argP (id := 0) (by (conv => lhs; whnf); all_goals rfl) rfl, argP (id := 1) (by (conv => lhs; whnf); all_goals rfl) rfl, argE (by (conv => lhs; whnf); all_goals rfl) rfl, argE (by (conv => lhs; whnf); all_goals rfl) rfl, trivial⟩ ⟨boxL rfl rfl rfl ⟨(.ni _ rfl), (.ni _ rfl), (.ni _ rfl), trivial⟩, boxL rfl rfl rfl ⟨(.ni _ rfl), (.ni _ rfl), (.ni _ rfl), trivial⟩, trivial⟩⟩
                  · replace hL2 := cond_f hb_108 hL2
                    conv => whnf
                    refine ⟨fun hb_109 => ?_, fun hb_109 => ?_⟩
                    · replace hL2 := cond_f hb_109 hL2
                      conv => whnf
                      refine ⟨_, rfl, ?_⟩
                      conv => whnf
                      refine ⟨fun hb_110 => ?_, fun hb_110 => ?_⟩
                      · replace hL2 := cond_t hb_110 hL2
                        conv => whnf
                        refine ⟨_, rfl, ?_⟩
                        conv => whnf
                        refine ⟨((k_10 + 1 : Nat) : Int), wrapE (by omega) (by omega) (by omega), ?_⟩
                        conv => whnf
                        exact ⟨(k_10 + 1, (IntKind.i64.wrap (0 - r_12.1)), (k_5 : Int)), [0, 1], [], [], ⟨hlt_k_10, hL2⟩, by show x_2.length - (k_10 + 1) < x_2.length - k_10; omega, wk_mk [0, 1] [] [] rfl ⟨argE (by (conv => lhs; whnf); all_goals rfl) rfl, argE (by (conv => lhs; whnf); all_goals rfl) rfl, argE (by (conv => lhs; whnf); all_goals rfl) rfl, argE (by (conv => lhs; whnf); all_goals rfl) rfl, argP (id := 0) (by (conv => lhs; whnf); all_goals rfl) rfl, argP (id := 1) (by (conv => lhs; whnf); all_goals rfl) rfl, argE (by (conv => lhs; whnf); all_goals rfl) rfl, argE (by (conv => lhs; whnf); all_goals rfl) rfl, trivial⟩ ⟨boxL rfl rfl rfl ⟨(.ni _ rfl), (.ni _ rfl), (.ni _ rfl), trivial⟩, boxL rfl rfl rfl ⟨(.ni _ rfl), (.ni _ rfl), (.ni _ rfl), trivial⟩, trivial⟩⟩
                      · replace hL2 := cond_f hb_110 hL2
                        conv => whnf
                        refine ⟨((k_10 + 1 : Nat) : Int), wrapE (by omega) (by omega) (by omega), ?_⟩
                        conv => whnf
                        exact ⟨(k_10 + 1, i_7, i_8), [0, 1], [], [], ⟨hlt_k_10, hL2⟩, by show x_2.length - (k_10 + 1) < x_2.length - k_10; omega, wk_mk [0, 1] [] [] rfl ⟨argE (by (conv => lhs; whnf); all_goals rfl) rfl, argE (by (conv => lhs; whnf); all_goals rfl) rfl, argE (by (conv => lhs; whnf); all_goals rfl) rfl, argE (by (conv => lhs; whnf); all_goals rfl) rfl, argP (id := 0) (by (conv => lhs; whnf); all_goals rfl) rfl, argP (id := 1) (by (conv => lhs; whnf); all_goals rfl) rfl, argE (by (conv => lhs; whnf); all_goals rfl) rfl, argE (by (conv => lhs; whnf); all_goals rfl) rfl, trivial⟩ ⟨boxL rfl rfl rfl ⟨(.ni _ rfl), (.ni _ rfl), (.ni _ rfl), trivial⟩, boxL rfl rfl rfl ⟨(.ni _ rfl), (.ni _ rfl), (.ni _ rfl), trivial⟩, trivial⟩⟩
                    · replace hL2 := cond_t hb_109 hL2
                      conv => whnf
                      refine ⟨_, rfl, ?_⟩
                      conv => whnf
                      refine ⟨((k_10 + 1 : Nat) : Int), wrapE (by omega) (by omega) (by omega), ?_⟩
                      conv => whnf
                      exact ⟨(k_10 + 1, (IntKind.i64.wrap (0 - r_12.1)), (k_5 : Int)), [0, 1], [], [], ⟨hlt_k_10, hL2⟩, by show x_2.length - (k_10 + 1) < x_2.length - k_10; omega, wk_mk [0, 1] [] [] rfl ⟨argE (by (conv => lhs; whnf); all_goals rfl) rfl, argE (by (conv => lhs; whnf); all_goals rfl) rfl, argE (by (conv => lhs; whnf); all_goals rfl) rfl, argE (by (conv => lhs; whnf); all_goals rfl) rfl, argP (id := 0) (by (conv => lhs; whnf); all_goals rfl) rfl, argP (id := 1) (by (conv => lhs; whnf); all_goals rfl) rfl, argE (by (conv => lhs; whnf); all_goals rfl) rfl, argE (by (conv => lhs; whnf); all_goals rfl) rfl, trivial⟩ ⟨boxL rfl rfl rfl ⟨(.ni _ rfl), (.ni _ rfl), (.ni _ rfl), trivial⟩, boxL rfl rfl rfl ⟨(.ni _ rfl), (.ni _ rfl), (.ni _ rfl), trivial⟩, trivial⟩⟩
                · replace hL2 := cond_t hb_107 hL2
                  conv => whnf
                  refine ⟨((k_10 + 1 : Nat) : Int), wrapE (by omega) (by omega) (by omega), ?_⟩
                  conv => whnf
                  exact ⟨(k_10 + 1, i_7, i_8), [0, 1], [], [], ⟨hlt_k_10, hL2⟩, by show x_2.length - (k_10 + 1) < x_2.length - k_10; omega, wk_mk [0, 1] [] [] rfl ⟨argE (by (conv => lhs; whnf); all_goals rfl) rfl, argE (by (conv => lhs; whnf); all_goals rfl) rfl, argE (by (conv => lhs; whnf); all_goals rfl) rfl, argE (by (conv => lhs; whnf); all_goals rfl) rfl, argP (id := 0) (by (conv => lhs; whnf); all_goals rfl) rfl, argP (id := 1) (by (conv => lhs; whnf); all_goals rfl) rfl, argE (by (conv => lhs; whnf); all_goals rfl) rfl, argE (by (conv => lhs; whnf); all_goals rfl) rfl, trivial⟩ ⟨boxL rfl rfl rfl ⟨(.ni _ rfl), (.ni _ rfl), (.ni _ rfl), trivial⟩, boxL rfl rfl rfl ⟨(.ni _ rfl), (.ni _ rfl), (.ni _ rfl), trivial⟩, trivial⟩⟩
              · replace hL2 := cond_t hb_106 hL2
                conv => whnf
                refine ⟨((k_10 + 1 : Nat) : Int), wrapE (by omega) (by omega) (by omega), ?_⟩
                conv => whnf
                exact ⟨(k_10 + 1, i_7, i_8), [0, 1], [], [], ⟨hlt_k_10, hL2⟩, by show x_2.length - (k_10 + 1) < x_2.length - k_10; omega, wk_mk [0, 1] [] [] rfl ⟨argE (by (conv => lhs; whnf); all_goals rfl) rfl, argE (by (conv => lhs; whnf); all_goals rfl) rfl, argE (by (conv => lhs; whnf); all_goals rfl) rfl, argE (by (conv => lhs; whnf); all_goals rfl) rfl, argP (id := 0) (by (conv => lhs; whnf); all_goals rfl) rfl, argP (id := 1) (by (conv => lhs; whnf); all_goals rfl) rfl, argE (by (conv => lhs; whnf); all_goals rfl) rfl, argE (by (conv => lhs; whnf); all_goals rfl) rfl, trivial⟩ ⟨boxL rfl rfl rfl ⟨(.ni _ rfl), (.ni _ rfl), (.ni _ rfl), trivial⟩, boxL rfl rfl rfl ⟨(.ni _ rfl), (.ni _ rfl), (.ni _ rfl), trivial⟩, trivial⟩⟩
            · replace hL2 := cond_t hb_105 hL2
              conv => whnf
              refine ⟨((k_10 + 1 : Nat) : Int), wrapE (by omega) (by omega) (by omega), ?_⟩
              conv => whnf
              exact ⟨(k_10 + 1, i_7, i_8), [0, 1], [], [], ⟨hlt_k_10, hL2⟩, by show x_2.length - (k_10 + 1) < x_2.length - k_10; omega, wk_mk [0, 1] [] [] rfl ⟨argE (by (conv => lhs; whnf); all_goals rfl) rfl, argE (by (conv => lhs; whnf); all_goals rfl) rfl, argE (by (conv => lhs; whnf); all_goals rfl) rfl, argE (by (conv => lhs; whnf); all_goals rfl) rfl, argP (id := 0) (by (conv => lhs; whnf); all_goals rfl) rfl, argP (id := 1) (by (conv => lhs; whnf); all_goals rfl) rfl, argE (by (conv => lhs; whnf); all_goals rfl) rfl, argE (by (conv => lhs; whnf); all_goals rfl) rfl, trivial⟩ ⟨boxL rfl rfl rfl ⟨(.ni _ rfl), (.ni _ rfl), (.ni _ rfl), trivial⟩, boxL rfl rfl rfl ⟨(.ni _ rfl), (.ni _ rfl), (.ni _ rfl), trivial⟩, trivial⟩⟩
          · rw [drop_nil (show x_2.length ≤ k_10 by have h := of_decide_eq_false h; omega), ref24_Decide_L2.eq_1] at hL2
            conv => whnf
            obtain rfl := Option.some.inj hL2
            replace hL1 := sub_brk hL1
            try dsimp only at hL1
            refine ⟨((k_5 + 1 : Nat) : Int), wrapE (by omega) (by omega) (by omega), ?_⟩
            conv => whnf
            exact ⟨(k_5 + 1, i_7, i_8), [0, 1], [], [], ⟨hlt_k_5, hL1⟩, by show x_1.length - (k_5 + 1) < x_1.length - k_5; omega, wk_mk [0, 1] [] [] rfl ⟨argE (by (conv => lhs; whnf); all_goals rfl) rfl, argE (by (conv => lhs; whnf); all_goals rfl) rfl, argE (by (conv => lhs; whnf); all_goals rfl) rfl, argE (by (conv => lhs; whnf); all_goals rfl) rfl, argP (id := 0) (by (conv => lhs; whnf); all_goals rfl) rfl, argP (id := 1) (by (conv => lhs; whnf); all_goals rfl) rfl, argE (by (conv => lhs; whnf); all_goals rfl) rfl, trivial⟩ ⟨boxL rfl rfl rfl ⟨(.ni _ rfl), (.ni _ rfl), (.ni _ rfl), trivial⟩, boxL rfl rfl rfl ⟨(.ni _ rfl), (.ni _ rfl), (.ni _ rfl), trivial⟩, trivial⟩⟩
      · replace hL1 := cond_f hb_102 hL1
        conv => whnf
        obtain rfl := Option.some.inj hL1
        replace hF := fin_brk hF
        try dsimp only at hF
        obtain ⟨c_3, hc_3, hF⟩ := fin_some hF
        refine sw_bv 2 (v := .lst 7 (x_2.map encConnecting)) (by (conv => lhs; whnf); all_goals rfl) (fun hb => ?_)
        have hbd_k_20 : x_2.length ≤ 9223372036854775807 := bnd_len (enc := encConnecting) (hb)
        refine sw_loop tab_ok follows_ok (fun y : Nat × (List Plate) => y.1 ≤ x_2.length ∧ ref24_Decide_L3 x_0 x_3 (i_2, i_3) (x_2.drop y.1) y.1 y.2 = some c_3) (fun y => ⟨eL [(0, .lst 3 (x_0.map encMinimum)), (2, .lst 7 (x_2.map encConnecting)), (3, .int .i64 x_3), (8, .ptr 0 0), (11, .ptr 1 0), (16, .int .i64 (y.1 : Int))], hL [(0, .box [.int .i64 (0 : Int), .int .i64 (0 : Int), .nils]), (1, .box [.int .i64 i_2, .int .i64 i_3, .osl 2]), (2, .row 3 (y.2.map encPlate))], 3⟩) (fun y => x_2.length - y.1) (0, ([] : List Plate)) ⟨Nat.zero_le _, hc_3⟩ (wk_mk [0, 1] [2] [] rfl ⟨argE (by (conv => lhs; whnf); all_goals rfl) rfl, argE (by (conv => lhs; whnf); all_goals rfl) rfl, argE (by (conv => lhs; whnf); all_goals rfl) rfl, argP (id := 0) (by (conv => lhs; whnf); all_goals rfl) rfl, argP (id := 1) (by (conv => lhs; whnf); all_goals rfl) rfl, argE (by (conv => lhs; whnf); all_goals rfl) rfl, trivial⟩ ⟨boxL rfl rfl rfl ⟨(.ni _ rfl), (.ni _ rfl), (.ni _ rfl), trivial⟩, boxL rfl rfl rfl ⟨(.ni _ rfl), (.ni _ rfl), (.nilz 2 (by simp)), trivial⟩, blkZ rfl, trivial⟩) ?_
        rintro ⟨k_20, a_18⟩ ⟨hk_k_20, hL1⟩
        try dsimp only at hk_k_20 hL1
        show awp _ _ _ _ _ _ ⟨eL [(0, .lst 3 (x_0.map encMinimum)), (2, .lst 7 (x_2.map encConnecting)), (3, .int .i64 x_3), (8, .ptr 0 0), (11, .ptr 1 0), (16, .int .i64 (k_20 : Int))], hL [(0, .box [.int .i64 (0 : Int), .int .i64 (0 : Int), .nils]), (1, .box [.int .i64 i_2, .int .i64 i_3, .osl 2]), (2, .row 3 (a_18.map encPlate))], 3⟩
        conv => whnf
        refine len_q (enc := encConnecting) (l := x_2) rfl ?_
        conv => whnf
        refine ⟨fun h => ?_, fun h => ?_⟩
        · have hlt_k_20 : k_20 < x_2.length := by have h := of_decide_eq_true h; omega
          obtain ⟨e_21, h_e_21⟩ : ∃ y, x_2[k_20]? = some y := ⟨_, List.getElem?_eq_getElem hlt_k_20⟩
          rw [drop_cons h_e_21, ref24_Decide_L3.eq_2] at hL1
          conv => whnf
          refine ⟨k_20, _, rfl, ix_map h_e_21, ?_⟩
          conv => whnf
          obtain ⟨r_22, h_r_22, hL1⟩ := bind_some hL1
          refine ⟨_, _, _, _, _, _, _, _, _, callX false [] [] 0 Try.func46 (by decide) rfl (ref24_Makes_ac x_0 e_21 x_3 i_2 r_22 h_r_22) rfl ⟨(argE (by (conv => lhs; whnf); all_goals rfl) rfl), (argE (by (conv => lhs; whnf); all_goals rfl) rfl), (argE (by (conv => lhs; whnf); all_goals rfl) rfl), (argE (by (conv => lhs; whnf); all_goals rfl) rfl), trivial⟩ rfl trivial rfl rfl rfl lend0 trivial rfl, ?_⟩
          conv => whnf
          refine ⟨by kernel_rfl, ?_⟩
          conv => whnf
          refine ⟨fun hb_111 => ?_, fun hb_111 => ?_⟩
          · replace hL1 := cond_t hb_111 hL1
            conv => whnf
            refine ⟨k_20, _, rfl, ix_map h_e_21, ?_⟩
            conv => whnf
            obtain ⟨l_23, h_l_23, hL1⟩ := bind_some hL1
            refine ap_q (enc := encPlate) (l := a_18) (y := ([e_21.Plate] : List Plate)) h_l_23 rfl rfl (by decide) ?_
            conv => whnf
            refine ⟨by kernel_rfl, ?_⟩
            conv => whnf
            refine ⟨((k_20 + 1 : Nat) : Int), wrapE (by omega) (by omega) (by omega), ?_⟩
            conv => whnf
            exact ⟨(k_20 + 1, l_23), [0, 1, 5], [], [], ⟨hlt_k_20, hL1⟩, by show x_2.length - (k_20 + 1) < x_2.length - k_20; omega, wk_mk [0, 1, 5] [] [] rfl ⟨argE (by (conv => lhs; whnf); all_goals rfl) rfl, argE (by (conv => lhs; whnf); all_goals rfl) rfl, argE (by (conv => lhs; whnf); all_goals rfl) rfl, argP (id := 0) (by (conv => lhs; whnf); all_goals rfl) rfl, argP (id := 1) (by (conv => lhs; whnf); all_goals rfl) rfl, argE (by (conv => lhs; whnf); all_goals rfl) rfl, trivial⟩ ⟨boxL rfl rfl rfl ⟨(.ni _ rfl), (.ni _ rfl), (.ni _ rfl), trivial⟩, boxL rfl rfl rfl ⟨(.ni _ rfl), (.ni _ rfl), (.oslg 5 2 rfl), trivial⟩, blkR (fun _ => ⟨rfl, rfl⟩) rfl rfl, trivial⟩⟩
          · replace hL1 := cond_f hb_111 hL1
            conv => whnf
            refine ⟨((k_20 + 1 : Nat) : Int), wrapE (by omega) (by omega) (by omega), ?_⟩
            conv => whnf
            exact ⟨(k_20 + 1, a_18), [0, 1, 2], [], [], ⟨hlt_k_20, hL1⟩, by show x_2.length - (k_20 + 1) < x_2.length - k_20; omega, wk_mk [0, 1, 2] [] [] rfl ⟨argE (by (conv => lhs; whnf); all_goals rfl) rfl, argE (by (conv => lhs; whnf); all_goals rfl) rfl, argE (by (conv => lhs; whnf); all_goals rfl) rfl, argP (id := 0) (by (conv => lhs; whnf); all_goals rfl) rfl, argP (id := 1) (by (conv => lhs; whnf); all_goals rfl) rfl, argE (by (conv => lhs; whnf); all_goals rfl) rfl, trivial⟩ ⟨boxL rfl rfl rfl ⟨(.ni _ rfl), (.ni _ rfl), (.ni _ rfl), trivial⟩, boxL rfl rfl rfl ⟨(.ni _ rfl), (.ni _ rfl), (.oslg 2 2 rfl), trivial⟩, blkR (fun _ => ⟨rfl, rfl⟩) rfl rfl, trivial⟩⟩
        · rw [drop_nil (show x_2.length ≤ k_20 by have h := of_decide_eq_false h; omega), ref24_Decide_L3.eq_1] at hL1
          conv => whnf
          obtain rfl := Option.some.inj hL1
          replace hF := fin_brk hF
          try dsimp only at hF
          obtain rfl := Option.some.inj hF
          exact ret_gz [] [] [2] rfl (tupL rfl ⟨(argA (c := [.int .i64 i_2, .int .i64 i_3, .osl 2]) (by (conv => lhs; whnf); all_goals rfl) rfl ⟨(.ni _ rfl), (.ni _ rfl), (.osl 2 3 _ (by simp) rfl (map_ni (fun _ => ⟨rfl, rfl⟩) _)), trivial⟩), (argE (by (conv => lhs; whnf); all_goals rfl) rfl), trivial⟩) trivial
    · rw [drop_nil (show x_1.length ≤ k_5 by have h := of_decide_eq_false h; omega), ref24_Decide_L1.eq_1] at hL1
      conv => whnf
      obtain rfl := Option.some.inj hL1
      replace hF := fin_brk hF
      try dsimp only at hF
      obtain ⟨c_3, hc_3, hF⟩ := fin_some hF
      refine sw_bv 2 (v := .lst 7 (x_2.map encConnecting)) (by (conv => lhs; whnf); all_goals rfl) (fun hb => ?_)
      have hbd_k_20 : x_2.length ≤ 9223372036854775807 := bnd_len (enc := encConnecting) (hb)
      refine sw_loop tab_ok follows_ok (fun y : Nat × (List Plate) => y.1 ≤ x_2.length ∧ ref24_Decide_L3 x_0 x_3 (i_2, i_3) (x_2.drop y.1) y.1 y.2 = some c_3) (fun y => ⟨eL [(0, .lst 3 (x_0.map encMinimum)), (2, .lst 7 (x_2.map encConnecting)), (3, .int .i64 x_3), (8, .ptr 0 0), (11, .ptr 1 0), (16, .int .i64 (y.1 : Int))], hL [(0, .box [.int .i64 (0 : Int), .int .i64 (0 : Int), .nils]), (1, .box [.int .i64 i_2, .int .i64 i_3, .osl 2]), (2, .row 3 (y.2.map encPlate))], 3⟩) (fun y => x_2.length - y.1) (0, ([] : List Plate)) ⟨Nat.zero_le _, hc_3⟩ (wk_mk [0, 1] [2] [] rfl ⟨argE (by (conv => lhs; whnf); all_goals rfl) rfl, argE (by (conv => lhs; whnf); all_goals rfl) rfl, argE (by (conv => lhs; whnf); all_goals rfl) rfl, argP (id := 0) (by (conv => lhs; whnf); all_goals rfl) rfl, argP (id := 1) (by (conv => lhs; whnf); all_goals rfl) rfl, argE (by (conv => lhs; whnf); all_goals rfl) rfl, trivial⟩ ⟨boxL rfl rfl rfl ⟨(.ni _ rfl), (.ni _ rfl), (.ni _ rfl), trivial⟩, boxL rfl rfl rfl ⟨(.ni _ rfl), (.ni _ rfl), (.nilz 2 (by simp)), trivial⟩, blkZ rfl, trivial⟩) ?_
      rintro ⟨k_20, a_18⟩ ⟨hk_k_20, hL1⟩
      try dsimp only at hk_k_20 hL1
      show awp _ _ _ _ _ _ ⟨eL [(0, .lst 3 (x_0.map encMinimum)), (2, .lst 7 (x_2.map encConnecting)), (3, .int .i64 x_3), (8, .ptr 0 0), (11, .ptr 1 0), (16, .int .i64 (k_20 : Int))], hL [(0, .box [.int .i64 (0 : Int), .int .i64 (0 : Int), .nils]), (1, .box [.int .i64 i_2, .int .i64 i_3, .osl 2]), (2, .row 3 (a_18.map encPlate))], 3⟩
      conv => whnf
      refine len_q (enc := encConnecting) (l := x_2) rfl ?_
      conv => whnf
      refine ⟨fun h => ?_, fun h => ?_⟩
      · have hlt_k_20 : k_20 < x_2.length := by have h := of_decide_eq_true h; omega
        obtain ⟨e_21, h_e_21⟩ : ∃ y, x_2[k_20]? = some y := ⟨_, List.getElem?_eq_getElem hlt_k_20⟩
        rw [drop_cons h_e_21, ref24_Decide_L3.eq_2] at hL1
        conv => whnf
        refine ⟨k_20, _, rfl, ix_map h_e_21, ?_⟩
        conv => whnf
        obtain ⟨r_22, h_r_22, hL1⟩ := bind_some hL1
        refine ⟨_, _, _, _, _, _, _, _, _, callX false [] [] 0 Try.func46 (by decide) rfl (ref24_Makes_ac x_0 e_21 x_3 i_2 r_22 h_r_22) rfl ⟨(argE (by (conv => lhs; whnf); all_goals rfl) rfl), (argE (by (conv => lhs; whnf); all_goals rfl) rfl), (argE (by (conv => lhs; whnf); all_goals rfl) rfl), (argE (by (conv => lhs; whnf); all_goals rfl) rfl), trivial⟩ rfl trivial rfl rfl rfl lend0 trivial rfl, ?_⟩
        conv => whnf
        refine ⟨by kernel_rfl, ?_⟩
        conv => whnf
        refine ⟨fun hb_112 => ?_, fun hb_112 => ?_⟩
        · replace hL1 := cond_t hb_112 hL1
          conv => whnf
          refine ⟨k_20, _, rfl, ix_map h_e_21, ?_⟩
          conv => whnf
          obtain ⟨l_23, h_l_23, hL1⟩ := bind_some hL1
          refine ap_q (enc := encPlate) (l := a_18) (y := ([e_21.Plate] : List Plate)) h_l_23 rfl rfl (by decide) ?_
          conv => whnf
          refine ⟨by kernel_rfl, ?_⟩
          conv => whnf
          refine ⟨((k_20 + 1 : Nat) : Int), wrapE (by omega) (by omega) (by omega), ?_⟩
          conv => whnf
          exact ⟨(k_20 + 1, l_23), [0, 1, 5], [], [], ⟨hlt_k_20, hL1⟩, by show x_2.length - (k_20 + 1) < x_2.length - k_20; omega, wk_mk [0, 1, 5] [] [] rfl ⟨argE (by (conv => lhs; whnf); all_goals rfl) rfl, argE (by (conv => lhs; whnf); all_goals rfl) rfl, argE (by (conv => lhs; whnf); all_goals rfl) rfl, argP (id := 0) (by (conv => lhs; whnf); all_goals rfl) rfl, argP (id := 1) (by (conv => lhs; whnf); all_goals rfl) rfl, argE (by (conv => lhs; whnf); all_goals rfl) rfl, trivial⟩ ⟨boxL rfl rfl rfl ⟨(.ni _ rfl), (.ni _ rfl), (.ni _ rfl), trivial⟩, boxL rfl rfl rfl ⟨(.ni _ rfl), (.ni _ rfl), (.oslg 5 2 rfl), trivial⟩, blkR (fun _ => ⟨rfl, rfl⟩) rfl rfl, trivial⟩⟩
        · replace hL1 := cond_f hb_112 hL1
          conv => whnf
          refine ⟨((k_20 + 1 : Nat) : Int), wrapE (by omega) (by omega) (by omega), ?_⟩
          conv => whnf
          exact ⟨(k_20 + 1, a_18), [0, 1, 2], [], [], ⟨hlt_k_20, hL1⟩, by show x_2.length - (k_20 + 1) < x_2.length - k_20; omega, wk_mk [0, 1, 2] [] [] rfl ⟨argE (by (conv => lhs; whnf); all_goals rfl) rfl, argE (by (conv => lhs; whnf); all_goals rfl) rfl, argE (by (conv => lhs; whnf); all_goals rfl) rfl, argP (id := 0) (by (conv => lhs; whnf); all_goals rfl) rfl, argP (id := 1) (by (conv => lhs; whnf); all_goals rfl) rfl, argE (by (conv => lhs; whnf); all_goals rfl) rfl, trivial⟩ ⟨boxL rfl rfl rfl ⟨(.ni _ rfl), (.ni _ rfl), (.ni _ rfl), trivial⟩, boxL rfl rfl rfl ⟨(.ni _ rfl), (.ni _ rfl), (.oslg 2 2 rfl), trivial⟩, blkR (fun _ => ⟨rfl, rfl⟩) rfl rfl, trivial⟩⟩
      · rw [drop_nil (show x_2.length ≤ k_20 by have h := of_decide_eq_false h; omega), ref24_Decide_L3.eq_1] at hL1
        conv => whnf
        obtain rfl := Option.some.inj hL1
        replace hF := fin_brk hF
        try dsimp only at hF
        obtain rfl := Option.some.inj hF
        exact ret_gz [] [] [2] rfl (tupL rfl ⟨(argA (c := [.int .i64 i_2, .int .i64 i_3, .osl 2]) (by (conv => lhs; whnf); all_goals rfl) rfl ⟨(.ni _ rfl), (.ni _ rfl), (.osl 2 3 _ (by simp) rfl (map_ni (fun _ => ⟨rfl, rfl⟩) _)), trivial⟩), (argE (by (conv => lhs; whnf); all_goals rfl) rfl), trivial⟩) trivial
end Go.Proofs.Ytkajegjghfbgaaa.Ex
