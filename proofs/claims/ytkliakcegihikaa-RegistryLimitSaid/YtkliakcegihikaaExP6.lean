/- The functions of the program compute what was printed; walks printed by a program. -/
import Derived.Test.YtkliakcegihikaaExF
import Derived.Test.YtkliakcegihikaaExP1
import Derived.Test.YtkliakcegihikaaExP5
namespace Go.Proofs.Ytkliakcegihikaa.Ex
open Go.RowKit Go.Proofs.Ytkliakcegihikaa.Ax
set_option linter.unusedVariables false
set_option linter.unusedSimpArgs false
set_option maxRecDepth 100000 in
set_option maxHeartbeats 40000000 in
theorem registry_clone_ac (x_0 : (List Bag)) (r : (List Bag)) (hF : registry_clone x_0 = some r) : AC Try.prog 41 [.lst 25 (x_0.map encBag)] [] (.osl 0) [.row 25 (r.map encBag)] := by
  refine ac_of tab_ok follows_ok Try.func41 rfl Try.ntmps41 rfl ?_
  unfold registry_clone at hF
  conv => whnf
  refine len_q (enc := encBag) (l := x_0) rfl ?_
  conv => whnf
  obtain ⟨c_1, hc_1, hF⟩ := fin_some hF
  refine sw_bv 0 (v := .lst 25 (x_0.map encBag)) (by (conv => lhs; whnf); all_goals rfl) (fun hb => ?_)
  have hbd_k_3 : x_0.length ≤ 9223372036854775807 := bnd_len (enc := encBag) (hb)
  refine sw_loop tab_ok follows_ok (fun y : Nat × (List Bag) => y.1 ≤ x_0.length ∧ registry_clone_L1 (x_0.drop y.1) y.1 y.2 = some c_1) (fun y => ⟨eL [(3, .osl 0), (6, .lst 25 (x_0.map encBag)), (7, .int .i64 (x_0.length : Int)), (8, .int .i64 (y.1 : Int))], hL [(0, .row 25 (y.2.map encBag))], 1⟩) (fun y => x_0.length - y.1) (0, ([] : List Bag)) ⟨Nat.zero_le _, hc_1⟩ (wk_mk [] [0] [] rfl ⟨argZ (by (conv => lhs; whnf); all_goals rfl) rfl, argE (by (conv => lhs; whnf); all_goals rfl) rfl, argE (by (conv => lhs; whnf); all_goals rfl) rfl, argE (by (conv => lhs; whnf); all_goals rfl) rfl, trivial⟩ ⟨blkZ rfl, trivial⟩) ?_
  rintro ⟨k_3, a_1⟩ ⟨hk_k_3, hL1⟩
  try dsimp only at hk_k_3 hL1
  show awp _ _ _ _ _ _ ⟨eL [(3, .osl 0), (6, .lst 25 (x_0.map encBag)), (7, .int .i64 (x_0.length : Int)), (8, .int .i64 (k_3 : Int))], hL [(0, .row 25 (a_1.map encBag))], 1⟩
  conv => whnf
  refine ⟨fun h => ?_, fun h => ?_⟩
  · have hlt_k_3 : k_3 < x_0.length := by have h := of_decide_eq_true h; omega
    obtain ⟨e_4, h_e_4⟩ : ∃ y, x_0[k_3]? = some y := ⟨_, List.getElem?_eq_getElem hlt_k_3⟩
    rw [drop_cons h_e_4, registry_clone_L1.eq_2] at hL1
    conv => whnf
    refine ⟨k_3, _, rfl, ix_map h_e_4, ?_⟩
    conv => whnf
    obtain ⟨r_5, h_r_5, hL1⟩ := bind_some hL1
    refine ⟨_, _, _, _, _, _, _, _, callX false [] [] Try.func57 (by decide) rfl (registry_copied_ac e_4 r_5 h_r_5) rfl ⟨(argE (by (conv => lhs; whnf); all_goals rfl) rfl), trivial⟩ rfl trivial rfl rfl rfl lend0 trivial, ?_⟩
    conv => whnf
    obtain ⟨l_6, h_l_6, hL1⟩ := bind_some hL1
    refine ap_q (enc := encBag) (l := a_1) (y := ([r_5] : List Bag)) h_l_6 rfl rfl (by decide) ?_
    conv => whnf
    refine ⟨((k_3 + 1 : Nat) : Int), wrapE (by omega) (by omega) (by omega), ?_⟩
    conv => whnf
    exact ⟨(k_3 + 1, l_6), [4], [], [], ⟨hlt_k_3, hL1⟩, by show x_0.length - (k_3 + 1) < x_0.length - k_3; omega, wk_mk [4] [] [] rfl ⟨argO (id := 4) (by (conv => lhs; whnf); all_goals rfl) rfl, argE (by (conv => lhs; whnf); all_goals rfl) rfl, argE (by (conv => lhs; whnf); all_goals rfl) rfl, argE (by (conv => lhs; whnf); all_goals rfl) rfl, trivial⟩ ⟨blkR (fun _ => ⟨rfl, rfl⟩) rfl rfl, trivial⟩⟩
  · rw [drop_nil (show x_0.length ≤ k_3 by have h := of_decide_eq_false h; omega), registry_clone_L1.eq_1] at hL1
    conv => whnf
    obtain rfl := Option.some.inj hL1
    replace hF := fin_brk hF
    try dsimp only at hF
    obtain rfl := Option.some.inj hF
    exact ret_gz [0] [] [] rfl (argO (id := 0) (by (conv => lhs; whnf); all_goals rfl) rfl) ⟨blkR (fun _ => ⟨rfl, rfl⟩) rfl rfl, trivial⟩

set_option maxRecDepth 100000 in
set_option maxHeartbeats 40000000 in
theorem plate_Run_ac (x_0 : Plate) (x_1 : Int) (r : (List Plate) × Int) (hF : plate_Run x_0 x_1 = some r) : AC Try.prog 69 [.agg (encPlate x_0), .int .i64 x_1] [] (.tup [.lst 3 (r.1.map encPlate), .int .i64 r.2]) [] := by
  refine ac_of tab_ok follows_ok Try.func69 rfl Try.ntmps69 rfl ?_
  unfold plate_Run at hF
  conv => whnf
  obtain ⟨r_1, h_r_1, hF⟩ := bind_some hF
  refine ⟨_, _, _, _, _, _, _, _, callX false [] [] Try.func53 (by decide) rfl (plate_Valid_ac x_0 r_1 h_r_1) rfl ⟨(argE (by (conv => lhs; whnf); all_goals rfl) rfl), trivial⟩ rfl trivial rfl rfl rfl lend0 trivial, ?_⟩
  conv => whnf
  refine ⟨fun hb_8 => ?_, fun hb_8 => ?_⟩
  · replace hF := cond_f hb_8 hF
    conv => whnf
    refine ⟨fun hb_9 => ?_, fun hb_9 => ?_⟩
    · replace hF := cond_f hb_9 hF
      conv => whnf
      refine ⟨fun hb_10 => ?_, fun hb_10 => ?_⟩
      · replace hF := cond_t hb_10 hF
        conv => whnf
        obtain rfl := Option.some.inj hF
        exact ret_gz [] [] [] rfl (tupL rfl ⟨(argN (by (conv => lhs; whnf); all_goals rfl)), (argE (by (conv => lhs; whnf); all_goals rfl) rfl), trivial⟩) trivial
      · replace hF := cond_f hb_10 hF
        conv => whnf
        obtain ⟨c_1, hc_1, hF⟩ := fin_some hF
        refine sw_loop tab_ok follows_ok (fun y : Nat × (List Plate) × Int => plate_Run_L1 x_0 x_1 y.1 y.2.1 y.2.2 = some c_1) (fun y => ⟨eL [(2, .ptr 0 0), (6, .osl 1), (19, .int .i64 x_1), (20, .int .i64 y.2.2)], hL [(0, .box [.int .i64 x_0.Lead, .int .i64 x_0.Airline, .int .i64 x_0.Serial]), (1, .row 3 (y.2.1.map encPlate))], 2⟩) (fun y => y.1) (9223372036854775807, ([] : List Plate), (0 : Int)) hc_1 (wk_mk [0] [1] [] rfl ⟨argP (id := 0) (by (conv => lhs; whnf); all_goals rfl) rfl, argZ (by (conv => lhs; whnf); all_goals rfl) rfl, argE (by (conv => lhs; whnf); all_goals rfl) rfl, argE (by (conv => lhs; whnf); all_goals rfl) rfl, trivial⟩ ⟨boxL rfl rfl rfl ⟨(.ni _ rfl), (.ni _ rfl), (.ni _ rfl), trivial⟩, blkZ rfl, trivial⟩) ?_
        rintro ⟨q_5, a_2, i_3⟩ hL1
        try dsimp only at hL1
        rcases q_5 with _ | q_5
        · rw [plate_Run_L1.eq_1] at hL1
          cases hL1
        rw [plate_Run_L1.eq_2] at hL1
        show awp _ _ _ _ _ _ ⟨eL [(2, .ptr 0 0), (6, .osl 1), (19, .int .i64 x_1), (20, .int .i64 i_3)], hL [(0, .box [.int .i64 x_0.Lead, .int .i64 x_0.Airline, .int .i64 x_0.Serial]), (1, .row 3 (a_2.map encPlate))], 2⟩
        conv => whnf
        refine ⟨fun hb_11 => ?_, fun hb_11 => ?_⟩
        · replace hL1 := cond_t hb_11 hL1
          conv => whnf
          refine ⟨_, rfl, ?_⟩
          conv => whnf
          refine ⟨by decide, _, rfl, ?_⟩
          conv => whnf
          obtain ⟨l_4, h_l_4, hL1⟩ := bind_some hL1
          refine ap_q (enc := encPlate) (l := a_2) (y := ([(⟨x_0.Lead, x_0.Airline, ((w64 (x_0.Serial + i_3)).tmod (1000000 : Int))⟩ : Plate)] : List Plate)) h_l_4 rfl rfl (by decide) ?_
          conv => whnf
          refine ⟨_, rfl, ?_⟩
          conv => whnf
          exact ⟨(q_5, l_4, (w64 (i_3 + (1 : Int)))), [0, 3], [], [], hL1, Nat.lt_succ_self _, wk_mk [0, 3] [] [] rfl ⟨argP (id := 0) (by (conv => lhs; whnf); all_goals rfl) rfl, argO (id := 3) (by (conv => lhs; whnf); all_goals rfl) rfl, argE (by (conv => lhs; whnf); all_goals rfl) rfl, argE (by (conv => lhs; whnf); all_goals rfl) rfl, trivial⟩ ⟨boxL rfl rfl rfl ⟨(.ni _ rfl), (.ni _ rfl), (.ni _ rfl), trivial⟩, blkR (fun _ => ⟨rfl, rfl⟩) rfl rfl, trivial⟩⟩
        · replace hL1 := cond_f hb_11 hL1
          conv => whnf
          obtain rfl := Option.some.inj hL1
          replace hF := fin_brk hF
          try dsimp only at hF
          obtain rfl := Option.some.inj hF
          exact ret_gz [] [] [1] rfl (tupL rfl ⟨(argOL 1 (by (conv => lhs; whnf); all_goals rfl) rfl rfl (map_ni (fun _ => ⟨rfl, rfl⟩) _)), (argE (by (conv => lhs; whnf); all_goals rfl) rfl), trivial⟩) trivial
    · replace hF := cond_t hb_9 hF
      conv => whnf
      obtain rfl := Option.some.inj hF
      exact ret_gz [] [] [] rfl (tupL rfl ⟨(argN (by (conv => lhs; whnf); all_goals rfl)), (argE (by (conv => lhs; whnf); all_goals rfl) rfl), trivial⟩) trivial
  · replace hF := cond_t hb_8 hF
    conv => whnf
    obtain rfl := Option.some.inj hF
    exact ret_gz [] [] [] rfl (tupL rfl ⟨(argN (by (conv => lhs; whnf); all_goals rfl)), (argE (by (conv => lhs; whnf); all_goals rfl) rfl), trivial⟩) trivial

set_option maxRecDepth 100000 in
set_option maxHeartbeats 40000000 in
theorem message_Plates_ac (x_0 : Message) (r : (List Plate)) (hF : message_Plates x_0 = some r) : AC Try.prog 42 [.agg (encMessage x_0)] [] (.lst 3 (r.map encPlate)) [] := by
  refine ac_of tab_ok follows_ok Try.func42 rfl Try.ntmps42 rfl ?_
  unfold message_Plates at hF
  conv => whnf
  obtain ⟨r_1, h_r_1, hF⟩ := bind_some hF
  refine ⟨_, _, _, _, _, _, _, _, callX false [] [] Try.func69 (by decide) rfl (plate_Run_ac x_0.First x_0.Count r_1 h_r_1) rfl ⟨(argE (by (conv => lhs; whnf); all_goals rfl) rfl), (argE (by (conv => lhs; whnf); all_goals rfl) rfl), trivial⟩ rfl trivial rfl rfl rfl lend0 trivial, ?_⟩
  conv => whnf
  obtain rfl := Option.some.inj hF
  exact ret_gz [] [] [] rfl (argE (by (conv => lhs; whnf); all_goals rfl) rfl) trivial

set_option maxRecDepth 100000 in
set_option maxHeartbeats 40000000 in
theorem registry_at_f1_ac (x_0 : Int) (x_1 : (List Bag)) (x_2 : Plate) (r : Bool) (hF : registry_at_f1 x_0 x_1 x_2 = some r) : AC Try.prog 72 [.int .i64 x_0, .iptr [.lst 25 (x_1.map encBag)], .iptr [.int .i64 x_2.Lead, .int .i64 x_2.Airline, .int .i64 x_2.Serial]] [] (.bool r) [] := by
  refine ac_of tab_ok follows_ok Try.func72 rfl Try.ntmps72 rfl ?_
  unfold registry_at_f1 at hF
  conv => whnf
  obtain ⟨e_1, h_e_1, hF⟩ := bind_some hF
  refine ix_q (enc := encBag) (l := x_1) h_e_1 rfl (fun m_e_1 hm_e_1 hx_e_1 => ?_)
  conv => whnf
  obtain ⟨r_2, h_r_2, hF⟩ := bind_some hF
  refine ⟨_, _, _, _, _, _, _, _, callX false [] [] Try.func54 (by decide) rfl (plate_Compare_ac e_1.Plate x_2 r_2 h_r_2) rfl ⟨(argE (by (conv => lhs; whnf); all_goals rfl) rfl), (argE (by (conv => lhs; whnf); all_goals rfl) rfl), trivial⟩ rfl trivial rfl rfl rfl lend0 trivial, ?_⟩
  conv => whnf
  refine ⟨by kernel_rfl, ?_⟩
  conv => whnf
  obtain rfl := Option.some.inj hF
  exact ret_gz [] [] [] rfl (argE (by (conv => lhs; whnf); all_goals rfl) rfl) trivial

set_option maxRecDepth 100000 in
set_option maxHeartbeats 40000000 in
theorem sort_Search_ac (x_0 : Int) (x_1 : (List Bag)) (x_2 : Plate) (r : Int × (List Bag) × Plate) (hF : sort_Search x_0 x_1 x_2 = some r) : AC Try.prog 71 [.int .i64 x_0, .fn 72 [.ptr 0 0, .ptr 1 0]] [.box ([.lst 25 (x_1.map encBag)]), .box (encPlate x_2)] (.int .i64 r.1) [.box ([.lst 25 (r.2.1.map encBag)]), .box (encPlate r.2.2)] := by
  refine ac_of tab_ok follows_ok Try.func71 rfl Try.ntmps71 rfl ?_
  unfold sort_Search at hF
  conv => whnf
  obtain ⟨c_1, hc_1, hF⟩ := fin_some hF
  refine sw_loop tab_ok follows_ok (fun y : Nat × Int × Int => sort_Search_L1 x_1 x_2 y.1 y.2.1 y.2.2 = some c_1) (fun y => ⟨eL [(1, .fn 72 [.ptr 0 0, .ptr 1 0]), (5, .int .i64 y.2.1), (6, .int .i64 y.2.2)], hL [(0, .box [.lst 25 (x_1.map encBag)]), (1, .box [.int .i64 x_2.Lead, .int .i64 x_2.Airline, .int .i64 x_2.Serial])], 2⟩) (fun y => y.1) (9223372036854775807, (0 : Int), x_0) hc_1 (wk_mk [0, 1] [] [] rfl ⟨argFn (c := [.ptr 0 0, .ptr 1 0]) (by (conv => lhs; whnf); all_goals rfl) rfl ⟨(.ptr 0 0 0 rfl), (.ptr 1 0 1 rfl), trivial⟩, argE (by (conv => lhs; whnf); all_goals rfl) rfl, argE (by (conv => lhs; whnf); all_goals rfl) rfl, trivial⟩ ⟨boxL rfl rfl rfl ⟨(.ni _ rfl), trivial⟩, boxL rfl rfl rfl ⟨(.ni _ rfl), (.ni _ rfl), (.ni _ rfl), trivial⟩, trivial⟩) ?_
  rintro ⟨q_4, i_1, i_2⟩ hL1
  try dsimp only at hL1
  rcases q_4 with _ | q_4
  · rw [sort_Search_L1.eq_1] at hL1
    cases hL1
  rw [sort_Search_L1.eq_2] at hL1
  show awp _ _ _ _ _ _ ⟨eL [(1, .fn 72 [.ptr 0 0, .ptr 1 0]), (5, .int .i64 i_1), (6, .int .i64 i_2)], hL [(0, .box [.lst 25 (x_1.map encBag)]), (1, .box [.int .i64 x_2.Lead, .int .i64 x_2.Airline, .int .i64 x_2.Serial])], 2⟩
  conv => whnf
  refine ⟨fun hb_9 => ?_, fun hb_9 => ?_⟩
  · replace hL1 := cond_t hb_9 hL1
    conv => whnf
    refine ⟨_, rfl, ?_⟩
    conv => whnf
    refine ⟨_, rfl, ?_⟩
    conv => whnf
    refine ⟨_, shr_q (by decide), ?_⟩
    conv => whnf
    refine ⟨_, rfl, ?_⟩
    conv => whnf
    obtain ⟨r_3, h_r_3, hL1⟩ := bind_some hL1
    refine ⟨_, _, _, _, _, _, _, _, callX false [] [0, 1] Try.func72 (by decide) rfl (registry_at_f1_ac (IntKind.i64.wrap (shrF .u64 (IntKind.u64.wrap (w64 (i_1 + i_2))) (1 : Int))) x_1 x_2 r_3 h_r_3) rfl ⟨(argE (by (conv => lhs; whnf); all_goals rfl) rfl), (argIb 0 _ (by (conv => lhs; whnf); all_goals rfl) rfl rfl rfl rfl), (argIb 1 _ (by (conv => lhs; whnf); all_goals rfl) rfl rfl rfl rfl), trivial⟩ rfl trivial rfl rfl rfl (lendF rfl) trivial, ?_⟩
    conv => whnf
    refine ⟨fun hb_10 => ?_, fun hb_10 => ?_⟩
    · replace hL1 := cond_t hb_10 hL1
      conv => whnf
      refine ⟨_, rfl, ?_⟩
      conv => whnf
      exact ⟨(q_4, (w64 ((IntKind.i64.wrap (shrF .u64 (IntKind.u64.wrap (w64 (i_1 + i_2))) (1 : Int))) + (1 : Int))), i_2), [0, 1], [], [], hL1, Nat.lt_succ_self _, wk_mk [0, 1] [] [] rfl ⟨argFn (c := [.ptr 0 0, .ptr 1 0]) (by (conv => lhs; whnf); all_goals rfl) rfl ⟨(.ptr 0 0 0 rfl), (.ptr 1 0 1 rfl), trivial⟩, argE (by (conv => lhs; whnf); all_goals rfl) rfl, argE (by (conv => lhs; whnf); all_goals rfl) rfl, trivial⟩ ⟨boxL rfl rfl rfl ⟨(.ni _ rfl), trivial⟩, boxL rfl rfl rfl ⟨(.ni _ rfl), (.ni _ rfl), (.ni _ rfl), trivial⟩, trivial⟩⟩
    · replace hL1 := cond_f hb_10 hL1
      conv => whnf
      exact ⟨(q_4, i_1, (IntKind.i64.wrap (shrF .u64 (IntKind.u64.wrap (w64 (i_1 + i_2))) (1 : Int)))), [0, 1], [], [], hL1, Nat.lt_succ_self _, wk_mk [0, 1] [] [] rfl ⟨argFn (c := [.ptr 0 0, .ptr 1 0]) (by (conv => lhs; whnf); all_goals rfl) rfl ⟨(.ptr 0 0 0 rfl), (.ptr 1 0 1 rfl), trivial⟩, argE (by (conv => lhs; whnf); all_goals rfl) rfl, argE (by (conv => lhs; whnf); all_goals rfl) rfl, trivial⟩ ⟨boxL rfl rfl rfl ⟨(.ni _ rfl), trivial⟩, boxL rfl rfl rfl ⟨(.ni _ rfl), (.ni _ rfl), (.ni _ rfl), trivial⟩, trivial⟩⟩
  · replace hL1 := cond_f hb_9 hL1
    conv => whnf
    obtain rfl := Option.some.inj hL1
    replace hF := fin_brk hF
    try dsimp only at hF
    obtain rfl := Option.some.inj hF
    exact ret_gz [0, 1] [] [] rfl (argE (by (conv => lhs; whnf); all_goals rfl) rfl) ⟨boxL rfl rfl rfl ⟨(.ni _ rfl), trivial⟩, boxL rfl rfl rfl ⟨(.ni _ rfl), (.ni _ rfl), (.ni _ rfl), trivial⟩, trivial⟩

set_option maxRecDepth 100000 in
set_option maxHeartbeats 40000000 in
theorem registry_at_ac (x_0 : (List Bag)) (x_1 : Plate) (r : Int × Bool) (hF : registry_at x_0 x_1 = some r) : AC Try.prog 44 [.lst 25 (x_0.map encBag), .agg (encPlate x_1)] [] (.tup [.int .i64 r.1, .bool r.2]) [] := by
  refine ac_of tab_ok follows_ok Try.func44 rfl Try.ntmps44 rfl ?_
  unfold registry_at at hF
  conv => whnf
  refine len_q (enc := encBag) (l := x_0) rfl ?_
  conv => whnf
  obtain ⟨r_1, h_r_1, hF⟩ := bind_some hF
  refine ⟨_, _, _, _, _, _, _, _, callX false [0, 1] [] Try.func71 (by decide) rfl (sort_Search_ac (x_0.length : Int) x_0 x_1 r_1 h_r_1) rfl ⟨(argE (by (conv => lhs; whnf); all_goals rfl) rfl), (argFn (c := [.ptr 0 0, .ptr 1 0]) (by (conv => lhs; whnf); all_goals rfl) rfl ⟨(.ptr 0 0 0 rfl), (.ptr 1 0 1 rfl), trivial⟩), trivial⟩ rfl ⟨rfl, rfl, trivial⟩ rfl rfl rfl lend0 ⟨rfl, rfl, trivial⟩, ?_⟩
  conv => whnf
  refine len_q (enc := encBag) (l := r_1.2.1) rfl ?_
  conv => whnf
  refine ⟨fun hb_2 => ?_, fun hb_2 => ?_⟩
  · replace hF := cond_t hb_2 hF
    conv => whnf
    obtain ⟨e_2, h_e_2, hF⟩ := bind_some hF
    refine ix_q (enc := encBag) (l := r_1.2.1) h_e_2 rfl (fun m_e_2 hm_e_2 hx_e_2 => ?_)
    conv => whnf
    refine ⟨by kernel_rfl, ?_⟩
    conv => whnf
    obtain rfl := Option.some.inj hF
    exact ret_gz [] [] [] rfl (tupL rfl ⟨(argE (by (conv => lhs; whnf); all_goals rfl) rfl), (argE (by (conv => lhs; whnf); all_goals rfl) rfl), trivial⟩) trivial
  · replace hF := cond_f hb_2 hF
    conv => whnf
    refine ⟨by kernel_rfl, ?_⟩
    conv => whnf
    obtain rfl := Option.some.inj hF
    exact ret_gz [] [] [] rfl (tupL rfl ⟨(argE (by (conv => lhs; whnf); all_goals rfl) rfl), (argFl (by (conv => lhs; whnf); all_goals rfl)), trivial⟩) trivial

set_option maxRecDepth 100000 in
set_option maxHeartbeats 40000000 in
theorem registry_fresh_ac (x_0 : Message) (r : Bool) (hF : registry_fresh x_0 = some r) : AC Try.prog 70 [.agg (encMessage x_0)] [] (.bool r) [] := by
  refine ac_of tab_ok follows_ok Try.func70 rfl Try.ntmps70 rfl ?_
  unfold registry_fresh at hF
  conv => whnf
  refine ⟨fun hb_3 => ?_, fun hb_3 => ?_⟩
  · replace hF := cond_f hb_3 hF
    conv => whnf
    refine ⟨fun hb_4 => ?_, fun hb_4 => ?_⟩
    · replace hF := cond_t hb_4 hF
      conv => whnf
      obtain rfl := Option.some.inj hF
      exact ret_gz [] [] [] rfl (argE (by (conv => lhs; whnf); all_goals rfl) rfl) trivial
    · replace hF := cond_f hb_4 hF
      conv => whnf
      obtain rfl := Option.some.inj hF
      exact ret_gz [] [] [] rfl (argFl (by (conv => lhs; whnf); all_goals rfl)) trivial
  · replace hF := cond_t hb_3 hF
    conv => whnf
    obtain rfl := Option.some.inj hF
    exact ret_gz [] [] [] rfl (argE (by (conv => lhs; whnf); all_goals rfl) rfl) trivial

set_option maxRecDepth 100000 in
set_option maxHeartbeats 40000000 in
theorem registry_refused_ac (x_0 : (List Bag)) (x_1 : Message) (x_2 : (List Plate)) (r : Int) (hF : registry_refused x_0 x_1 x_2 = some r) : AC Try.prog 43 [.lst 25 (x_0.map encBag), .agg (encMessage x_1), .lst 3 (x_2.map encPlate)] [] (.int .i64 r) [] := by
  refine ac_of tab_ok follows_ok Try.func43 rfl Try.ntmps43 rfl ?_
  unfold registry_refused at hF
  conv => whnf
  refine len_q (enc := encPlate) (l := x_2) rfl ?_
  conv => whnf
  obtain ⟨c_1, hc_1, hF⟩ := fin_some hF
  refine sw_bv 2 (v := .lst 3 (x_2.map encPlate)) (by (conv => lhs; whnf); all_goals rfl) (fun hb => ?_)
  have hbd_k_3 : x_2.length ≤ 9223372036854775807 := bnd_len (enc := encPlate) (hb)
  refine sw_loop tab_ok follows_ok (fun y : Nat × Int => y.1 ≤ x_2.length ∧ registry_refused_L1 x_0 x_1 (x_2.drop y.1) y.1 y.2 = some c_1) (fun y => ⟨eL [(0, .lst 25 (x_0.map encBag)), (2, .lst 3 (x_2.map encPlate)), (4, .ptr 0 0), (7, .int .i64 y.2), (12, .lst 3 (x_2.map encPlate)), (13, .int .i64 (x_2.length : Int)), (14, .int .i64 (y.1 : Int))], hL [(0, .box [.int .i64 x_1.Kind, .int .i64 x_1.Do, .str x_1.Port, .int .i64 x_1.Number, .str x_1.In.Flight.Carrier, .int .i64 x_1.In.Flight.Number, .str x_1.In.Flight.Suffix, .int .i64 x_1.In.Flight.Day, .str x_1.In.Port, .str x_1.In.Class, .str x_1.Out.Flight.Carrier, .int .i64 x_1.Out.Flight.Number, .str x_1.Out.Flight.Suffix, .int .i64 x_1.Out.Flight.Day, .str x_1.Out.Port, .str x_1.Out.Class, .lst 6 (x_1.Onward.map encLeg), .int .i64 x_1.First.Lead, .int .i64 x_1.First.Airline, .int .i64 x_1.First.Serial, .int .i64 x_1.Count, .bool x_1.Load, .int .i64 x_1.Status, .int .i64 x_1.Sequence, .int .i64 x_1.Weight, .str x_1.Surname, .str x_1.Given, .int .i64 x_1.Exception, .str x_1.Node, .lst 1 (x_1.List.map iA)])], 1⟩) (fun y => x_2.length - y.1) (0, (0 : Int)) ⟨Nat.zero_le _, hc_1⟩ (wk_mk [0] [] [] rfl ⟨argE (by (conv => lhs; whnf); all_goals rfl) rfl, argE (by (conv => lhs; whnf); all_goals rfl) rfl, argP (id := 0) (by (conv => lhs; whnf); all_goals rfl) rfl, argE (by (conv => lhs; whnf); all_goals rfl) rfl, argE (by (conv => lhs; whnf); all_goals rfl) rfl, argE (by (conv => lhs; whnf); all_goals rfl) rfl, argE (by (conv => lhs; whnf); all_goals rfl) rfl, trivial⟩ ⟨boxL rfl rfl rfl ⟨(.ni _ rfl), (.ni _ rfl), (.ni _ rfl), (.ni _ rfl), (.ni _ rfl), (.ni _ rfl), (.ni _ rfl), (.ni _ rfl), (.ni _ rfl), (.ni _ rfl), (.ni _ rfl), (.ni _ rfl), (.ni _ rfl), (.ni _ rfl), (.ni _ rfl), (.ni _ rfl), (.ni _ rfl), (.ni _ rfl), (.ni _ rfl), (.ni _ rfl), (.ni _ rfl), (.ni _ rfl), (.ni _ rfl), (.ni _ rfl), (.ni _ rfl), (.ni _ rfl), (.ni _ rfl), (.ni _ rfl), (.ni _ rfl), (.ni _ rfl), trivial⟩, trivial⟩) ?_
  rintro ⟨k_3, i_1⟩ ⟨hk_k_3, hL1⟩
  try dsimp only at hk_k_3 hL1
  show awp _ _ _ _ _ _ ⟨eL [(0, .lst 25 (x_0.map encBag)), (2, .lst 3 (x_2.map encPlate)), (4, .ptr 0 0), (7, .int .i64 i_1), (12, .lst 3 (x_2.map encPlate)), (13, .int .i64 (x_2.length : Int)), (14, .int .i64 (k_3 : Int))], hL [(0, .box [.int .i64 x_1.Kind, .int .i64 x_1.Do, .str x_1.Port, .int .i64 x_1.Number, .str x_1.In.Flight.Carrier, .int .i64 x_1.In.Flight.Number, .str x_1.In.Flight.Suffix, .int .i64 x_1.In.Flight.Day, .str x_1.In.Port, .str x_1.In.Class, .str x_1.Out.Flight.Carrier, .int .i64 x_1.Out.Flight.Number, .str x_1.Out.Flight.Suffix, .int .i64 x_1.Out.Flight.Day, .str x_1.Out.Port, .str x_1.Out.Class, .lst 6 (x_1.Onward.map encLeg), .int .i64 x_1.First.Lead, .int .i64 x_1.First.Airline, .int .i64 x_1.First.Serial, .int .i64 x_1.Count, .bool x_1.Load, .int .i64 x_1.Status, .int .i64 x_1.Sequence, .int .i64 x_1.Weight, .str x_1.Surname, .str x_1.Given, .int .i64 x_1.Exception, .str x_1.Node, .lst 1 (x_1.List.map iA)])], 1⟩
  conv => whnf
  refine ⟨fun h => ?_, fun h => ?_⟩
  · have hlt_k_3 : k_3 < x_2.length := by have h := of_decide_eq_true h; omega
    obtain ⟨e_4, h_e_4⟩ : ∃ y, x_2[k_3]? = some y := ⟨_, List.getElem?_eq_getElem hlt_k_3⟩
    rw [drop_cons h_e_4, registry_refused_L1.eq_2] at hL1
    conv => whnf
    refine ⟨k_3, _, rfl, ix_map h_e_4, ?_⟩
    conv => whnf
    obtain ⟨r_5, h_r_5, hL1⟩ := bind_some hL1
    refine ⟨_, _, _, _, _, _, _, _, callX false [] [] Try.func44 (by decide) rfl (registry_at_ac x_0 e_4 r_5 h_r_5) rfl ⟨(argE (by (conv => lhs; whnf); all_goals rfl) rfl), (argE (by (conv => lhs; whnf); all_goals rfl) rfl), trivial⟩ rfl trivial rfl rfl rfl lend0 trivial, ?_⟩
    conv => whnf
    refine ⟨fun hb_25 => ?_, fun hb_25 => ?_⟩
    · replace hL1 := cond_t hb_25 hL1
      conv => whnf
      obtain ⟨r_6, h_r_6, hL1⟩ := bind_some hL1
      refine ⟨_, _, _, _, _, _, _, _, callX false [] [] Try.func70 (by decide) rfl (registry_fresh_ac x_1 r_6 h_r_6) rfl ⟨(argE (by (conv => lhs; whnf); all_goals rfl) rfl), trivial⟩ rfl trivial rfl rfl rfl lend0 trivial, ?_⟩
      conv => whnf
      refine ⟨fun hb_26 => ?_, fun hb_26 => ?_⟩
      · replace hL1 := cond_t hb_26 hL1
        conv => whnf
        obtain rfl := Option.some.inj hL1
        replace hF := fin_ret hF
        obtain rfl := Option.some.inj hF
        exact ret_gz [] [] [] rfl (argE (by (conv => lhs; whnf); all_goals rfl) rfl) trivial
      · replace hL1 := cond_f hb_26 hL1
        conv => whnf
        refine ⟨fun h => ?_, fun h => ?_⟩
        · cases (not_kn (hb_25)).symm.trans h
        · conv => whnf
          refine ⟨fun h => ?_, fun h => ?_⟩
          · conv => whnf
            refine ⟨fun hb_27 => ?_, fun hb_27 => ?_⟩
            · replace hL1 := cond_t hb_27 hL1
              conv => whnf
              obtain ⟨e_7, h_e_7, hL1⟩ := bind_some hL1
              refine ix_q (enc := encBag) (l := x_0) h_e_7 rfl (fun m_e_7 hm_e_7 hx_e_7 => ?_)
              conv => whnf
              refine ⟨by kernel_rfl, ?_⟩
              conv => whnf
              refine ⟨fun hb_28 => ?_, fun hb_28 => ?_⟩
              · replace hL1 := cond_t hb_28 hL1
                conv => whnf
                refine ⟨((k_3 + 1 : Nat) : Int), wrapE (by omega) (by omega) (by omega), ?_⟩
                conv => whnf
                exact ⟨(k_3 + 1, (7 : Int)), [0], [], [], ⟨hlt_k_3, hL1⟩, by show x_2.length - (k_3 + 1) < x_2.length - k_3; omega, wk_mk [0] [] [] rfl ⟨argE (by (conv => lhs; whnf); all_goals rfl) rfl, argE (by (conv => lhs; whnf); all_goals rfl) rfl, argP (id := 0) (by (conv => lhs; whnf); all_goals rfl) rfl, argE (by (conv => lhs; whnf); all_goals rfl) rfl, argE (by (conv => lhs; whnf); all_goals rfl) rfl, argE (by (conv => lhs; whnf); all_goals rfl) rfl, argE (by (conv => lhs; whnf); all_goals rfl) rfl, trivial⟩ ⟨boxL rfl rfl rfl ⟨(.ni _ rfl), (.ni _ rfl), (.ni _ rfl), (.ni _ rfl), (.ni _ rfl), (.ni _ rfl), (.ni _ rfl), (.ni _ rfl), (.ni _ rfl), (.ni _ rfl), (.ni _ rfl), (.ni _ rfl), (.ni _ rfl), (.ni _ rfl), (.ni _ rfl), (.ni _ rfl), (.ni _ rfl), (.ni _ rfl), (.ni _ rfl), (.ni _ rfl), (.ni _ rfl), (.ni _ rfl), (.ni _ rfl), (.ni _ rfl), (.ni _ rfl), (.ni _ rfl), (.ni _ rfl), (.ni _ rfl), (.ni _ rfl), (.ni _ rfl), trivial⟩, trivial⟩⟩
              · replace hL1 := cond_f hb_28 hL1
                conv => whnf
                refine ⟨((k_3 + 1 : Nat) : Int), wrapE (by omega) (by omega) (by omega), ?_⟩
                conv => whnf
                exact ⟨(k_3 + 1, i_1), [0], [], [], ⟨hlt_k_3, hL1⟩, by show x_2.length - (k_3 + 1) < x_2.length - k_3; omega, wk_mk [0] [] [] rfl ⟨argE (by (conv => lhs; whnf); all_goals rfl) rfl, argE (by (conv => lhs; whnf); all_goals rfl) rfl, argP (id := 0) (by (conv => lhs; whnf); all_goals rfl) rfl, argE (by (conv => lhs; whnf); all_goals rfl) rfl, argE (by (conv => lhs; whnf); all_goals rfl) rfl, argE (by (conv => lhs; whnf); all_goals rfl) rfl, argE (by (conv => lhs; whnf); all_goals rfl) rfl, trivial⟩ ⟨boxL rfl rfl rfl ⟨(.ni _ rfl), (.ni _ rfl), (.ni _ rfl), (.ni _ rfl), (.ni _ rfl), (.ni _ rfl), (.ni _ rfl), (.ni _ rfl), (.ni _ rfl), (.ni _ rfl), (.ni _ rfl), (.ni _ rfl), (.ni _ rfl), (.ni _ rfl), (.ni _ rfl), (.ni _ rfl), (.ni _ rfl), (.ni _ rfl), (.ni _ rfl), (.ni _ rfl), (.ni _ rfl), (.ni _ rfl), (.ni _ rfl), (.ni _ rfl), (.ni _ rfl), (.ni _ rfl), (.ni _ rfl), (.ni _ rfl), (.ni _ rfl), (.ni _ rfl), trivial⟩, trivial⟩⟩
            · replace hL1 := cond_f hb_27 hL1
              conv => whnf
              refine ⟨by kernel_rfl, ?_⟩
              conv => whnf
              refine ⟨((k_3 + 1 : Nat) : Int), wrapE (by omega) (by omega) (by omega), ?_⟩
              conv => whnf
              exact ⟨(k_3 + 1, i_1), [0], [], [], ⟨hlt_k_3, hL1⟩, by show x_2.length - (k_3 + 1) < x_2.length - k_3; omega, wk_mk [0] [] [] rfl ⟨argE (by (conv => lhs; whnf); all_goals rfl) rfl, argE (by (conv => lhs; whnf); all_goals rfl) rfl, argP (id := 0) (by (conv => lhs; whnf); all_goals rfl) rfl, argE (by (conv => lhs; whnf); all_goals rfl) rfl, argE (by (conv => lhs; whnf); all_goals rfl) rfl, argE (by (conv => lhs; whnf); all_goals rfl) rfl, argE (by (conv => lhs; whnf); all_goals rfl) rfl, trivial⟩ ⟨boxL rfl rfl rfl ⟨(.ni _ rfl), (.ni _ rfl), (.ni _ rfl), (.ni _ rfl), (.ni _ rfl), (.ni _ rfl), (.ni _ rfl), (.ni _ rfl), (.ni _ rfl), (.ni _ rfl), (.ni _ rfl), (.ni _ rfl), (.ni _ rfl), (.ni _ rfl), (.ni _ rfl), (.ni _ rfl), (.ni _ rfl), (.ni _ rfl), (.ni _ rfl), (.ni _ rfl), (.ni _ rfl), (.ni _ rfl), (.ni _ rfl), (.ni _ rfl), (.ni _ rfl), (.ni _ rfl), (.ni _ rfl), (.ni _ rfl), (.ni _ rfl), (.ni _ rfl), trivial⟩, trivial⟩⟩
          · cases (hb_25).symm.trans h
    · replace hL1 := cond_f hb_25 hL1
      conv => whnf
      refine ⟨fun h => ?_, fun h => ?_⟩
      · conv => whnf
        obtain ⟨r_8, h_r_8, hL1⟩ := bind_some hL1
        refine ⟨_, _, _, _, _, _, _, _, callX false [] [] Try.func70 (by decide) rfl (registry_fresh_ac x_1 r_8 h_r_8) rfl ⟨(argE (by (conv => lhs; whnf); all_goals rfl) rfl), trivial⟩ rfl trivial rfl rfl rfl lend0 trivial, ?_⟩
        conv => whnf
        refine ⟨fun hb_29 => ?_, fun hb_29 => ?_⟩
        · replace hL1 := cond_t hb_29 hL1
          conv => whnf
          obtain rfl := Option.some.inj hL1
          replace hF := fin_ret hF
          obtain rfl := Option.some.inj hF
          exact ret_gz [] [] [] rfl (argE (by (conv => lhs; whnf); all_goals rfl) rfl) trivial
        · replace hL1 := cond_f hb_29 hL1
          conv => whnf
          refine ⟨fun h => ?_, fun h => ?_⟩
          · cases (hb_25).symm.trans h
          · conv => whnf
            refine ⟨by kernel_rfl, ?_⟩
            conv => whnf
            refine ⟨((k_3 + 1 : Nat) : Int), wrapE (by omega) (by omega) (by omega), ?_⟩
            conv => whnf
            exact ⟨(k_3 + 1, i_1), [0], [], [], ⟨hlt_k_3, hL1⟩, by show x_2.length - (k_3 + 1) < x_2.length - k_3; omega, wk_mk [0] [] [] rfl ⟨argE (by (conv => lhs; whnf); all_goals rfl) rfl, argE (by (conv => lhs; whnf); all_goals rfl) rfl, argP (id := 0) (by (conv => lhs; whnf); all_goals rfl) rfl, argE (by (conv => lhs; whnf); all_goals rfl) rfl, argE (by (conv => lhs; whnf); all_goals rfl) rfl, argE (by (conv => lhs; whnf); all_goals rfl) rfl, argE (by (conv => lhs; whnf); all_goals rfl) rfl, trivial⟩ ⟨boxL rfl rfl rfl ⟨(.ni _ rfl), (.ni _ rfl), (.ni _ rfl), (.ni _ rfl), (.ni _ rfl), (.ni _ rfl), (.ni _ rfl), (.ni _ rfl), (.ni _ rfl), (.ni _ rfl), (.ni _ rfl), (.ni _ rfl), (.ni _ rfl), (.ni _ rfl), (.ni _ rfl), (.ni _ rfl), (.ni _ rfl), (.ni _ rfl), (.ni _ rfl), (.ni _ rfl), (.ni _ rfl), (.ni _ rfl), (.ni _ rfl), (.ni _ rfl), (.ni _ rfl), (.ni _ rfl), (.ni _ rfl), (.ni _ rfl), (.ni _ rfl), (.ni _ rfl), trivial⟩, trivial⟩⟩
      · cases (not_kn (hb_25)).symm.trans h
  · rw [drop_nil (show x_2.length ≤ k_3 by have h := of_decide_eq_false h; omega), registry_refused_L1.eq_1] at hL1
    conv => whnf
    obtain rfl := Option.some.inj hL1
    replace hF := fin_brk hF
    try dsimp only at hF
    obtain ⟨r_11, h_r_11, hF⟩ := bind_some hF
    refine ⟨_, _, _, _, _, _, _, _, callX false [] [] Try.func70 (by decide) rfl (registry_fresh_ac x_1 r_11 h_r_11) rfl ⟨(argE (by (conv => lhs; whnf); all_goals rfl) rfl), trivial⟩ rfl trivial rfl rfl rfl lend0 trivial, ?_⟩
    conv => whnf
    refine ⟨fun hb_30 => ?_, fun hb_30 => ?_⟩
    · replace hF := cond_t hb_30 hF
      conv => whnf
      refine len_q (enc := encBag) (l := x_0) rfl ?_
      conv => whnf
      refine len_q (enc := encPlate) (l := x_2) rfl ?_
      conv => whnf
      refine ⟨_, rfl, ?_⟩
      conv => whnf
      refine ⟨fun hb_31 => ?_, fun hb_31 => ?_⟩
      · replace hF := cond_t hb_31 hF
        conv => whnf
        obtain rfl := Option.some.inj hF
        exact ret_gz [] [] [] rfl (argE (by (conv => lhs; whnf); all_goals rfl) rfl) trivial
      · replace hF := cond_f hb_31 hF
        conv => whnf
        obtain rfl := Option.some.inj hF
        exact ret_gz [] [] [] rfl (argE (by (conv => lhs; whnf); all_goals rfl) rfl) trivial
    · replace hF := cond_f hb_30 hF
      conv => whnf
      obtain rfl := Option.some.inj hF
      exact ret_gz [] [] [] rfl (argE (by (conv => lhs; whnf); all_goals rfl) rfl) trivial
end Go.Proofs.Ytkliakcegihikaa.Ex
