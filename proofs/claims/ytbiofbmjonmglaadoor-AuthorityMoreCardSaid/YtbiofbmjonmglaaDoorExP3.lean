/- The functions of the program compute what was printed; walks printed by a program. -/
import Derived.Test.YtbiofbmjonmglaaDoorExF
import Derived.Test.YtbiofbmjonmglaaDoorExP1
import Derived.Test.YtbiofbmjonmglaaDoorExP2
namespace Go.Proofs.YtbiofbmjonmglaaDoor.Ex
open Go.RowKit Go.Proofs.YtbiofbmjonmglaaDoor.Ax
set_option linter.unusedVariables false
set_option linter.unusedSimpArgs false
set_option maxRecDepth 100000 in
set_option maxHeartbeats 40000000 in
theorem law26_awake_ac (r : Bool) (hF : law26_awake = some r) : AC Tryd.prog 21 [] [] (.bool r) [] := by
  refine ac_of tab_ok follows_ok Tryd.func21 rfl Tryd.ntmps21 rfl ?_
  unfold law26_awake at hF
  conv => whnf
  obtain ⟨r_1, h_r_1, hF⟩ := bind_some hF
  refine ⟨_, _, _, _, _, _, _, _, _, callX false [] [] 0 Tryd.func28 (by decide) rfl (keep_Flights_ac (0 : Int) r_1 h_r_1) rfl ⟨(argE (by (conv => lhs; whnf); all_goals rfl) rfl), trivial⟩ rfl trivial rfl rfl rfl lend0 trivial rfl, ?_⟩
  conv => whnf
  obtain ⟨r_2, h_r_2, hF⟩ := bind_some hF
  refine ⟨_, _, _, _, _, _, _, _, _, callX false [] [] 0 Tryd.func17 (by decide) rfl (law26_flights_ac r_2 h_r_2) rfl trivial rfl trivial rfl rfl rfl lend0 trivial rfl, ?_⟩
  conv => whnf
  obtain ⟨r_3, h_r_3, hF⟩ := bind_some hF
  refine ⟨_, _, _, _, _, _, _, _, _, callX false [] [] 0 Tryd.func14 (by decide) rfl (law26_bag_ac (3 : Int) r_3 h_r_3) rfl ⟨(argE (by (conv => lhs; whnf); all_goals rfl) rfl), trivial⟩ rfl trivial rfl rfl rfl lend0 trivial rfl, ?_⟩
  conv => whnf
  obtain ⟨r_4, h_r_4, hF⟩ := bind_some hF
  refine ⟨_, _, _, _, _, _, _, _, _, callX false [] [] 0 Tryd.func19 (by decide) rfl (authority_Decide_ac r_3 ([] : (List Manifest)) r_2 r_1 (20 : Int) false r_4 h_r_4) rfl ⟨(argE (by (conv => lhs; whnf); all_goals rfl) rfl), (argN (by (conv => lhs; whnf); all_goals rfl)), (argE (by (conv => lhs; whnf); all_goals rfl) rfl), (argE (by (conv => lhs; whnf); all_goals rfl) rfl), (argE (by (conv => lhs; whnf); all_goals rfl) rfl), (argFl (by (conv => lhs; whnf); all_goals rfl)), trivial⟩ rfl trivial rfl rfl rfl lend0 trivial rfl, ?_⟩
  conv => whnf
  refine ⟨by kernel_rfl, ?_⟩
  conv => whnf
  obtain ⟨r_5, h_r_5, hF⟩ := bind_some hF
  refine ⟨_, _, _, _, _, _, _, _, _, callX false [] [] 0 Tryd.func14 (by decide) rfl (law26_bag_ac (3 : Int) r_5 h_r_5) rfl ⟨(argE (by (conv => lhs; whnf); all_goals rfl) rfl), trivial⟩ rfl trivial rfl rfl rfl lend0 trivial rfl, ?_⟩
  conv => whnf
  obtain ⟨r_6, h_r_6, hF⟩ := bind_some hF
  refine ⟨_, _, _, _, _, _, _, _, _, callX false [] [] 0 Tryd.func19 (by decide) rfl (authority_Decide_ac r_5 ([] : (List Manifest)) r_2 r_1 (45 : Int) true r_6 h_r_6) rfl ⟨(argE (by (conv => lhs; whnf); all_goals rfl) rfl), (argN (by (conv => lhs; whnf); all_goals rfl)), (argE (by (conv => lhs; whnf); all_goals rfl) rfl), (argE (by (conv => lhs; whnf); all_goals rfl) rfl), (argE (by (conv => lhs; whnf); all_goals rfl) rfl), (argT (by (conv => lhs; whnf); all_goals rfl)), trivial⟩ rfl trivial rfl rfl rfl lend0 trivial rfl, ?_⟩
  conv => whnf
  refine ⟨by kernel_rfl, ?_⟩
  conv => whnf
  obtain ⟨r_7, h_r_7, hF⟩ := bind_some hF
  refine ⟨_, _, _, _, _, _, _, _, _, callX false [] [] 0 Tryd.func14 (by decide) rfl (law26_bag_ac (3 : Int) r_7 h_r_7) rfl ⟨(argE (by (conv => lhs; whnf); all_goals rfl) rfl), trivial⟩ rfl trivial rfl rfl rfl lend0 trivial rfl, ?_⟩
  conv => whnf
  obtain ⟨r_8, h_r_8, hF⟩ := bind_some hF
  refine ⟨_, _, _, _, _, _, _, _, _, callX true [] [11, 10] 0 Tryd.func26 (by decide) rfl (law26_list_ac ([([(3 : Int)] : List Int)] : List (List Int)) r_8 h_r_8) rfl ⟨(argOR 11 (by (conv => lhs; whnf); all_goals rfl) rfl rfl (RowsA.cons (cellsL (c' := [.lst 1 (([(3 : Int)] : List Int).map iA)]) rfl rfl ⟨(.osl 10 1 _ (by simp) rfl (map_ni (fun _ => ⟨rfl, rfl⟩) _)), trivial⟩) RowsA.nil) (by rfl) (map_ni (fun _ => ⟨rfl, rfl⟩) _)), trivial⟩ rfl trivial rfl rfl rfl giveU trivial rfl, ?_⟩
  conv => whnf
  obtain ⟨r_9, h_r_9, hF⟩ := bind_some hF
  refine ⟨_, _, _, _, _, _, _, _, _, callX false [] [] 0 Tryd.func19 (by decide) rfl (authority_Decide_ac r_7 r_8 r_2 r_1 (45 : Int) true r_9 h_r_9) rfl ⟨(argE (by (conv => lhs; whnf); all_goals rfl) rfl), (argE (by (conv => lhs; whnf); all_goals rfl) rfl), (argE (by (conv => lhs; whnf); all_goals rfl) rfl), (argE (by (conv => lhs; whnf); all_goals rfl) rfl), (argE (by (conv => lhs; whnf); all_goals rfl) rfl), (argT (by (conv => lhs; whnf); all_goals rfl)), trivial⟩ rfl trivial rfl rfl rfl lend0 trivial rfl, ?_⟩
  conv => whnf
  refine ⟨by kernel_rfl, ?_⟩
  conv => whnf
  obtain ⟨r_10, h_r_10, hF⟩ := bind_some hF
  refine ⟨_, _, _, _, _, _, _, _, _, callX false [] [] 0 Tryd.func14 (by decide) rfl (law26_bag_ac (3 : Int) r_10 h_r_10) rfl ⟨(argE (by (conv => lhs; whnf); all_goals rfl) rfl), trivial⟩ rfl trivial rfl rfl rfl lend0 trivial rfl, ?_⟩
  conv => whnf
  obtain ⟨r_11, h_r_11, hF⟩ := bind_some hF
  refine ⟨_, _, _, _, _, _, _, _, _, callX true [] [18, 16, 17] 0 Tryd.func26 (by decide) rfl (law26_list_ac ([([(3 : Int)] : List Int), ([(4 : Int)] : List Int)] : List (List Int)) r_11 h_r_11) rfl ⟨(argOR 18 (by (conv => lhs; whnf); all_goals rfl) rfl rfl (RowsA.cons (cellsL (c' := [.lst 1 (([(3 : Int)] : List Int).map iA)]) rfl rfl ⟨(.osl 16 1 _ (by simp) rfl (map_ni (fun _ => ⟨rfl, rfl⟩) _)), trivial⟩) (RowsA.cons (cellsL (c' := [.lst 1 (([(4 : Int)] : List Int).map iA)]) rfl rfl ⟨(.osl 17 1 _ (by simp) rfl (map_ni (fun _ => ⟨rfl, rfl⟩) _)), trivial⟩) RowsA.nil)) (by rfl) (map_ni (fun _ => ⟨rfl, rfl⟩) _)), trivial⟩ rfl trivial rfl rfl rfl giveU trivial rfl, ?_⟩
  conv => whnf
  obtain ⟨r_12, h_r_12, hF⟩ := bind_some hF
  refine ⟨_, _, _, _, _, _, _, _, _, callX false [] [] 0 Tryd.func19 (by decide) rfl (authority_Decide_ac r_10 r_11 r_2 r_1 (45 : Int) true r_12 h_r_12) rfl ⟨(argE (by (conv => lhs; whnf); all_goals rfl) rfl), (argE (by (conv => lhs; whnf); all_goals rfl) rfl), (argE (by (conv => lhs; whnf); all_goals rfl) rfl), (argE (by (conv => lhs; whnf); all_goals rfl) rfl), (argE (by (conv => lhs; whnf); all_goals rfl) rfl), (argT (by (conv => lhs; whnf); all_goals rfl)), trivial⟩ rfl trivial rfl rfl rfl lend0 trivial rfl, ?_⟩
  conv => whnf
  refine ⟨by kernel_rfl, ?_⟩
  conv => whnf
  obtain ⟨r_13, h_r_13, hF⟩ := bind_some hF
  refine ⟨_, _, _, _, _, _, _, _, _, callX false [] [] 0 Tryd.func14 (by decide) rfl (law26_bag_ac (3 : Int) r_13 h_r_13) rfl ⟨(argE (by (conv => lhs; whnf); all_goals rfl) rfl), trivial⟩ rfl trivial rfl rfl rfl lend0 trivial rfl, ?_⟩
  conv => whnf
  obtain ⟨r_14, h_r_14, hF⟩ := bind_some hF
  refine ⟨_, _, _, _, _, _, _, _, _, callX true [] [26, 24, 25] 0 Tryd.func26 (by decide) rfl (law26_list_ac ([([(3 : Int)] : List Int), ([(4 : Int)] : List Int)] : List (List Int)) r_14 h_r_14) rfl ⟨(argOR 26 (by (conv => lhs; whnf); all_goals rfl) rfl rfl (RowsA.cons (cellsL (c' := [.lst 1 (([(3 : Int)] : List Int).map iA)]) rfl rfl ⟨(.osl 24 1 _ (by simp) rfl (map_ni (fun _ => ⟨rfl, rfl⟩) _)), trivial⟩) (RowsA.cons (cellsL (c' := [.lst 1 (([(4 : Int)] : List Int).map iA)]) rfl rfl ⟨(.osl 25 1 _ (by simp) rfl (map_ni (fun _ => ⟨rfl, rfl⟩) _)), trivial⟩) RowsA.nil)) (by rfl) (map_ni (fun _ => ⟨rfl, rfl⟩) _)), trivial⟩ rfl trivial rfl rfl rfl giveU trivial rfl, ?_⟩
  conv => whnf
  obtain ⟨r_15, h_r_15, hF⟩ := bind_some hF
  refine ⟨_, _, _, _, _, _, _, _, _, callX false [] [] 0 Tryd.func19 (by decide) rfl (authority_Decide_ac (⟨r_13.Known, (⟨r_13.Bag.Plate, r_13.Bag.In, r_13.Bag.Out, r_13.Bag.Onward, r_13.Bag.Sequence, r_13.Bag.Status, r_13.Bag.Weight, r_13.Bag.Load, r_13.Bag.Surname, r_13.Bag.Given, (1 : Int), r_13.Bag.Node, r_13.Bag.Unloaded⟩ : Bag), r_13.Copies, r_13.Cleared⟩ : Facts) r_14 r_2 r_1 (45 : Int) true r_15 h_r_15) rfl ⟨(argE (by (conv => lhs; whnf); all_goals rfl) rfl), (argE (by (conv => lhs; whnf); all_goals rfl) rfl), (argE (by (conv => lhs; whnf); all_goals rfl) rfl), (argE (by (conv => lhs; whnf); all_goals rfl) rfl), (argE (by (conv => lhs; whnf); all_goals rfl) rfl), (argT (by (conv => lhs; whnf); all_goals rfl)), trivial⟩ rfl trivial rfl rfl rfl lend0 trivial rfl, ?_⟩
  conv => whnf
  refine ⟨by kernel_rfl, ?_⟩
  conv => whnf
  refine ⟨fun hb_5 => ?_, fun hb_5 => ?_⟩
  · replace hF := cond_t hb_5 hF
    conv => whnf
    refine ⟨fun hb_6 => ?_, fun hb_6 => ?_⟩
    · replace hF := cond_t hb_6 hF
      conv => whnf
      refine ⟨fun hb_7 => ?_, fun hb_7 => ?_⟩
      · replace hF := cond_t hb_7 hF
        conv => whnf
        refine ⟨fun hb_8 => ?_, fun hb_8 => ?_⟩
        · replace hF := cond_t hb_8 hF
          conv => whnf
          obtain rfl := Option.some.inj hF
          exact ret_gz [] [] [] rfl (argE (by (conv => lhs; whnf); all_goals rfl) rfl) trivial
        · replace hF := cond_f hb_8 hF
          conv => whnf
          obtain rfl := Option.some.inj hF
          exact ret_gz [] [] [] rfl (argFl (by (conv => lhs; whnf); all_goals rfl)) trivial
      · replace hF := cond_f hb_7 hF
        conv => whnf
        obtain rfl := Option.some.inj hF
        exact ret_gz [] [] [] rfl (argFl (by (conv => lhs; whnf); all_goals rfl)) trivial
    · replace hF := cond_f hb_6 hF
      conv => whnf
      obtain rfl := Option.some.inj hF
      exact ret_gz [] [] [] rfl (argFl (by (conv => lhs; whnf); all_goals rfl)) trivial
  · replace hF := cond_f hb_5 hF
    conv => whnf
    obtain rfl := Option.some.inj hF
    exact ret_gz [] [] [] rfl (argFl (by (conv => lhs; whnf); all_goals rfl)) trivial

set_option maxRecDepth 100000 in
set_option maxHeartbeats 40000000 in
theorem keep_In_ac (x_0 : (List Int)) (x_1 : Int) (r : Bool) (hF : keep_In x_0 x_1 = some r) : AC Tryd.prog 25 [.lst 1 (x_0.map iA), .int .i64 x_1] [] (.bool r) [] := by
  refine ac_of tab_ok follows_ok Tryd.func25 rfl Tryd.ntmps25 rfl ?_
  unfold keep_In at hF
  conv => whnf
  obtain ⟨c_1, hc_1, hF⟩ := fin_some hF
  refine sw_bv 0 (v := .lst 1 (x_0.map iA)) (by (conv => lhs; whnf); all_goals rfl) (fun hb => ?_)
  have hbd_k_2 : x_0.length ≤ 9223372036854775807 := bnd_len (enc := iA) (hb)
  refine sw_loop tab_ok follows_ok (fun y : Nat => y ≤ x_0.length ∧ keep_In_L1 x_1 (x_0.drop y) y = some c_1) (fun y => ⟨eL [(0, .lst 1 (x_0.map iA)), (1, .int .i64 x_1), (5, .int .i64 (y : Int))], hL [], 0⟩) (fun y => x_0.length - y) 0 ⟨Nat.zero_le _, hc_1⟩ (wk_mk [] [] [] rfl ⟨argE (by (conv => lhs; whnf); all_goals rfl) rfl, argE (by (conv => lhs; whnf); all_goals rfl) rfl, argE (by (conv => lhs; whnf); all_goals rfl) rfl, trivial⟩ trivial) ?_
  rintro k_2 ⟨hk_k_2, hL1⟩
  try dsimp only at hk_k_2 hL1
  show awp _ _ _ _ _ _ ⟨eL [(0, .lst 1 (x_0.map iA)), (1, .int .i64 x_1), (5, .int .i64 (k_2 : Int))], hL [], 0⟩
  conv => whnf
  refine len_q (enc := iA) (l := x_0) rfl ?_
  conv => whnf
  refine ⟨fun h => ?_, fun h => ?_⟩
  · have hlt_k_2 : k_2 < x_0.length := by have h := of_decide_eq_true h; omega
    obtain ⟨e_3, h_e_3⟩ : ∃ y, x_0[k_2]? = some y := ⟨_, List.getElem?_eq_getElem hlt_k_2⟩
    rw [drop_cons h_e_3, keep_In_L1.eq_2] at hL1
    conv => whnf
    refine ⟨k_2, _, rfl, ix_map h_e_3, ?_⟩
    conv => whnf
    refine ⟨fun hb_7 => ?_, fun hb_7 => ?_⟩
    · replace hL1 := cond_t hb_7 hL1
      conv => whnf
      obtain rfl := Option.some.inj hL1
      replace hF := fin_ret hF
      obtain rfl := Option.some.inj hF
      exact ret_gz [] [] [] rfl (argT (by (conv => lhs; whnf); all_goals rfl)) trivial
    · replace hL1 := cond_f hb_7 hL1
      conv => whnf
      refine ⟨((k_2 + 1 : Nat) : Int), wrapE (by omega) (by omega) (by omega), ?_⟩
      conv => whnf
      exact ⟨k_2 + 1, [], [], [], ⟨hlt_k_2, hL1⟩, by show x_0.length - (k_2 + 1) < x_0.length - k_2; omega, wk_mk [] [] [] rfl ⟨argE (by (conv => lhs; whnf); all_goals rfl) rfl, argE (by (conv => lhs; whnf); all_goals rfl) rfl, argE (by (conv => lhs; whnf); all_goals rfl) rfl, trivial⟩ trivial⟩
  · rw [drop_nil (show x_0.length ≤ k_2 by have h := of_decide_eq_false h; omega), keep_In_L1.eq_1] at hL1
    conv => whnf
    obtain rfl := Option.some.inj hL1
    replace hF := fin_brk hF
    try dsimp only at hF
    obtain rfl := Option.some.inj hF
    exact ret_gz [] [] [] rfl (argFl (by (conv => lhs; whnf); all_goals rfl)) trivial

set_option maxRecDepth 100000 in
set_option maxHeartbeats 40000000 in
theorem authority_May_ac (x_0 : (List Ruling)) (x_1 : Plate) (r : Bool) (hF : authority_May x_0 x_1 = some r) : AC Tryd.prog 30 [.lst 6 (x_0.map encRuling), .agg (encPlate x_1)] [] (.bool r) [] := by
  refine ac_of tab_ok follows_ok Tryd.func30 rfl Tryd.ntmps30 rfl ?_
  unfold authority_May at hF
  conv => whnf
  refine len_q (enc := encRuling) (l := x_0) rfl ?_
  conv => whnf
  obtain ⟨c_1, hc_1, hF⟩ := fin_some hF
  refine sw_bv 0 (v := .lst 6 (x_0.map encRuling)) (by (conv => lhs; whnf); all_goals rfl) (fun hb => ?_)
  have hbd_k_2 : x_0.length ≤ 9223372036854775807 := bnd_len (enc := encRuling) (hb)
  refine sw_loop tab_ok follows_ok (fun y : Nat => y ≤ x_0.length ∧ authority_May_L1 x_1 (x_0.drop y) y = some c_1) (fun y => ⟨eL [(3, .ptr 0 0), (7, .lst 6 (x_0.map encRuling)), (8, .int .i64 (x_0.length : Int)), (9, .int .i64 (y : Int))], hL [(0, .box [.int .i64 x_1.Lead, .int .i64 x_1.Airline, .int .i64 x_1.Serial])], 1⟩) (fun y => x_0.length - y) 0 ⟨Nat.zero_le _, hc_1⟩ (wk_mk [0] [] [] rfl ⟨argP (id := 0) (by (conv => lhs; whnf); all_goals rfl) rfl, argE (by (conv => lhs; whnf); all_goals rfl) rfl, argE (by (conv => lhs; whnf); all_goals rfl) rfl, argE (by (conv => lhs; whnf); all_goals rfl) rfl, trivial⟩ ⟨boxL rfl rfl rfl ⟨(.ni _ rfl), (.ni _ rfl), (.ni _ rfl), trivial⟩, trivial⟩) ?_
  rintro k_2 ⟨hk_k_2, hL1⟩
  try dsimp only at hk_k_2 hL1
  show awp _ _ _ _ _ _ ⟨eL [(3, .ptr 0 0), (7, .lst 6 (x_0.map encRuling)), (8, .int .i64 (x_0.length : Int)), (9, .int .i64 (k_2 : Int))], hL [(0, .box [.int .i64 x_1.Lead, .int .i64 x_1.Airline, .int .i64 x_1.Serial])], 1⟩
  conv => whnf
  refine ⟨fun h => ?_, fun h => ?_⟩
  · have hlt_k_2 : k_2 < x_0.length := by have h := of_decide_eq_true h; omega
    obtain ⟨e_3, h_e_3⟩ : ∃ y, x_0[k_2]? = some y := ⟨_, List.getElem?_eq_getElem hlt_k_2⟩
    rw [drop_cons h_e_3, authority_May_L1.eq_2] at hL1
    conv => whnf
    refine ⟨k_2, _, rfl, ix_map h_e_3, ?_⟩
    conv => whnf
    refine ⟨fun hb_7 => ?_, fun hb_7 => ?_⟩
    · replace hL1 := cond_t hb_7 hL1
      conv => whnf
      obtain rfl := Option.some.inj hL1
      replace hF := fin_ret hF
      obtain rfl := Option.some.inj hF
      exact ret_gz [] [] [] rfl (argE (by (conv => lhs; whnf); all_goals rfl) rfl) trivial
    · replace hL1 := cond_f hb_7 hL1
      conv => whnf
      refine ⟨((k_2 + 1 : Nat) : Int), wrapE (by omega) (by omega) (by omega), ?_⟩
      conv => whnf
      exact ⟨k_2 + 1, [0], [], [], ⟨hlt_k_2, hL1⟩, by show x_0.length - (k_2 + 1) < x_0.length - k_2; omega, wk_mk [0] [] [] rfl ⟨argP (id := 0) (by (conv => lhs; whnf); all_goals rfl) rfl, argE (by (conv => lhs; whnf); all_goals rfl) rfl, argE (by (conv => lhs; whnf); all_goals rfl) rfl, argE (by (conv => lhs; whnf); all_goals rfl) rfl, trivial⟩ ⟨boxL rfl rfl rfl ⟨(.ni _ rfl), (.ni _ rfl), (.ni _ rfl), trivial⟩, trivial⟩⟩
  · rw [drop_nil (show x_0.length ≤ k_2 by have h := of_decide_eq_false h; omega), authority_May_L1.eq_1] at hL1
    conv => whnf
    obtain rfl := Option.some.inj hL1
    replace hF := fin_brk hF
    try dsimp only at hF
    obtain rfl := Option.some.inj hF
    exact ret_gz [] [] [] rfl (argFl (by (conv => lhs; whnf); all_goals rfl)) trivial

set_option maxRecDepth 100000 in
set_option maxHeartbeats 40000000 in
theorem ref26_May_ac (x_0 : (List Ruling)) (x_1 : Plate) (r : Bool) (hF : ref26_May x_0 x_1 = some r) : AC Tryd.prog 31 [.lst 6 (x_0.map encRuling), .agg (encPlate x_1)] [] (.bool r) [] := by
  refine ac_of tab_ok follows_ok Tryd.func31 rfl Tryd.ntmps31 rfl ?_
  unfold ref26_May at hF
  conv => whnf
  obtain ⟨c_1, hc_1, hF⟩ := fin_some hF
  refine sw_bv 0 (v := .lst 6 (x_0.map encRuling)) (by (conv => lhs; whnf); all_goals rfl) (fun hb => ?_)
  have hbd_k_2 : x_0.length ≤ 9223372036854775807 := bnd_len (enc := encRuling) (hb)
  refine sw_loop tab_ok follows_ok (fun y : Nat => y ≤ x_0.length ∧ ref26_May_L1 x_1 (x_0.drop y) y = some c_1) (fun y => ⟨eL [(0, .lst 6 (x_0.map encRuling)), (3, .ptr 0 0), (5, .int .i64 (y : Int))], hL [(0, .box [.int .i64 x_1.Lead, .int .i64 x_1.Airline, .int .i64 x_1.Serial])], 1⟩) (fun y => x_0.length - y) 0 ⟨Nat.zero_le _, hc_1⟩ (wk_mk [0] [] [] rfl ⟨argE (by (conv => lhs; whnf); all_goals rfl) rfl, argP (id := 0) (by (conv => lhs; whnf); all_goals rfl) rfl, argE (by (conv => lhs; whnf); all_goals rfl) rfl, trivial⟩ ⟨boxL rfl rfl rfl ⟨(.ni _ rfl), (.ni _ rfl), (.ni _ rfl), trivial⟩, trivial⟩) ?_
  rintro k_2 ⟨hk_k_2, hL1⟩
  try dsimp only at hk_k_2 hL1
  show awp _ _ _ _ _ _ ⟨eL [(0, .lst 6 (x_0.map encRuling)), (3, .ptr 0 0), (5, .int .i64 (k_2 : Int))], hL [(0, .box [.int .i64 x_1.Lead, .int .i64 x_1.Airline, .int .i64 x_1.Serial])], 1⟩
  conv => whnf
  refine len_q (enc := encRuling) (l := x_0) rfl ?_
  conv => whnf
  refine ⟨fun h => ?_, fun h => ?_⟩
  · have hlt_k_2 : k_2 < x_0.length := by have h := of_decide_eq_true h; omega
    obtain ⟨e_3, h_e_3⟩ : ∃ y, x_0[k_2]? = some y := ⟨_, List.getElem?_eq_getElem hlt_k_2⟩
    rw [drop_cons h_e_3, ref26_May_L1.eq_2] at hL1
    conv => whnf
    refine ⟨k_2, _, rfl, ix_map h_e_3, ?_⟩
    conv => whnf
    refine ⟨by kernel_rfl, ?_⟩
    conv => whnf
    refine ⟨fun hb_7 => ?_, fun hb_7 => ?_⟩
    · replace hL1 := cond_t hb_7 hL1
      conv => whnf
      refine ⟨k_2, _, rfl, ix_map h_e_3, ?_⟩
      conv => whnf
      obtain rfl := Option.some.inj hL1
      replace hF := fin_ret hF
      obtain rfl := Option.some.inj hF
      exact ret_gz [] [] [] rfl (argE (by (conv => lhs; whnf); all_goals rfl) rfl) trivial
    · replace hL1 := cond_f hb_7 hL1
      conv => whnf
      refine ⟨((k_2 + 1 : Nat) : Int), wrapE (by omega) (by omega) (by omega), ?_⟩
      conv => whnf
      exact ⟨k_2 + 1, [0], [], [], ⟨hlt_k_2, hL1⟩, by show x_0.length - (k_2 + 1) < x_0.length - k_2; omega, wk_mk [0] [] [] rfl ⟨argE (by (conv => lhs; whnf); all_goals rfl) rfl, argP (id := 0) (by (conv => lhs; whnf); all_goals rfl) rfl, argE (by (conv => lhs; whnf); all_goals rfl) rfl, trivial⟩ ⟨boxL rfl rfl rfl ⟨(.ni _ rfl), (.ni _ rfl), (.ni _ rfl), trivial⟩, trivial⟩⟩
  · rw [drop_nil (show x_0.length ≤ k_2 by have h := of_decide_eq_false h; omega), ref26_May_L1.eq_1] at hL1
    conv => whnf
    obtain rfl := Option.some.inj hL1
    replace hF := fin_brk hF
    try dsimp only at hF
    obtain rfl := Option.some.inj hF
    exact ret_gz [] [] [] rfl (argFl (by (conv => lhs; whnf); all_goals rfl)) trivial

set_option maxRecDepth 100000 in
set_option maxHeartbeats 40000000 in
theorem schedule_in_ac (x_0 : Int) (x_1 : Int) (x_2 : Int) (r : Bool) (hF : schedule_in x_0 x_1 x_2 = some r) : AC Tryd.prog 66 [.int .i64 x_0, .int .i64 x_1, .int .i64 x_2] [] (.bool r) [] := by
  refine ac_of tab_ok follows_ok Tryd.func66 rfl Tryd.ntmps66 rfl ?_
  unfold schedule_in at hF
  conv => whnf
  refine ⟨fun hb_2 => ?_, fun hb_2 => ?_⟩
  · replace hF := cond_t hb_2 hF
    conv => whnf
    obtain rfl := Option.some.inj hF
    exact ret_gz [] [] [] rfl (argE (by (conv => lhs; whnf); all_goals rfl) rfl) trivial
  · replace hF := cond_f hb_2 hF
    conv => whnf
    obtain rfl := Option.some.inj hF
    exact ret_gz [] [] [] rfl (argFl (by (conv => lhs; whnf); all_goals rfl)) trivial

set_option maxRecDepth 100000 in
set_option maxHeartbeats 40000000 in
theorem schedule_valid_ac (x_0 : Departure) (r : Bool) (hF : schedule_valid x_0 = some r) : AC Tryd.prog 52 [.agg (encDeparture x_0)] [] (.bool r) [] := by
  refine ac_of tab_ok follows_ok Tryd.func52 rfl Tryd.ntmps52 rfl ?_
  unfold schedule_valid at hF
  conv => whnf
  obtain ⟨r_1, h_r_1, hF⟩ := bind_some hF
  refine ⟨_, _, _, _, _, _, _, _, _, callX false [] [] 0 Tryd.func67 (by decide) rfl (flight_Valid_ac x_0.Flight r_1 h_r_1) rfl ⟨(argE (by (conv => lhs; whnf); all_goals rfl) rfl), trivial⟩ rfl trivial rfl rfl rfl lend0 trivial rfl, ?_⟩
  conv => whnf
  refine ⟨fun hb_9 => ?_, fun hb_9 => ?_⟩
  · replace hF := cond_f hb_9 hF
    conv => whnf
    obtain ⟨r_2, h_r_2, hF⟩ := bind_some hF
    refine ⟨_, _, _, _, _, _, _, _, _, callX false [] [] 0 Tryd.func68 (by decide) rfl (flight_ValidPort_ac x_0.Port r_2 h_r_2) rfl ⟨(argE (by (conv => lhs; whnf); all_goals rfl) rfl), trivial⟩ rfl trivial rfl rfl rfl lend0 trivial rfl, ?_⟩
    conv => whnf
    refine ⟨fun hb_10 => ?_, fun hb_10 => ?_⟩
    · replace hF := cond_t hb_10 hF
      conv => whnf
      obtain rfl := Option.some.inj hF
      exact ret_gz [] [] [] rfl (argFl (by (conv => lhs; whnf); all_goals rfl)) trivial
    · replace hF := cond_f hb_10 hF
      conv => whnf
      obtain ⟨r_3, h_r_3, hF⟩ := bind_some hF
      refine ⟨_, _, _, _, _, _, _, _, _, callX false [] [] 0 Tryd.func66 (by decide) rfl (schedule_in_ac x_0.Opens (0 : Int) (1048576 : Int) r_3 h_r_3) rfl ⟨(argE (by (conv => lhs; whnf); all_goals rfl) rfl), (argE (by (conv => lhs; whnf); all_goals rfl) rfl), (argE (by (conv => lhs; whnf); all_goals rfl) rfl), trivial⟩ rfl trivial rfl rfl rfl lend0 trivial rfl, ?_⟩
      conv => whnf
      refine ⟨fun hb_11 => ?_, fun hb_11 => ?_⟩
      · replace hF := cond_f hb_11 hF
        conv => whnf
        obtain ⟨r_4, h_r_4, hF⟩ := bind_some hF
        refine ⟨_, _, _, _, _, _, _, _, _, callX false [] [] 0 Tryd.func66 (by decide) rfl (schedule_in_ac x_0.Closes (0 : Int) (1048576 : Int) r_4 h_r_4) rfl ⟨(argE (by (conv => lhs; whnf); all_goals rfl) rfl), (argE (by (conv => lhs; whnf); all_goals rfl) rfl), (argE (by (conv => lhs; whnf); all_goals rfl) rfl), trivial⟩ rfl trivial rfl rfl rfl lend0 trivial rfl, ?_⟩
        conv => whnf
        refine ⟨fun hb_12 => ?_, fun hb_12 => ?_⟩
        · replace hF := cond_f hb_12 hF
          conv => whnf
          obtain ⟨r_5, h_r_5, hF⟩ := bind_some hF
          refine ⟨_, _, _, _, _, _, _, _, _, callX false [] [] 0 Tryd.func66 (by decide) rfl (schedule_in_ac x_0.Leaves (0 : Int) (1048576 : Int) r_5 h_r_5) rfl ⟨(argE (by (conv => lhs; whnf); all_goals rfl) rfl), (argE (by (conv => lhs; whnf); all_goals rfl) rfl), (argE (by (conv => lhs; whnf); all_goals rfl) rfl), trivial⟩ rfl trivial rfl rfl rfl lend0 trivial rfl, ?_⟩
          conv => whnf
          refine ⟨fun hb_13 => ?_, fun hb_13 => ?_⟩
          · replace hF := cond_f hb_13 hF
            conv => whnf
            refine ⟨fun hb_14 => ?_, fun hb_14 => ?_⟩
            · replace hF := cond_f hb_14 hF
              conv => whnf
              refine ⟨fun hb_15 => ?_, fun hb_15 => ?_⟩
              · replace hF := cond_t hb_15 hF
                conv => whnf
                obtain rfl := Option.some.inj hF
                exact ret_gz [] [] [] rfl (argFl (by (conv => lhs; whnf); all_goals rfl)) trivial
              · replace hF := cond_f hb_15 hF
                conv => whnf
                obtain ⟨r_6, h_r_6, hF⟩ := bind_some hF
                refine ⟨_, _, _, _, _, _, _, _, _, callX false [] [] 0 Tryd.func66 (by decide) rfl (schedule_in_ac x_0.Stand (0 : Int) (99 : Int) r_6 h_r_6) rfl ⟨(argE (by (conv => lhs; whnf); all_goals rfl) rfl), (argE (by (conv => lhs; whnf); all_goals rfl) rfl), (argE (by (conv => lhs; whnf); all_goals rfl) rfl), trivial⟩ rfl trivial rfl rfl rfl lend0 trivial rfl, ?_⟩
                conv => whnf
                refine ⟨fun hb_16 => ?_, fun hb_16 => ?_⟩
                · replace hF := cond_t hb_16 hF
                  conv => whnf
                  obtain ⟨r_7, h_r_7, hF⟩ := bind_some hF
                  refine ⟨_, _, _, _, _, _, _, _, _, callX false [] [] 0 Tryd.func66 (by decide) rfl (schedule_in_ac x_0.State (0 : Int) (2 : Int) r_7 h_r_7) rfl ⟨(argE (by (conv => lhs; whnf); all_goals rfl) rfl), (argE (by (conv => lhs; whnf); all_goals rfl) rfl), (argE (by (conv => lhs; whnf); all_goals rfl) rfl), trivial⟩ rfl trivial rfl rfl rfl lend0 trivial rfl, ?_⟩
                  conv => whnf
                  obtain rfl := Option.some.inj hF
                  exact ret_gz [] [] [] rfl (argE (by (conv => lhs; whnf); all_goals rfl) rfl) trivial
                · replace hF := cond_f hb_16 hF
                  conv => whnf
                  obtain rfl := Option.some.inj hF
                  exact ret_gz [] [] [] rfl (argFl (by (conv => lhs; whnf); all_goals rfl)) trivial
            · replace hF := cond_t hb_14 hF
              conv => whnf
              obtain rfl := Option.some.inj hF
              exact ret_gz [] [] [] rfl (argFl (by (conv => lhs; whnf); all_goals rfl)) trivial
          · replace hF := cond_t hb_13 hF
            conv => whnf
            obtain rfl := Option.some.inj hF
            exact ret_gz [] [] [] rfl (argFl (by (conv => lhs; whnf); all_goals rfl)) trivial
        · replace hF := cond_t hb_12 hF
          conv => whnf
          obtain rfl := Option.some.inj hF
          exact ret_gz [] [] [] rfl (argFl (by (conv => lhs; whnf); all_goals rfl)) trivial
      · replace hF := cond_t hb_11 hF
        conv => whnf
        obtain rfl := Option.some.inj hF
        exact ret_gz [] [] [] rfl (argFl (by (conv => lhs; whnf); all_goals rfl)) trivial
  · replace hF := cond_t hb_9 hF
    conv => whnf
    obtain rfl := Option.some.inj hF
    exact ret_gz [] [] [] rfl (argFl (by (conv => lhs; whnf); all_goals rfl)) trivial

set_option maxRecDepth 100000 in
set_option maxHeartbeats 40000000 in
theorem schedule_Validate_ac (x_0 : (List Departure)) (r : Int) (hF : schedule_Validate x_0 = some r) : AC Tryd.prog 48 [.lst 10 (x_0.map encDeparture)] [] (.int .i64 r) [] := by
  refine ac_of tab_ok follows_ok Tryd.func48 rfl Tryd.ntmps48 rfl ?_
  unfold schedule_Validate at hF
  conv => whnf
  refine len_q (enc := encDeparture) (l := x_0) rfl ?_
  conv => whnf
  refine ⟨fun hb_17 => ?_, fun hb_17 => ?_⟩
  · replace hF := cond_t hb_17 hF
    conv => whnf
    obtain rfl := Option.some.inj hF
    exact ret_gz [] [] [] rfl (argE (by (conv => lhs; whnf); all_goals rfl) rfl) trivial
  · replace hF := cond_f hb_17 hF
    conv => whnf
    refine len_q (enc := encDeparture) (l := x_0) rfl ?_
    conv => whnf
    obtain ⟨c_1, hc_1, hF⟩ := fin_some hF
    refine sw_bv 0 (v := .lst 10 (x_0.map encDeparture)) (by (conv => lhs; whnf); all_goals rfl) (fun hb => ?_)
    have hbd_k_2 : x_0.length ≤ 9223372036854775807 := bnd_len (enc := encDeparture) (hb)
    refine sw_loop tab_ok follows_ok (fun y : Nat => y ≤ x_0.length ∧ schedule_Validate_L1 x_0 (x_0.drop y) y = some c_1) (fun y => ⟨eL [(0, .lst 10 (x_0.map encDeparture)), (8, .lst 10 (x_0.map encDeparture)), (9, .int .i64 (x_0.length : Int)), (10, .int .i64 (y : Int))], hL [], 0⟩) (fun y => x_0.length - y) 0 ⟨Nat.zero_le _, hc_1⟩ (wk_mk [] [] [] rfl ⟨argE (by (conv => lhs; whnf); all_goals rfl) rfl, argE (by (conv => lhs; whnf); all_goals rfl) rfl, argE (by (conv => lhs; whnf); all_goals rfl) rfl, argE (by (conv => lhs; whnf); all_goals rfl) rfl, trivial⟩ trivial) ?_
    rintro k_2 ⟨hk_k_2, hL1⟩
    try dsimp only at hk_k_2 hL1
    show awp _ _ _ _ _ _ ⟨eL [(0, .lst 10 (x_0.map encDeparture)), (8, .lst 10 (x_0.map encDeparture)), (9, .int .i64 (x_0.length : Int)), (10, .int .i64 (k_2 : Int))], hL [], 0⟩
    conv => whnf
    refine ⟨fun h => ?_, fun h => ?_⟩
    · have hlt_k_2 : k_2 < x_0.length := by have h := of_decide_eq_true h; omega
      obtain ⟨e_3, h_e_3⟩ : ∃ y, x_0[k_2]? = some y := ⟨_, List.getElem?_eq_getElem hlt_k_2⟩
      rw [drop_cons h_e_3, schedule_Validate_L1.eq_2] at hL1
      conv => whnf
      refine ⟨k_2, _, rfl, ix_map h_e_3, ?_⟩
      conv => whnf
      obtain ⟨r_4, h_r_4, hL1⟩ := bind_some hL1
      refine ⟨_, _, _, _, _, _, _, _, _, callX false [] [] 0 Tryd.func52 (by decide) rfl (schedule_valid_ac e_3 r_4 h_r_4) rfl ⟨(argE (by (conv => lhs; whnf); all_goals rfl) rfl), trivial⟩ rfl trivial rfl rfl rfl lend0 trivial rfl, ?_⟩
      conv => whnf
      refine ⟨fun hb_18 => ?_, fun hb_18 => ?_⟩
      · replace hL1 := cond_t hb_18 hL1
        conv => whnf
        obtain rfl := Option.some.inj hL1
        replace hF := fin_ret hF
        obtain rfl := Option.some.inj hF
        exact ret_gz [] [] [] rfl (argE (by (conv => lhs; whnf); all_goals rfl) rfl) trivial
      · replace hL1 := cond_f hb_18 hL1
        conv => whnf
        refine ⟨fun hb_19 => ?_, fun hb_19 => ?_⟩
        · replace hL1 := cond_t hb_19 hL1
          conv => whnf
          refine ⟨((k_2 + 1 : Nat) : Int), wrapE (by omega) (by omega) (by omega), ?_⟩
          conv => whnf
          exact ⟨k_2 + 1, [], [], [], ⟨hlt_k_2, hL1⟩, by show x_0.length - (k_2 + 1) < x_0.length - k_2; omega, wk_mk [] [] [] rfl ⟨argE (by (conv => lhs; whnf); all_goals rfl) rfl, argE (by (conv => lhs; whnf); all_goals rfl) rfl, argE (by (conv => lhs; whnf); all_goals rfl) rfl, argE (by (conv => lhs; whnf); all_goals rfl) rfl, trivial⟩ trivial⟩
        · replace hL1 := cond_f hb_19 hL1
          conv => whnf
          refine ⟨_, rfl, ?_⟩
          conv => whnf
          obtain ⟨e_5, h_e_5, hL1⟩ := bind_some hL1
          refine ix_q (enc := encDeparture) (l := x_0) h_e_5 rfl (fun m_e_5 hm_e_5 hx_e_5 => ?_)
          conv => whnf
          obtain ⟨r_6, h_r_6, hL1⟩ := bind_some hL1
          refine ⟨_, _, _, _, _, _, _, _, _, callX false [] [] 0 Tryd.func58 (by decide) rfl (flight_Compare_ac e_5.Flight e_3.Flight r_6 h_r_6) rfl ⟨(argE (by (conv => lhs; whnf); all_goals rfl) rfl), (argE (by (conv => lhs; whnf); all_goals rfl) rfl), trivial⟩ rfl trivial rfl rfl rfl lend0 trivial rfl, ?_⟩
          conv => whnf
          refine ⟨by kernel_rfl, ?_⟩
          conv => whnf
          refine ⟨fun hb_20 => ?_, fun hb_20 => ?_⟩
          · replace hL1 := cond_t hb_20 hL1
            conv => whnf
            obtain rfl := Option.some.inj hL1
            replace hF := fin_ret hF
            obtain rfl := Option.some.inj hF
            exact ret_gz [] [] [] rfl (argE (by (conv => lhs; whnf); all_goals rfl) rfl) trivial
          · replace hL1 := cond_f hb_20 hL1
            conv => whnf
            refine ⟨fun hb_21 => ?_, fun hb_21 => ?_⟩
            · replace hL1 := cond_t hb_21 hL1
              conv => whnf
              obtain rfl := Option.some.inj hL1
              replace hF := fin_ret hF
              obtain rfl := Option.some.inj hF
              exact ret_gz [] [] [] rfl (argE (by (conv => lhs; whnf); all_goals rfl) rfl) trivial
            · replace hL1 := cond_f hb_21 hL1
              conv => whnf
              refine ⟨((k_2 + 1 : Nat) : Int), wrapE (by omega) (by omega) (by omega), ?_⟩
              conv => whnf
              exact ⟨k_2 + 1, [], [], [], ⟨hlt_k_2, hL1⟩, by show x_0.length - (k_2 + 1) < x_0.length - k_2; omega, wk_mk [] [] [] rfl ⟨argE (by (conv => lhs; whnf); all_goals rfl) rfl, argE (by (conv => lhs; whnf); all_goals rfl) rfl, argE (by (conv => lhs; whnf); all_goals rfl) rfl, argE (by (conv => lhs; whnf); all_goals rfl) rfl, trivial⟩ trivial⟩
    · rw [drop_nil (show x_0.length ≤ k_2 by have h := of_decide_eq_false h; omega), schedule_Validate_L1.eq_1] at hL1
      conv => whnf
      obtain rfl := Option.some.inj hL1
      replace hF := fin_brk hF
      try dsimp only at hF
      obtain rfl := Option.some.inj hF
      exact ret_gz [] [] [] rfl (argE (by (conv => lhs; whnf); all_goals rfl) rfl) trivial

set_option maxRecDepth 100000 in
set_option maxHeartbeats 40000000 in
theorem schedule_amount_ac (x_0 : Revision) (r : Bool) (hF : schedule_amount x_0 = some r) : AC Tryd.prog 50 [.agg (encRevision x_0)] [] (.bool r) [] := by
  refine ac_of tab_ok follows_ok Tryd.func50 rfl Tryd.ntmps50 rfl ?_
  unfold schedule_amount at hF
  conv => whnf
  refine ⟨fun hb_6 => ?_, fun hb_6 => ?_⟩
  · replace hF := cond_t hb_6 hF
    conv => whnf
    obtain ⟨r_1, h_r_1, hF⟩ := bind_some hF
    refine ⟨_, _, _, _, _, _, _, _, _, callX false [] [] 0 Tryd.func66 (by decide) rfl (schedule_in_ac x_0.Amount (1 : Int) (1048576 : Int) r_1 h_r_1) rfl ⟨(argE (by (conv => lhs; whnf); all_goals rfl) rfl), (argE (by (conv => lhs; whnf); all_goals rfl) rfl), (argE (by (conv => lhs; whnf); all_goals rfl) rfl), trivial⟩ rfl trivial rfl rfl rfl lend0 trivial rfl, ?_⟩
    conv => whnf
    obtain rfl := Option.some.inj hF
    exact ret_gz [] [] [] rfl (argE (by (conv => lhs; whnf); all_goals rfl) rfl) trivial
  · replace hF := cond_f hb_6 hF
    conv => whnf
    refine ⟨fun hb_7 => ?_, fun hb_7 => ?_⟩
    · replace hF := cond_t hb_7 hF
      conv => whnf
      obtain ⟨r_2, h_r_2, hF⟩ := bind_some hF
      refine ⟨_, _, _, _, _, _, _, _, _, callX false [] [] 0 Tryd.func66 (by decide) rfl (schedule_in_ac x_0.Amount (0 : Int) (1048576 : Int) r_2 h_r_2) rfl ⟨(argE (by (conv => lhs; whnf); all_goals rfl) rfl), (argE (by (conv => lhs; whnf); all_goals rfl) rfl), (argE (by (conv => lhs; whnf); all_goals rfl) rfl), trivial⟩ rfl trivial rfl rfl rfl lend0 trivial rfl, ?_⟩
      conv => whnf
      obtain rfl := Option.some.inj hF
      exact ret_gz [] [] [] rfl (argE (by (conv => lhs; whnf); all_goals rfl) rfl) trivial
    · replace hF := cond_f hb_7 hF
      conv => whnf
      refine ⟨fun hb_8 => ?_, fun hb_8 => ?_⟩
      · replace hF := cond_t hb_8 hF
        conv => whnf
        obtain ⟨r_3, h_r_3, hF⟩ := bind_some hF
        refine ⟨_, _, _, _, _, _, _, _, _, callX false [] [] 0 Tryd.func66 (by decide) rfl (schedule_in_ac x_0.Amount (0 : Int) (99 : Int) r_3 h_r_3) rfl ⟨(argE (by (conv => lhs; whnf); all_goals rfl) rfl), (argE (by (conv => lhs; whnf); all_goals rfl) rfl), (argE (by (conv => lhs; whnf); all_goals rfl) rfl), trivial⟩ rfl trivial rfl rfl rfl lend0 trivial rfl, ?_⟩
        conv => whnf
        obtain rfl := Option.some.inj hF
        exact ret_gz [] [] [] rfl (argE (by (conv => lhs; whnf); all_goals rfl) rfl) trivial
      · replace hF := cond_f hb_8 hF
        conv => whnf
        refine ⟨fun hb_9 => ?_, fun hb_9 => ?_⟩
        · replace hF := cond_t hb_9 hF
          conv => whnf
          refine ⟨fun h => ?_, fun h => ?_⟩
          · conv => whnf
            obtain rfl := Option.some.inj hF
            exact ret_gz [] [] [] rfl (argE (by (conv => lhs; whnf); all_goals rfl) rfl) trivial
          · cases (hb_9).symm.trans h
        · replace hF := cond_f hb_9 hF
          conv => whnf
          refine ⟨fun hb_10 => ?_, fun hb_10 => ?_⟩
          · replace hF := cond_t hb_10 hF
            conv => whnf
            obtain rfl := Option.some.inj hF
            exact ret_gz [] [] [] rfl (argE (by (conv => lhs; whnf); all_goals rfl) rfl) trivial
          · replace hF := cond_f hb_10 hF
            conv => whnf
            obtain rfl := Option.some.inj hF
            exact ret_gz [] [] [] rfl (argFl (by (conv => lhs; whnf); all_goals rfl)) trivial

set_option maxRecDepth 100000 in
set_option maxHeartbeats 40000000 in
theorem schedule_revised_ac (x_0 : Departure) (x_1 : Revision) (r : Departure) (hF : schedule_revised x_0 x_1 = some r) : AC Tryd.prog 51 [.agg (encDeparture x_0), .agg (encRevision x_1)] [] (.agg (encDeparture r)) [] := by
  refine ac_of tab_ok follows_ok Tryd.func51 rfl Tryd.ntmps51 rfl ?_
  unfold schedule_revised at hF
  conv => whnf
  refine ⟨fun hb_5 => ?_, fun hb_5 => ?_⟩
  · replace hF := cond_t hb_5 hF
    conv => whnf
    refine ⟨_, rfl, ?_⟩
    conv => whnf
    refine ⟨_, rfl, ?_⟩
    conv => whnf
    obtain rfl := Option.some.inj hF
    exact ret_gz [] [] [] rfl (argE (by (conv => lhs; whnf); all_goals rfl) rfl) trivial
  · replace hF := cond_f hb_5 hF
    conv => whnf
    refine ⟨fun hb_6 => ?_, fun hb_6 => ?_⟩
    · replace hF := cond_t hb_6 hF
      conv => whnf
      obtain rfl := Option.some.inj hF
      exact ret_gz [] [] [] rfl (argE (by (conv => lhs; whnf); all_goals rfl) rfl) trivial
    · replace hF := cond_f hb_6 hF
      conv => whnf
      refine ⟨fun hb_7 => ?_, fun hb_7 => ?_⟩
      · replace hF := cond_t hb_7 hF
        conv => whnf
        obtain rfl := Option.some.inj hF
        exact ret_gz [] [] [] rfl (argE (by (conv => lhs; whnf); all_goals rfl) rfl) trivial
      · replace hF := cond_f hb_7 hF
        conv => whnf
        refine ⟨fun hb_8 => ?_, fun hb_8 => ?_⟩
        · replace hF := cond_t hb_8 hF
          conv => whnf
          obtain rfl := Option.some.inj hF
          exact ret_gz [] [] [] rfl (argE (by (conv => lhs; whnf); all_goals rfl) rfl) trivial
        · replace hF := cond_f hb_8 hF
          conv => whnf
          obtain rfl := Option.some.inj hF
          exact ret_gz [] [] [] rfl (argE (by (conv => lhs; whnf); all_goals rfl) rfl) trivial

set_option maxRecDepth 100000 in
set_option maxHeartbeats 40000000 in
theorem schedule_with_ac (x_0 : (List Departure)) (x_1 : Int) (x_2 : Departure) (r : (List Departure)) (hF : schedule_with x_0 x_1 x_2 = some r) : AC Tryd.prog 53 [.lst 10 (x_0.map encDeparture), .int .i64 x_1, .agg (encDeparture x_2)] [] (.lst 10 (r.map encDeparture)) [] := by
  refine ac_of tab_ok follows_ok Tryd.func53 rfl Tryd.ntmps53 rfl ?_
  unfold schedule_with at hF
  conv => whnf
  refine len_q (enc := encDeparture) (l := x_0) rfl ?_
  conv => whnf
  obtain ⟨l_1, h_l_1, hF⟩ := bind_some hF
  refine mk_q (enc := encDeparture) h_l_1 rfl (by decide) ?_
  conv => whnf
  obtain ⟨l_2, h_l_2, hF⟩ := bind_some hF
  refine cp_q (enc := encDeparture) (l := l_1) (y := x_0) h_l_2 (by simp) rfl ?_
  conv => whnf
  obtain ⟨e_3, h_e_3, hF⟩ := bind_some hF
  refine ixo_q (enc := encDeparture) (l := l_2) h_e_3 rfl (fun m_e_3 hm_e_3 hx_e_3 => ?_)
  conv => whnf
  refine st_q (enc := encDeparture) (l := l_2) (x' := x_2) (i := x_1) hm_e_3 hx_e_3 rfl (Nat.le_of_ble_eq_true rfl) rfl ?_
  conv => whnf
  obtain rfl := Option.some.inj hF
  exact ret_gz [] [] [1] rfl (argOL 1 (by (conv => lhs; whnf); all_goals rfl) rfl rfl (map_ni (fun _ => ⟨rfl, rfl⟩) _)) trivial

set_option maxRecDepth 100000 in
set_option maxHeartbeats 40000000 in
theorem schedule_Apply_ac (x_0 : (List Departure)) (x_1 : Revision) (x_2 : Int) (r : (List Departure) × Int) (hF : schedule_Apply x_0 x_1 x_2 = some r) : AC Tryd.prog 32 [.lst 10 (x_0.map encDeparture), .agg (encRevision x_1), .int .i64 x_2] [] (.tup [.lst 10 (r.1.map encDeparture), .int .i64 r.2]) [] := by
  refine ac_of tab_ok follows_ok Tryd.func32 rfl Tryd.ntmps32 rfl ?_
  unfold schedule_Apply at hF
  conv => whnf
  obtain ⟨r_1, h_r_1, hF⟩ := bind_some hF
  refine ⟨_, _, _, _, _, _, _, _, _, callX false [] [] 0 Tryd.func48 (by decide) rfl (schedule_Validate_ac x_0 r_1 h_r_1) rfl ⟨(argE (by (conv => lhs; whnf); all_goals rfl) rfl), trivial⟩ rfl trivial rfl rfl rfl lend0 trivial rfl, ?_⟩
  conv => whnf
  refine ⟨fun hb_29 => ?_, fun hb_29 => ?_⟩
  · replace hF := cond_t hb_29 hF
    conv => whnf
    obtain rfl := Option.some.inj hF
    exact ret_gz [] [] [] rfl (tupL rfl ⟨(argN (by (conv => lhs; whnf); all_goals rfl)), (argE (by (conv => lhs; whnf); all_goals rfl) rfl), trivial⟩) trivial
  · replace hF := cond_f hb_29 hF
    conv => whnf
    refine ⟨fun hb_30 => ?_, fun hb_30 => ?_⟩
    · replace hF := cond_t hb_30 hF
      conv => whnf
      obtain ⟨r_2, h_r_2, hF⟩ := bind_some hF
      refine ⟨_, _, _, _, _, _, _, _, _, callX false [] [] 0 Tryd.func49 (by decide) rfl (schedule_Find_ac x_0 x_1.Flight r_2 h_r_2) rfl ⟨(argE (by (conv => lhs; whnf); all_goals rfl) rfl), (argE (by (conv => lhs; whnf); all_goals rfl) rfl), trivial⟩ rfl trivial rfl rfl rfl lend0 trivial rfl, ?_⟩
      conv => whnf
      refine ⟨fun hb_31 => ?_, fun hb_31 => ?_⟩
      · replace hF := cond_t hb_31 hF
        conv => whnf
        obtain rfl := Option.some.inj hF
        exact ret_gz [] [] [] rfl (tupL rfl ⟨(argN (by (conv => lhs; whnf); all_goals rfl)), (argE (by (conv => lhs; whnf); all_goals rfl) rfl), trivial⟩) trivial
      · replace hF := cond_f hb_31 hF
        conv => whnf
        obtain ⟨e_3, h_e_3, hF⟩ := bind_some hF
        refine ix_q (enc := encDeparture) (l := x_0) h_e_3 rfl (fun m_e_3 hm_e_3 hx_e_3 => ?_)
        conv => whnf
        refine ⟨fun hb_32 => ?_, fun hb_32 => ?_⟩
        · replace hF := cond_t hb_32 hF
          conv => whnf
          obtain rfl := Option.some.inj hF
          exact ret_gz [] [] [] rfl (tupL rfl ⟨(argN (by (conv => lhs; whnf); all_goals rfl)), (argE (by (conv => lhs; whnf); all_goals rfl) rfl), trivial⟩) trivial
        · replace hF := cond_f hb_32 hF
          conv => whnf
          obtain ⟨r_4, h_r_4, hF⟩ := bind_some hF
          refine ⟨_, _, _, _, _, _, _, _, _, callX false [] [] 0 Tryd.func50 (by decide) rfl (schedule_amount_ac x_1 r_4 h_r_4) rfl ⟨(argE (by (conv => lhs; whnf); all_goals rfl) rfl), trivial⟩ rfl trivial rfl rfl rfl lend0 trivial rfl, ?_⟩
          conv => whnf
          refine ⟨fun hb_33 => ?_, fun hb_33 => ?_⟩
          · replace hF := cond_t hb_33 hF
            conv => whnf
            obtain rfl := Option.some.inj hF
            exact ret_gz [] [] [] rfl (tupL rfl ⟨(argN (by (conv => lhs; whnf); all_goals rfl)), (argE (by (conv => lhs; whnf); all_goals rfl) rfl), trivial⟩) trivial
          · replace hF := cond_f hb_33 hF
            conv => whnf
            refine ⟨fun h => ?_, fun h => ?_⟩
            · cases (beq_ne (c := (2 : Int)) hb_30 rfl).symm.trans h
            · conv => whnf
              obtain ⟨r_5, h_r_5, hF⟩ := bind_some hF
              refine ⟨_, _, _, _, _, _, _, _, _, callX false [] [] 0 Tryd.func51 (by decide) rfl (schedule_revised_ac e_3 x_1 r_5 h_r_5) rfl ⟨(argE (by (conv => lhs; whnf); all_goals rfl) rfl), (argE (by (conv => lhs; whnf); all_goals rfl) rfl), trivial⟩ rfl trivial rfl rfl rfl lend0 trivial rfl, ?_⟩
              conv => whnf
              obtain ⟨r_6, h_r_6, hF⟩ := bind_some hF
              refine ⟨_, _, _, _, _, _, _, _, _, callX false [] [] 0 Tryd.func52 (by decide) rfl (schedule_valid_ac r_5 r_6 h_r_6) rfl ⟨(argE (by (conv => lhs; whnf); all_goals rfl) rfl), trivial⟩ rfl trivial rfl rfl rfl lend0 trivial rfl, ?_⟩
              conv => whnf
              refine ⟨fun hb_34 => ?_, fun hb_34 => ?_⟩
              · replace hF := cond_t hb_34 hF
                conv => whnf
                obtain rfl := Option.some.inj hF
                exact ret_gz [] [] [] rfl (tupL rfl ⟨(argN (by (conv => lhs; whnf); all_goals rfl)), (argE (by (conv => lhs; whnf); all_goals rfl) rfl), trivial⟩) trivial
              · replace hF := cond_f hb_34 hF
                conv => whnf
                obtain ⟨r_7, h_r_7, hF⟩ := bind_some hF
                refine ⟨_, _, _, _, _, _, _, _, _, callX false [] [] 0 Tryd.func53 (by decide) rfl (schedule_with_ac x_0 r_2 r_5 r_7 h_r_7) rfl ⟨(argE (by (conv => lhs; whnf); all_goals rfl) rfl), (argE (by (conv => lhs; whnf); all_goals rfl) rfl), (argE (by (conv => lhs; whnf); all_goals rfl) rfl), trivial⟩ rfl trivial rfl rfl rfl lend0 trivial rfl, ?_⟩
                conv => whnf
                obtain rfl := Option.some.inj hF
                exact ret_gz [] [] [] rfl (tupL rfl ⟨(argE (by (conv => lhs; whnf); all_goals rfl) rfl), (argE (by (conv => lhs; whnf); all_goals rfl) rfl), trivial⟩) trivial
    · replace hF := cond_f hb_30 hF
      conv => whnf
      refine ⟨fun hb_35 => ?_, fun hb_35 => ?_⟩
      · replace hF := cond_t hb_35 hF
        conv => whnf
        refine ⟨fun h => ?_, fun h => ?_⟩
        · conv => whnf
          obtain ⟨r_8, h_r_8, hF⟩ := bind_some hF
          refine ⟨_, _, _, _, _, _, _, _, _, callX false [] [] 0 Tryd.func49 (by decide) rfl (schedule_Find_ac x_0 x_1.Flight r_8 h_r_8) rfl ⟨(argE (by (conv => lhs; whnf); all_goals rfl) rfl), (argE (by (conv => lhs; whnf); all_goals rfl) rfl), trivial⟩ rfl trivial rfl rfl rfl lend0 trivial rfl, ?_⟩
          conv => whnf
          refine ⟨fun hb_36 => ?_, fun hb_36 => ?_⟩
          · replace hF := cond_t hb_36 hF
            conv => whnf
            obtain rfl := Option.some.inj hF
            exact ret_gz [] [] [] rfl (tupL rfl ⟨(argN (by (conv => lhs; whnf); all_goals rfl)), (argE (by (conv => lhs; whnf); all_goals rfl) rfl), trivial⟩) trivial
          · replace hF := cond_f hb_36 hF
            conv => whnf
            obtain ⟨e_9, h_e_9, hF⟩ := bind_some hF
            refine ix_q (enc := encDeparture) (l := x_0) h_e_9 rfl (fun m_e_9 hm_e_9 hx_e_9 => ?_)
            conv => whnf
            refine ⟨fun hb_37 => ?_, fun hb_37 => ?_⟩
            · replace hF := cond_t hb_37 hF
              conv => whnf
              obtain rfl := Option.some.inj hF
              exact ret_gz [] [] [] rfl (tupL rfl ⟨(argN (by (conv => lhs; whnf); all_goals rfl)), (argE (by (conv => lhs; whnf); all_goals rfl) rfl), trivial⟩) trivial
            · replace hF := cond_f hb_37 hF
              conv => whnf
              obtain ⟨r_10, h_r_10, hF⟩ := bind_some hF
              refine ⟨_, _, _, _, _, _, _, _, _, callX false [] [] 0 Tryd.func50 (by decide) rfl (schedule_amount_ac x_1 r_10 h_r_10) rfl ⟨(argE (by (conv => lhs; whnf); all_goals rfl) rfl), trivial⟩ rfl trivial rfl rfl rfl lend0 trivial rfl, ?_⟩
              conv => whnf
              refine ⟨fun hb_38 => ?_, fun hb_38 => ?_⟩
              · replace hF := cond_t hb_38 hF
                conv => whnf
                obtain rfl := Option.some.inj hF
                exact ret_gz [] [] [] rfl (tupL rfl ⟨(argN (by (conv => lhs; whnf); all_goals rfl)), (argE (by (conv => lhs; whnf); all_goals rfl) rfl), trivial⟩) trivial
              · replace hF := cond_f hb_38 hF
                conv => whnf
                refine ⟨fun h => ?_, fun h => ?_⟩
                · cases (beq_ne (c := (2 : Int)) hb_35 rfl).symm.trans h
                · conv => whnf
                  obtain ⟨r_11, h_r_11, hF⟩ := bind_some hF
                  refine ⟨_, _, _, _, _, _, _, _, _, callX false [] [] 0 Tryd.func51 (by decide) rfl (schedule_revised_ac e_9 x_1 r_11 h_r_11) rfl ⟨(argE (by (conv => lhs; whnf); all_goals rfl) rfl), (argE (by (conv => lhs; whnf); all_goals rfl) rfl), trivial⟩ rfl trivial rfl rfl rfl lend0 trivial rfl, ?_⟩
                  conv => whnf
                  obtain ⟨r_12, h_r_12, hF⟩ := bind_some hF
                  refine ⟨_, _, _, _, _, _, _, _, _, callX false [] [] 0 Tryd.func52 (by decide) rfl (schedule_valid_ac r_11 r_12 h_r_12) rfl ⟨(argE (by (conv => lhs; whnf); all_goals rfl) rfl), trivial⟩ rfl trivial rfl rfl rfl lend0 trivial rfl, ?_⟩
                  conv => whnf
                  refine ⟨fun hb_39 => ?_, fun hb_39 => ?_⟩
                  · replace hF := cond_t hb_39 hF
                    conv => whnf
                    obtain rfl := Option.some.inj hF
                    exact ret_gz [] [] [] rfl (tupL rfl ⟨(argN (by (conv => lhs; whnf); all_goals rfl)), (argE (by (conv => lhs; whnf); all_goals rfl) rfl), trivial⟩) trivial
                  · replace hF := cond_f hb_39 hF
                    conv => whnf
                    obtain ⟨r_13, h_r_13, hF⟩ := bind_some hF
                    refine ⟨_, _, _, _, _, _, _, _, _, callX false [] [] 0 Tryd.func53 (by decide) rfl (schedule_with_ac x_0 r_8 r_11 r_13 h_r_13) rfl ⟨(argE (by (conv => lhs; whnf); all_goals rfl) rfl), (argE (by (conv => lhs; whnf); all_goals rfl) rfl), (argE (by (conv => lhs; whnf); all_goals rfl) rfl), trivial⟩ rfl trivial rfl rfl rfl lend0 trivial rfl, ?_⟩
                    conv => whnf
                    obtain rfl := Option.some.inj hF
                    exact ret_gz [] [] [] rfl (tupL rfl ⟨(argE (by (conv => lhs; whnf); all_goals rfl) rfl), (argE (by (conv => lhs; whnf); all_goals rfl) rfl), trivial⟩) trivial
        · cases (hb_35).symm.trans h
      · replace hF := cond_f hb_35 hF
        conv => whnf
        refine ⟨fun hb_40 => ?_, fun hb_40 => ?_⟩
        · replace hF := cond_t hb_40 hF
          conv => whnf
          refine ⟨fun h => ?_, fun h => ?_⟩
          · conv => whnf
            obtain ⟨r_14, h_r_14, hF⟩ := bind_some hF
            refine ⟨_, _, _, _, _, _, _, _, _, callX false [] [] 0 Tryd.func49 (by decide) rfl (schedule_Find_ac x_0 x_1.Flight r_14 h_r_14) rfl ⟨(argE (by (conv => lhs; whnf); all_goals rfl) rfl), (argE (by (conv => lhs; whnf); all_goals rfl) rfl), trivial⟩ rfl trivial rfl rfl rfl lend0 trivial rfl, ?_⟩
            conv => whnf
            refine ⟨fun hb_41 => ?_, fun hb_41 => ?_⟩
            · replace hF := cond_t hb_41 hF
              conv => whnf
              obtain rfl := Option.some.inj hF
              exact ret_gz [] [] [] rfl (tupL rfl ⟨(argN (by (conv => lhs; whnf); all_goals rfl)), (argE (by (conv => lhs; whnf); all_goals rfl) rfl), trivial⟩) trivial
            · replace hF := cond_f hb_41 hF
              conv => whnf
              obtain ⟨e_15, h_e_15, hF⟩ := bind_some hF
              refine ix_q (enc := encDeparture) (l := x_0) h_e_15 rfl (fun m_e_15 hm_e_15 hx_e_15 => ?_)
              conv => whnf
              refine ⟨fun hb_42 => ?_, fun hb_42 => ?_⟩
              · replace hF := cond_t hb_42 hF
                conv => whnf
                obtain rfl := Option.some.inj hF
                exact ret_gz [] [] [] rfl (tupL rfl ⟨(argN (by (conv => lhs; whnf); all_goals rfl)), (argE (by (conv => lhs; whnf); all_goals rfl) rfl), trivial⟩) trivial
              · replace hF := cond_f hb_42 hF
                conv => whnf
                obtain ⟨r_16, h_r_16, hF⟩ := bind_some hF
                refine ⟨_, _, _, _, _, _, _, _, _, callX false [] [] 0 Tryd.func50 (by decide) rfl (schedule_amount_ac x_1 r_16 h_r_16) rfl ⟨(argE (by (conv => lhs; whnf); all_goals rfl) rfl), trivial⟩ rfl trivial rfl rfl rfl lend0 trivial rfl, ?_⟩
                conv => whnf
                refine ⟨fun hb_43 => ?_, fun hb_43 => ?_⟩
                · replace hF := cond_t hb_43 hF
                  conv => whnf
                  obtain rfl := Option.some.inj hF
                  exact ret_gz [] [] [] rfl (tupL rfl ⟨(argN (by (conv => lhs; whnf); all_goals rfl)), (argE (by (conv => lhs; whnf); all_goals rfl) rfl), trivial⟩) trivial
                · replace hF := cond_f hb_43 hF
                  conv => whnf
                  refine ⟨fun h => ?_, fun h => ?_⟩
                  · conv => whnf
                    refine ⟨fun hb_44 => ?_, fun hb_44 => ?_⟩
                    · replace hF := cond_f hb_44 hF
                      conv => whnf
                      refine ⟨fun hb_45 => ?_, fun hb_45 => ?_⟩
                      · replace hF := cond_t hb_45 hF
                        conv => whnf
                        obtain rfl := Option.some.inj hF
                        exact ret_gz [] [] [] rfl (tupL rfl ⟨(argN (by (conv => lhs; whnf); all_goals rfl)), (argE (by (conv => lhs; whnf); all_goals rfl) rfl), trivial⟩) trivial
                      · replace hF := cond_f hb_45 hF
                        conv => whnf
                        obtain ⟨r_17, h_r_17, hF⟩ := bind_some hF
                        refine ⟨_, _, _, _, _, _, _, _, _, callX false [] [] 0 Tryd.func51 (by decide) rfl (schedule_revised_ac e_15 x_1 r_17 h_r_17) rfl ⟨(argE (by (conv => lhs; whnf); all_goals rfl) rfl), (argE (by (conv => lhs; whnf); all_goals rfl) rfl), trivial⟩ rfl trivial rfl rfl rfl lend0 trivial rfl, ?_⟩
                        conv => whnf
                        obtain ⟨r_18, h_r_18, hF⟩ := bind_some hF
                        refine ⟨_, _, _, _, _, _, _, _, _, callX false [] [] 0 Tryd.func52 (by decide) rfl (schedule_valid_ac r_17 r_18 h_r_18) rfl ⟨(argE (by (conv => lhs; whnf); all_goals rfl) rfl), trivial⟩ rfl trivial rfl rfl rfl lend0 trivial rfl, ?_⟩
                        conv => whnf
                        refine ⟨fun hb_46 => ?_, fun hb_46 => ?_⟩
                        · replace hF := cond_t hb_46 hF
                          conv => whnf
                          obtain rfl := Option.some.inj hF
                          exact ret_gz [] [] [] rfl (tupL rfl ⟨(argN (by (conv => lhs; whnf); all_goals rfl)), (argE (by (conv => lhs; whnf); all_goals rfl) rfl), trivial⟩) trivial
                        · replace hF := cond_f hb_46 hF
                          conv => whnf
                          obtain ⟨r_19, h_r_19, hF⟩ := bind_some hF
                          refine ⟨_, _, _, _, _, _, _, _, _, callX false [] [] 0 Tryd.func53 (by decide) rfl (schedule_with_ac x_0 r_14 r_17 r_19 h_r_19) rfl ⟨(argE (by (conv => lhs; whnf); all_goals rfl) rfl), (argE (by (conv => lhs; whnf); all_goals rfl) rfl), (argE (by (conv => lhs; whnf); all_goals rfl) rfl), trivial⟩ rfl trivial rfl rfl rfl lend0 trivial rfl, ?_⟩
                          conv => whnf
                          obtain rfl := Option.some.inj hF
                          exact ret_gz [] [] [] rfl (tupL rfl ⟨(argE (by (conv => lhs; whnf); all_goals rfl) rfl), (argE (by (conv => lhs; whnf); all_goals rfl) rfl), trivial⟩) trivial
                    · replace hF := cond_t hb_44 hF
                      conv => whnf
                      obtain rfl := Option.some.inj hF
                      exact ret_gz [] [] [] rfl (tupL rfl ⟨(argN (by (conv => lhs; whnf); all_goals rfl)), (argE (by (conv => lhs; whnf); all_goals rfl) rfl), trivial⟩) trivial
                  · cases (hb_40).symm.trans h
          · cases (hb_40).symm.trans h
        · replace hF := cond_f hb_40 hF
          conv => whnf
          refine ⟨fun hb_47 => ?_, fun hb_47 => ?_⟩
          · replace hF := cond_t hb_47 hF
            conv => whnf
            refine ⟨fun h => ?_, fun h => ?_⟩
            · conv => whnf
              obtain ⟨r_20, h_r_20, hF⟩ := bind_some hF
              refine ⟨_, _, _, _, _, _, _, _, _, callX false [] [] 0 Tryd.func49 (by decide) rfl (schedule_Find_ac x_0 x_1.Flight r_20 h_r_20) rfl ⟨(argE (by (conv => lhs; whnf); all_goals rfl) rfl), (argE (by (conv => lhs; whnf); all_goals rfl) rfl), trivial⟩ rfl trivial rfl rfl rfl lend0 trivial rfl, ?_⟩
              conv => whnf
              refine ⟨fun hb_48 => ?_, fun hb_48 => ?_⟩
              · replace hF := cond_t hb_48 hF
                conv => whnf
                obtain rfl := Option.some.inj hF
                exact ret_gz [] [] [] rfl (tupL rfl ⟨(argN (by (conv => lhs; whnf); all_goals rfl)), (argE (by (conv => lhs; whnf); all_goals rfl) rfl), trivial⟩) trivial
              · replace hF := cond_f hb_48 hF
                conv => whnf
                obtain ⟨e_21, h_e_21, hF⟩ := bind_some hF
                refine ix_q (enc := encDeparture) (l := x_0) h_e_21 rfl (fun m_e_21 hm_e_21 hx_e_21 => ?_)
                conv => whnf
                refine ⟨fun hb_49 => ?_, fun hb_49 => ?_⟩
                · replace hF := cond_t hb_49 hF
                  conv => whnf
                  obtain rfl := Option.some.inj hF
                  exact ret_gz [] [] [] rfl (tupL rfl ⟨(argN (by (conv => lhs; whnf); all_goals rfl)), (argE (by (conv => lhs; whnf); all_goals rfl) rfl), trivial⟩) trivial
                · replace hF := cond_f hb_49 hF
                  conv => whnf
                  obtain ⟨r_22, h_r_22, hF⟩ := bind_some hF
                  refine ⟨_, _, _, _, _, _, _, _, _, callX false [] [] 0 Tryd.func50 (by decide) rfl (schedule_amount_ac x_1 r_22 h_r_22) rfl ⟨(argE (by (conv => lhs; whnf); all_goals rfl) rfl), trivial⟩ rfl trivial rfl rfl rfl lend0 trivial rfl, ?_⟩
                  conv => whnf
                  refine ⟨fun hb_50 => ?_, fun hb_50 => ?_⟩
                  · replace hF := cond_t hb_50 hF
                    conv => whnf
                    obtain rfl := Option.some.inj hF
                    exact ret_gz [] [] [] rfl (tupL rfl ⟨(argN (by (conv => lhs; whnf); all_goals rfl)), (argE (by (conv => lhs; whnf); all_goals rfl) rfl), trivial⟩) trivial
                  · replace hF := cond_f hb_50 hF
                    conv => whnf
                    refine ⟨fun h => ?_, fun h => ?_⟩
                    · cases (hb_40).symm.trans h
                    · conv => whnf
                      obtain ⟨r_23, h_r_23, hF⟩ := bind_some hF
                      refine ⟨_, _, _, _, _, _, _, _, _, callX false [] [] 0 Tryd.func51 (by decide) rfl (schedule_revised_ac e_21 x_1 r_23 h_r_23) rfl ⟨(argE (by (conv => lhs; whnf); all_goals rfl) rfl), (argE (by (conv => lhs; whnf); all_goals rfl) rfl), trivial⟩ rfl trivial rfl rfl rfl lend0 trivial rfl, ?_⟩
                      conv => whnf
                      obtain ⟨r_24, h_r_24, hF⟩ := bind_some hF
                      refine ⟨_, _, _, _, _, _, _, _, _, callX false [] [] 0 Tryd.func52 (by decide) rfl (schedule_valid_ac r_23 r_24 h_r_24) rfl ⟨(argE (by (conv => lhs; whnf); all_goals rfl) rfl), trivial⟩ rfl trivial rfl rfl rfl lend0 trivial rfl, ?_⟩
                      conv => whnf
                      refine ⟨fun hb_51 => ?_, fun hb_51 => ?_⟩
                      · replace hF := cond_t hb_51 hF
                        conv => whnf
                        obtain rfl := Option.some.inj hF
                        exact ret_gz [] [] [] rfl (tupL rfl ⟨(argN (by (conv => lhs; whnf); all_goals rfl)), (argE (by (conv => lhs; whnf); all_goals rfl) rfl), trivial⟩) trivial
                      · replace hF := cond_f hb_51 hF
                        conv => whnf
                        obtain ⟨r_25, h_r_25, hF⟩ := bind_some hF
                        refine ⟨_, _, _, _, _, _, _, _, _, callX false [] [] 0 Tryd.func53 (by decide) rfl (schedule_with_ac x_0 r_20 r_23 r_25 h_r_25) rfl ⟨(argE (by (conv => lhs; whnf); all_goals rfl) rfl), (argE (by (conv => lhs; whnf); all_goals rfl) rfl), (argE (by (conv => lhs; whnf); all_goals rfl) rfl), trivial⟩ rfl trivial rfl rfl rfl lend0 trivial rfl, ?_⟩
                        conv => whnf
                        obtain rfl := Option.some.inj hF
                        exact ret_gz [] [] [] rfl (tupL rfl ⟨(argE (by (conv => lhs; whnf); all_goals rfl) rfl), (argE (by (conv => lhs; whnf); all_goals rfl) rfl), trivial⟩) trivial
            · cases (hb_47).symm.trans h
          · replace hF := cond_f hb_47 hF
            conv => whnf
            refine ⟨fun hb_52 => ?_, fun hb_52 => ?_⟩
            · replace hF := cond_t hb_52 hF
              conv => whnf
              obtain ⟨r_26, h_r_26, hF⟩ := bind_some hF
              refine ⟨_, _, _, _, _, _, _, _, _, callX false [] [] 0 Tryd.func49 (by decide) rfl (schedule_Find_ac x_0 x_1.Flight r_26 h_r_26) rfl ⟨(argE (by (conv => lhs; whnf); all_goals rfl) rfl), (argE (by (conv => lhs; whnf); all_goals rfl) rfl), trivial⟩ rfl trivial rfl rfl rfl lend0 trivial rfl, ?_⟩
              conv => whnf
              refine ⟨fun hb_53 => ?_, fun hb_53 => ?_⟩
              · replace hF := cond_t hb_53 hF
                conv => whnf
                obtain rfl := Option.some.inj hF
                exact ret_gz [] [] [] rfl (tupL rfl ⟨(argN (by (conv => lhs; whnf); all_goals rfl)), (argE (by (conv => lhs; whnf); all_goals rfl) rfl), trivial⟩) trivial
              · replace hF := cond_f hb_53 hF
                conv => whnf
                obtain ⟨e_27, h_e_27, hF⟩ := bind_some hF
                refine ix_q (enc := encDeparture) (l := x_0) h_e_27 rfl (fun m_e_27 hm_e_27 hx_e_27 => ?_)
                conv => whnf
                refine ⟨fun hb_54 => ?_, fun hb_54 => ?_⟩
                · replace hF := cond_t hb_54 hF
                  conv => whnf
                  obtain rfl := Option.some.inj hF
                  exact ret_gz [] [] [] rfl (tupL rfl ⟨(argN (by (conv => lhs; whnf); all_goals rfl)), (argE (by (conv => lhs; whnf); all_goals rfl) rfl), trivial⟩) trivial
                · replace hF := cond_f hb_54 hF
                  conv => whnf
                  obtain ⟨r_28, h_r_28, hF⟩ := bind_some hF
                  refine ⟨_, _, _, _, _, _, _, _, _, callX false [] [] 0 Tryd.func50 (by decide) rfl (schedule_amount_ac x_1 r_28 h_r_28) rfl ⟨(argE (by (conv => lhs; whnf); all_goals rfl) rfl), trivial⟩ rfl trivial rfl rfl rfl lend0 trivial rfl, ?_⟩
                  conv => whnf
                  refine ⟨fun hb_55 => ?_, fun hb_55 => ?_⟩
                  · replace hF := cond_t hb_55 hF
                    conv => whnf
                    obtain rfl := Option.some.inj hF
                    exact ret_gz [] [] [] rfl (tupL rfl ⟨(argN (by (conv => lhs; whnf); all_goals rfl)), (argE (by (conv => lhs; whnf); all_goals rfl) rfl), trivial⟩) trivial
                  · replace hF := cond_f hb_55 hF
                    conv => whnf
                    refine ⟨fun h => ?_, fun h => ?_⟩
                    · cases (hb_40).symm.trans h
                    · conv => whnf
                      obtain ⟨r_29, h_r_29, hF⟩ := bind_some hF
                      refine ⟨_, _, _, _, _, _, _, _, _, callX false [] [] 0 Tryd.func51 (by decide) rfl (schedule_revised_ac e_27 x_1 r_29 h_r_29) rfl ⟨(argE (by (conv => lhs; whnf); all_goals rfl) rfl), (argE (by (conv => lhs; whnf); all_goals rfl) rfl), trivial⟩ rfl trivial rfl rfl rfl lend0 trivial rfl, ?_⟩
                      conv => whnf
                      obtain ⟨r_30, h_r_30, hF⟩ := bind_some hF
                      refine ⟨_, _, _, _, _, _, _, _, _, callX false [] [] 0 Tryd.func52 (by decide) rfl (schedule_valid_ac r_29 r_30 h_r_30) rfl ⟨(argE (by (conv => lhs; whnf); all_goals rfl) rfl), trivial⟩ rfl trivial rfl rfl rfl lend0 trivial rfl, ?_⟩
                      conv => whnf
                      refine ⟨fun hb_56 => ?_, fun hb_56 => ?_⟩
                      · replace hF := cond_t hb_56 hF
                        conv => whnf
                        obtain rfl := Option.some.inj hF
                        exact ret_gz [] [] [] rfl (tupL rfl ⟨(argN (by (conv => lhs; whnf); all_goals rfl)), (argE (by (conv => lhs; whnf); all_goals rfl) rfl), trivial⟩) trivial
                      · replace hF := cond_f hb_56 hF
                        conv => whnf
                        obtain ⟨r_31, h_r_31, hF⟩ := bind_some hF
                        refine ⟨_, _, _, _, _, _, _, _, _, callX false [] [] 0 Tryd.func53 (by decide) rfl (schedule_with_ac x_0 r_26 r_29 r_31 h_r_31) rfl ⟨(argE (by (conv => lhs; whnf); all_goals rfl) rfl), (argE (by (conv => lhs; whnf); all_goals rfl) rfl), (argE (by (conv => lhs; whnf); all_goals rfl) rfl), trivial⟩ rfl trivial rfl rfl rfl lend0 trivial rfl, ?_⟩
                        conv => whnf
                        obtain rfl := Option.some.inj hF
                        exact ret_gz [] [] [] rfl (tupL rfl ⟨(argE (by (conv => lhs; whnf); all_goals rfl) rfl), (argE (by (conv => lhs; whnf); all_goals rfl) rfl), trivial⟩) trivial
            · replace hF := cond_f hb_52 hF
              conv => whnf
              obtain rfl := Option.some.inj hF
              exact ret_gz [] [] [] rfl (tupL rfl ⟨(argN (by (conv => lhs; whnf); all_goals rfl)), (argE (by (conv => lhs; whnf); all_goals rfl) rfl), trivial⟩) trivial

set_option maxRecDepth 100000 in
set_option maxHeartbeats 40000000 in
theorem schedule_Depart_ac (x_0 : (List Departure)) (x_1 : Flight) (x_2 : Int) (r : (List Departure) × Int) (hF : schedule_Depart x_0 x_1 x_2 = some r) : AC Tryd.prog 33 [.lst 10 (x_0.map encDeparture), .agg (encFlight x_1), .int .i64 x_2] [] (.tup [.lst 10 (r.1.map encDeparture), .int .i64 r.2]) [] := by
  refine ac_of tab_ok follows_ok Tryd.func33 rfl Tryd.ntmps33 rfl ?_
  unfold schedule_Depart at hF
  conv => whnf
  obtain ⟨r_1, h_r_1, hF⟩ := bind_some hF
  refine ⟨_, _, _, _, _, _, _, _, _, callX false [] [] 0 Tryd.func48 (by decide) rfl (schedule_Validate_ac x_0 r_1 h_r_1) rfl ⟨(argE (by (conv => lhs; whnf); all_goals rfl) rfl), trivial⟩ rfl trivial rfl rfl rfl lend0 trivial rfl, ?_⟩
  conv => whnf
  refine ⟨fun hb_5 => ?_, fun hb_5 => ?_⟩
  · replace hF := cond_t hb_5 hF
    conv => whnf
    obtain rfl := Option.some.inj hF
    exact ret_gz [] [] [] rfl (tupL rfl ⟨(argN (by (conv => lhs; whnf); all_goals rfl)), (argE (by (conv => lhs; whnf); all_goals rfl) rfl), trivial⟩) trivial
  · replace hF := cond_f hb_5 hF
    conv => whnf
    obtain ⟨r_2, h_r_2, hF⟩ := bind_some hF
    refine ⟨_, _, _, _, _, _, _, _, _, callX false [] [] 0 Tryd.func49 (by decide) rfl (schedule_Find_ac x_0 x_1 r_2 h_r_2) rfl ⟨(argE (by (conv => lhs; whnf); all_goals rfl) rfl), (argE (by (conv => lhs; whnf); all_goals rfl) rfl), trivial⟩ rfl trivial rfl rfl rfl lend0 trivial rfl, ?_⟩
    conv => whnf
    refine ⟨fun hb_6 => ?_, fun hb_6 => ?_⟩
    · replace hF := cond_t hb_6 hF
      conv => whnf
      obtain rfl := Option.some.inj hF
      exact ret_gz [] [] [] rfl (tupL rfl ⟨(argN (by (conv => lhs; whnf); all_goals rfl)), (argE (by (conv => lhs; whnf); all_goals rfl) rfl), trivial⟩) trivial
    · replace hF := cond_f hb_6 hF
      conv => whnf
      obtain ⟨e_3, h_e_3, hF⟩ := bind_some hF
      refine ix_q (enc := encDeparture) (l := x_0) h_e_3 rfl (fun m_e_3 hm_e_3 hx_e_3 => ?_)
      conv => whnf
      refine ⟨fun hb_7 => ?_, fun hb_7 => ?_⟩
      · replace hF := cond_f hb_7 hF
        conv => whnf
        refine ⟨fun hb_8 => ?_, fun hb_8 => ?_⟩
        · replace hF := cond_t hb_8 hF
          conv => whnf
          obtain rfl := Option.some.inj hF
          exact ret_gz [] [] [] rfl (tupL rfl ⟨(argN (by (conv => lhs; whnf); all_goals rfl)), (argE (by (conv => lhs; whnf); all_goals rfl) rfl), trivial⟩) trivial
        · replace hF := cond_f hb_8 hF
          conv => whnf
          obtain ⟨r_4, h_r_4, hF⟩ := bind_some hF
          refine ⟨_, _, _, _, _, _, _, _, _, callX false [] [] 0 Tryd.func53 (by decide) rfl (schedule_with_ac x_0 r_2 (⟨e_3.Flight, e_3.Port, e_3.Opens, e_3.Closes, e_3.Leaves, e_3.Stand, (2 : Int)⟩ : Departure) r_4 h_r_4) rfl ⟨(argE (by (conv => lhs; whnf); all_goals rfl) rfl), (argE (by (conv => lhs; whnf); all_goals rfl) rfl), (argE (by (conv => lhs; whnf); all_goals rfl) rfl), trivial⟩ rfl trivial rfl rfl rfl lend0 trivial rfl, ?_⟩
          conv => whnf
          obtain rfl := Option.some.inj hF
          exact ret_gz [] [] [] rfl (tupL rfl ⟨(argE (by (conv => lhs; whnf); all_goals rfl) rfl), (argE (by (conv => lhs; whnf); all_goals rfl) rfl), trivial⟩) trivial
      · replace hF := cond_t hb_7 hF
        conv => whnf
        obtain rfl := Option.some.inj hF
        exact ret_gz [] [] [] rfl (tupL rfl ⟨(argN (by (conv => lhs; whnf); all_goals rfl)), (argE (by (conv => lhs; whnf); all_goals rfl) rfl), trivial⟩) trivial
end Go.Proofs.YtbiofbmjonmglaaDoor.Ex
