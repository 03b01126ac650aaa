/- The functions of the program compute what was printed; walks printed by a program. -/
import Derived.Test.YtbiofbmjonmglaaDoorExF
import Derived.Test.YtbiofbmjonmglaaDoorExP1
import Derived.Test.YtbiofbmjonmglaaDoorExP2
import Derived.Test.YtbiofbmjonmglaaDoorExP3
namespace Go.Proofs.YtbiofbmjonmglaaDoor.Ex
open Go.RowKit Go.Proofs.YtbiofbmjonmglaaDoor.Ax
set_option linter.unusedVariables false
set_option linter.unusedSimpArgs false
set_option maxRecDepth 100000 in
set_option maxHeartbeats 40000000 in
theorem law26_AuthorityWithdraws_ac (x_0 : (List Int)) (x_1 : Bool) (r : Bool) (hF : law26_AuthorityWithdraws x_0 x_1 = some r) : AC Tryd.prog 7 [.lst 1 (x_0.map iA), .bool x_1] [] (.bool r) [] := by
  refine ac_of tab_ok follows_ok Tryd.func7 rfl Tryd.ntmps7 rfl ?_
  unfold law26_AuthorityWithdraws at hF
  conv => whnf
  obtain ⟨r_1, h_r_1, hF⟩ := bind_some hF
  refine ⟨_, _, _, _, _, _, _, _, _, callX false [] [] 1 Tryd.func11 (by decide) rfl (keep_New_ac x_0 r_1 h_r_1) rfl ⟨(argE (by (conv => lhs; whnf); all_goals rfl) rfl), trivial⟩ rfl trivial rfl rfl rfl lend0 ⟨rfl, trivial⟩ rfl, ?_⟩
  conv => whnf
  obtain ⟨r_2, h_r_2, hF⟩ := bind_some hF
  refine ⟨_, _, _, _, _, _, _, _, _, callX false [0] [] 0 Tryd.func15 (by decide) rfl (keep_Src_N_ac r_1 (12 : Int) r_2 h_r_2) rfl ⟨(argP (id := 0) (by (conv => lhs; whnf); all_goals rfl) rfl), (argE (by (conv => lhs; whnf); all_goals rfl) rfl), trivial⟩ rfl ⟨rfl, trivial⟩ rfl rfl rfl lend0 ⟨rfl, trivial⟩ rfl, ?_⟩
  conv => whnf
  refine ⟨_, rfl, ?_⟩
  conv => whnf
  obtain ⟨r_3, h_r_3, hF⟩ := bind_some hF
  refine ⟨_, _, _, _, _, _, _, _, _, callX false [0] [] 0 Tryd.func24 (by decide) rfl (keep_Src_Passengers_ac r_2.2 r_3 h_r_3) rfl ⟨(argP (id := 0) (by (conv => lhs; whnf); all_goals rfl) rfl), trivial⟩ rfl ⟨rfl, trivial⟩ rfl rfl rfl lend0 ⟨rfl, trivial⟩ rfl, ?_⟩
  conv => whnf
  refine len_q (enc := iA) (l := r_3.1) rfl ?_
  conv => whnf
  obtain ⟨c_1, hc_1, hF⟩ := fin_some hF
  refine sw_bv 26 (v := .lst 1 (r_3.1.map iA)) (by (conv => lhs; whnf); all_goals rfl) (fun hb => ?_)
  have hbd_k_6 : r_3.1.length ≤ 9223372036854775807 := bnd_len (enc := iA) (hb)
  refine sw_out ?_
  refine sw_loop tab_ok follows_ok (fun y : Nat × (List Int) => y.1 ≤ r_3.1.length ∧ law26_AuthorityWithdraws_L1 r_2 (r_3.1.drop y.1) y.1 y.2 = some c_1) (fun y => ⟨eL [(1, .bool x_1), (5, .ptr 0 0), (6, .int .i64 (w64 ((1 : Int) + r_2.1))), (7, .osl 1), (26, .lst 1 (r_3.1.map iA)), (27, .int .i64 (r_3.1.length : Int)), (28, .int .i64 (y.1 : Int))], hL [(0, .box [.lst 1 (r_3.2.L.map iA), .int .i64 r_3.2.At]), (1, .row 1 (y.2.map iA))], 2⟩) (fun y => r_3.1.length - y.1) (0, ([] : List Int)) ⟨Nat.zero_le _, hc_1⟩ (wk_mk [0] [1] [] rfl ⟨argE (by (conv => lhs; whnf); all_goals rfl) rfl, argP (id := 0) (by (conv => lhs; whnf); all_goals rfl) rfl, argE (by (conv => lhs; whnf); all_goals rfl) rfl, argZ (by (conv => lhs; whnf); all_goals rfl) rfl, argE (by (conv => lhs; whnf); all_goals rfl) rfl, argE (by (conv => lhs; whnf); all_goals rfl) rfl, argE (by (conv => lhs; whnf); all_goals rfl) rfl, trivial⟩ ⟨boxL rfl rfl rfl ⟨(.ni _ rfl), (.ni _ rfl), trivial⟩, blkZ rfl, trivial⟩) ?_
  rintro ⟨k_6, a_4⟩ ⟨hk_k_6, hL1⟩
  try dsimp only at hk_k_6 hL1
  show awp _ _ _ _ _ _ ⟨eL [(1, .bool x_1), (5, .ptr 0 0), (6, .int .i64 (w64 ((1 : Int) + r_2.1))), (7, .osl 1), (26, .lst 1 (r_3.1.map iA)), (27, .int .i64 (r_3.1.length : Int)), (28, .int .i64 (k_6 : Int))], hL [(0, .box [.lst 1 (r_3.2.L.map iA), .int .i64 r_3.2.At]), (1, .row 1 (a_4.map iA))], 2⟩
  conv => whnf
  refine ⟨fun h => ?_, fun h => ?_⟩
  · have hlt_k_6 : k_6 < r_3.1.length := by have h := of_decide_eq_true h; omega
    obtain ⟨e_7, h_e_7⟩ : ∃ y, r_3.1[k_6]? = some y := ⟨_, List.getElem?_eq_getElem hlt_k_6⟩
    rw [drop_cons h_e_7, law26_AuthorityWithdraws_L1.eq_2] at hL1
    conv => whnf
    refine ⟨k_6, _, rfl, ix_map h_e_7, ?_⟩
    conv => whnf
    refine ⟨fun hb_13 => ?_, fun hb_13 => ?_⟩
    · replace hL1 := cond_t hb_13 hL1
      conv => whnf
      obtain ⟨l_8, h_l_8, hL1⟩ := bind_some hL1
      refine ap_q (enc := iA) (l := a_4) (y := ([e_7] : List Int)) h_l_8 rfl rfl (by decide) ?_
      conv => whnf
      refine ⟨((k_6 + 1 : Nat) : Int), wrapE (by omega) (by omega) (by omega), ?_⟩
      conv => whnf
      exact ⟨(k_6 + 1, l_8), [0, 3], [], [], ⟨hlt_k_6, hL1⟩, by show r_3.1.length - (k_6 + 1) < r_3.1.length - k_6; omega, wk_mk [0, 3] [] [] rfl ⟨argE (by (conv => lhs; whnf); all_goals rfl) rfl, argP (id := 0) (by (conv => lhs; whnf); all_goals rfl) rfl, argE (by (conv => lhs; whnf); all_goals rfl) rfl, argO (id := 3) (by (conv => lhs; whnf); all_goals rfl) rfl, argE (by (conv => lhs; whnf); all_goals rfl) rfl, argE (by (conv => lhs; whnf); all_goals rfl) rfl, argE (by (conv => lhs; whnf); all_goals rfl) rfl, trivial⟩ ⟨boxL rfl rfl rfl ⟨(.ni _ rfl), (.ni _ rfl), trivial⟩, blkR (fun _ => ⟨rfl, rfl⟩) rfl rfl, trivial⟩⟩
    · replace hL1 := cond_f hb_13 hL1
      conv => whnf
      refine ⟨((k_6 + 1 : Nat) : Int), wrapE (by omega) (by omega) (by omega), ?_⟩
      conv => whnf
      exact ⟨(k_6 + 1, a_4), [0, 1], [], [], ⟨hlt_k_6, hL1⟩, by show r_3.1.length - (k_6 + 1) < r_3.1.length - k_6; omega, wk_mk [0, 1] [] [] rfl ⟨argE (by (conv => lhs; whnf); all_goals rfl) rfl, argP (id := 0) (by (conv => lhs; whnf); all_goals rfl) rfl, argE (by (conv => lhs; whnf); all_goals rfl) rfl, argO (id := 1) (by (conv => lhs; whnf); all_goals rfl) rfl, argE (by (conv => lhs; whnf); all_goals rfl) rfl, argE (by (conv => lhs; whnf); all_goals rfl) rfl, argE (by (conv => lhs; whnf); all_goals rfl) rfl, trivial⟩ ⟨boxL rfl rfl rfl ⟨(.ni _ rfl), (.ni _ rfl), trivial⟩, blkR (fun _ => ⟨rfl, rfl⟩) rfl rfl, trivial⟩⟩
  · rw [drop_nil (show r_3.1.length ≤ k_6 by have h := of_decide_eq_false h; omega), law26_AuthorityWithdraws_L1.eq_1] at hL1
    conv => whnf
    obtain rfl := Option.some.inj hL1
    replace hF := fin_brk hF
    try dsimp only at hF
    refine ⟨⟨eL [(1, .bool x_1), (5, .ptr 0 0), (6, .int .i64 (w64 ((1 : Int) + r_2.1))), (7, .lst 1 (a_4.map iA))], hL [(0, .box [.lst 1 (r_3.2.L.map iA), .int .i64 r_3.2.At])], 2⟩, [0], [], [1], wk_mk [0] [] [1] rfl ⟨argE (by (conv => lhs; whnf); all_goals rfl) rfl, argP (id := 0) (by (conv => lhs; whnf); all_goals rfl) rfl, argE (by (conv => lhs; whnf); all_goals rfl) rfl, argOL 1 (by (conv => lhs; whnf); all_goals rfl) rfl rfl (map_ni (fun _ => ⟨rfl, rfl⟩) _), trivial⟩ ⟨boxL rfl rfl rfl ⟨(.ni _ rfl), (.ni _ rfl), trivial⟩, trivial⟩, ?_⟩
    conv => whnf
    obtain ⟨r_11, h_r_11, hF⟩ := bind_some hF
    refine ⟨_, _, _, _, _, _, _, _, _, callX false [] [] 0 Tryd.func28 (by decide) rfl (keep_Flights_ac (0 : Int) r_11 h_r_11) rfl ⟨(argE (by (conv => lhs; whnf); all_goals rfl) rfl), trivial⟩ rfl trivial rfl rfl rfl lend0 trivial rfl, ?_⟩
    conv => whnf
    obtain ⟨r_12, h_r_12, hF⟩ := bind_some hF
    refine ⟨_, _, _, _, _, _, _, _, _, callX false [] [] 0 Tryd.func17 (by decide) rfl (law26_flights_ac r_12 h_r_12) rfl trivial rfl trivial rfl rfl rfl lend0 trivial rfl, ?_⟩
    conv => whnf
    obtain ⟨r_13, h_r_13, hF⟩ := bind_some hF
    refine ⟨_, _, _, _, _, _, _, _, _, callX true [] [6, 5] 0 Tryd.func26 (by decide) rfl (law26_list_ac ([([(w64 ((1 : Int) + r_2.1))] : List Int)] : List (List Int)) r_13 h_r_13) rfl ⟨(argOR 6 (by (conv => lhs; whnf); all_goals rfl) rfl rfl (RowsA.cons (cellsL (c' := [.lst 1 (([(w64 ((1 : Int) + r_2.1))] : List Int).map iA)]) rfl rfl ⟨(.osl 5 1 _ (by simp) rfl (map_ni (fun _ => ⟨rfl, rfl⟩) _)), trivial⟩) RowsA.nil) (by rfl) (map_ni (fun _ => ⟨rfl, rfl⟩) _)), trivial⟩ rfl trivial rfl rfl rfl giveU trivial rfl, ?_⟩
    conv => whnf
    obtain ⟨r_14, h_r_14, hF⟩ := bind_some hF
    refine ⟨_, _, _, _, _, _, _, _, _, callX true [] [9, 8] 0 Tryd.func26 (by decide) rfl (law26_list_ac ([([(w64 ((1 : Int) + r_2.1))] : List Int), a_4] : List (List Int)) r_14 h_r_14) rfl ⟨(argOR 9 (by (conv => lhs; whnf); all_goals rfl) rfl rfl (RowsA.cons (cellsL (c' := [.lst 1 (([(w64 ((1 : Int) + r_2.1))] : List Int).map iA)]) rfl rfl ⟨(.osl 8 1 _ (by simp) rfl (map_ni (fun _ => ⟨rfl, rfl⟩) _)), trivial⟩) (RowsA.cons (cellsL (c' := [.lst 1 (a_4.map iA)]) rfl rfl ⟨(.ni _ rfl), trivial⟩) RowsA.nil)) (by rfl) (map_ni (fun _ => ⟨rfl, rfl⟩) _)), trivial⟩ rfl trivial rfl rfl rfl giveU trivial rfl, ?_⟩
    conv => whnf
    obtain ⟨r_15, h_r_15, hF⟩ := bind_some hF
    refine ⟨_, _, _, _, _, _, _, _, _, callX true [] [13, 11, 12] 0 Tryd.func26 (by decide) rfl (law26_list_ac ([([(w64 ((1 : Int) + r_2.1))] : List Int), a_4, ([(w64 ((1 : Int) + r_2.1))] : List Int)] : List (List Int)) r_15 h_r_15) rfl ⟨(argOR 13 (by (conv => lhs; whnf); all_goals rfl) rfl rfl (RowsA.cons (cellsL (c' := [.lst 1 (([(w64 ((1 : Int) + r_2.1))] : List Int).map iA)]) rfl rfl ⟨(.osl 11 1 _ (by simp) rfl (map_ni (fun _ => ⟨rfl, rfl⟩) _)), trivial⟩) (RowsA.cons (cellsL (c' := [.lst 1 (a_4.map iA)]) rfl rfl ⟨(.ni _ rfl), trivial⟩) (RowsA.cons (cellsL (c' := [.lst 1 (([(w64 ((1 : Int) + r_2.1))] : List Int).map iA)]) rfl rfl ⟨(.osl 12 1 _ (by simp) rfl (map_ni (fun _ => ⟨rfl, rfl⟩) _)), trivial⟩) RowsA.nil))) (by rfl) (map_ni (fun _ => ⟨rfl, rfl⟩) _)), trivial⟩ rfl trivial rfl rfl rfl giveU trivial rfl, ?_⟩
    conv => whnf
    obtain ⟨r_16, h_r_16, hF⟩ := bind_some hF
    refine ⟨_, _, _, _, _, _, _, _, _, callX false [] [] 0 Tryd.func14 (by decide) rfl (law26_bag_ac (w64 ((1 : Int) + r_2.1)) r_16 h_r_16) rfl ⟨(argE (by (conv => lhs; whnf); all_goals rfl) rfl), trivial⟩ rfl trivial rfl rfl rfl lend0 trivial rfl, ?_⟩
    conv => whnf
    obtain ⟨r_17, h_r_17, hF⟩ := bind_some hF
    refine ⟨_, _, _, _, _, _, _, _, _, callX false [0] [] 0 Tryd.func15 (by decide) rfl (keep_Src_N_ac r_3.2 (4 : Int) r_17 h_r_17) rfl ⟨(argP (id := 0) (by (conv => lhs; whnf); all_goals rfl) rfl), (argE (by (conv => lhs; whnf); all_goals rfl) rfl), trivial⟩ rfl ⟨rfl, trivial⟩ rfl rfl rfl lend0 ⟨rfl, trivial⟩ rfl, ?_⟩
    conv => whnf
    refine ⟨_, rfl, ?_⟩
    conv => whnf
    obtain ⟨r_18, h_r_18, hF⟩ := bind_some hF
    refine ⟨_, _, _, _, _, _, _, _, _, callX false [] [] 0 Tryd.func19 (by decide) rfl (authority_Decide_ac (⟨r_16.Known, (⟨r_16.Bag.Plate, r_16.Bag.In, r_16.Bag.Out, r_16.Bag.Onward, r_16.Bag.Sequence, (w64 ((1 : Int) + r_17.1)), r_16.Bag.Weight, r_16.Bag.Load, r_16.Bag.Surname, r_16.Bag.Given, r_16.Bag.Exception, r_16.Bag.Node, r_16.Bag.Unloaded⟩ : Bag), r_16.Copies, r_16.Cleared⟩ : Facts) r_13 r_12 r_11 (20 : Int) x_1 r_18 h_r_18) rfl ⟨(argE (by (conv => lhs; whnf); all_goals rfl) rfl), (argE (by (conv => lhs; whnf); all_goals rfl) rfl), (argE (by (conv => lhs; whnf); all_goals rfl) rfl), (argE (by (conv => lhs; whnf); all_goals rfl) rfl), (argE (by (conv => lhs; whnf); all_goals rfl) rfl), (argE (by (conv => lhs; whnf); all_goals rfl) rfl), trivial⟩ rfl trivial rfl rfl rfl lend0 trivial rfl, ?_⟩
    conv => whnf
    obtain ⟨r_19, h_r_19, hF⟩ := bind_some hF
    refine ⟨_, _, _, _, _, _, _, _, _, callX false [] [] 0 Tryd.func19 (by decide) rfl (authority_Decide_ac (⟨r_16.Known, (⟨r_16.Bag.Plate, r_16.Bag.In, r_16.Bag.Out, r_16.Bag.Onward, r_16.Bag.Sequence, (w64 ((1 : Int) + r_17.1)), r_16.Bag.Weight, r_16.Bag.Load, r_16.Bag.Surname, r_16.Bag.Given, r_16.Bag.Exception, r_16.Bag.Node, r_16.Bag.Unloaded⟩ : Bag), r_16.Copies, r_16.Cleared⟩ : Facts) r_14 r_12 r_11 (20 : Int) x_1 r_19 h_r_19) rfl ⟨(argE (by (conv => lhs; whnf); all_goals rfl) rfl), (argE (by (conv => lhs; whnf); all_goals rfl) rfl), (argE (by (conv => lhs; whnf); all_goals rfl) rfl), (argE (by (conv => lhs; whnf); all_goals rfl) rfl), (argE (by (conv => lhs; whnf); all_goals rfl) rfl), (argE (by (conv => lhs; whnf); all_goals rfl) rfl), trivial⟩ rfl trivial rfl rfl rfl lend0 trivial rfl, ?_⟩
    conv => whnf
    obtain ⟨r_20, h_r_20, hF⟩ := bind_some hF
    refine ⟨_, _, _, _, _, _, _, _, _, callX false [] [] 0 Tryd.func19 (by decide) rfl (authority_Decide_ac (⟨r_16.Known, (⟨r_16.Bag.Plate, r_16.Bag.In, r_16.Bag.Out, r_16.Bag.Onward, r_16.Bag.Sequence, (w64 ((1 : Int) + r_17.1)), r_16.Bag.Weight, r_16.Bag.Load, r_16.Bag.Surname, r_16.Bag.Given, r_16.Bag.Exception, r_16.Bag.Node, r_16.Bag.Unloaded⟩ : Bag), r_16.Copies, r_16.Cleared⟩ : Facts) r_15 r_12 r_11 (20 : Int) x_1 r_20 h_r_20) rfl ⟨(argE (by (conv => lhs; whnf); all_goals rfl) rfl), (argE (by (conv => lhs; whnf); all_goals rfl) rfl), (argE (by (conv => lhs; whnf); all_goals rfl) rfl), (argE (by (conv => lhs; whnf); all_goals rfl) rfl), (argE (by (conv => lhs; whnf); all_goals rfl) rfl), (argE (by (conv => lhs; whnf); all_goals rfl) rfl), trivial⟩ rfl trivial rfl rfl rfl lend0 trivial rfl, ?_⟩
    conv => whnf
    refine ⟨by kernel_rfl, ?_⟩
    conv => whnf
    obtain ⟨r_21, h_r_21, hF⟩ := bind_some hF
    refine ⟨_, _, _, _, _, _, _, _, _, callX false [0] [] 0 Tryd.func15 (by decide) rfl (keep_Src_N_ac r_17.2 (3 : Int) r_21 h_r_21) rfl ⟨(argP (id := 0) (by (conv => lhs; whnf); all_goals rfl) rfl), (argE (by (conv => lhs; whnf); all_goals rfl) rfl), trivial⟩ rfl ⟨rfl, trivial⟩ rfl rfl rfl lend0 ⟨rfl, trivial⟩ rfl, ?_⟩
    conv => whnf
    refine ⟨_, rfl, ?_⟩
    conv => whnf
    obtain ⟨r_22, h_r_22, hF⟩ := bind_some hF
    refine ⟨_, _, _, _, _, _, _, _, _, callX false [] [] 0 Tryd.func19 (by decide) rfl (authority_Decide_ac (⟨r_16.Known, (⟨r_16.Bag.Plate, r_16.Bag.In, r_16.Bag.Out, r_16.Bag.Onward, r_16.Bag.Sequence, (w64 ((1 : Int) + r_17.1)), r_16.Bag.Weight, r_16.Bag.Load, r_16.Bag.Surname, r_16.Bag.Given, (w64 ((1 : Int) + r_21.1)), r_16.Bag.Node, r_16.Bag.Unloaded⟩ : Bag), r_16.Copies, r_16.Cleared⟩ : Facts) r_14 r_12 r_11 (20 : Int) x_1 r_22 h_r_22) rfl ⟨(argE (by (conv => lhs; whnf); all_goals rfl) rfl), (argE (by (conv => lhs; whnf); all_goals rfl) rfl), (argE (by (conv => lhs; whnf); all_goals rfl) rfl), (argE (by (conv => lhs; whnf); all_goals rfl) rfl), (argE (by (conv => lhs; whnf); all_goals rfl) rfl), (argE (by (conv => lhs; whnf); all_goals rfl) rfl), trivial⟩ rfl trivial rfl rfl rfl lend0 trivial rfl, ?_⟩
    conv => whnf
    refine ⟨fun hb_14 => ?_, fun hb_14 => ?_⟩
    · replace hF := cond_t hb_14 hF
      conv => whnf
      refine ⟨fun hb_15 => ?_, fun hb_15 => ?_⟩
      · replace hF := cond_t hb_15 hF
        conv => whnf
        refine ⟨fun hb_16 => ?_, fun hb_16 => ?_⟩
        · replace hF := cond_t hb_16 hF
          conv => whnf
          refine ⟨fun hb_17 => ?_, fun hb_17 => ?_⟩
          · replace hF := cond_t hb_17 hF
            conv => whnf
            refine ⟨fun hb_18 => ?_, fun hb_18 => ?_⟩
            · replace hF := cond_t hb_18 hF
              conv => whnf
              refine ⟨_, rfl, ?_⟩
              conv => whnf
              refine ⟨_, rfl, ?_⟩
              conv => whnf
              refine ⟨fun hb_19 => ?_, fun hb_19 => ?_⟩
              · replace hF := cond_t hb_19 hF
                conv => whnf
                obtain ⟨r_23, h_r_23, hF⟩ := bind_some hF
                refine ⟨_, _, _, _, _, _, _, _, _, callX false [] [] 0 Tryd.func21 (by decide) rfl (law26_awake_ac r_23 h_r_23) rfl trivial rfl trivial rfl rfl rfl lend0 trivial rfl, ?_⟩
                conv => whnf
                obtain rfl := Option.some.inj hF
                exact ret_gz [] [] [] rfl (argE (by (conv => lhs; whnf); all_goals rfl) rfl) trivial
              · replace hF := cond_f hb_19 hF
                conv => whnf
                obtain rfl := Option.some.inj hF
                exact ret_gz [] [] [] rfl (argFl (by (conv => lhs; whnf); all_goals rfl)) trivial
            · replace hF := cond_f hb_18 hF
              conv => whnf
              obtain rfl := Option.some.inj hF
              exact ret_gz [] [] [] rfl (argFl (by (conv => lhs; whnf); all_goals rfl)) trivial
          · replace hF := cond_f hb_17 hF
            conv => whnf
            obtain rfl := Option.some.inj hF
            exact ret_gz [] [] [] rfl (argFl (by (conv => lhs; whnf); all_goals rfl)) trivial
        · replace hF := cond_f hb_16 hF
          conv => whnf
          obtain rfl := Option.some.inj hF
          exact ret_gz [] [] [] rfl (argFl (by (conv => lhs; whnf); all_goals rfl)) trivial
      · replace hF := cond_f hb_15 hF
        conv => whnf
        obtain rfl := Option.some.inj hF
        exact ret_gz [] [] [] rfl (argFl (by (conv => lhs; whnf); all_goals rfl)) trivial
    · replace hF := cond_f hb_14 hF
      conv => whnf
      obtain rfl := Option.some.inj hF
      exact ret_gz [] [] [] rfl (argFl (by (conv => lhs; whnf); all_goals rfl)) trivial
end Go.Proofs.YtbiofbmjonmglaaDoor.Ex
