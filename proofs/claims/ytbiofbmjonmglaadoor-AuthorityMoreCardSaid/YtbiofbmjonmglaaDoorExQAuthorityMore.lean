/- The functions of the program compute what was printed; walks printed by a program. -/
import Derived.Test.YtbiofbmjonmglaaDoorExF
import Derived.Test.YtbiofbmjonmglaaDoorExP1
import Derived.Test.YtbiofbmjonmglaaDoorExP2
import Derived.Test.YtbiofbmjonmglaaDoorExP3
namespace Go.Proofs.YtbiofbmjonmglaaDoor.Ex
open Go.RowKit Go.Proofs.YtbiofbmjonmglaaDoor.Ax
set_option linter.unusedVariables false
set_option linter.unusedSimpArgs false
set_option maxRecDepth 100000 in
set_option maxHeartbeats 40000000 in
theorem law26_AuthorityMore_ac (x_0 : (List Int)) (x_1 : Int) (x_2 : Bool) (r : Bool) (hF : law26_AuthorityMore x_0 x_1 x_2 = some r) : AC Tryd.prog 6 [.lst 1 (x_0.map iA), .int .i64 x_1, .bool x_2] [] (.bool r) [] := by
  refine ac_of tab_ok follows_ok Tryd.func6 rfl Tryd.ntmps6 rfl ?_
  unfold law26_AuthorityMore at hF
  conv => whnf
  obtain ⟨r_1, h_r_1, hF⟩ := bind_some hF
  refine ⟨_, _, _, _, _, _, _, _, _, callX false [] [] 1 Tryd.func11 (by decide) rfl (keep_New_ac x_0 r_1 h_r_1) rfl ⟨(argE (by (conv => lhs; whnf); all_goals rfl) rfl), trivial⟩ rfl trivial rfl rfl rfl lend0 ⟨rfl, trivial⟩ rfl, ?_⟩
  conv => whnf
  obtain ⟨r_2, h_r_2, hF⟩ := bind_some hF
  refine ⟨_, _, _, _, _, _, _, _, _, callX false [] [] 0 Tryd.func17 (by decide) rfl (law26_flights_ac r_2 h_r_2) rfl trivial rfl trivial rfl rfl rfl lend0 trivial rfl, ?_⟩
  conv => whnf
  obtain ⟨r_3, h_r_3, hF⟩ := bind_some hF
  refine ⟨_, _, _, _, _, _, _, _, _, callX false [0] [] 0 Tryd.func24 (by decide) rfl (keep_Src_Passengers_ac r_1 r_3 h_r_3) rfl ⟨(argP (id := 0) (by (conv => lhs; whnf); all_goals rfl) rfl), trivial⟩ rfl ⟨rfl, trivial⟩ rfl rfl rfl lend0 ⟨rfl, trivial⟩ rfl, ?_⟩
  conv => whnf
  obtain ⟨c_1, hc_1, hF⟩ := fin_some hF
  refine sw_loop tab_ok follows_ok (fun y : Nat × (List Int) × Int × (List Int) × Int => law26_AuthorityMore_L1 r_3 y.1 y.2.1 y.2.2.1 y.2.2.2.1 y.2.2.2.2 = some c_1) (fun y => ⟨eL [(1, .int .i64 x_1), (2, .bool x_2), (7, .ptr 0 0), (8, .lst 10 (r_2.map encDeparture)), (9, .lst 1 (r_3.1.map iA)), (10, .osl 1), (11, .int .i64 y.2.2.1)], hL [(0, .box [.lst 1 (y.2.2.2.1.map iA), .int .i64 y.2.2.2.2]), (1, .row 1 (y.2.1.map iA))], 2⟩) (fun y => y.1) (9223372036854775807, ([] : List Int), (1 : Int), r_3.2.L, r_3.2.At) hc_1 (wk_mk [0] [1] [] rfl ⟨argE (by (conv => lhs; whnf); all_goals rfl) rfl, argE (by (conv => lhs; whnf); all_goals rfl) rfl, argP (id := 0) (by (conv => lhs; whnf); all_goals rfl) rfl, argE (by (conv => lhs; whnf); all_goals rfl) rfl, argE (by (conv => lhs; whnf); all_goals rfl) rfl, argZ (by (conv => lhs; whnf); all_goals rfl) rfl, argE (by (conv => lhs; whnf); all_goals rfl) rfl, trivial⟩ ⟨boxL rfl rfl rfl ⟨(.ni _ rfl), (.ni _ rfl), trivial⟩, blkZ rfl, trivial⟩) ?_
  rintro ⟨q_12, a_6, i_7, a_4, i_5⟩ hL1
  try dsimp only at hL1
  rcases q_12 with _ | q_12
  · rw [law26_AuthorityMore_L1.eq_1] at hL1
    cases hL1
  rw [law26_AuthorityMore_L1.eq_2] at hL1
  show awp _ _ _ _ _ _ ⟨eL [(1, .int .i64 x_1), (2, .bool x_2), (7, .ptr 0 0), (8, .lst 10 (r_2.map encDeparture)), (9, .lst 1 (r_3.1.map iA)), (10, .osl 1), (11, .int .i64 i_7)], hL [(0, .box [.lst 1 (a_4.map iA), .int .i64 i_5]), (1, .row 1 (a_6.map iA))], 2⟩
  conv => whnf
  refine ⟨fun hb_50 => ?_, fun hb_50 => ?_⟩
  · replace hL1 := cond_t hb_50 hL1
    conv => whnf
    obtain ⟨r_8, h_r_8, hL1⟩ := bind_some hL1
    refine ⟨_, _, _, _, _, _, _, _, _, callX false [] [] 0 Tryd.func25 (by decide) rfl (keep_In_ac r_3.1 i_7 r_8 h_r_8) rfl ⟨(argE (by (conv => lhs; whnf); all_goals rfl) rfl), (argE (by (conv => lhs; whnf); all_goals rfl) rfl), trivial⟩ rfl trivial rfl rfl rfl lend0 trivial rfl, ?_⟩
    conv => whnf
    refine ⟨fun hb_51 => ?_, fun hb_51 => ?_⟩
    · replace hL1 := cond_f hb_51 hL1
      conv => whnf
      obtain ⟨r_10, h_r_10, hL1⟩ := bind_some hL1
      refine ⟨_, _, _, _, _, _, _, _, _, callX false [0] [] 0 Tryd.func15 (by decide) rfl (keep_Src_N_ac (⟨a_4, i_5⟩ : Src) (2 : Int) r_10 h_r_10) rfl ⟨(argP (id := 0) (by (conv => lhs; whnf); all_goals rfl) rfl), (argE (by (conv => lhs; whnf); all_goals rfl) rfl), trivial⟩ rfl ⟨rfl, trivial⟩ rfl rfl rfl lend0 ⟨rfl, trivial⟩ rfl, ?_⟩
      conv => whnf
      refine ⟨fun hb_52 => ?_, fun hb_52 => ?_⟩
      · replace hL1 := cond_t hb_52 hL1
        conv => whnf
        obtain ⟨l_11, h_l_11, hL1⟩ := bind_some hL1
        refine ap_q (enc := iA) (l := a_6) (y := ([i_7] : List Int)) h_l_11 rfl rfl (by decide) ?_
        conv => whnf
        refine ⟨_, rfl, ?_⟩
        conv => whnf
        exact ⟨(q_12, l_11, (w64 (i_7 + (1 : Int))), r_10.2.L, r_10.2.At), [0, 5], [], [], hL1, Nat.lt_succ_self _, wk_mk [0, 5] [] [] rfl ⟨argE (by (conv => lhs; whnf); all_goals rfl) rfl, argE (by (conv => lhs; whnf); all_goals rfl) rfl, argP (id := 0) (by (conv => lhs; whnf); all_goals rfl) rfl, argE (by (conv => lhs; whnf); all_goals rfl) rfl, argE (by (conv => lhs; whnf); all_goals rfl) rfl, argO (id := 5) (by (conv => lhs; whnf); all_goals rfl) rfl, argE (by (conv => lhs; whnf); all_goals rfl) rfl, trivial⟩ ⟨boxL rfl rfl rfl ⟨(.ni _ rfl), (.ni _ rfl), trivial⟩, blkR (fun _ => ⟨rfl, rfl⟩) rfl rfl, trivial⟩⟩
      · replace hL1 := cond_f hb_52 hL1
        conv => whnf
        refine ⟨_, rfl, ?_⟩
        conv => whnf
        exact ⟨(q_12, a_6, (w64 (i_7 + (1 : Int))), r_10.2.L, r_10.2.At), [0, 1], [], [], hL1, Nat.lt_succ_self _, wk_mk [0, 1] [] [] rfl ⟨argE (by (conv => lhs; whnf); all_goals rfl) rfl, argE (by (conv => lhs; whnf); all_goals rfl) rfl, argP (id := 0) (by (conv => lhs; whnf); all_goals rfl) rfl, argE (by (conv => lhs; whnf); all_goals rfl) rfl, argE (by (conv => lhs; whnf); all_goals rfl) rfl, argO (id := 1) (by (conv => lhs; whnf); all_goals rfl) rfl, argE (by (conv => lhs; whnf); all_goals rfl) rfl, trivial⟩ ⟨boxL rfl rfl rfl ⟨(.ni _ rfl), (.ni _ rfl), trivial⟩, blkR (fun _ => ⟨rfl, rfl⟩) rfl rfl, trivial⟩⟩
    · replace hL1 := cond_t hb_51 hL1
      conv => whnf
      obtain ⟨l_9, h_l_9, hL1⟩ := bind_some hL1
      refine ap_q (enc := iA) (l := a_6) (y := ([i_7] : List Int)) h_l_9 rfl rfl (by decide) ?_
      conv => whnf
      refine ⟨_, rfl, ?_⟩
      conv => whnf
      exact ⟨(q_12, l_9, (w64 (i_7 + (1 : Int))), a_4, i_5), [0, 4], [], [], hL1, Nat.lt_succ_self _, wk_mk [0, 4] [] [] rfl ⟨argE (by (conv => lhs; whnf); all_goals rfl) rfl, argE (by (conv => lhs; whnf); all_goals rfl) rfl, argP (id := 0) (by (conv => lhs; whnf); all_goals rfl) rfl, argE (by (conv => lhs; whnf); all_goals rfl) rfl, argE (by (conv => lhs; whnf); all_goals rfl) rfl, argO (id := 4) (by (conv => lhs; whnf); all_goals rfl) rfl, argE (by (conv => lhs; whnf); all_goals rfl) rfl, trivial⟩ ⟨boxL rfl rfl rfl ⟨(.ni _ rfl), (.ni _ rfl), trivial⟩, blkR (fun _ => ⟨rfl, rfl⟩) rfl rfl, trivial⟩⟩
  · replace hL1 := cond_f hb_50 hL1
    conv => whnf
    obtain rfl := Option.some.inj hL1
    replace hF := fin_brk hF
    try dsimp only at hF
    obtain ⟨r_14, h_r_14, hF⟩ := bind_some hF
    refine ⟨_, _, _, _, _, _, _, _, _, callX false [0] [] 0 Tryd.func24 (by decide) rfl (keep_Src_Passengers_ac (⟨a_4, i_5⟩ : Src) r_14 h_r_14) rfl ⟨(argP (id := 0) (by (conv => lhs; whnf); all_goals rfl) rfl), trivial⟩ rfl ⟨rfl, trivial⟩ rfl rfl rfl lend0 ⟨rfl, trivial⟩ rfl, ?_⟩
    conv => whnf
    obtain ⟨r_15, h_r_15, hF⟩ := bind_some hF
    refine ⟨_, _, _, _, _, _, _, _, _, callX true [] [3] 0 Tryd.func26 (by decide) rfl (law26_list_ac ([r_14.1, r_3.1] : List (List Int)) r_15 h_r_15) rfl ⟨(argOL 3 (by (conv => lhs; whnf); all_goals rfl) rfl rfl (map_ni (fun _ => ⟨rfl, rfl⟩) _)), trivial⟩ rfl trivial rfl rfl rfl giveU trivial rfl, ?_⟩
    conv => whnf
    obtain ⟨r_16, h_r_16, hF⟩ := bind_some hF
    refine ⟨_, _, _, _, _, _, _, _, _, callX false [] [] 0 Tryd.func14 (by decide) rfl (law26_bag_ac (1 : Int) r_16 h_r_16) rfl ⟨(argE (by (conv => lhs; whnf); all_goals rfl) rfl), trivial⟩ rfl trivial rfl rfl rfl lend0 trivial rfl, ?_⟩
    conv => whnf
    obtain ⟨r_17, h_r_17, hF⟩ := bind_some hF
    refine ⟨_, _, _, _, _, _, _, _, _, callX true [] [1] 0 Tryd.func27 (by decide) rfl (boarding_Apply_ac r_15 (⟨(5 : Int), (0 : Int), (⟨#[67, 80, 72]⟩ : ByteArray), (9 : Int), (⟨(⟨(⟨#[]⟩ : ByteArray), (0 : Int), (⟨#[]⟩ : ByteArray), (0 : Int)⟩ : Flight), (⟨#[]⟩ : ByteArray), (⟨#[]⟩ : ByteArray)⟩ : Leg), r_16.Bag.Out, ([] : (List Leg)), (⟨(0 : Int), (0 : Int), (0 : Int)⟩ : Plate), (0 : Int), false, (0 : Int), (0 : Int), (0 : Int), (⟨#[]⟩ : ByteArray), (⟨#[]⟩ : ByteArray), (0 : Int), (⟨#[]⟩ : ByteArray), a_6⟩ : Message) r_17 h_r_17) rfl ⟨(argE (by (conv => lhs; whnf); all_goals rfl) rfl), (argA (c := [.int .i64 (5 : Int), .int .i64 (0 : Int), .str (⟨#[67, 80, 72]⟩ : ByteArray), .int .i64 (9 : Int), .str (⟨#[]⟩ : ByteArray), .int .i64 (0 : Int), .str (⟨#[]⟩ : ByteArray), .int .i64 (0 : Int), .str (⟨#[]⟩ : ByteArray), .str (⟨#[]⟩ : ByteArray), .str r_16.Bag.Out.Flight.Carrier, .int .i64 r_16.Bag.Out.Flight.Number, .str r_16.Bag.Out.Flight.Suffix, .int .i64 r_16.Bag.Out.Flight.Day, .str r_16.Bag.Out.Port, .str r_16.Bag.Out.Class, .nils, .int .i64 (0 : Int), .int .i64 (0 : Int), .int .i64 (0 : Int), .int .i64 (0 : Int), .fls, .int .i64 (0 : Int), .int .i64 (0 : Int), .int .i64 (0 : Int), .str (⟨#[]⟩ : ByteArray), .str (⟨#[]⟩ : ByteArray), .int .i64 (0 : Int), .str (⟨#[]⟩ : ByteArray), .osl 1]) (by (conv => lhs; whnf); all_goals rfl) rfl ⟨(.ni _ rfl), (.ni _ rfl), (.ni _ rfl), (.ni _ rfl), (.ni _ rfl), (.ni _ rfl), (.ni _ rfl), (.ni _ rfl), (.ni _ rfl), (.ni _ rfl), (.ni _ rfl), (.ni _ rfl), (.ni _ rfl), (.ni _ rfl), (.ni _ rfl), (.ni _ rfl), (.nils _), (.ni _ rfl), (.ni _ rfl), (.ni _ rfl), (.ni _ rfl), .fls, (.ni _ rfl), (.ni _ rfl), (.ni _ rfl), (.ni _ rfl), (.ni _ rfl), (.ni _ rfl), (.ni _ rfl), (.osl 1 1 _ (by simp) rfl (map_ni (fun _ => ⟨rfl, rfl⟩) _)), trivial⟩), trivial⟩ rfl trivial rfl rfl rfl giveU trivial rfl, ?_⟩
    conv => whnf
    refine ⟨fun hb_53 => ?_, fun hb_53 => ?_⟩
    · replace hF := cond_t hb_53 hF
      conv => whnf
      obtain rfl := Option.some.inj hF
      exact ret_gz [] [] [] rfl (argFl (by (conv => lhs; whnf); all_goals rfl)) trivial
    · replace hF := cond_f hb_53 hF
      conv => whnf
      obtain ⟨c_2, hc_2, hF⟩ := fin_some hF
      refine sw_loop tab_ok follows_ok (fun y : Nat × (List Int) × Int × Int => law26_AuthorityMore_L2 x_1 x_2 r_2 r_15 r_17 y.1 y.2.1 y.2.2.1 y.2.2.2 = some c_2) (fun y => ⟨eL [(1, .int .i64 x_1), (2, .bool x_2), (7, .ptr 0 0), (8, .lst 10 (r_2.map encDeparture)), (12, .lst 7 (r_15.map encManifest)), (13, .lst 7 (r_17.1.map encManifest)), (15, .int .i64 y.2.2.2)], hL [(0, .box [.lst 1 (y.2.1.map iA), .int .i64 y.2.2.1])], 1⟩) (fun y => y.1) (9223372036854775807, r_14.2.L, r_14.2.At, (1 : Int)) hc_2 (wk_mk [0] [] [] rfl ⟨argE (by (conv => lhs; whnf); all_goals rfl) rfl, argE (by (conv => lhs; whnf); all_goals rfl) rfl, argP (id := 0) (by (conv => lhs; whnf); all_goals rfl) rfl, argE (by (conv => lhs; whnf); all_goals rfl) rfl, argE (by (conv => lhs; whnf); all_goals rfl) rfl, argE (by (conv => lhs; whnf); all_goals rfl) rfl, argE (by (conv => lhs; whnf); all_goals rfl) rfl, trivial⟩ ⟨boxL rfl rfl rfl ⟨(.ni _ rfl), (.ni _ rfl), trivial⟩, trivial⟩) ?_
      rintro ⟨q_30, a_18, i_19, i_20⟩ hL1
      try dsimp only at hL1
      rcases q_30 with _ | q_30
      · rw [law26_AuthorityMore_L2.eq_1] at hL1
        cases hL1
      rw [law26_AuthorityMore_L2.eq_2] at hL1
      show awp _ _ _ _ _ _ ⟨eL [(1, .int .i64 x_1), (2, .bool x_2), (7, .ptr 0 0), (8, .lst 10 (r_2.map encDeparture)), (12, .lst 7 (r_15.map encManifest)), (13, .lst 7 (r_17.1.map encManifest)), (15, .int .i64 i_20)], hL [(0, .box [.lst 1 (a_18.map iA), .int .i64 i_19])], 1⟩
      conv => whnf
      refine ⟨fun hb_54 => ?_, fun hb_54 => ?_⟩
      · replace hL1 := cond_t hb_54 hL1
        conv => whnf
        obtain ⟨r_21, h_r_21, hL1⟩ := bind_some hL1
        refine ⟨_, _, _, _, _, _, _, _, _, callX false [] [] 0 Tryd.func14 (by decide) rfl (law26_bag_ac i_20 r_21 h_r_21) rfl ⟨(argE (by (conv => lhs; whnf); all_goals rfl) rfl), trivial⟩ rfl trivial rfl rfl rfl lend0 trivial rfl, ?_⟩
        conv => whnf
        obtain ⟨r_22, h_r_22, hL1⟩ := bind_some hL1
        refine ⟨_, _, _, _, _, _, _, _, _, callX false [0] [] 0 Tryd.func13 (by decide) rfl (keep_Src_Facts_ac (⟨a_18, i_19⟩ : Src) r_22 h_r_22) rfl ⟨(argP (id := 0) (by (conv => lhs; whnf); all_goals rfl) rfl), trivial⟩ rfl ⟨rfl, trivial⟩ rfl rfl rfl lend0 ⟨rfl, trivial⟩ rfl, ?_⟩
        conv => whnf
        refine len_q (enc := encFacts) (l := ([r_21, (⟨r_22.1.Known, (⟨r_22.1.Bag.Plate, r_22.1.Bag.In, r_21.Bag.Out, r_22.1.Bag.Onward, i_20, r_22.1.Bag.Status, r_22.1.Bag.Weight, r_22.1.Bag.Load, r_22.1.Bag.Surname, r_22.1.Bag.Given, r_22.1.Bag.Exception, r_22.1.Bag.Node, r_22.1.Bag.Unloaded⟩ : Bag), r_22.1.Copies, r_22.1.Cleared⟩ : Facts)] : List Facts)) rfl ?_
        conv => whnf
        obtain ⟨c_3, hc_3, hL1⟩ := sub_some hL1
        refine sw_br 5 (sz := 28) (xs := ([r_21, (⟨r_22.1.Known, (⟨r_22.1.Bag.Plate, r_22.1.Bag.In, r_21.Bag.Out, r_22.1.Bag.Onward, i_20, r_22.1.Bag.Status, r_22.1.Bag.Weight, r_22.1.Bag.Load, r_22.1.Bag.Surname, r_22.1.Bag.Given, r_22.1.Bag.Exception, r_22.1.Bag.Node, r_22.1.Bag.Unloaded⟩ : Bag), r_22.1.Copies, r_22.1.Cleared⟩ : Facts)] : List Facts).map encFacts) (by (conv => lhs; whnf); all_goals rfl) (fun hb => ?_)
        have hbd_k_24 : ([r_21, (⟨r_22.1.Known, (⟨r_22.1.Bag.Plate, r_22.1.Bag.In, r_21.Bag.Out, r_22.1.Bag.Onward, i_20, r_22.1.Bag.Status, r_22.1.Bag.Weight, r_22.1.Bag.Load, r_22.1.Bag.Surname, r_22.1.Bag.Given, r_22.1.Bag.Exception, r_22.1.Bag.Node, r_22.1.Bag.Unloaded⟩ : Bag), r_22.1.Copies, r_22.1.Cleared⟩ : Facts)] : List Facts).length ≤ 9223372036854775807 := bnd_len (enc := encFacts) (hb)
        refine sw_loop tab_ok follows_ok (fun y : Nat => y ≤ ([r_21, (⟨r_22.1.Known, (⟨r_22.1.Bag.Plate, r_22.1.Bag.In, r_21.Bag.Out, r_22.1.Bag.Onward, i_20, r_22.1.Bag.Status, r_22.1.Bag.Weight, r_22.1.Bag.Load, r_22.1.Bag.Surname, r_22.1.Bag.Given, r_22.1.Bag.Exception, r_22.1.Bag.Node, r_22.1.Bag.Unloaded⟩ : Bag), r_22.1.Copies, r_22.1.Cleared⟩ : Facts)] : List Facts).length ∧ law26_AuthorityMore_L3 x_1 x_2 r_2 r_15 r_17 (([r_21, (⟨r_22.1.Known, (⟨r_22.1.Bag.Plate, r_22.1.Bag.In, r_21.Bag.Out, r_22.1.Bag.Onward, i_20, r_22.1.Bag.Status, r_22.1.Bag.Weight, r_22.1.Bag.Load, r_22.1.Bag.Surname, r_22.1.Bag.Given, r_22.1.Bag.Exception, r_22.1.Bag.Node, r_22.1.Bag.Unloaded⟩ : Bag), r_22.1.Copies, r_22.1.Cleared⟩ : Facts)] : List Facts).drop y) y = some c_3) (fun y => ⟨eL [(1, .int .i64 x_1), (2, .bool x_2), (7, .ptr 0 0), (8, .lst 10 (r_2.map encDeparture)), (12, .lst 7 (r_15.map encManifest)), (13, .lst 7 (r_17.1.map encManifest)), (15, .int .i64 i_20), (77, .osl 1), (78, .int .i64 (([r_21, (⟨r_22.1.Known, (⟨r_22.1.Bag.Plate, r_22.1.Bag.In, r_21.Bag.Out, r_22.1.Bag.Onward, i_20, r_22.1.Bag.Status, r_22.1.Bag.Weight, r_22.1.Bag.Load, r_22.1.Bag.Surname, r_22.1.Bag.Given, r_22.1.Bag.Exception, r_22.1.Bag.Node, r_22.1.Bag.Unloaded⟩ : Bag), r_22.1.Copies, r_22.1.Cleared⟩ : Facts)] : List Facts).length : Int)), (79, .int .i64 (y : Int))], hL [(0, .box [.lst 1 (r_22.2.L.map iA), .int .i64 r_22.2.At]), (1, .row 28 (([r_21, (⟨r_22.1.Known, (⟨r_22.1.Bag.Plate, r_22.1.Bag.In, r_21.Bag.Out, r_22.1.Bag.Onward, i_20, r_22.1.Bag.Status, r_22.1.Bag.Weight, r_22.1.Bag.Load, r_22.1.Bag.Surname, r_22.1.Bag.Given, r_22.1.Bag.Exception, r_22.1.Bag.Node, r_22.1.Bag.Unloaded⟩ : Bag), r_22.1.Copies, r_22.1.Cleared⟩ : Facts)] : List Facts).map encFacts))], 2⟩) (fun y => ([r_21, (⟨r_22.1.Known, (⟨r_22.1.Bag.Plate, r_22.1.Bag.In, r_21.Bag.Out, r_22.1.Bag.Onward, i_20, r_22.1.Bag.Status, r_22.1.Bag.Weight, r_22.1.Bag.Load, r_22.1.Bag.Surname, r_22.1.Bag.Given, r_22.1.Bag.Exception, r_22.1.Bag.Node, r_22.1.Bag.Unloaded⟩ : Bag), r_22.1.Copies, r_22.1.Cleared⟩ : Facts)] : List Facts).length - y) 0 ⟨Nat.zero_le _, hc_3⟩ (wk_mk [0, 5] [] [] rfl ⟨argE (by (conv => lhs; whnf); all_goals rfl) rfl, argE (by (conv => lhs; whnf); all_goals rfl) rfl, argP (id := 0) (by (conv => lhs; whnf); all_goals rfl) rfl, argE (by (conv => lhs; whnf); all_goals rfl) rfl, argE (by (conv => lhs; whnf); all_goals rfl) rfl, argE (by (conv => lhs; whnf); all_goals rfl) rfl, argE (by (conv => lhs; whnf); all_goals rfl) rfl, argO (id := 5) (by (conv => lhs; whnf); all_goals rfl) rfl, argE (by (conv => lhs; whnf); all_goals rfl) rfl, argE (by (conv => lhs; whnf); all_goals rfl) rfl, trivial⟩ ⟨boxL rfl rfl rfl ⟨(.ni _ rfl), (.ni _ rfl), trivial⟩, blkR (fun _ => ⟨rfl, rfl⟩) rfl rfl, trivial⟩) ?_
        rintro k_24 ⟨hk_k_24, hL2⟩
        try dsimp only at hk_k_24 hL2
        show awp _ _ _ _ _ _ ⟨eL [(1, .int .i64 x_1), (2, .bool x_2), (7, .ptr 0 0), (8, .lst 10 (r_2.map encDeparture)), (12, .lst 7 (r_15.map encManifest)), (13, .lst 7 (r_17.1.map encManifest)), (15, .int .i64 i_20), (77, .osl 1), (78, .int .i64 (([r_21, (⟨r_22.1.Known, (⟨r_22.1.Bag.Plate, r_22.1.Bag.In, r_21.Bag.Out, r_22.1.Bag.Onward, i_20, r_22.1.Bag.Status, r_22.1.Bag.Weight, r_22.1.Bag.Load, r_22.1.Bag.Surname, r_22.1.Bag.Given, r_22.1.Bag.Exception, r_22.1.Bag.Node, r_22.1.Bag.Unloaded⟩ : Bag), r_22.1.Copies, r_22.1.Cleared⟩ : Facts)] : List Facts).length : Int)), (79, .int .i64 (k_24 : Int))], hL [(0, .box [.lst 1 (r_22.2.L.map iA), .int .i64 r_22.2.At]), (1, .row 28 (([r_21, (⟨r_22.1.Known, (⟨r_22.1.Bag.Plate, r_22.1.Bag.In, r_21.Bag.Out, r_22.1.Bag.Onward, i_20, r_22.1.Bag.Status, r_22.1.Bag.Weight, r_22.1.Bag.Load, r_22.1.Bag.Surname, r_22.1.Bag.Given, r_22.1.Bag.Exception, r_22.1.Bag.Node, r_22.1.Bag.Unloaded⟩ : Bag), r_22.1.Copies, r_22.1.Cleared⟩ : Facts)] : List Facts).map encFacts))], 2⟩
        conv => whnf
        refine ⟨fun h => ?_, fun h => ?_⟩
        · have hlt_k_24 : k_24 < ([r_21, (⟨r_22.1.Known, (⟨r_22.1.Bag.Plate, r_22.1.Bag.In, r_21.Bag.Out, r_22.1.Bag.Onward, i_20, r_22.1.Bag.Status, r_22.1.Bag.Weight, r_22.1.Bag.Load, r_22.1.Bag.Surname, r_22.1.Bag.Given, r_22.1.Bag.Exception, r_22.1.Bag.Node, r_22.1.Bag.Unloaded⟩ : Bag), r_22.1.Copies, r_22.1.Cleared⟩ : Facts)] : List Facts).length := by have h := of_decide_eq_true h; omega
          obtain ⟨e_25, h_e_25⟩ : ∃ y, ([r_21, (⟨r_22.1.Known, (⟨r_22.1.Bag.Plate, r_22.1.Bag.In, r_21.Bag.Out, r_22.1.Bag.Onward, i_20, r_22.1.Bag.Status, r_22.1.Bag.Weight, r_22.1.Bag.Load, r_22.1.Bag.Surname, r_22.1.Bag.Given, r_22.1.Bag.Exception, r_22.1.Bag.Node, r_22.1.Bag.Unloaded⟩ : Bag), r_22.1.Copies, r_22.1.Cleared⟩ : Facts)] : List Facts)[k_24]? = some y := ⟨_, List.getElem?_eq_getElem hlt_k_24⟩
          rw [drop_cons h_e_25, law26_AuthorityMore_L3.eq_2] at hL2
          conv => whnf
          refine ⟨k_24, rfl, by rw [List.length_map]; exact hlt_k_24, ?_⟩
          conv => whnf
          refine ⟨_, ix_map (enc := encFacts) h_e_25, ?_⟩
          conv => whnf
          obtain ⟨r_26, h_r_26, hL2⟩ := bind_some hL2
          refine ⟨_, _, _, _, _, _, _, _, _, callX false [] [] 0 Tryd.func19 (by decide) rfl (authority_Decide_ac e_25 r_15 r_2 e_25.Bag.Out.Flight x_1 x_2 r_26 h_r_26) rfl ⟨(argE (by (conv => lhs; whnf); all_goals rfl) rfl), (argE (by (conv => lhs; whnf); all_goals rfl) rfl), (argE (by (conv => lhs; whnf); all_goals rfl) rfl), (argE (by (conv => lhs; whnf); all_goals rfl) rfl), (argE (by (conv => lhs; whnf); all_goals rfl) rfl), (argE (by (conv => lhs; whnf); all_goals rfl) rfl), trivial⟩ rfl trivial rfl rfl rfl lend0 trivial rfl, ?_⟩
          conv => whnf
          refine ⟨fun hb_55 => ?_, fun hb_55 => ?_⟩
          · replace hL2 := cond_t hb_55 hL2
            conv => whnf
            obtain ⟨r_27, h_r_27, hL2⟩ := bind_some hL2
            refine ⟨_, _, _, _, _, _, _, _, _, callX false [] [] 0 Tryd.func19 (by decide) rfl (authority_Decide_ac e_25 r_17.1 r_2 e_25.Bag.Out.Flight x_1 x_2 r_27 h_r_27) rfl ⟨(argE (by (conv => lhs; whnf); all_goals rfl) rfl), (argE (by (conv => lhs; whnf); all_goals rfl) rfl), (argE (by (conv => lhs; whnf); all_goals rfl) rfl), (argE (by (conv => lhs; whnf); all_goals rfl) rfl), (argE (by (conv => lhs; whnf); all_goals rfl) rfl), (argE (by (conv => lhs; whnf); all_goals rfl) rfl), trivial⟩ rfl trivial rfl rfl rfl lend0 trivial rfl, ?_⟩
            conv => whnf
            refine ⟨fun hb_56 => ?_, fun hb_56 => ?_⟩
            · replace hL2 := cond_t hb_56 hL2
              conv => whnf
              obtain rfl := Option.some.inj hL2
              replace hL1 := sub_ret hL1
              obtain rfl := Option.some.inj hL1
              replace hF := fin_ret hF
              obtain rfl := Option.some.inj hF
              exact ret_gz [] [] [] rfl (argFl (by (conv => lhs; whnf); all_goals rfl)) trivial
            · replace hL2 := cond_f hb_56 hL2
              conv => whnf
              refine ⟨((k_24 + 1 : Nat) : Int), wrapE (by omega) (by omega) (by omega), ?_⟩
              conv => whnf
              exact ⟨k_24 + 1, [0, 1], [], [], ⟨hlt_k_24, hL2⟩, by show ([r_21, (⟨r_22.1.Known, (⟨r_22.1.Bag.Plate, r_22.1.Bag.In, r_21.Bag.Out, r_22.1.Bag.Onward, i_20, r_22.1.Bag.Status, r_22.1.Bag.Weight, r_22.1.Bag.Load, r_22.1.Bag.Surname, r_22.1.Bag.Given, r_22.1.Bag.Exception, r_22.1.Bag.Node, r_22.1.Bag.Unloaded⟩ : Bag), r_22.1.Copies, r_22.1.Cleared⟩ : Facts)] : List Facts).length - (k_24 + 1) < ([r_21, (⟨r_22.1.Known, (⟨r_22.1.Bag.Plate, r_22.1.Bag.In, r_21.Bag.Out, r_22.1.Bag.Onward, i_20, r_22.1.Bag.Status, r_22.1.Bag.Weight, r_22.1.Bag.Load, r_22.1.Bag.Surname, r_22.1.Bag.Given, r_22.1.Bag.Exception, r_22.1.Bag.Node, r_22.1.Bag.Unloaded⟩ : Bag), r_22.1.Copies, r_22.1.Cleared⟩ : Facts)] : List Facts).length - k_24; omega, wk_mk [0, 1] [] [] rfl ⟨argE (by (conv => lhs; whnf); all_goals rfl) rfl, argE (by (conv => lhs; whnf); all_goals rfl) rfl, argP (id := 0) (by (conv => lhs; whnf); all_goals rfl) rfl, argE (by (conv => lhs; whnf); all_goals rfl) rfl, argE (by (conv => lhs; whnf); all_goals rfl) rfl, argE (by (conv => lhs; whnf); all_goals rfl) rfl, argE (by (conv => lhs; whnf); all_goals rfl) rfl, argO (id := 1) (by (conv => lhs; whnf); all_goals rfl) rfl, argE (by (conv => lhs; whnf); all_goals rfl) rfl, argE (by (conv => lhs; whnf); all_goals rfl) rfl, trivial⟩ ⟨boxL rfl rfl rfl ⟨(.ni _ rfl), (.ni _ rfl), trivial⟩, blkR (fun _ => ⟨rfl, rfl⟩) rfl rfl, trivial⟩⟩
          · replace hL2 := cond_f hb_55 hL2
            conv => whnf
            refine ⟨((k_24 + 1 : Nat) : Int), wrapE (by omega) (by omega) (by omega), ?_⟩
            conv => whnf
            exact ⟨k_24 + 1, [0, 1], [], [], ⟨hlt_k_24, hL2⟩, by show ([r_21, (⟨r_22.1.Known, (⟨r_22.1.Bag.Plate, r_22.1.Bag.In, r_21.Bag.Out, r_22.1.Bag.Onward, i_20, r_22.1.Bag.Status, r_22.1.Bag.Weight, r_22.1.Bag.Load, r_22.1.Bag.Surname, r_22.1.Bag.Given, r_22.1.Bag.Exception, r_22.1.Bag.Node, r_22.1.Bag.Unloaded⟩ : Bag), r_22.1.Copies, r_22.1.Cleared⟩ : Facts)] : List Facts).length - (k_24 + 1) < ([r_21, (⟨r_22.1.Known, (⟨r_22.1.Bag.Plate, r_22.1.Bag.In, r_21.Bag.Out, r_22.1.Bag.Onward, i_20, r_22.1.Bag.Status, r_22.1.Bag.Weight, r_22.1.Bag.Load, r_22.1.Bag.Surname, r_22.1.Bag.Given, r_22.1.Bag.Exception, r_22.1.Bag.Node, r_22.1.Bag.Unloaded⟩ : Bag), r_22.1.Copies, r_22.1.Cleared⟩ : Facts)] : List Facts).length - k_24; omega, wk_mk [0, 1] [] [] rfl ⟨argE (by (conv => lhs; whnf); all_goals rfl) rfl, argE (by (conv => lhs; whnf); all_goals rfl) rfl, argP (id := 0) (by (conv => lhs; whnf); all_goals rfl) rfl, argE (by (conv => lhs; whnf); all_goals rfl) rfl, argE (by (conv => lhs; whnf); all_goals rfl) rfl, argE (by (conv => lhs; whnf); all_goals rfl) rfl, argE (by (conv => lhs; whnf); all_goals rfl) rfl, argO (id := 1) (by (conv => lhs; whnf); all_goals rfl) rfl, argE (by (conv => lhs; whnf); all_goals rfl) rfl, argE (by (conv => lhs; whnf); all_goals rfl) rfl, trivial⟩ ⟨boxL rfl rfl rfl ⟨(.ni _ rfl), (.ni _ rfl), trivial⟩, blkR (fun _ => ⟨rfl, rfl⟩) rfl rfl, trivial⟩⟩
        · rw [drop_nil (show ([r_21, (⟨r_22.1.Known, (⟨r_22.1.Bag.Plate, r_22.1.Bag.In, r_21.Bag.Out, r_22.1.Bag.Onward, i_20, r_22.1.Bag.Status, r_22.1.Bag.Weight, r_22.1.Bag.Load, r_22.1.Bag.Surname, r_22.1.Bag.Given, r_22.1.Bag.Exception, r_22.1.Bag.Node, r_22.1.Bag.Unloaded⟩ : Bag), r_22.1.Copies, r_22.1.Cleared⟩ : Facts)] : List Facts).length ≤ k_24 by have h := of_decide_eq_false h; omega), law26_AuthorityMore_L3.eq_1] at hL2
          conv => whnf
          obtain rfl := Option.some.inj hL2
          replace hL1 := sub_brk hL1
          try dsimp only at hL1
          refine ⟨_, rfl, ?_⟩
          conv => whnf
          exact ⟨(q_30, r_22.2.L, r_22.2.At, (w64 (i_20 + (1 : Int)))), [0], [], [], hL1, Nat.lt_succ_self _, wk_mk [0] [] [] rfl ⟨argE (by (conv => lhs; whnf); all_goals rfl) rfl, argE (by (conv => lhs; whnf); all_goals rfl) rfl, argP (id := 0) (by (conv => lhs; whnf); all_goals rfl) rfl, argE (by (conv => lhs; whnf); all_goals rfl) rfl, argE (by (conv => lhs; whnf); all_goals rfl) rfl, argE (by (conv => lhs; whnf); all_goals rfl) rfl, argE (by (conv => lhs; whnf); all_goals rfl) rfl, trivial⟩ ⟨boxL rfl rfl rfl ⟨(.ni _ rfl), (.ni _ rfl), trivial⟩, trivial⟩⟩
      · replace hL1 := cond_f hb_54 hL1
        conv => whnf
        obtain rfl := Option.some.inj hL1
        replace hF := fin_brk hF
        try dsimp only at hF
        obtain ⟨r_32, h_r_32, hF⟩ := bind_some hF
        refine ⟨_, _, _, _, _, _, _, _, _, callX false [] [] 0 Tryd.func21 (by decide) rfl (law26_awake_ac r_32 h_r_32) rfl trivial rfl trivial rfl rfl rfl lend0 trivial rfl, ?_⟩
        conv => whnf
        obtain rfl := Option.some.inj hF
        exact ret_gz [] [] [] rfl (argE (by (conv => lhs; whnf); all_goals rfl) rfl) trivial
end Go.Proofs.YtbiofbmjonmglaaDoor.Ex
