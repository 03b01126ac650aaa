/- The functions of the program compute what was printed; walks printed by a program. -/
import Derived.Test.YtbiofbmjonmglaaDoorExF
import Derived.Test.YtbiofbmjonmglaaDoorExP1
import Derived.Test.YtbiofbmjonmglaaDoorExP3
namespace Go.Proofs.YtbiofbmjonmglaaDoor.Ex
open Go.RowKit Go.Proofs.YtbiofbmjonmglaaDoor.Ax
set_option linter.unusedVariables false
set_option linter.unusedSimpArgs false
set_option maxRecDepth 100000 in
set_option maxHeartbeats 40000000 in
theorem law26_AuthorityNever_ac (x_0 : Facts) (x_1 : (List Int)) (x_2 : Flight) (x_3 : Int) (x_4 : Bool) (r : Bool) (hF : law26_AuthorityNever x_0 x_1 x_2 x_3 x_4 = some r) : AC Tryd.prog 5 [.agg (encFacts x_0), .lst 1 (x_1.map iA), .agg (encFlight x_2), .int .i64 x_3, .bool x_4] [] (.bool r) [] := by
  refine ac_of tab_ok follows_ok Tryd.func5 rfl Tryd.ntmps5 rfl ?_
  unfold law26_AuthorityNever at hF
  conv => whnf
  obtain ⟨r_1, h_r_1, hF⟩ := bind_some hF
  refine ⟨_, _, _, _, _, _, _, _, _, callX false [] [] 1 Tryd.func11 (by decide) rfl (keep_New_ac x_1 r_1 h_r_1) rfl ⟨(argE (by (conv => lhs; whnf); all_goals rfl) rfl), trivial⟩ rfl trivial rfl rfl rfl lend0 ⟨rfl, trivial⟩ rfl, ?_⟩
  conv => whnf
  obtain ⟨r_2, h_r_2, hF⟩ := bind_some hF
  refine ⟨_, _, _, _, _, _, _, _, _, callX false [2] [] 0 Tryd.func16 (by decide) rfl (keep_Src_Manifests_ac r_1 r_2 h_r_2) rfl ⟨(argP (id := 2) (by (conv => lhs; whnf); all_goals rfl) rfl), trivial⟩ rfl ⟨rfl, trivial⟩ rfl rfl rfl lend0 ⟨rfl, trivial⟩ rfl, ?_⟩
  conv => whnf
  obtain ⟨r_3, h_r_3, hF⟩ := bind_some hF
  refine ⟨_, _, _, _, _, _, _, _, _, callX false [2] [] 0 Tryd.func12 (by decide) rfl (keep_Src_Schedule_ac r_2.2 (8 : Int) r_3 h_r_3) rfl ⟨(argP (id := 2) (by (conv => lhs; whnf); all_goals rfl) rfl), (argE (by (conv => lhs; whnf); all_goals rfl) rfl), trivial⟩ rfl ⟨rfl, trivial⟩ rfl rfl rfl lend0 ⟨rfl, trivial⟩ rfl, ?_⟩
  conv => whnf
  obtain ⟨r_4, h_r_4, hF⟩ := bind_some hF
  refine ⟨_, _, _, _, _, _, _, _, _, callX false [2] [] 0 Tryd.func13 (by decide) rfl (keep_Src_Facts_ac r_3.2 r_4 h_r_4) rfl ⟨(argP (id := 2) (by (conv => lhs; whnf); all_goals rfl) rfl), trivial⟩ rfl ⟨rfl, trivial⟩ rfl rfl rfl lend0 ⟨rfl, trivial⟩ rfl, ?_⟩
  conv => whnf
  obtain ⟨r_5, h_r_5, hF⟩ := bind_some hF
  refine ⟨_, _, _, _, _, _, _, _, _, callX false [2] [] 0 Tryd.func13 (by decide) rfl (keep_Src_Facts_ac r_4.2 r_5 h_r_5) rfl ⟨(argP (id := 2) (by (conv => lhs; whnf); all_goals rfl) rfl), trivial⟩ rfl ⟨rfl, trivial⟩ rfl rfl rfl lend0 ⟨rfl, trivial⟩ rfl, ?_⟩
  conv => whnf
  refine len_q (enc := encFacts) (l := ([x_0, r_4.1, r_5.1] : List Facts)) rfl ?_
  conv => whnf
  refine ⟨by kernel_rfl, ?_⟩
  conv => whnf
  obtain ⟨c_1, hc_1, hF⟩ := fin_some hF
  refine sw_br 8 (sz := 28) (xs := ([x_0, r_4.1, r_5.1] : List Facts).map encFacts) (by (conv => lhs; whnf); all_goals rfl) (fun hb => ?_)
  have hbd_k_9 : ([x_0, r_4.1, r_5.1] : List Facts).length ≤ 9223372036854775807 := bnd_len (enc := encFacts) (hb)
  refine sw_loop tab_ok follows_ok (fun y : Nat × (List Int) × Int => y.1 ≤ ([x_0, r_4.1, r_5.1] : List Facts).length ∧ law26_AuthorityNever_L1 x_2 x_3 x_4 r_2 r_3 (([x_0, r_4.1, r_5.1] : List Facts).drop y.1) y.1 y.2.1 y.2.2 = some c_1) (fun y => ⟨eL [(3, .int .i64 x_3), (4, .bool x_4), (7, .ptr 0 0), (11, .ptr 1 0), (12, .lst 7 (r_2.1.map encManifest)), (13, .lst 10 (r_3.1.map encDeparture)), (34, .osl 2), (35, .int .i64 (([x_0, r_4.1, r_5.1] : List Facts).length : Int)), (36, .int .i64 (y.1 : Int))], hL [(0, .box [.str x_2.Carrier, .int .i64 x_2.Number, .str x_2.Suffix, .int .i64 x_2.Day]), (1, .box [.lst 1 (y.2.1.map iA), .int .i64 y.2.2]), (2, .row 28 (([x_0, r_4.1, r_5.1] : List Facts).map encFacts))], 3⟩) (fun y => ([x_0, r_4.1, r_5.1] : List Facts).length - y.1) (0, r_5.2.L, r_5.2.At) ⟨Nat.zero_le _, hc_1⟩ (wk_mk [1, 2, 8] [] [] rfl ⟨argE (by (conv => lhs; whnf); all_goals rfl) rfl, argE (by (conv => lhs; whnf); all_goals rfl) rfl, argP (id := 1) (by (conv => lhs; whnf); all_goals rfl) rfl, argP (id := 2) (by (conv => lhs; whnf); all_goals rfl) rfl, argE (by (conv => lhs; whnf); all_goals rfl) rfl, argE (by (conv => lhs; whnf); all_goals rfl) rfl, argO (id := 8) (by (conv => lhs; whnf); all_goals rfl) rfl, argE (by (conv => lhs; whnf); all_goals rfl) rfl, argE (by (conv => lhs; whnf); all_goals rfl) rfl, trivial⟩ ⟨boxL rfl rfl rfl ⟨(.ni _ rfl), (.ni _ rfl), (.ni _ rfl), (.ni _ rfl), trivial⟩, boxL rfl rfl rfl ⟨(.ni _ rfl), (.ni _ rfl), trivial⟩, blkR (fun _ => ⟨rfl, rfl⟩) rfl rfl, trivial⟩) ?_
  rintro ⟨k_9, a_6, i_7⟩ ⟨hk_k_9, hL1⟩
  try dsimp only at hk_k_9 hL1
  show awp _ _ _ _ _ _ ⟨eL [(3, .int .i64 x_3), (4, .bool x_4), (7, .ptr 0 0), (11, .ptr 1 0), (12, .lst 7 (r_2.1.map encManifest)), (13, .lst 10 (r_3.1.map encDeparture)), (34, .osl 2), (35, .int .i64 (([x_0, r_4.1, r_5.1] : List Facts).length : Int)), (36, .int .i64 (k_9 : Int))], hL [(0, .box [.str x_2.Carrier, .int .i64 x_2.Number, .str x_2.Suffix, .int .i64 x_2.Day]), (1, .box [.lst 1 (a_6.map iA), .int .i64 i_7]), (2, .row 28 (([x_0, r_4.1, r_5.1] : List Facts).map encFacts))], 3⟩
  conv => whnf
  refine ⟨fun h => ?_, fun h => ?_⟩
  · have hlt_k_9 : k_9 < ([x_0, r_4.1, r_5.1] : List Facts).length := by have h := of_decide_eq_true h; omega
    obtain ⟨e_10, h_e_10⟩ : ∃ y, ([x_0, r_4.1, r_5.1] : List Facts)[k_9]? = some y := ⟨_, List.getElem?_eq_getElem hlt_k_9⟩
    rw [drop_cons h_e_10, law26_AuthorityNever_L1.eq_2] at hL1
    conv => whnf
    refine ⟨k_9, rfl, by rw [List.length_map]; exact hlt_k_9, ?_⟩
    conv => whnf
    refine ⟨_, ix_map (enc := encFacts) h_e_10, ?_⟩
    conv => whnf
    obtain ⟨r_11, h_r_11, hL1⟩ := bind_some hL1
    refine ⟨_, _, _, _, _, _, _, _, _, callX false [] [] 0 Tryd.func17 (by decide) rfl (law26_flights_ac r_11 h_r_11) rfl trivial rfl trivial rfl rfl rfl lend0 trivial rfl, ?_⟩
    conv => whnf
    refine len_q (enc := (lA 10 encDeparture)) (l := ([r_3.1, r_11] : List (List Departure))) rfl ?_
    conv => whnf
    obtain ⟨c_2, hc_2, hL1⟩ := sub_some hL1
    refine sw_br 5 (sz := 1) (xs := ([r_3.1, r_11] : List (List Departure)).map (lA 10 encDeparture)) (by (conv => lhs; whnf); all_goals rfl) (fun hb => ?_)
    have hbd_k_15 : ([r_3.1, r_11] : List (List Departure)).length ≤ 9223372036854775807 := bnd_len (enc := (lA 10 encDeparture)) (hb)
    refine sw_loop tab_ok follows_ok (fun y : Nat × (List Int) × Int => y.1 ≤ ([r_3.1, r_11] : List (List Departure)).length ∧ law26_AuthorityNever_L2 x_2 x_3 x_4 r_2 e_10 (([r_3.1, r_11] : List (List Departure)).drop y.1) y.1 y.2.1 y.2.2 = some c_2) (fun y => ⟨eL [(3, .int .i64 x_3), (4, .bool x_4), (7, .ptr 0 0), (11, .ptr 1 0), (12, .lst 7 (r_2.1.map encManifest)), (13, .lst 10 (r_3.1.map encDeparture)), (15, .ptr 2 0), (34, .osl 3), (35, .int .i64 (([x_0, r_4.1, r_5.1] : List Facts).length : Int)), (36, .int .i64 (k_9 : Int)), (42, .osl 4), (43, .int .i64 (([r_3.1, r_11] : List (List Departure)).length : Int)), (44, .int .i64 (y.1 : Int))], hL [(0, .box [.str x_2.Carrier, .int .i64 x_2.Number, .str x_2.Suffix, .int .i64 x_2.Day]), (1, .box [.lst 1 (y.2.1.map iA), .int .i64 y.2.2]), (2, .box [.bool e_10.Known, .int .i64 e_10.Bag.Plate.Lead, .int .i64 e_10.Bag.Plate.Airline, .int .i64 e_10.Bag.Plate.Serial, .str e_10.Bag.In.Flight.Carrier, .int .i64 e_10.Bag.In.Flight.Number, .str e_10.Bag.In.Flight.Suffix, .int .i64 e_10.Bag.In.Flight.Day, .str e_10.Bag.In.Port, .str e_10.Bag.In.Class, .str e_10.Bag.Out.Flight.Carrier, .int .i64 e_10.Bag.Out.Flight.Number, .str e_10.Bag.Out.Flight.Suffix, .int .i64 e_10.Bag.Out.Flight.Day, .str e_10.Bag.Out.Port, .str e_10.Bag.Out.Class, .lst 6 (e_10.Bag.Onward.map encLeg), .int .i64 e_10.Bag.Sequence, .int .i64 e_10.Bag.Status, .int .i64 e_10.Bag.Weight, .bool e_10.Bag.Load, .str e_10.Bag.Surname, .str e_10.Bag.Given, .int .i64 e_10.Bag.Exception, .str e_10.Bag.Node, .bool e_10.Bag.Unloaded, .int .i64 e_10.Copies, .bool e_10.Cleared]), (3, .row 28 (([x_0, r_4.1, r_5.1] : List Facts).map encFacts)), (4, .row 1 (([r_3.1, r_11] : List (List Departure)).map (lA 10 encDeparture)))], 5⟩) (fun y => ([r_3.1, r_11] : List (List Departure)).length - y.1) (0, a_6, i_7) ⟨Nat.zero_le _, hc_2⟩ (wk_mk [0, 1, 3, 2, 5] [] [] rfl ⟨argE (by (conv => lhs; whnf); all_goals rfl) rfl, argE (by (conv => lhs; whnf); all_goals rfl) rfl, argP (id := 0) (by (conv => lhs; whnf); all_goals rfl) rfl, argP (id := 1) (by (conv => lhs; whnf); all_goals rfl) rfl, argE (by (conv => lhs; whnf); all_goals rfl) rfl, argE (by (conv => lhs; whnf); all_goals rfl) rfl, argP (id := 3) (by (conv => lhs; whnf); all_goals rfl) rfl, argO (id := 2) (by (conv => lhs; whnf); all_goals rfl) rfl, argE (by (conv => lhs; whnf); all_goals rfl) rfl, argE (by (conv => lhs; whnf); all_goals rfl) rfl, argO (id := 5) (by (conv => lhs; whnf); all_goals rfl) rfl, argE (by (conv => lhs; whnf); all_goals rfl) rfl, argE (by (conv => lhs; whnf); all_goals rfl) rfl, trivial⟩ ⟨boxL rfl rfl rfl ⟨(.ni _ rfl), (.ni _ rfl), (.ni _ rfl), (.ni _ rfl), trivial⟩, boxL rfl rfl rfl ⟨(.ni _ rfl), (.ni _ rfl), trivial⟩, boxL rfl rfl rfl ⟨(.ni _ rfl), (.ni _ rfl), (.ni _ rfl), (.ni _ rfl), (.ni _ rfl), (.ni _ rfl), (.ni _ rfl), (.ni _ rfl), (.ni _ rfl), (.ni _ rfl), (.ni _ rfl), (.ni _ rfl), (.ni _ rfl), (.ni _ rfl), (.ni _ rfl), (.ni _ rfl), (.ni _ rfl), (.ni _ rfl), (.ni _ rfl), (.ni _ rfl), (.ni _ rfl), (.ni _ rfl), (.ni _ rfl), (.ni _ rfl), (.ni _ rfl), (.ni _ rfl), (.ni _ rfl), (.ni _ rfl), trivial⟩, blkR (fun _ => ⟨rfl, rfl⟩) rfl rfl, blkR (fun _ => ⟨rfl, rfl⟩) rfl rfl, trivial⟩) ?_
    rintro ⟨k_15, a_12, i_13⟩ ⟨hk_k_15, hL2⟩
    try dsimp only at hk_k_15 hL2
    show awp _ _ _ _ _ _ ⟨eL [(3, .int .i64 x_3), (4, .bool x_4), (7, .ptr 0 0), (11, .ptr 1 0), (12, .lst 7 (r_2.1.map encManifest)), (13, .lst 10 (r_3.1.map encDeparture)), (15, .ptr 2 0), (34, .osl 3), (35, .int .i64 (([x_0, r_4.1, r_5.1] : List Facts).length : Int)), (36, .int .i64 (k_9 : Int)), (42, .osl 4), (43, .int .i64 (([r_3.1, r_11] : List (List Departure)).length : Int)), (44, .int .i64 (k_15 : Int))], hL [(0, .box [.str x_2.Carrier, .int .i64 x_2.Number, .str x_2.Suffix, .int .i64 x_2.Day]), (1, .box [.lst 1 (a_12.map iA), .int .i64 i_13]), (2, .box [.bool e_10.Known, .int .i64 e_10.Bag.Plate.Lead, .int .i64 e_10.Bag.Plate.Airline, .int .i64 e_10.Bag.Plate.Serial, .str e_10.Bag.In.Flight.Carrier, .int .i64 e_10.Bag.In.Flight.Number, .str e_10.Bag.In.Flight.Suffix, .int .i64 e_10.Bag.In.Flight.Day, .str e_10.Bag.In.Port, .str e_10.Bag.In.Class, .str e_10.Bag.Out.Flight.Carrier, .int .i64 e_10.Bag.Out.Flight.Number, .str e_10.Bag.Out.Flight.Suffix, .int .i64 e_10.Bag.Out.Flight.Day, .str e_10.Bag.Out.Port, .str e_10.Bag.Out.Class, .lst 6 (e_10.Bag.Onward.map encLeg), .int .i64 e_10.Bag.Sequence, .int .i64 e_10.Bag.Status, .int .i64 e_10.Bag.Weight, .bool e_10.Bag.Load, .str e_10.Bag.Surname, .str e_10.Bag.Given, .int .i64 e_10.Bag.Exception, .str e_10.Bag.Node, .bool e_10.Bag.Unloaded, .int .i64 e_10.Copies, .bool e_10.Cleared]), (3, .row 28 (([x_0, r_4.1, r_5.1] : List Facts).map encFacts)), (4, .row 1 (([r_3.1, r_11] : List (List Departure)).map (lA 10 encDeparture)))], 5⟩
    conv => whnf
    refine ⟨fun h => ?_, fun h => ?_⟩
    · have hlt_k_15 : k_15 < ([r_3.1, r_11] : List (List Departure)).length := by have h := of_decide_eq_true h; omega
      obtain ⟨e_16, h_e_16⟩ : ∃ y, ([r_3.1, r_11] : List (List Departure))[k_15]? = some y := ⟨_, List.getElem?_eq_getElem hlt_k_15⟩
      rw [drop_cons h_e_16, law26_AuthorityNever_L2.eq_2] at hL2
      conv => whnf
      refine ⟨k_15, rfl, by rw [List.length_map]; exact hlt_k_15, ?_⟩
      conv => whnf
      refine ⟨_, ix_map (enc := (lA 10 encDeparture)) h_e_16, ?_⟩
      conv => whnf
      obtain ⟨r_17, h_r_17, hL2⟩ := bind_some hL2
      refine ⟨_, _, _, _, _, _, _, _, _, callX false [1] [] 0 Tryd.func18 (by decide) rfl (keep_Src_Flight_ac (⟨a_12, i_13⟩ : Src) r_17 h_r_17) rfl ⟨(argP (id := 1) (by (conv => lhs; whnf); all_goals rfl) rfl), trivial⟩ rfl ⟨rfl, trivial⟩ rfl rfl rfl lend0 ⟨rfl, trivial⟩ rfl, ?_⟩
      conv => whnf
      refine len_q (enc := encFlight) (l := ([x_2, e_10.Bag.Out.Flight, r_17.1] : List Flight)) rfl ?_
      conv => whnf
      refine ⟨by kernel_rfl, ?_⟩
      conv => whnf
      obtain ⟨c_3, hc_3, hL2⟩ := sub_some hL2
      refine sw_br 6 (sz := 4) (xs := ([x_2, e_10.Bag.Out.Flight, r_17.1] : List Flight).map encFlight) (by (conv => lhs; whnf); all_goals rfl) (fun hb => ?_)
      have hbd_k_19 : ([x_2, e_10.Bag.Out.Flight, r_17.1] : List Flight).length ≤ 9223372036854775807 := bnd_len (enc := encFlight) (hb)
      refine sw_loop tab_ok follows_ok (fun y : Nat => y ≤ ([x_2, e_10.Bag.Out.Flight, r_17.1] : List Flight).length ∧ law26_AuthorityNever_L3 x_3 x_4 r_2 e_10 e_16 (([x_2, e_10.Bag.Out.Flight, r_17.1] : List Flight).drop y) y = some c_3) (fun y => ⟨eL [(3, .int .i64 x_3), (4, .bool x_4), (7, .ptr 0 0), (11, .ptr 1 0), (12, .lst 7 (r_2.1.map encManifest)), (13, .lst 10 (r_3.1.map encDeparture)), (15, .ptr 2 0), (17, .lst 10 (e_16.map encDeparture)), (34, .osl 3), (35, .int .i64 (([x_0, r_4.1, r_5.1] : List Facts).length : Int)), (36, .int .i64 (k_9 : Int)), (42, .osl 4), (43, .int .i64 (([r_3.1, r_11] : List (List Departure)).length : Int)), (44, .int .i64 (k_15 : Int)), (55, .osl 5), (56, .int .i64 (([x_2, e_10.Bag.Out.Flight, r_17.1] : List Flight).length : Int)), (57, .int .i64 (y : Int))], hL [(0, .box [.str x_2.Carrier, .int .i64 x_2.Number, .str x_2.Suffix, .int .i64 x_2.Day]), (1, .box [.lst 1 (r_17.2.L.map iA), .int .i64 r_17.2.At]), (2, .box [.bool e_10.Known, .int .i64 e_10.Bag.Plate.Lead, .int .i64 e_10.Bag.Plate.Airline, .int .i64 e_10.Bag.Plate.Serial, .str e_10.Bag.In.Flight.Carrier, .int .i64 e_10.Bag.In.Flight.Number, .str e_10.Bag.In.Flight.Suffix, .int .i64 e_10.Bag.In.Flight.Day, .str e_10.Bag.In.Port, .str e_10.Bag.In.Class, .str e_10.Bag.Out.Flight.Carrier, .int .i64 e_10.Bag.Out.Flight.Number, .str e_10.Bag.Out.Flight.Suffix, .int .i64 e_10.Bag.Out.Flight.Day, .str e_10.Bag.Out.Port, .str e_10.Bag.Out.Class, .lst 6 (e_10.Bag.Onward.map encLeg), .int .i64 e_10.Bag.Sequence, .int .i64 e_10.Bag.Status, .int .i64 e_10.Bag.Weight, .bool e_10.Bag.Load, .str e_10.Bag.Surname, .str e_10.Bag.Given, .int .i64 e_10.Bag.Exception, .str e_10.Bag.Node, .bool e_10.Bag.Unloaded, .int .i64 e_10.Copies, .bool e_10.Cleared]), (3, .row 28 (([x_0, r_4.1, r_5.1] : List Facts).map encFacts)), (4, .row 1 (([r_3.1, r_11] : List (List Departure)).map (lA 10 encDeparture))), (5, .row 4 (([x_2, e_10.Bag.Out.Flight, r_17.1] : List Flight).map encFlight))], 6⟩) (fun y => ([x_2, e_10.Bag.Out.Flight, r_17.1] : List Flight).length - y) 0 ⟨Nat.zero_le _, hc_3⟩ (wk_mk [0, 1, 2, 3, 4, 6] [] [] rfl ⟨argE (by (conv => lhs; whnf); all_goals rfl) rfl, argE (by (conv => lhs; whnf); all_goals rfl) rfl, argP (id := 0) (by (conv => lhs; whnf); all_goals rfl) rfl, argP (id := 1) (by (conv => lhs; whnf); all_goals rfl) rfl, argE (by (conv => lhs; whnf); all_goals rfl) rfl, argE (by (conv => lhs; whnf); all_goals rfl) rfl, argP (id := 2) (by (conv => lhs; whnf); all_goals rfl) rfl, argE (by (conv => lhs; whnf); all_goals rfl) rfl, argO (id := 3) (by (conv => lhs; whnf); all_goals rfl) rfl, argE (by (conv => lhs; whnf); all_goals rfl) rfl, argE (by (conv => lhs; whnf); all_goals rfl) rfl, argO (id := 4) (by (conv => lhs; whnf); all_goals rfl) rfl, argE (by (conv => lhs; whnf); all_goals rfl) rfl, argE (by (conv => lhs; whnf); all_goals rfl) rfl, argO (id := 6) (by (conv => lhs; whnf); all_goals rfl) rfl, argE (by (conv => lhs; whnf); all_goals rfl) rfl, argE (by (conv => lhs; whnf); all_goals rfl) rfl, trivial⟩ ⟨boxL rfl rfl rfl ⟨(.ni _ rfl), (.ni _ rfl), (.ni _ rfl), (.ni _ rfl), trivial⟩, boxL rfl rfl rfl ⟨(.ni _ rfl), (.ni _ rfl), trivial⟩, boxL rfl rfl rfl ⟨(.ni _ rfl), (.ni _ rfl), (.ni _ rfl), (.ni _ rfl), (.ni _ rfl), (.ni _ rfl), (.ni _ rfl), (.ni _ rfl), (.ni _ rfl), (.ni _ rfl), (.ni _ rfl), (.ni _ rfl), (.ni _ rfl), (.ni _ rfl), (.ni _ rfl), (.ni _ rfl), (.ni _ rfl), (.ni _ rfl), (.ni _ rfl), (.ni _ rfl), (.ni _ rfl), (.ni _ rfl), (.ni _ rfl), (.ni _ rfl), (.ni _ rfl), (.ni _ rfl), (.ni _ rfl), (.ni _ rfl), trivial⟩, blkR (fun _ => ⟨rfl, rfl⟩) rfl rfl, blkR (fun _ => ⟨rfl, rfl⟩) rfl rfl, blkR (fun _ => ⟨rfl, rfl⟩) rfl rfl, trivial⟩) ?_
      rintro k_19 ⟨hk_k_19, hL3⟩
      try dsimp only at hk_k_19 hL3
      show awp _ _ _ _ _ _ ⟨eL [(3, .int .i64 x_3), (4, .bool x_4), (7, .ptr 0 0), (11, .ptr 1 0), (12, .lst 7 (r_2.1.map encManifest)), (13, .lst 10 (r_3.1.map encDeparture)), (15, .ptr 2 0), (17, .lst 10 (e_16.map encDeparture)), (34, .osl 3), (35, .int .i64 (([x_0, r_4.1, r_5.1] : List Facts).length : Int)), (36, .int .i64 (k_9 : Int)), (42, .osl 4), (43, .int .i64 (([r_3.1, r_11] : List (List Departure)).length : Int)), (44, .int .i64 (k_15 : Int)), (55, .osl 5), (56, .int .i64 (([x_2, e_10.Bag.Out.Flight, r_17.1] : List Flight).length : Int)), (57, .int .i64 (k_19 : Int))], hL [(0, .box [.str x_2.Carrier, .int .i64 x_2.Number, .str x_2.Suffix, .int .i64 x_2.Day]), (1, .box [.lst 1 (r_17.2.L.map iA), .int .i64 r_17.2.At]), (2, .box [.bool e_10.Known, .int .i64 e_10.Bag.Plate.Lead, .int .i64 e_10.Bag.Plate.Airline, .int .i64 e_10.Bag.Plate.Serial, .str e_10.Bag.In.Flight.Carrier, .int .i64 e_10.Bag.In.Flight.Number, .str e_10.Bag.In.Flight.Suffix, .int .i64 e_10.Bag.In.Flight.Day, .str e_10.Bag.In.Port, .str e_10.Bag.In.Class, .str e_10.Bag.Out.Flight.Carrier, .int .i64 e_10.Bag.Out.Flight.Number, .str e_10.Bag.Out.Flight.Suffix, .int .i64 e_10.Bag.Out.Flight.Day, .str e_10.Bag.Out.Port, .str e_10.Bag.Out.Class, .lst 6 (e_10.Bag.Onward.map encLeg), .int .i64 e_10.Bag.Sequence, .int .i64 e_10.Bag.Status, .int .i64 e_10.Bag.Weight, .bool e_10.Bag.Load, .str e_10.Bag.Surname, .str e_10.Bag.Given, .int .i64 e_10.Bag.Exception, .str e_10.Bag.Node, .bool e_10.Bag.Unloaded, .int .i64 e_10.Copies, .bool e_10.Cleared]), (3, .row 28 (([x_0, r_4.1, r_5.1] : List Facts).map encFacts)), (4, .row 1 (([r_3.1, r_11] : List (List Departure)).map (lA 10 encDeparture))), (5, .row 4 (([x_2, e_10.Bag.Out.Flight, r_17.1] : List Flight).map encFlight))], 6⟩
      conv => whnf
      refine ⟨fun h => ?_, fun h => ?_⟩
      · have hlt_k_19 : k_19 < ([x_2, e_10.Bag.Out.Flight, r_17.1] : List Flight).length := by have h := of_decide_eq_true h; omega
        obtain ⟨e_20, h_e_20⟩ : ∃ y, ([x_2, e_10.Bag.Out.Flight, r_17.1] : List Flight)[k_19]? = some y := ⟨_, List.getElem?_eq_getElem hlt_k_19⟩
        rw [drop_cons h_e_20, law26_AuthorityNever_L3.eq_2] at hL3
        conv => whnf
        refine ⟨k_19, rfl, by rw [List.length_map]; exact hlt_k_19, ?_⟩
        conv => whnf
        refine ⟨_, ix_map (enc := encFlight) h_e_20, ?_⟩
        conv => whnf
        obtain ⟨r_21, h_r_21, hL3⟩ := bind_some hL3
        refine ⟨_, _, _, _, _, _, _, _, _, callX false [] [] 0 Tryd.func19 (by decide) rfl (authority_Decide_ac e_10 r_2.1 e_16 e_20 x_3 x_4 r_21 h_r_21) rfl ⟨(argE (by (conv => lhs; whnf); all_goals rfl) rfl), (argE (by (conv => lhs; whnf); all_goals rfl) rfl), (argE (by (conv => lhs; whnf); all_goals rfl) rfl), (argE (by (conv => lhs; whnf); all_goals rfl) rfl), (argE (by (conv => lhs; whnf); all_goals rfl) rfl), (argE (by (conv => lhs; whnf); all_goals rfl) rfl), trivial⟩ rfl trivial rfl rfl rfl lend0 trivial rfl, ?_⟩
        conv => whnf
        obtain ⟨r_22, h_r_22, hL3⟩ := bind_some hL3
        refine ⟨_, _, _, _, _, _, _, _, _, callX false [] [] 0 Tryd.func22 (by decide) rfl (ref20_Find_ac e_16 e_20 r_22 h_r_22) rfl ⟨(argE (by (conv => lhs; whnf); all_goals rfl) rfl), (argE (by (conv => lhs; whnf); all_goals rfl) rfl), trivial⟩ rfl trivial rfl rfl rfl lend0 trivial rfl, ?_⟩
        conv => whnf
        refine ⟨fun hb_3247 => ?_, fun hb_3247 => ?_⟩
        · replace hL3 := cond_f hb_3247 hL3
          conv => whnf
          refine ⟨fun hb_3255 => ?_, fun hb_3255 => ?_⟩
          · replace hL3 := cond_f hb_3255 hL3
            conv => whnf
            refine ⟨fun hb_3263 => ?_, fun hb_3263 => ?_⟩
            · replace hL3 := cond_f hb_3263 hL3
              conv => whnf
              refine ⟨fun hb_3271 => ?_, fun hb_3271 => ?_⟩
              · replace hL3 := cond_f hb_3271 hL3
                conv => whnf
                refine ⟨fun hb_3279 => ?_, fun hb_3279 => ?_⟩
                · replace hL3 := cond_f hb_3279 hL3
                  conv => whnf
                  obtain ⟨e_23, h_e_23, hL3⟩ := bind_some hL3
                  refine ix_q (enc := encDeparture) (l := e_16) h_e_23 rfl (fun m_e_23 hm_e_23 hx_e_23 => ?_)
                  conv => whnf
                  refine ⟨fun hb_3287 => ?_, fun hb_3287 => ?_⟩
                  · replace hL3 := cond_f hb_3287 hL3
                    conv => whnf
                    refine ⟨fun hb_3295 => ?_, fun hb_3295 => ?_⟩
                    · replace hL3 := cond_f hb_3295 hL3
                      conv => whnf
                      refine ⟨fun hb_3303 => ?_, fun hb_3303 => ?_⟩
                      · replace hL3 := cond_t hb_3303 hL3
                        conv => whnf
                        refine ⟨fun hb_3304 => ?_, fun hb_3304 => ?_⟩
                        · replace hL3 := cond_f hb_3304 hL3
                          conv => whnf
                          refine ⟨fun hb_3305 => ?_, fun hb_3305 => ?_⟩
                          · replace hL3 := cond_f hb_3305 hL3
                            conv => whnf
                            refine ⟨fun hb_3306 => ?_, fun hb_3306 => ?_⟩
                            · replace hL3 := cond_f hb_3306 hL3
                              conv => whnf
                              refine ⟨fun hb_3307 => ?_, fun hb_3307 => ?_⟩
                              · replace hL3 := cond_f hb_3307 hL3
                                conv => whnf
                                refine ⟨fun hb_3308 => ?_, fun hb_3308 => ?_⟩
                                · replace hL3 := cond_f hb_3308 hL3
                                  conv => whnf
                                  refine ⟨fun hb_3309 => ?_, fun hb_3309 => ?_⟩
                                  · replace hL3 := cond_f hb_3309 hL3
                                    conv => whnf
                                    refine ⟨fun hb_3310 => ?_, fun hb_3310 => ?_⟩
                                    · replace hL3 := cond_t hb_3310 hL3
                                      conv => whnf
                                      obtain rfl := Option.some.inj hL3
                                      replace hL2 := sub_ret hL2
                                      obtain rfl := Option.some.inj hL2
                                      replace hL1 := sub_ret hL1
                                      obtain rfl := Option.some.inj hL1
                                      replace hF := fin_ret hF
                                      obtain rfl := Option.some.inj hF
                                      exact ret_gz [] [] [] rfl (argFl (by (conv => lhs; whnf); all_goals rfl)) trivial
                                    · replace hL3 := cond_f hb_3310 hL3
                                      conv => whnf
                                      refine ⟨((k_19 + 1 : Nat) : Int), wrapE (by omega) (by omega) (by omega), ?_⟩
                                      conv => whnf
                                      exact ⟨k_19 + 1, [0, 1, 2, 3, 4, 5], [], [], ⟨hlt_k_19, hL3⟩, by show ([x_2, e_10.Bag.Out.Flight, r_17.1] : List Flight).length - (k_19 + 1) < ([x_2, e_10.Bag.Out.Flight, r_17.1] : List Flight).length - k_19; omega, wk_mk [0, 1, 2, 3, 4, 5] [] [] rfl ⟨argE (by (conv => lhs; whnf); all_goals rfl) rfl, argE (by (conv => lhs; whnf); all_goals rfl) rfl, argP (id := 0) (by (conv => lhs; whnf); all_goals rfl) rfl, argP (id := 1) (by (conv => lhs; whnf); all_goals rfl) rfl, argE (by (conv => lhs; whnf); all_goals rfl) rfl, argE (by (conv => lhs; whnf); all_goals rfl) rfl, argP (id := 2) (by (conv => lhs; whnf); all_goals rfl) rfl, argE (by (conv => lhs; whnf); all_goals rfl) rfl, argO (id := 3) (by (conv => lhs; whnf); all_goals rfl) rfl, argE (by (conv => lhs; whnf); all_goals rfl) rfl, argE (by (conv => lhs; whnf); all_goals rfl) rfl, argO (id := 4) (by (conv => lhs; whnf); all_goals rfl) rfl, argE (by (conv => lhs; whnf); all_goals rfl) rfl, argE (by (conv => lhs; whnf); all_goals rfl) rfl, argO (id := 5) (by (conv => lhs; whnf); all_goals rfl) rfl, argE (by (conv => lhs; whnf); all_goals rfl) rfl, argE (by (conv => lhs; whnf); all_goals rfl) rfl, trivial⟩ ⟨boxL rfl rfl rfl ⟨(.ni _ rfl), (.ni _ rfl), (.ni _ rfl), (.ni _ rfl), trivial⟩, boxL rfl rfl rfl ⟨(.ni _ rfl), (.ni _ rfl), trivial⟩, boxL rfl rfl rfl ⟨(.ni _ rfl), (.ni _ rfl), (.ni _ rfl), (.ni _ rfl), (.ni _ rfl), (.ni _ rfl), (.ni _ rfl), (.ni _ rfl), (.ni _ rfl), (.ni _ rfl), (.ni _ rfl), (.ni _ rfl), (.ni _ rfl), (.ni _ rfl), (.ni _ rfl), (.ni _ rfl), (.ni _ rfl), (.ni _ rfl), (.ni _ rfl), (.ni _ rfl), (.ni _ rfl), (.ni _ rfl), (.ni _ rfl), (.ni _ rfl), (.ni _ rfl), (.ni _ rfl), (.ni _ rfl), (.ni _ rfl), trivial⟩, blkR (fun _ => ⟨rfl, rfl⟩) rfl rfl, blkR (fun _ => ⟨rfl, rfl⟩) rfl rfl, blkR (fun _ => ⟨rfl, rfl⟩) rfl rfl, trivial⟩⟩
                                  · replace hL3 := cond_t hb_3309 hL3
                                    conv => whnf
                                    obtain rfl := Option.some.inj hL3
                                    replace hL2 := sub_ret hL2
                                    obtain rfl := Option.some.inj hL2
                                    replace hL1 := sub_ret hL1
                                    obtain rfl := Option.some.inj hL1
                                    replace hF := fin_ret hF
                                    obtain rfl := Option.some.inj hF
                                    exact ret_gz [] [] [] rfl (argFl (by (conv => lhs; whnf); all_goals rfl)) trivial
                                · replace hL3 := cond_t hb_3308 hL3
                                  conv => whnf
                                  obtain rfl := Option.some.inj hL3
                                  replace hL2 := sub_ret hL2
                                  obtain rfl := Option.some.inj hL2
                                  replace hL1 := sub_ret hL1
                                  obtain rfl := Option.some.inj hL1
                                  replace hF := fin_ret hF
                                  obtain rfl := Option.some.inj hF
                                  exact ret_gz [] [] [] rfl (argFl (by (conv => lhs; whnf); all_goals rfl)) trivial
                              · replace hL3 := cond_t hb_3307 hL3
                                conv => whnf
                                obtain rfl := Option.some.inj hL3
                                replace hL2 := sub_ret hL2
                                obtain rfl := Option.some.inj hL2
                                replace hL1 := sub_ret hL1
                                obtain rfl := Option.some.inj hL1
                                replace hF := fin_ret hF
                                obtain rfl := Option.some.inj hF
                                exact ret_gz [] [] [] rfl (argFl (by (conv => lhs; whnf); all_goals rfl)) trivial
                            · replace hL3 := cond_t hb_3306 hL3
                              conv => whnf
                              obtain rfl := Option.some.inj hL3
                              replace hL2 := sub_ret hL2
                              obtain rfl := Option.some.inj hL2
                              replace hL1 := sub_ret hL1
                              obtain rfl := Option.some.inj hL1
                              replace hF := fin_ret hF
                              obtain rfl := Option.some.inj hF
                              exact ret_gz [] [] [] rfl (argFl (by (conv => lhs; whnf); all_goals rfl)) trivial
                          · replace hL3 := cond_t hb_3305 hL3
                            conv => whnf
                            obtain rfl := Option.some.inj hL3
                            replace hL2 := sub_ret hL2
                            obtain rfl := Option.some.inj hL2
                            replace hL1 := sub_ret hL1
                            obtain rfl := Option.some.inj hL1
                            replace hF := fin_ret hF
                            obtain rfl := Option.some.inj hF
                            exact ret_gz [] [] [] rfl (argFl (by (conv => lhs; whnf); all_goals rfl)) trivial
                        · replace hL3 := cond_t hb_3304 hL3
                          conv => whnf
                          obtain rfl := Option.some.inj hL3
                          replace hL2 := sub_ret hL2
                          obtain rfl := Option.some.inj hL2
                          replace hL1 := sub_ret hL1
                          obtain rfl := Option.some.inj hL1
                          replace hF := fin_ret hF
                          obtain rfl := Option.some.inj hF
                          exact ret_gz [] [] [] rfl (argFl (by (conv => lhs; whnf); all_goals rfl)) trivial
                      · replace hL3 := cond_f hb_3303 hL3
                        conv => whnf
                        refine ⟨fun hb_3311 => ?_, fun hb_3311 => ?_⟩
                        · replace hL3 := cond_f hb_3311 hL3
                          conv => whnf
                          refine ⟨fun hb_3312 => ?_, fun hb_3312 => ?_⟩
                          · replace hL3 := cond_f hb_3312 hL3
                            conv => whnf
                            refine ⟨fun hb_3313 => ?_, fun hb_3313 => ?_⟩
                            · replace hL3 := cond_f hb_3313 hL3
                              conv => whnf
                              refine ⟨fun hb_3314 => ?_, fun hb_3314 => ?_⟩
                              · replace hL3 := cond_f hb_3314 hL3
                                conv => whnf
                                refine ⟨fun hb_3315 => ?_, fun hb_3315 => ?_⟩
                                · replace hL3 := cond_f hb_3315 hL3
                                  conv => whnf
                                  refine ⟨fun hb_3316 => ?_, fun hb_3316 => ?_⟩
                                  · replace hL3 := cond_t hb_3316 hL3
                                    conv => whnf
                                    obtain rfl := Option.some.inj hL3
                                    replace hL2 := sub_ret hL2
                                    obtain rfl := Option.some.inj hL2
                                    replace hL1 := sub_ret hL1
                                    obtain rfl := Option.some.inj hL1
                                    replace hF := fin_ret hF
                                    obtain rfl := Option.some.inj hF
                                    exact ret_gz [] [] [] rfl (argFl (by (conv => lhs; whnf); all_goals rfl)) trivial
                                  · replace hL3 := cond_f hb_3316 hL3
                                    conv => whnf
                                    refine ⟨((k_19 + 1 : Nat) : Int), wrapE (by omega) (by omega) (by omega), ?_⟩
                                    conv => whnf
                                    exact ⟨k_19 + 1, [0, 1, 2, 3, 4, 5], [], [], ⟨hlt_k_19, hL3⟩, by show ([x_2, e_10.Bag.Out.Flight, r_17.1] : List Flight).length - (k_19 + 1) < ([x_2, e_10.Bag.Out.Flight, r_17.1] : List Flight).length - k_19; omega, wk_mk [0, 1, 2, 3, 4, 5] [] [] rfl ⟨argE (by (conv => lhs; whnf); all_goals rfl) rfl, argE (by (conv => lhs; whnf); all_goals rfl) rfl, argP (id := 0) (by (conv => lhs; whnf); all_goals rfl) rfl, argP (id := 1) (by (conv => lhs; whnf); all_goals rfl) rfl, argE (by (conv => lhs; whnf); all_goals rfl) rfl, argE (by (conv => lhs; whnf); all_goals rfl) rfl, argP (id := 2) (by (conv => lhs; whnf); all_goals rfl) rfl, argE (by (conv => lhs; whnf); all_goals rfl) rfl, argO (id := 3) (by (conv => lhs; whnf); all_goals rfl) rfl, argE (by (conv => lhs; whnf); all_goals rfl) rfl, argE (by (conv => lhs; whnf); all_goals rfl) rfl, argO (id := 4) (by (conv => lhs; whnf); all_goals rfl) rfl, argE (by (conv => lhs; whnf); all_goals rfl) rfl, argE (by (conv => lhs; whnf); all_goals rfl) rfl, argO (id := 5) (by (conv => lhs; whnf); all_goals rfl) rfl, argE (by (conv => lhs; whnf); all_goals rfl) rfl, argE (by (conv => lhs; whnf); all_goals rfl) rfl, trivial⟩ ⟨boxL rfl rfl rfl ⟨(.ni _ rfl), (.ni _ rfl), (.ni _ rfl), (.ni _ rfl), trivial⟩, boxL rfl rfl rfl ⟨(.ni _ rfl), (.ni _ rfl), trivial⟩, boxL rfl rfl rfl ⟨(.ni _ rfl), (.ni _ rfl), (.ni _ rfl), (.ni _ rfl), (.ni _ rfl), (.ni _ rfl), (.ni _ rfl), (.ni _ rfl), (.ni _ rfl), (.ni _ rfl), (.ni _ rfl), (.ni _ rfl), (.ni _ rfl), (.ni _ rfl), (.ni _ rfl), (.ni _ rfl), (.ni _ rfl), (.ni _ rfl), (.ni _ rfl), (.ni _ rfl), (.ni _ rfl), (.ni _ rfl), (.ni _ rfl), (.ni _ rfl), (.ni _ rfl), (.ni _ rfl), (.ni _ rfl), (.ni _ rfl), trivial⟩, blkR (fun _ => ⟨rfl, rfl⟩) rfl rfl, blkR (fun _ => ⟨rfl, rfl⟩) rfl rfl, blkR (fun _ => ⟨rfl, rfl⟩) rfl rfl, trivial⟩⟩
                                · replace hL3 := cond_t hb_3315 hL3
                                  conv => whnf
                                  obtain rfl := Option.some.inj hL3
                                  replace hL2 := sub_ret hL2
                                  obtain rfl := Option.some.inj hL2
                                  replace hL1 := sub_ret hL1
                                  obtain rfl := Option.some.inj hL1
                                  replace hF := fin_ret hF
                                  obtain rfl := Option.some.inj hF
                                  exact ret_gz [] [] [] rfl (argFl (by (conv => lhs; whnf); all_goals rfl)) trivial
                              · replace hL3 := cond_t hb_3314 hL3
                                conv => whnf
                                obtain rfl := Option.some.inj hL3
                                replace hL2 := sub_ret hL2
                                obtain rfl := Option.some.inj hL2
                                replace hL1 := sub_ret hL1
                                obtain rfl := Option.some.inj hL1
                                replace hF := fin_ret hF
                                obtain rfl := Option.some.inj hF
                                exact ret_gz [] [] [] rfl (argFl (by (conv => lhs; whnf); all_goals rfl)) trivial
                            · replace hL3 := cond_t hb_3313 hL3
                              conv => whnf
                              obtain rfl := Option.some.inj hL3
                              replace hL2 := sub_ret hL2
                              obtain rfl := Option.some.inj hL2
                              replace hL1 := sub_ret hL1
                              obtain rfl := Option.some.inj hL1
                              replace hF := fin_ret hF
                              obtain rfl := Option.some.inj hF
                              exact ret_gz [] [] [] rfl (argFl (by (conv => lhs; whnf); all_goals rfl)) trivial
                          · replace hL3 := cond_t hb_3312 hL3
                            conv => whnf
                            obtain rfl := Option.some.inj hL3
                            replace hL2 := sub_ret hL2
                            obtain rfl := Option.some.inj hL2
                            replace hL1 := sub_ret hL1
                            obtain rfl := Option.some.inj hL1
                            replace hF := fin_ret hF
                            obtain rfl := Option.some.inj hF
                            exact ret_gz [] [] [] rfl (argFl (by (conv => lhs; whnf); all_goals rfl)) trivial
                        · replace hL3 := cond_t hb_3311 hL3
                          conv => whnf
                          obtain rfl := Option.some.inj hL3
                          replace hL2 := sub_ret hL2
                          obtain rfl := Option.some.inj hL2
                          replace hL1 := sub_ret hL1
                          obtain rfl := Option.some.inj hL1
                          replace hF := fin_ret hF
                          obtain rfl := Option.some.inj hF
                          exact ret_gz [] [] [] rfl (argFl (by (conv => lhs; whnf); all_goals rfl)) trivial
                    · replace hL3 := cond_t hb_3295 hL3
                      conv => whnf
                      refine ⟨fun hb_3296 => ?_, fun hb_3296 => ?_⟩
                      · replace hL3 := cond_t hb_3296 hL3
                        conv => whnf
                        obtain rfl := Option.some.inj hL3
                        replace hL2 := sub_ret hL2
                        obtain rfl := Option.some.inj hL2
                        replace hL1 := sub_ret hL1
                        obtain rfl := Option.some.inj hL1
                        replace hF := fin_ret hF
                        obtain rfl := Option.some.inj hF
                        exact ret_gz [] [] [] rfl (argFl (by (conv => lhs; whnf); all_goals rfl)) trivial
                      · replace hL3 := cond_f hb_3296 hL3
                        conv => whnf
                        refine ⟨fun hb_3297 => ?_, fun hb_3297 => ?_⟩
                        · replace hL3 := cond_f hb_3297 hL3
                          conv => whnf
                          refine ⟨fun hb_3298 => ?_, fun hb_3298 => ?_⟩
                          · replace hL3 := cond_f hb_3298 hL3
                            conv => whnf
                            refine ⟨fun hb_3299 => ?_, fun hb_3299 => ?_⟩
                            · replace hL3 := cond_f hb_3299 hL3
                              conv => whnf
                              refine ⟨fun hb_3300 => ?_, fun hb_3300 => ?_⟩
                              · replace hL3 := cond_f hb_3300 hL3
                                conv => whnf
                                refine ⟨fun hb_3301 => ?_, fun hb_3301 => ?_⟩
                                · replace hL3 := cond_f hb_3301 hL3
                                  conv => whnf
                                  refine ⟨fun hb_3302 => ?_, fun hb_3302 => ?_⟩
                                  · replace hL3 := cond_t hb_3302 hL3
                                    conv => whnf
                                    obtain rfl := Option.some.inj hL3
                                    replace hL2 := sub_ret hL2
                                    obtain rfl := Option.some.inj hL2
                                    replace hL1 := sub_ret hL1
                                    obtain rfl := Option.some.inj hL1
                                    replace hF := fin_ret hF
                                    obtain rfl := Option.some.inj hF
                                    exact ret_gz [] [] [] rfl (argFl (by (conv => lhs; whnf); all_goals rfl)) trivial
                                  · replace hL3 := cond_f hb_3302 hL3
                                    conv => whnf
                                    refine ⟨((k_19 + 1 : Nat) : Int), wrapE (by omega) (by omega) (by omega), ?_⟩
                                    conv => whnf
                                    exact ⟨k_19 + 1, [0, 1, 2, 3, 4, 5], [], [], ⟨hlt_k_19, hL3⟩, by show ([x_2, e_10.Bag.Out.Flight, r_17.1] : List Flight).length - (k_19 + 1) < ([x_2, e_10.Bag.Out.Flight, r_17.1] : List Flight).length - k_19; omega, wk_mk [0, 1, 2, 3, 4, 5] [] [] rfl ⟨argE (by (conv => lhs; whnf); all_goals rfl) rfl, argE (by (conv => lhs; whnf); all_goals rfl) rfl, argP (id := 0) (by (conv => lhs; whnf); all_goals rfl) rfl, argP (id := 1) (by (conv => lhs; whnf); all_goals rfl) rfl, argE (by (conv => lhs; whnf); all_goals rfl) rfl, argE (by (conv => lhs; whnf); all_goals rfl) rfl, argP (id := 2) (by (conv => lhs; whnf); all_goals rfl) rfl, argE (by (conv => lhs; whnf); all_goals rfl) rfl, argO (id := 3) (by (conv => lhs; whnf); all_goals rfl) rfl, argE (by (conv => lhs; whnf); all_goals rfl) rfl, argE (by (conv => lhs; whnf); all_goals rfl) rfl, argO (id := 4) (by (conv => lhs; whnf); all_goals rfl) rfl, argE (by (conv => lhs; whnf); all_goals rfl) rfl, argE (by (conv => lhs; whnf); all_goals rfl) rfl, argO (id := 5) (by (conv => lhs; whnf); all_goals rfl) rfl, argE (by (conv => lhs; whnf); all_goals rfl) rfl, argE (by (conv => lhs; whnf); all_goals rfl) rfl, trivial⟩ ⟨boxL rfl rfl rfl ⟨(.ni _ rfl), (.ni _ rfl), (.ni _ rfl), (.ni _ rfl), trivial⟩, boxL rfl rfl rfl ⟨(.ni _ rfl), (.ni _ rfl), trivial⟩, boxL rfl rfl rfl ⟨(.ni _ rfl), (.ni _ rfl), (.ni _ rfl), (.ni _ rfl), (.ni _ rfl), (.ni _ rfl), (.ni _ rfl), (.ni _ rfl), (.ni _ rfl), (.ni _ rfl), (.ni _ rfl), (.ni _ rfl), (.ni _ rfl), (.ni _ rfl), (.ni _ rfl), (.ni _ rfl), (.ni _ rfl), (.ni _ rfl), (.ni _ rfl), (.ni _ rfl), (.ni _ rfl), (.ni _ rfl), (.ni _ rfl), (.ni _ rfl), (.ni _ rfl), (.ni _ rfl), (.ni _ rfl), (.ni _ rfl), trivial⟩, blkR (fun _ => ⟨rfl, rfl⟩) rfl rfl, blkR (fun _ => ⟨rfl, rfl⟩) rfl rfl, blkR (fun _ => ⟨rfl, rfl⟩) rfl rfl, trivial⟩⟩
                                · replace hL3 := cond_t hb_3301 hL3
                                  conv => whnf
                                  obtain rfl := Option.some.inj hL3
                                  replace hL2 := sub_ret hL2
                                  obtain rfl := Option.some.inj hL2
                                  replace hL1 := sub_ret hL1
                                  obtain rfl := Option.some.inj hL1
                                  replace hF := fin_ret hF
                                  obtain rfl := Option.some.inj hF
                                  exact ret_gz [] [] [] rfl (argFl (by (conv => lhs; whnf); all_goals rfl)) trivial
                              · replace hL3 := cond_t hb_3300 hL3
                                conv => whnf
                                obtain rfl := Option.some.inj hL3
                                replace hL2 := sub_ret hL2
                                obtain rfl := Option.some.inj hL2
                                replace hL1 := sub_ret hL1
                                obtain rfl := Option.some.inj hL1
                                replace hF := fin_ret hF
                                obtain rfl := Option.some.inj hF
                                exact ret_gz [] [] [] rfl (argFl (by (conv => lhs; whnf); all_goals rfl)) trivial
                            · replace hL3 := cond_t hb_3299 hL3
                              conv => whnf
                              obtain rfl := Option.some.inj hL3
                              replace hL2 := sub_ret hL2
                              obtain rfl := Option.some.inj hL2
                              replace hL1 := sub_ret hL1
                              obtain rfl := Option.some.inj hL1
                              replace hF := fin_ret hF
                              obtain rfl := Option.some.inj hF
                              exact ret_gz [] [] [] rfl (argFl (by (conv => lhs; whnf); all_goals rfl)) trivial
                          · replace hL3 := cond_t hb_3298 hL3
                            conv => whnf
                            obtain rfl := Option.some.inj hL3
                            replace hL2 := sub_ret hL2
                            obtain rfl := Option.some.inj hL2
                            replace hL1 := sub_ret hL1
                            obtain rfl := Option.some.inj hL1
                            replace hF := fin_ret hF
                            obtain rfl := Option.some.inj hF
                            exact ret_gz [] [] [] rfl (argFl (by (conv => lhs; whnf); all_goals rfl)) trivial
                        · replace hL3 := cond_t hb_3297 hL3
                          conv => whnf
                          obtain rfl := Option.some.inj hL3
                          replace hL2 := sub_ret hL2
                          obtain rfl := Option.some.inj hL2
                          replace hL1 := sub_ret hL1
                          obtain rfl := Option.some.inj hL1
                          replace hF := fin_ret hF
                          obtain rfl := Option.some.inj hF
                          exact ret_gz [] [] [] rfl (argFl (by (conv => lhs; whnf); all_goals rfl)) trivial
                  · replace hL3 := cond_t hb_3287 hL3
                    conv => whnf
                    refine ⟨fun hb_3288 => ?_, fun hb_3288 => ?_⟩
                    · replace hL3 := cond_t hb_3288 hL3
                      conv => whnf
                      obtain rfl := Option.some.inj hL3
                      replace hL2 := sub_ret hL2
                      obtain rfl := Option.some.inj hL2
                      replace hL1 := sub_ret hL1
                      obtain rfl := Option.some.inj hL1
                      replace hF := fin_ret hF
                      obtain rfl := Option.some.inj hF
                      exact ret_gz [] [] [] rfl (argFl (by (conv => lhs; whnf); all_goals rfl)) trivial
                    · replace hL3 := cond_f hb_3288 hL3
                      conv => whnf
                      refine ⟨fun hb_3289 => ?_, fun hb_3289 => ?_⟩
                      · replace hL3 := cond_f hb_3289 hL3
                        conv => whnf
                        refine ⟨fun hb_3290 => ?_, fun hb_3290 => ?_⟩
                        · replace hL3 := cond_f hb_3290 hL3
                          conv => whnf
                          refine ⟨fun hb_3291 => ?_, fun hb_3291 => ?_⟩
                          · replace hL3 := cond_f hb_3291 hL3
                            conv => whnf
                            refine ⟨fun hb_3292 => ?_, fun hb_3292 => ?_⟩
                            · replace hL3 := cond_f hb_3292 hL3
                              conv => whnf
                              refine ⟨fun hb_3293 => ?_, fun hb_3293 => ?_⟩
                              · replace hL3 := cond_f hb_3293 hL3
                                conv => whnf
                                refine ⟨fun hb_3294 => ?_, fun hb_3294 => ?_⟩
                                · replace hL3 := cond_t hb_3294 hL3
                                  conv => whnf
                                  obtain rfl := Option.some.inj hL3
                                  replace hL2 := sub_ret hL2
                                  obtain rfl := Option.some.inj hL2
                                  replace hL1 := sub_ret hL1
                                  obtain rfl := Option.some.inj hL1
                                  replace hF := fin_ret hF
                                  obtain rfl := Option.some.inj hF
                                  exact ret_gz [] [] [] rfl (argFl (by (conv => lhs; whnf); all_goals rfl)) trivial
                                · replace hL3 := cond_f hb_3294 hL3
                                  conv => whnf
                                  refine ⟨((k_19 + 1 : Nat) : Int), wrapE (by omega) (by omega) (by omega), ?_⟩
                                  conv => whnf
                                  exact ⟨k_19 + 1, [0, 1, 2, 3, 4, 5], [], [], ⟨hlt_k_19, hL3⟩, by show ([x_2, e_10.Bag.Out.Flight, r_17.1] : List Flight).length - (k_19 + 1) < ([x_2, e_10.Bag.Out.Flight, r_17.1] : List Flight).length - k_19; omega, wk_mk [0, 1, 2, 3, 4, 5] [] [] rfl ⟨argE (by (conv => lhs; whnf); all_goals rfl) rfl, argE (by (conv => lhs; whnf); all_goals rfl) rfl, argP (id := 0) (by (conv => lhs; whnf); all_goals rfl) rfl, argP (id := 1) (by (conv => lhs; whnf); all_goals rfl) rfl, argE (by (conv => lhs; whnf); all_goals rfl) rfl, argE (by (conv => lhs; whnf); all_goals rfl) rfl, argP (id := 2) (by (conv => lhs; whnf); all_goals rfl) rfl, argE (by (conv => lhs; whnf); all_goals rfl) rfl, argO (id := 3) (by (conv => lhs; whnf); all_goals rfl) rfl, argE (by (conv => lhs; whnf); all_goals rfl) rfl, argE (by (conv => lhs; whnf); all_goals rfl) rfl, argO (id := 4) (by (conv => lhs; whnf); all_goals rfl) rfl, argE (by (conv => lhs; whnf); all_goals rfl) rfl, argE (by (conv => lhs; whnf); all_goals rfl) rfl, argO (id := 5) (by (conv => lhs; whnf); all_goals rfl) rfl, argE (by (conv => lhs; whnf); all_goals rfl) rfl, argE (by (conv => lhs; whnf); all_goals rfl) rfl, trivial⟩ ⟨boxL rfl rfl rfl ⟨(.ni _ rfl), (.ni _ rfl), (.ni _ rfl), (.ni _ rfl), trivial⟩, boxL rfl rfl rfl ⟨(.ni _ rfl), (.ni _ rfl), trivial⟩, boxL rfl rfl rfl ⟨(.ni _ rfl), (.ni _ rfl), (.ni _ rfl), (.ni _ rfl), (.ni _ rfl), (.ni _ rfl), (.ni _ rfl), (.ni _ rfl), (.ni _ rfl), (.ni _ rfl), (.ni _ rfl), (.ni _ rfl), (.ni _ rfl), (.ni _ rfl), (.ni _ rfl), (.ni _ rfl), (.ni _ rfl), (.ni _ rfl), (.ni _ rfl), (.ni _ rfl), (.ni _ rfl), (.ni _ rfl), (.ni _ rfl), (.ni _ rfl), (.ni _ rfl), (.ni _ rfl), (.ni _ rfl), (.ni _ rfl), trivial⟩, blkR (fun _ => ⟨rfl, rfl⟩) rfl rfl, blkR (fun _ => ⟨rfl, rfl⟩) rfl rfl, blkR (fun _ => ⟨rfl, rfl⟩) rfl rfl, trivial⟩⟩
                              · replace hL3 := cond_t hb_3293 hL3
                                conv => whnf
                                obtain rfl := Option.some.inj hL3
                                replace hL2 := sub_ret hL2
                                obtain rfl := Option.some.inj hL2
                                replace hL1 := sub_ret hL1
                                obtain rfl := Option.some.inj hL1
                                replace hF := fin_ret hF
                                obtain rfl := Option.some.inj hF
                                exact ret_gz [] [] [] rfl (argFl (by (conv => lhs; whnf); all_goals rfl)) trivial
                            · replace hL3 := cond_t hb_3292 hL3
                              conv => whnf
                              obtain rfl := Option.some.inj hL3
                              replace hL2 := sub_ret hL2
                              obtain rfl := Option.some.inj hL2
                              replace hL1 := sub_ret hL1
                              obtain rfl := Option.some.inj hL1
                              replace hF := fin_ret hF
                              obtain rfl := Option.some.inj hF
                              exact ret_gz [] [] [] rfl (argFl (by (conv => lhs; whnf); all_goals rfl)) trivial
                          · replace hL3 := cond_t hb_3291 hL3
                            conv => whnf
                            obtain rfl := Option.some.inj hL3
                            replace hL2 := sub_ret hL2
                            obtain rfl := Option.some.inj hL2
                            replace hL1 := sub_ret hL1
                            obtain rfl := Option.some.inj hL1
                            replace hF := fin_ret hF
                            obtain rfl := Option.some.inj hF
                            exact ret_gz [] [] [] rfl (argFl (by (conv => lhs; whnf); all_goals rfl)) trivial
                        · replace hL3 := cond_t hb_3290 hL3
                          conv => whnf
                          obtain rfl := Option.some.inj hL3
                          replace hL2 := sub_ret hL2
                          obtain rfl := Option.some.inj hL2
                          replace hL1 := sub_ret hL1
                          obtain rfl := Option.some.inj hL1
                          replace hF := fin_ret hF
                          obtain rfl := Option.some.inj hF
                          exact ret_gz [] [] [] rfl (argFl (by (conv => lhs; whnf); all_goals rfl)) trivial
                      · replace hL3 := cond_t hb_3289 hL3
                        conv => whnf
                        obtain rfl := Option.some.inj hL3
                        replace hL2 := sub_ret hL2
                        obtain rfl := Option.some.inj hL2
                        replace hL1 := sub_ret hL1
                        obtain rfl := Option.some.inj hL1
                        replace hF := fin_ret hF
                        obtain rfl := Option.some.inj hF
                        exact ret_gz [] [] [] rfl (argFl (by (conv => lhs; whnf); all_goals rfl)) trivial
                · replace hL3 := cond_t hb_3279 hL3
                  conv => whnf
                  refine ⟨fun hb_3280 => ?_, fun hb_3280 => ?_⟩
                  · replace hL3 := cond_t hb_3280 hL3
                    conv => whnf
                    obtain rfl := Option.some.inj hL3
                    replace hL2 := sub_ret hL2
                    obtain rfl := Option.some.inj hL2
                    replace hL1 := sub_ret hL1
                    obtain rfl := Option.some.inj hL1
                    replace hF := fin_ret hF
                    obtain rfl := Option.some.inj hF
                    exact ret_gz [] [] [] rfl (argFl (by (conv => lhs; whnf); all_goals rfl)) trivial
                  · replace hL3 := cond_f hb_3280 hL3
                    conv => whnf
                    refine ⟨fun hb_3281 => ?_, fun hb_3281 => ?_⟩
                    · replace hL3 := cond_f hb_3281 hL3
                      conv => whnf
                      refine ⟨fun hb_3282 => ?_, fun hb_3282 => ?_⟩
                      · replace hL3 := cond_f hb_3282 hL3
                        conv => whnf
                        refine ⟨fun hb_3283 => ?_, fun hb_3283 => ?_⟩
                        · replace hL3 := cond_f hb_3283 hL3
                          conv => whnf
                          refine ⟨fun hb_3284 => ?_, fun hb_3284 => ?_⟩
                          · replace hL3 := cond_f hb_3284 hL3
                            conv => whnf
                            refine ⟨fun hb_3285 => ?_, fun hb_3285 => ?_⟩
                            · replace hL3 := cond_f hb_3285 hL3
                              conv => whnf
                              refine ⟨fun hb_3286 => ?_, fun hb_3286 => ?_⟩
                              · replace hL3 := cond_t hb_3286 hL3
                                conv => whnf
                                obtain rfl := Option.some.inj hL3
                                replace hL2 := sub_ret hL2
                                obtain rfl := Option.some.inj hL2
                                replace hL1 := sub_ret hL1
                                obtain rfl := Option.some.inj hL1
                                replace hF := fin_ret hF
                                obtain rfl := Option.some.inj hF
                                exact ret_gz [] [] [] rfl (argFl (by (conv => lhs; whnf); all_goals rfl)) trivial
                              · replace hL3 := cond_f hb_3286 hL3
                                conv => whnf
                                refine ⟨((k_19 + 1 : Nat) : Int), wrapE (by omega) (by omega) (by omega), ?_⟩
                                conv => whnf
                                exact ⟨k_19 + 1, [0, 1, 2, 3, 4, 5], [], [], ⟨hlt_k_19, hL3⟩, by show ([x_2, e_10.Bag.Out.Flight, r_17.1] : List Flight).length - (k_19 + 1) < ([x_2, e_10.Bag.Out.Flight, r_17.1] : List Flight).length - k_19; omega, wk_mk [0, 1, 2, 3, 4, 5] [] [] rfl ⟨argE (by (conv => lhs; whnf); all_goals rfl) rfl, argE (by (conv => lhs; whnf); all_goals rfl) rfl, argP (id := 0) (by (conv => lhs; whnf); all_goals rfl) rfl, argP (id := 1) (by (conv => lhs; whnf); all_goals rfl) rfl, argE (by (conv => lhs; whnf); all_goals rfl) rfl, argE (by (conv => lhs; whnf); all_goals rfl) rfl, argP (id := 2) (by (conv => lhs; whnf); all_goals rfl) rfl, argE (by (conv => lhs; whnf); all_goals rfl) rfl, argO (id := 3) (by (conv => lhs; whnf); all_goals rfl) rfl, argE (by (conv => lhs; whnf); all_goals rfl) rfl, argE (by (conv => lhs; whnf); all_goals rfl) rfl, argO (id := 4) (by (conv => lhs; whnf); all_goals rfl) rfl, argE (by (conv => lhs; whnf); all_goals rfl) rfl, argE (by (conv => lhs; whnf); all_goals rfl) rfl, argO (id := 5) (by (conv => lhs; whnf); all_goals rfl) rfl, argE (by (conv => lhs; whnf); all_goals rfl) rfl, argE (by (conv => lhs; whnf); all_goals rfl) rfl, trivial⟩ ⟨boxL rfl rfl rfl ⟨(.ni _ rfl), (.ni _ rfl), (.ni _ rfl), (.ni _ rfl), trivial⟩, boxL rfl rfl rfl ⟨(.ni _ rfl), (.ni _ rfl), trivial⟩, boxL rfl rfl rfl ⟨(.ni _ rfl), (.ni _ rfl), (.ni _ rfl), (.ni _ rfl), (.ni _ rfl), (.ni _ rfl), (.ni _ rfl), (.ni _ rfl), (.ni _ rfl), (.ni _ rfl), (.ni _ rfl), (.ni _ rfl), (.ni _ rfl), (.ni _ rfl), (.ni _ rfl), (.ni _ rfl), (.ni _ rfl), (.ni _ rfl), (.ni _ rfl), (.ni _ rfl), (.ni _ rfl), (.ni _ rfl), (.ni _ rfl), (.ni _ rfl), (.ni _ rfl), (.ni _ rfl), (.ni _ rfl), (.ni _ rfl), trivial⟩, blkR (fun _ => ⟨rfl, rfl⟩) rfl rfl, blkR (fun _ => ⟨rfl, rfl⟩) rfl rfl, blkR (fun _ => ⟨rfl, rfl⟩) rfl rfl, trivial⟩⟩
                            · replace hL3 := cond_t hb_3285 hL3
                              conv => whnf
                              obtain rfl := Option.some.inj hL3
                              replace hL2 := sub_ret hL2
                              obtain rfl := Option.some.inj hL2
                              replace hL1 := sub_ret hL1
                              obtain rfl := Option.some.inj hL1
                              replace hF := fin_ret hF
                              obtain rfl := Option.some.inj hF
                              exact ret_gz [] [] [] rfl (argFl (by (conv => lhs; whnf); all_goals rfl)) trivial
                          · replace hL3 := cond_t hb_3284 hL3
                            conv => whnf
                            obtain rfl := Option.some.inj hL3
                            replace hL2 := sub_ret hL2
                            obtain rfl := Option.some.inj hL2
                            replace hL1 := sub_ret hL1
                            obtain rfl := Option.some.inj hL1
                            replace hF := fin_ret hF
                            obtain rfl := Option.some.inj hF
                            exact ret_gz [] [] [] rfl (argFl (by (conv => lhs; whnf); all_goals rfl)) trivial
                        · replace hL3 := cond_t hb_3283 hL3
                          conv => whnf
                          obtain rfl := Option.some.inj hL3
                          replace hL2 := sub_ret hL2
                          obtain rfl := Option.some.inj hL2
                          replace hL1 := sub_ret hL1
                          obtain rfl := Option.some.inj hL1
                          replace hF := fin_ret hF
                          obtain rfl := Option.some.inj hF
                          exact ret_gz [] [] [] rfl (argFl (by (conv => lhs; whnf); all_goals rfl)) trivial
                      · replace hL3 := cond_t hb_3282 hL3
                        conv => whnf
                        obtain rfl := Option.some.inj hL3
                        replace hL2 := sub_ret hL2
                        obtain rfl := Option.some.inj hL2
                        replace hL1 := sub_ret hL1
                        obtain rfl := Option.some.inj hL1
                        replace hF := fin_ret hF
                        obtain rfl := Option.some.inj hF
                        exact ret_gz [] [] [] rfl (argFl (by (conv => lhs; whnf); all_goals rfl)) trivial
                    · replace hL3 := cond_t hb_3281 hL3
                      conv => whnf
                      obtain rfl := Option.some.inj hL3
                      replace hL2 := sub_ret hL2
                      obtain rfl := Option.some.inj hL2
                      replace hL1 := sub_ret hL1
                      obtain rfl := Option.some.inj hL1
                      replace hF := fin_ret hF
                      obtain rfl := Option.some.inj hF
                      exact ret_gz [] [] [] rfl (argFl (by (conv => lhs; whnf); all_goals rfl)) trivial
              · replace hL3 := cond_t hb_3271 hL3
                conv => whnf
                refine ⟨fun hb_3272 => ?_, fun hb_3272 => ?_⟩
                · replace hL3 := cond_t hb_3272 hL3
                  conv => whnf
                  obtain rfl := Option.some.inj hL3
                  replace hL2 := sub_ret hL2
                  obtain rfl := Option.some.inj hL2
                  replace hL1 := sub_ret hL1
                  obtain rfl := Option.some.inj hL1
                  replace hF := fin_ret hF
                  obtain rfl := Option.some.inj hF
                  exact ret_gz [] [] [] rfl (argFl (by (conv => lhs; whnf); all_goals rfl)) trivial
                · replace hL3 := cond_f hb_3272 hL3
                  conv => whnf
                  refine ⟨fun hb_3273 => ?_, fun hb_3273 => ?_⟩
                  · replace hL3 := cond_f hb_3273 hL3
                    conv => whnf
                    refine ⟨fun hb_3274 => ?_, fun hb_3274 => ?_⟩
                    · replace hL3 := cond_f hb_3274 hL3
                      conv => whnf
                      refine ⟨fun hb_3275 => ?_, fun hb_3275 => ?_⟩
                      · replace hL3 := cond_f hb_3275 hL3
                        conv => whnf
                        refine ⟨fun hb_3276 => ?_, fun hb_3276 => ?_⟩
                        · replace hL3 := cond_f hb_3276 hL3
                          conv => whnf
                          refine ⟨fun hb_3277 => ?_, fun hb_3277 => ?_⟩
                          · replace hL3 := cond_f hb_3277 hL3
                            conv => whnf
                            refine ⟨fun hb_3278 => ?_, fun hb_3278 => ?_⟩
                            · replace hL3 := cond_t hb_3278 hL3
                              conv => whnf
                              obtain rfl := Option.some.inj hL3
                              replace hL2 := sub_ret hL2
                              obtain rfl := Option.some.inj hL2
                              replace hL1 := sub_ret hL1
                              obtain rfl := Option.some.inj hL1
                              replace hF := fin_ret hF
                              obtain rfl := Option.some.inj hF
                              exact ret_gz [] [] [] rfl (argFl (by (conv => lhs; whnf); all_goals rfl)) trivial
                            · replace hL3 := cond_f hb_3278 hL3
                              conv => whnf
                              refine ⟨((k_19 + 1 : Nat) : Int), wrapE (by omega) (by omega) (by omega), ?_⟩
                              conv => whnf
                              exact ⟨k_19 + 1, [0, 1, 2, 3, 4, 5], [], [], ⟨hlt_k_19, hL3⟩, by show ([x_2, e_10.Bag.Out.Flight, r_17.1] : List Flight).length - (k_19 + 1) < ([x_2, e_10.Bag.Out.Flight, r_17.1] : List Flight).length - k_19; omega, wk_mk [0, 1, 2, 3, 4, 5] [] [] rfl ⟨argE (by (conv => lhs; whnf); all_goals rfl) rfl, argE (by (conv => lhs; whnf); all_goals rfl) rfl, argP (id := 0) (by (conv => lhs; whnf); all_goals rfl) rfl, argP (id := 1) (by (conv => lhs; whnf); all_goals rfl) rfl, argE (by (conv => lhs; whnf); all_goals rfl) rfl, argE (by (conv => lhs; whnf); all_goals rfl) rfl, argP (id := 2) (by (conv => lhs; whnf); all_goals rfl) rfl, argE (by (conv => lhs; whnf); all_goals rfl) rfl, argO (id := 3) (by (conv => lhs; whnf); all_goals rfl) rfl, argE (by (conv => lhs; whnf); all_goals rfl) rfl, argE (by (conv => lhs; whnf); all_goals rfl) rfl, argO (id := 4) (by (conv => lhs; whnf); all_goals rfl) rfl, argE (by (conv => lhs; whnf); all_goals rfl) rfl, argE (by (conv => lhs; whnf); all_goals rfl) rfl, argO (id := 5) (by (conv => lhs; whnf); all_goals rfl) rfl, argE (by (conv => lhs; whnf); all_goals rfl) rfl, argE (by (conv => lhs; whnf); all_goals rfl) rfl, trivial⟩ ⟨boxL rfl rfl rfl ⟨(.ni _ rfl), (.ni _ rfl), (.ni _ rfl), (.ni _ rfl), trivial⟩, boxL rfl rfl rfl ⟨(.ni _ rfl), (.ni _ rfl), trivial⟩, boxL rfl rfl rfl ⟨(.ni _ rfl), (.ni _ rfl), (.ni _ rfl), (.ni _ rfl), (.ni _ rfl), (.ni _ rfl), (.ni _ rfl), (.ni _ rfl), (.ni _ rfl), (.ni _ rfl), (.ni _ rfl), (.ni _ rfl), (.ni _ rfl), (.ni _ rfl), (.ni _ rfl), (.ni _ rfl), (.ni _ rfl), (.ni _ rfl), (.ni _ rfl), (.ni _ rfl), (.ni _ rfl), (.ni _ rfl), (.ni _ rfl), (.ni _ rfl), (.ni _ rfl), (.ni _ rfl), (.ni _ rfl), (.ni _ rfl), trivial⟩, blkR (fun _ => ⟨rfl, rfl⟩) rfl rfl, blkR (fun _ => ⟨rfl, rfl⟩) rfl rfl, blkR (fun _ => ⟨rfl, rfl⟩) rfl rfl, trivial⟩⟩
                          · replace hL3 := cond_t hb_3277 hL3
                            conv => whnf
                            obtain rfl := Option.some.inj hL3
                            replace hL2 := sub_ret hL2
                            obtain rfl := Option.some.inj hL2
                            replace hL1 := sub_ret hL1
                            obtain rfl := Option.some.inj hL1
                            replace hF := fin_ret hF
                            obtain rfl := Option.some.inj hF
                            exact ret_gz [] [] [] rfl (argFl (by (conv => lhs; whnf); all_goals rfl)) trivial
                        · replace hL3 := cond_t hb_3276 hL3
                          conv => whnf
                          obtain rfl := Option.some.inj hL3
                          replace hL2 := sub_ret hL2
                          obtain rfl := Option.some.inj hL2
                          replace hL1 := sub_ret hL1
                          obtain rfl := Option.some.inj hL1
                          replace hF := fin_ret hF
                          obtain rfl := Option.some.inj hF
                          exact ret_gz [] [] [] rfl (argFl (by (conv => lhs; whnf); all_goals rfl)) trivial
                      · replace hL3 := cond_t hb_3275 hL3
                        conv => whnf
                        obtain rfl := Option.some.inj hL3
                        replace hL2 := sub_ret hL2
                        obtain rfl := Option.some.inj hL2
                        replace hL1 := sub_ret hL1
                        obtain rfl := Option.some.inj hL1
                        replace hF := fin_ret hF
                        obtain rfl := Option.some.inj hF
                        exact ret_gz [] [] [] rfl (argFl (by (conv => lhs; whnf); all_goals rfl)) trivial
                    · replace hL3 := cond_t hb_3274 hL3
                      conv => whnf
                      obtain rfl := Option.some.inj hL3
                      replace hL2 := sub_ret hL2
                      obtain rfl := Option.some.inj hL2
                      replace hL1 := sub_ret hL1
                      obtain rfl := Option.some.inj hL1
                      replace hF := fin_ret hF
                      obtain rfl := Option.some.inj hF
                      exact ret_gz [] [] [] rfl (argFl (by (conv => lhs; whnf); all_goals rfl)) trivial
                  · replace hL3 := cond_t hb_3273 hL3
                    conv => whnf
                    obtain rfl := Option.some.inj hL3
                    replace hL2 := sub_ret hL2
                    obtain rfl := Option.some.inj hL2
                    replace hL1 := sub_ret hL1
                    obtain rfl := Option.some.inj hL1
                    replace hF := fin_ret hF
                    obtain rfl := Option.some.inj hF
                    exact ret_gz [] [] [] rfl (argFl (by (conv => lhs; whnf); all_goals rfl)) trivial
            · replace hL3 := cond_t hb_3263 hL3
              conv => whnf
              refine ⟨fun hb_3264 => ?_, fun hb_3264 => ?_⟩
              · replace hL3 := cond_t hb_3264 hL3
                conv => whnf
                obtain rfl := Option.some.inj hL3
                replace hL2 := sub_ret hL2
                obtain rfl := Option.some.inj hL2
                replace hL1 := sub_ret hL1
                obtain rfl := Option.some.inj hL1
                replace hF := fin_ret hF
                obtain rfl := Option.some.inj hF
                exact ret_gz [] [] [] rfl (argFl (by (conv => lhs; whnf); all_goals rfl)) trivial
              · replace hL3 := cond_f hb_3264 hL3
                conv => whnf
                refine ⟨fun hb_3265 => ?_, fun hb_3265 => ?_⟩
                · replace hL3 := cond_f hb_3265 hL3
                  conv => whnf
                  refine ⟨fun hb_3266 => ?_, fun hb_3266 => ?_⟩
                  · replace hL3 := cond_f hb_3266 hL3
                    conv => whnf
                    refine ⟨fun hb_3267 => ?_, fun hb_3267 => ?_⟩
                    · replace hL3 := cond_f hb_3267 hL3
                      conv => whnf
                      refine ⟨fun hb_3268 => ?_, fun hb_3268 => ?_⟩
                      · replace hL3 := cond_f hb_3268 hL3
                        conv => whnf
                        refine ⟨fun hb_3269 => ?_, fun hb_3269 => ?_⟩
                        · replace hL3 := cond_f hb_3269 hL3
                          conv => whnf
                          refine ⟨fun hb_3270 => ?_, fun hb_3270 => ?_⟩
                          · replace hL3 := cond_t hb_3270 hL3
                            conv => whnf
                            obtain rfl := Option.some.inj hL3
                            replace hL2 := sub_ret hL2
                            obtain rfl := Option.some.inj hL2
                            replace hL1 := sub_ret hL1
                            obtain rfl := Option.some.inj hL1
                            replace hF := fin_ret hF
                            obtain rfl := Option.some.inj hF
                            exact ret_gz [] [] [] rfl (argFl (by (conv => lhs; whnf); all_goals rfl)) trivial
                          · replace hL3 := cond_f hb_3270 hL3
                            conv => whnf
                            refine ⟨((k_19 + 1 : Nat) : Int), wrapE (by omega) (by omega) (by omega), ?_⟩
                            conv => whnf
                            exact ⟨k_19 + 1, [0, 1, 2, 3, 4, 5], [], [], ⟨hlt_k_19, hL3⟩, by show ([x_2, e_10.Bag.Out.Flight, r_17.1] : List Flight).length - (k_19 + 1) < ([x_2, e_10.Bag.Out.Flight, r_17.1] : List Flight).length - k_19; omega, wk_mk [0, 1, 2, 3, 4, 5] [] [] rfl ⟨argE (by (conv => lhs; whnf); all_goals rfl) rfl, argE (by (conv => lhs; whnf); all_goals rfl) rfl, argP (id := 0) (by (conv => lhs; whnf); all_goals rfl) rfl, argP (id := 1) (by (conv => lhs; whnf); all_goals rfl) rfl, argE (by (conv => lhs; whnf); all_goals rfl) rfl, argE (by (conv => lhs; whnf); all_goals rfl) rfl, argP (id := 2) (by (conv => lhs; whnf); all_goals rfl) rfl, argE (by (conv => lhs; whnf); all_goals rfl) rfl, argO (id := 3) (by (conv => lhs; whnf); all_goals rfl) rfl, argE (by (conv => lhs; whnf); all_goals rfl) rfl, argE (by (conv => lhs; whnf); all_goals rfl) rfl, argO (id := 4) (by (conv => lhs; whnf); all_goals rfl) rfl, argE (by (conv => lhs; whnf); all_goals rfl) rfl, argE (by (conv => lhs; whnf); all_goals rfl) rfl, argO (id := 5) (by (conv => lhs; whnf); all_goals rfl) rfl, argE (by (conv => lhs; whnf); all_goals rfl) rfl, argE (by (conv => lhs; whnf); all_goals rfl) rfl, trivial⟩ ⟨boxL rfl rfl rfl ⟨(.ni _ rfl), (.ni _ rfl), (.ni _ rfl), (.ni _ rfl), trivial⟩, boxL rfl rfl rfl ⟨(.ni _ rfl), (.ni _ rfl), trivial⟩, boxL rfl rfl rfl ⟨(.ni _ rfl), (.ni _ rfl), (.ni _ rfl), (.ni _ rfl), (.ni _ rfl), (.ni _ rfl), (.ni _ rfl), (.ni _ rfl), (.ni _ rfl), (.ni _ rfl), (.ni _ rfl), (.ni _ rfl), (.ni _ rfl), (.ni _ rfl), (.ni _ rfl), (.ni _ rfl), (.ni _ rfl), (.ni _ rfl), (.ni _ rfl), (.ni _ rfl), (.ni _ rfl), (.ni _ rfl), (.ni _ rfl), (.ni _ rfl), (.ni _ rfl), (.ni _ rfl), (.ni _ rfl), (.ni _ rfl), trivial⟩, blkR (fun _ => ⟨rfl, rfl⟩) rfl rfl, blkR (fun _ => ⟨rfl, rfl⟩) rfl rfl, blkR (fun _ => ⟨rfl, rfl⟩) rfl rfl, trivial⟩⟩
                        · replace hL3 := cond_t hb_3269 hL3
                          conv => whnf
                          obtain rfl := Option.some.inj hL3
                          replace hL2 := sub_ret hL2
                          obtain rfl := Option.some.inj hL2
                          replace hL1 := sub_ret hL1
                          obtain rfl := Option.some.inj hL1
                          replace hF := fin_ret hF
                          obtain rfl := Option.some.inj hF
                          exact ret_gz [] [] [] rfl (argFl (by (conv => lhs; whnf); all_goals rfl)) trivial
                      · replace hL3 := cond_t hb_3268 hL3
                        conv => whnf
                        obtain rfl := Option.some.inj hL3
                        replace hL2 := sub_ret hL2
                        obtain rfl := Option.some.inj hL2
                        replace hL1 := sub_ret hL1
                        obtain rfl := Option.some.inj hL1
                        replace hF := fin_ret hF
                        obtain rfl := Option.some.inj hF
                        exact ret_gz [] [] [] rfl (argFl (by (conv => lhs; whnf); all_goals rfl)) trivial
                    · replace hL3 := cond_t hb_3267 hL3
                      conv => whnf
                      obtain rfl := Option.some.inj hL3
                      replace hL2 := sub_ret hL2
                      obtain rfl := Option.some.inj hL2
                      replace hL1 := sub_ret hL1
                      obtain rfl := Option.some.inj hL1
                      replace hF := fin_ret hF
                      obtain rfl := Option.some.inj hF
                      exact ret_gz [] [] [] rfl (argFl (by (conv => lhs; whnf); all_goals rfl)) trivial
                  · replace hL3 := cond_t hb_3266 hL3
                    conv => whnf
                    obtain rfl := Option.some.inj hL3
                    replace hL2 := sub_ret hL2
                    obtain rfl := Option.some.inj hL2
                    replace hL1 := sub_ret hL1
                    obtain rfl := Option.some.inj hL1
                    replace hF := fin_ret hF
                    obtain rfl := Option.some.inj hF
                    exact ret_gz [] [] [] rfl (argFl (by (conv => lhs; whnf); all_goals rfl)) trivial
                · replace hL3 := cond_t hb_3265 hL3
                  conv => whnf
                  obtain rfl := Option.some.inj hL3
                  replace hL2 := sub_ret hL2
                  obtain rfl := Option.some.inj hL2
                  replace hL1 := sub_ret hL1
                  obtain rfl := Option.some.inj hL1
                  replace hF := fin_ret hF
                  obtain rfl := Option.some.inj hF
                  exact ret_gz [] [] [] rfl (argFl (by (conv => lhs; whnf); all_goals rfl)) trivial
          · replace hL3 := cond_t hb_3255 hL3
            conv => whnf
            refine ⟨fun hb_3256 => ?_, fun hb_3256 => ?_⟩
            · replace hL3 := cond_t hb_3256 hL3
              conv => whnf
              obtain rfl := Option.some.inj hL3
              replace hL2 := sub_ret hL2
              obtain rfl := Option.some.inj hL2
              replace hL1 := sub_ret hL1
              obtain rfl := Option.some.inj hL1
              replace hF := fin_ret hF
              obtain rfl := Option.some.inj hF
              exact ret_gz [] [] [] rfl (argFl (by (conv => lhs; whnf); all_goals rfl)) trivial
            · replace hL3 := cond_f hb_3256 hL3
              conv => whnf
              refine ⟨fun hb_3257 => ?_, fun hb_3257 => ?_⟩
              · replace hL3 := cond_f hb_3257 hL3
                conv => whnf
                refine ⟨fun hb_3258 => ?_, fun hb_3258 => ?_⟩
                · replace hL3 := cond_f hb_3258 hL3
                  conv => whnf
                  refine ⟨fun hb_3259 => ?_, fun hb_3259 => ?_⟩
                  · replace hL3 := cond_f hb_3259 hL3
                    conv => whnf
                    refine ⟨fun hb_3260 => ?_, fun hb_3260 => ?_⟩
                    · replace hL3 := cond_f hb_3260 hL3
                      conv => whnf
                      refine ⟨fun hb_3261 => ?_, fun hb_3261 => ?_⟩
                      · replace hL3 := cond_f hb_3261 hL3
                        conv => whnf
                        refine ⟨fun hb_3262 => ?_, fun hb_3262 => ?_⟩
                        · replace hL3 := cond_t hb_3262 hL3
                          conv => whnf
                          obtain rfl := Option.some.inj hL3
                          replace hL2 := sub_ret hL2
                          obtain rfl := Option.some.inj hL2
                          replace hL1 := sub_ret hL1
                          obtain rfl := Option.some.inj hL1
                          replace hF := fin_ret hF
                          obtain rfl := Option.some.inj hF
                          exact ret_gz [] [] [] rfl (argFl (by (conv => lhs; whnf); all_goals rfl)) trivial
                        · replace hL3 := cond_f hb_3262 hL3
                          conv => whnf
                          refine ⟨((k_19 + 1 : Nat) : Int), wrapE (by omega) (by omega) (by omega), ?_⟩
                          conv => whnf
                          exact ⟨k_19 + 1, [0, 1, 2, 3, 4, 5], [], [], ⟨hlt_k_19, hL3⟩, by show ([x_2, e_10.Bag.Out.Flight, r_17.1] : List Flight).length - (k_19 + 1) < ([x_2, e_10.Bag.Out.Flight, r_17.1] : List Flight).length - k_19; omega, wk_mk [0, 1, 2, 3, 4, 5] [] [] rfl ⟨argE (by (conv => lhs; whnf); all_goals rfl) rfl, argE (by (conv => lhs; whnf); all_goals rfl) rfl, argP (id := 0) (by (conv => lhs; whnf); all_goals rfl) rfl, argP (id := 1) (by (conv => lhs; whnf); all_goals rfl) rfl, argE (by (conv => lhs; whnf); all_goals rfl) rfl, argE (by (conv => lhs; whnf); all_goals rfl) rfl, argP (id := 2) (by (conv => lhs; whnf); all_goals rfl) rfl, argE (by (conv => lhs; whnf); all_goals rfl) rfl, argO (id := 3) (by (conv => lhs; whnf); all_goals rfl) rfl, argE (by (conv => lhs; whnf); all_goals rfl) rfl, argE (by (conv => lhs; whnf); all_goals rfl) rfl, argO (id := 4) (by (conv => lhs; whnf); all_goals rfl) rfl, argE (by (conv => lhs; whnf); all_goals rfl) rfl, argE (by (conv => lhs; whnf); all_goals rfl) rfl, argO (id := 5) (by (conv => lhs; whnf); all_goals rfl) rfl, argE (by (conv => lhs; whnf); all_goals rfl) rfl, argE (by (conv => lhs; whnf); all_goals rfl) rfl, trivial⟩ ⟨boxL rfl rfl rfl ⟨(.ni _ rfl), (.ni _ rfl), (.ni _ rfl), (.ni _ rfl), trivial⟩, boxL rfl rfl rfl ⟨(.ni _ rfl), (.ni _ rfl), trivial⟩, boxL rfl rfl rfl ⟨(.ni _ rfl), (.ni _ rfl), (.ni _ rfl), (.ni _ rfl), (.ni _ rfl), (.ni _ rfl), (.ni _ rfl), (.ni _ rfl), (.ni _ rfl), (.ni _ rfl), (.ni _ rfl), (.ni _ rfl), (.ni _ rfl), (.ni _ rfl), (.ni _ rfl), (.ni _ rfl), (.ni _ rfl), (.ni _ rfl), (.ni _ rfl), (.ni _ rfl), (.ni _ rfl), (.ni _ rfl), (.ni _ rfl), (.ni _ rfl), (.ni _ rfl), (.ni _ rfl), (.ni _ rfl), (.ni _ rfl), trivial⟩, blkR (fun _ => ⟨rfl, rfl⟩) rfl rfl, blkR (fun _ => ⟨rfl, rfl⟩) rfl rfl, blkR (fun _ => ⟨rfl, rfl⟩) rfl rfl, trivial⟩⟩
                      · replace hL3 := cond_t hb_3261 hL3
                        conv => whnf
                        obtain rfl := Option.some.inj hL3
                        replace hL2 := sub_ret hL2
                        obtain rfl := Option.some.inj hL2
                        replace hL1 := sub_ret hL1
                        obtain rfl := Option.some.inj hL1
                        replace hF := fin_ret hF
                        obtain rfl := Option.some.inj hF
                        exact ret_gz [] [] [] rfl (argFl (by (conv => lhs; whnf); all_goals rfl)) trivial
                    · replace hL3 := cond_t hb_3260 hL3
                      conv => whnf
                      obtain rfl := Option.some.inj hL3
                      replace hL2 := sub_ret hL2
                      obtain rfl := Option.some.inj hL2
                      replace hL1 := sub_ret hL1
                      obtain rfl := Option.some.inj hL1
                      replace hF := fin_ret hF
                      obtain rfl := Option.some.inj hF
                      exact ret_gz [] [] [] rfl (argFl (by (conv => lhs; whnf); all_goals rfl)) trivial
                  · replace hL3 := cond_t hb_3259 hL3
                    conv => whnf
                    obtain rfl := Option.some.inj hL3
                    replace hL2 := sub_ret hL2
                    obtain rfl := Option.some.inj hL2
                    replace hL1 := sub_ret hL1
                    obtain rfl := Option.some.inj hL1
                    replace hF := fin_ret hF
                    obtain rfl := Option.some.inj hF
                    exact ret_gz [] [] [] rfl (argFl (by (conv => lhs; whnf); all_goals rfl)) trivial
                · replace hL3 := cond_t hb_3258 hL3
                  conv => whnf
                  obtain rfl := Option.some.inj hL3
                  replace hL2 := sub_ret hL2
                  obtain rfl := Option.some.inj hL2
                  replace hL1 := sub_ret hL1
                  obtain rfl := Option.some.inj hL1
                  replace hF := fin_ret hF
                  obtain rfl := Option.some.inj hF
                  exact ret_gz [] [] [] rfl (argFl (by (conv => lhs; whnf); all_goals rfl)) trivial
              · replace hL3 := cond_t hb_3257 hL3
                conv => whnf
                obtain rfl := Option.some.inj hL3
                replace hL2 := sub_ret hL2
                obtain rfl := Option.some.inj hL2
                replace hL1 := sub_ret hL1
                obtain rfl := Option.some.inj hL1
                replace hF := fin_ret hF
                obtain rfl := Option.some.inj hF
                exact ret_gz [] [] [] rfl (argFl (by (conv => lhs; whnf); all_goals rfl)) trivial
        · replace hL3 := cond_t hb_3247 hL3
          conv => whnf
          refine ⟨fun hb_3248 => ?_, fun hb_3248 => ?_⟩
          · replace hL3 := cond_t hb_3248 hL3
            conv => whnf
            obtain rfl := Option.some.inj hL3
            replace hL2 := sub_ret hL2
            obtain rfl := Option.some.inj hL2
            replace hL1 := sub_ret hL1
            obtain rfl := Option.some.inj hL1
            replace hF := fin_ret hF
            obtain rfl := Option.some.inj hF
            exact ret_gz [] [] [] rfl (argFl (by (conv => lhs; whnf); all_goals rfl)) trivial
          · replace hL3 := cond_f hb_3248 hL3
            conv => whnf
            refine ⟨fun hb_3249 => ?_, fun hb_3249 => ?_⟩
            · replace hL3 := cond_f hb_3249 hL3
              conv => whnf
              refine ⟨fun hb_3250 => ?_, fun hb_3250 => ?_⟩
              · replace hL3 := cond_f hb_3250 hL3
                conv => whnf
                refine ⟨fun hb_3251 => ?_, fun hb_3251 => ?_⟩
                · replace hL3 := cond_f hb_3251 hL3
                  conv => whnf
                  refine ⟨fun hb_3252 => ?_, fun hb_3252 => ?_⟩
                  · replace hL3 := cond_f hb_3252 hL3
                    conv => whnf
                    refine ⟨fun hb_3253 => ?_, fun hb_3253 => ?_⟩
                    · replace hL3 := cond_f hb_3253 hL3
                      conv => whnf
                      refine ⟨fun hb_3254 => ?_, fun hb_3254 => ?_⟩
                      · replace hL3 := cond_t hb_3254 hL3
                        conv => whnf
                        obtain rfl := Option.some.inj hL3
                        replace hL2 := sub_ret hL2
                        obtain rfl := Option.some.inj hL2
                        replace hL1 := sub_ret hL1
                        obtain rfl := Option.some.inj hL1
                        replace hF := fin_ret hF
                        obtain rfl := Option.some.inj hF
                        exact ret_gz [] [] [] rfl (argFl (by (conv => lhs; whnf); all_goals rfl)) trivial
                      · replace hL3 := cond_f hb_3254 hL3
                        conv => whnf
                        refine ⟨((k_19 + 1 : Nat) : Int), wrapE (by omega) (by omega) (by omega), ?_⟩
                        conv => whnf
                        exact ⟨k_19 + 1, [0, 1, 2, 3, 4, 5], [], [], ⟨hlt_k_19, hL3⟩, by show ([x_2, e_10.Bag.Out.Flight, r_17.1] : List Flight).length - (k_19 + 1) < ([x_2, e_10.Bag.Out.Flight, r_17.1] : List Flight).length - k_19; omega, wk_mk [0, 1, 2, 3, 4, 5] [] [] rfl ⟨argE (by (conv => lhs; whnf); all_goals rfl) rfl, argE (by (conv => lhs; whnf); all_goals rfl) rfl, argP (id := 0) (by (conv => lhs; whnf); all_goals rfl) rfl, argP (id := 1) (by (conv => lhs; whnf); all_goals rfl) rfl, argE (by (conv => lhs; whnf); all_goals rfl) rfl, argE (by (conv => lhs; whnf); all_goals rfl) rfl, argP (id := 2) (by (conv => lhs; whnf); all_goals rfl) rfl, argE (by (conv => lhs; whnf); all_goals rfl) rfl, argO (id := 3) (by (conv => lhs; whnf); all_goals rfl) rfl, argE (by (conv => lhs; whnf); all_goals rfl) rfl, argE (by (conv => lhs; whnf); all_goals rfl) rfl, argO (id := 4) (by (conv => lhs; whnf); all_goals rfl) rfl, argE (by (conv => lhs; whnf); all_goals rfl) rfl, argE (by (conv => lhs; whnf); all_goals rfl) rfl, argO (id := 5) (by (conv => lhs; whnf); all_goals rfl) rfl, argE (by (conv => lhs; whnf); all_goals rfl) rfl, argE (by (conv => lhs; whnf); all_goals rfl) rfl, trivial⟩ ⟨boxL rfl rfl rfl ⟨(.ni _ rfl), (.ni _ rfl), (.ni _ rfl), (.ni _ rfl), trivial⟩, boxL rfl rfl rfl ⟨(.ni _ rfl), (.ni _ rfl), trivial⟩, boxL rfl rfl rfl ⟨(.ni _ rfl), (.ni _ rfl), (.ni _ rfl), (.ni _ rfl), (.ni _ rfl), (.ni _ rfl), (.ni _ rfl), (.ni _ rfl), (.ni _ rfl), (.ni _ rfl), (.ni _ rfl), (.ni _ rfl), (.ni _ rfl), (.ni _ rfl), (.ni _ rfl), (.ni _ rfl), (.ni _ rfl), (.ni _ rfl), (.ni _ rfl), (.ni _ rfl), (.ni _ rfl), (.ni _ rfl), (.ni _ rfl), (.ni _ rfl), (.ni _ rfl), (.ni _ rfl), (.ni _ rfl), (.ni _ rfl), trivial⟩, blkR (fun _ => ⟨rfl, rfl⟩) rfl rfl, blkR (fun _ => ⟨rfl, rfl⟩) rfl rfl, blkR (fun _ => ⟨rfl, rfl⟩) rfl rfl, trivial⟩⟩
                    · replace hL3 := cond_t hb_3253 hL3
                      conv => whnf
                      obtain rfl := Option.some.inj hL3
                      replace hL2 := sub_ret hL2
                      obtain rfl := Option.some.inj hL2
                      replace hL1 := sub_ret hL1
                      obtain rfl := Option.some.inj hL1
                      replace hF := fin_ret hF
                      obtain rfl := Option.some.inj hF
                      exact ret_gz [] [] [] rfl (argFl (by (conv => lhs; whnf); all_goals rfl)) trivial
                  · replace hL3 := cond_t hb_3252 hL3
                    conv => whnf
                    obtain rfl := Option.some.inj hL3
                    replace hL2 := sub_ret hL2
                    obtain rfl := Option.some.inj hL2
                    replace hL1 := sub_ret hL1
                    obtain rfl := Option.some.inj hL1
                    replace hF := fin_ret hF
                    obtain rfl := Option.some.inj hF
                    exact ret_gz [] [] [] rfl (argFl (by (conv => lhs; whnf); all_goals rfl)) trivial
                · replace hL3 := cond_t hb_3251 hL3
                  conv => whnf
                  obtain rfl := Option.some.inj hL3
                  replace hL2 := sub_ret hL2
                  obtain rfl := Option.some.inj hL2
                  replace hL1 := sub_ret hL1
                  obtain rfl := Option.some.inj hL1
                  replace hF := fin_ret hF
                  obtain rfl := Option.some.inj hF
                  exact ret_gz [] [] [] rfl (argFl (by (conv => lhs; whnf); all_goals rfl)) trivial
              · replace hL3 := cond_t hb_3250 hL3
                conv => whnf
                obtain rfl := Option.some.inj hL3
                replace hL2 := sub_ret hL2
                obtain rfl := Option.some.inj hL2
                replace hL1 := sub_ret hL1
                obtain rfl := Option.some.inj hL1
                replace hF := fin_ret hF
                obtain rfl := Option.some.inj hF
                exact ret_gz [] [] [] rfl (argFl (by (conv => lhs; whnf); all_goals rfl)) trivial
            · replace hL3 := cond_t hb_3249 hL3
              conv => whnf
              obtain rfl := Option.some.inj hL3
              replace hL2 := sub_ret hL2
              obtain rfl := Option.some.inj hL2
              replace hL1 := sub_ret hL1
              obtain rfl := Option.some.inj hL1
              replace hF := fin_ret hF
              obtain rfl := Option.some.inj hF
              exact ret_gz [] [] [] rfl (argFl (by (conv => lhs; whnf); all_goals rfl)) trivial
      · rw [drop_nil (show ([x_2, e_10.Bag.Out.Flight, r_17.1] : List Flight).length ≤ k_19 by have h := of_decide_eq_false h; omega), law26_AuthorityNever_L3.eq_1] at hL3
        conv => whnf
        obtain rfl := Option.some.inj hL3
        replace hL2 := sub_brk hL2
        try dsimp only at hL2
        refine ⟨((k_15 + 1 : Nat) : Int), wrapE (by omega) (by omega) (by omega), ?_⟩
        conv => whnf
        exact ⟨(k_15 + 1, r_17.2.L, r_17.2.At), [0, 1, 2, 3, 4], [], [], ⟨hlt_k_15, hL2⟩, by show ([r_3.1, r_11] : List (List Departure)).length - (k_15 + 1) < ([r_3.1, r_11] : List (List Departure)).length - k_15; omega, wk_mk [0, 1, 2, 3, 4] [] [] rfl ⟨argE (by (conv => lhs; whnf); all_goals rfl) rfl, argE (by (conv => lhs; whnf); all_goals rfl) rfl, argP (id := 0) (by (conv => lhs; whnf); all_goals rfl) rfl, argP (id := 1) (by (conv => lhs; whnf); all_goals rfl) rfl, argE (by (conv => lhs; whnf); all_goals rfl) rfl, argE (by (conv => lhs; whnf); all_goals rfl) rfl, argP (id := 2) (by (conv => lhs; whnf); all_goals rfl) rfl, argO (id := 3) (by (conv => lhs; whnf); all_goals rfl) rfl, argE (by (conv => lhs; whnf); all_goals rfl) rfl, argE (by (conv => lhs; whnf); all_goals rfl) rfl, argO (id := 4) (by (conv => lhs; whnf); all_goals rfl) rfl, argE (by (conv => lhs; whnf); all_goals rfl) rfl, argE (by (conv => lhs; whnf); all_goals rfl) rfl, trivial⟩ ⟨boxL rfl rfl rfl ⟨(.ni _ rfl), (.ni _ rfl), (.ni _ rfl), (.ni _ rfl), trivial⟩, boxL rfl rfl rfl ⟨(.ni _ rfl), (.ni _ rfl), trivial⟩, boxL rfl rfl rfl ⟨(.ni _ rfl), (.ni _ rfl), (.ni _ rfl), (.ni _ rfl), (.ni _ rfl), (.ni _ rfl), (.ni _ rfl), (.ni _ rfl), (.ni _ rfl), (.ni _ rfl), (.ni _ rfl), (.ni _ rfl), (.ni _ rfl), (.ni _ rfl), (.ni _ rfl), (.ni _ rfl), (.ni _ rfl), (.ni _ rfl), (.ni _ rfl), (.ni _ rfl), (.ni _ rfl), (.ni _ rfl), (.ni _ rfl), (.ni _ rfl), (.ni _ rfl), (.ni _ rfl), (.ni _ rfl), (.ni _ rfl), trivial⟩, blkR (fun _ => ⟨rfl, rfl⟩) rfl rfl, blkR (fun _ => ⟨rfl, rfl⟩) rfl rfl, trivial⟩⟩
    · rw [drop_nil (show ([r_3.1, r_11] : List (List Departure)).length ≤ k_15 by have h := of_decide_eq_false h; omega), law26_AuthorityNever_L2.eq_1] at hL2
      conv => whnf
      obtain rfl := Option.some.inj hL2
      replace hL1 := sub_brk hL1
      try dsimp only at hL1
      refine ⟨((k_9 + 1 : Nat) : Int), wrapE (by omega) (by omega) (by omega), ?_⟩
      conv => whnf
      exact ⟨(k_9 + 1, a_12, i_13), [0, 1, 3], [], [], ⟨hlt_k_9, hL1⟩, by show ([x_0, r_4.1, r_5.1] : List Facts).length - (k_9 + 1) < ([x_0, r_4.1, r_5.1] : List Facts).length - k_9; omega, wk_mk [0, 1, 3] [] [] rfl ⟨argE (by (conv => lhs; whnf); all_goals rfl) rfl, argE (by (conv => lhs; whnf); all_goals rfl) rfl, argP (id := 0) (by (conv => lhs; whnf); all_goals rfl) rfl, argP (id := 1) (by (conv => lhs; whnf); all_goals rfl) rfl, argE (by (conv => lhs; whnf); all_goals rfl) rfl, argE (by (conv => lhs; whnf); all_goals rfl) rfl, argO (id := 3) (by (conv => lhs; whnf); all_goals rfl) rfl, argE (by (conv => lhs; whnf); all_goals rfl) rfl, argE (by (conv => lhs; whnf); all_goals rfl) rfl, trivial⟩ ⟨boxL rfl rfl rfl ⟨(.ni _ rfl), (.ni _ rfl), (.ni _ rfl), (.ni _ rfl), trivial⟩, boxL rfl rfl rfl ⟨(.ni _ rfl), (.ni _ rfl), trivial⟩, blkR (fun _ => ⟨rfl, rfl⟩) rfl rfl, trivial⟩⟩
  · rw [drop_nil (show ([x_0, r_4.1, r_5.1] : List Facts).length ≤ k_9 by have h := of_decide_eq_false h; omega), law26_AuthorityNever_L1.eq_1] at hL1
    conv => whnf
    obtain rfl := Option.some.inj hL1
    replace hF := fin_brk hF
    try dsimp only at hF
    obtain ⟨r_30, h_r_30, hF⟩ := bind_some hF
    refine ⟨_, _, _, _, _, _, _, _, _, callX false [] [] 0 Tryd.func21 (by decide) rfl (law26_awake_ac r_30 h_r_30) rfl trivial rfl trivial rfl rfl rfl lend0 trivial rfl, ?_⟩
    conv => whnf
    obtain rfl := Option.some.inj hF
    exact ret_gz [] [] [] rfl (argE (by (conv => lhs; whnf); all_goals rfl) rfl) trivial
end Go.Proofs.YtbiofbmjonmglaaDoor.Ex
