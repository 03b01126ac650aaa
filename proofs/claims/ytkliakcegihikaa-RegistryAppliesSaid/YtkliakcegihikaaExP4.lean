/- The functions of the program compute what was printed; walks printed by a program. -/
import Derived.Test.YtkliakcegihikaaExF
import Derived.Test.YtkliakcegihikaaExP1
import Derived.Test.YtkliakcegihikaaExP2
import Derived.Test.YtkliakcegihikaaExP3
namespace Go.Proofs.Ytkliakcegihikaa.Ex
open Go.RowKit Go.Proofs.Ytkliakcegihikaa.Ax
set_option linter.unusedVariables false
set_option linter.unusedSimpArgs false
set_option maxRecDepth 100000 in
set_option maxHeartbeats 40000000 in
theorem ref04_Validate_ac (x_0 : Message) (r : Int) (hF : ref04_Validate x_0 = some r) : AC Try.prog 47 [.agg (encMessage x_0)] [] (.int .i64 r) [] := by
  refine ac_of tab_ok follows_ok Try.func47 rfl Try.ntmps47 rfl ?_
  unfold ref04_Validate at hF
  conv => whnf
  obtain ⟨r_1, h_r_1, hF⟩ := bind_some hF
  refine ⟨_, _, _, _, _, _, _, _, callX false [] [] Try.func73 (by decide) rfl (ref04_in_ac x_0.Kind (1 : Int) (5 : Int) r_1 h_r_1) rfl ⟨(argE (by (conv => lhs; whnf); all_goals rfl) rfl), (argE (by (conv => lhs; whnf); all_goals rfl) rfl), (argE (by (conv => lhs; whnf); all_goals rfl) rfl), trivial⟩ rfl trivial rfl rfl rfl lend0 trivial, ?_⟩
  conv => whnf
  refine ⟨fun hb_15 => ?_, fun hb_15 => ?_⟩
  · replace hF := cond_t hb_15 hF
    conv => whnf
    obtain rfl := Option.some.inj hF
    exact ret_gz [] [] [] rfl (argE (by (conv => lhs; whnf); all_goals rfl) rfl) trivial
  · replace hF := cond_f hb_15 hF
    conv => whnf
    obtain ⟨r_2, h_r_2, hF⟩ := bind_some hF
    refine ⟨_, _, _, _, _, _, _, _, callX false [] [] Try.func75 (by decide) rfl (ref04_own_ac x_0 r_2 h_r_2) rfl ⟨(argE (by (conv => lhs; whnf); all_goals rfl) rfl), trivial⟩ rfl trivial rfl rfl rfl lend0 trivial, ?_⟩
    conv => whnf
    obtain ⟨r_3, h_r_3, hF⟩ := bind_some hF
    refine ⟨_, _, _, _, _, _, _, _, callX false [] [] Try.func74 (by decide) rfl (ref04_Same_ac x_0 r_2 r_3 h_r_3) rfl ⟨(argE (by (conv => lhs; whnf); all_goals rfl) rfl), (argE (by (conv => lhs; whnf); all_goals rfl) rfl), trivial⟩ rfl trivial rfl rfl rfl lend0 trivial, ?_⟩
    conv => whnf
    refine ⟨by kernel_rfl, ?_⟩
    conv => whnf
    refine ⟨fun hb_16 => ?_, fun hb_16 => ?_⟩
    · replace hF := cond_t hb_16 hF
      conv => whnf
      obtain rfl := Option.some.inj hF
      exact ret_gz [] [] [] rfl (argE (by (conv => lhs; whnf); all_goals rfl) rfl) trivial
    · replace hF := cond_f hb_16 hF
      conv => whnf
      refine len_q (enc := encLeg) (l := x_0.Onward) rfl ?_
      conv => whnf
      refine ⟨fun hb_17 => ?_, fun hb_17 => ?_⟩
      · replace hF := cond_f hb_17 hF
        conv => whnf
        refine len_q (enc := iA) (l := x_0.List) rfl ?_
        conv => whnf
        refine ⟨fun hb_18 => ?_, fun hb_18 => ?_⟩
        · replace hF := cond_t hb_18 hF
          conv => whnf
          obtain rfl := Option.some.inj hF
          exact ret_gz [] [] [] rfl (argE (by (conv => lhs; whnf); all_goals rfl) rfl) trivial
        · replace hF := cond_f hb_18 hF
          conv => whnf
          obtain ⟨r_4, h_r_4, hF⟩ := bind_some hF
          refine ⟨_, _, _, _, _, _, _, _, callX false [] [] Try.func76 (by decide) rfl (ref04_spelled_ac x_0 r_4 h_r_4) rfl ⟨(argE (by (conv => lhs; whnf); all_goals rfl) rfl), trivial⟩ rfl trivial rfl rfl rfl lend0 trivial, ?_⟩
          conv => whnf
          refine ⟨fun hb_19 => ?_, fun hb_19 => ?_⟩
          · replace hF := cond_t hb_19 hF
            conv => whnf
            obtain rfl := Option.some.inj hF
            exact ret_gz [] [] [] rfl (argE (by (conv => lhs; whnf); all_goals rfl) rfl) trivial
          · replace hF := cond_f hb_19 hF
            conv => whnf
            obtain ⟨r_5, h_r_5, hF⟩ := bind_some hF
            refine ⟨_, _, _, _, _, _, _, _, callX false [] [] Try.func77 (by decide) rfl (ref04_counted_ac x_0 r_5 h_r_5) rfl ⟨(argE (by (conv => lhs; whnf); all_goals rfl) rfl), trivial⟩ rfl trivial rfl rfl rfl lend0 trivial, ?_⟩
            conv => whnf
            refine ⟨fun hb_20 => ?_, fun hb_20 => ?_⟩
            · replace hF := cond_t hb_20 hF
              conv => whnf
              obtain rfl := Option.some.inj hF
              exact ret_gz [] [] [] rfl (argE (by (conv => lhs; whnf); all_goals rfl) rfl) trivial
            · replace hF := cond_f hb_20 hF
              conv => whnf
              obtain ⟨c_1, hc_1, hF⟩ := fin_some hF
              refine sw_loop tab_ok follows_ok (fun y : Nat × Int => ref04_Validate_L1 x_0 y.1 y.2 = some c_1) (fun y => ⟨eL [(1, .ptr 0 0), (3, .int .i64 y.2)], hL [(0, .box [.int .i64 x_0.Kind, .int .i64 x_0.Do, .str x_0.Port, .int .i64 x_0.Number, .str x_0.In.Flight.Carrier, .int .i64 x_0.In.Flight.Number, .str x_0.In.Flight.Suffix, .int .i64 x_0.In.Flight.Day, .str x_0.In.Port, .str x_0.In.Class, .str x_0.Out.Flight.Carrier, .int .i64 x_0.Out.Flight.Number, .str x_0.Out.Flight.Suffix, .int .i64 x_0.Out.Flight.Day, .str x_0.Out.Port, .str x_0.Out.Class, .lst 6 (x_0.Onward.map encLeg), .int .i64 x_0.First.Lead, .int .i64 x_0.First.Airline, .int .i64 x_0.First.Serial, .int .i64 x_0.Count, .bool x_0.Load, .int .i64 x_0.Status, .int .i64 x_0.Sequence, .int .i64 x_0.Weight, .str x_0.Surname, .str x_0.Given, .int .i64 x_0.Exception, .str x_0.Node, .lst 1 (x_0.List.map iA)])], 1⟩) (fun y => y.1) (9223372036854775807, (1 : Int)) hc_1 (wk_mk [0] [] [] rfl ⟨argP (id := 0) (by (conv => lhs; whnf); all_goals rfl) rfl, argE (by (conv => lhs; whnf); all_goals rfl) rfl, trivial⟩ ⟨boxL rfl rfl rfl ⟨(.ni _ rfl), (.ni _ rfl), (.ni _ rfl), (.ni _ rfl), (.ni _ rfl), (.ni _ rfl), (.ni _ rfl), (.ni _ rfl), (.ni _ rfl), (.ni _ rfl), (.ni _ rfl), (.ni _ rfl), (.ni _ rfl), (.ni _ rfl), (.ni _ rfl), (.ni _ rfl), (.ni _ rfl), (.ni _ rfl), (.ni _ rfl), (.ni _ rfl), (.ni _ rfl), (.ni _ rfl), (.ni _ rfl), (.ni _ rfl), (.ni _ rfl), (.ni _ rfl), (.ni _ rfl), (.ni _ rfl), (.ni _ rfl), (.ni _ rfl), trivial⟩, trivial⟩) ?_
              rintro ⟨q_9, i_6⟩ hL1
              try dsimp only at hL1
              rcases q_9 with _ | q_9
              · rw [ref04_Validate_L1.eq_1] at hL1
                cases hL1
              rw [ref04_Validate_L1.eq_2] at hL1
              show awp _ _ _ _ _ _ ⟨eL [(1, .ptr 0 0), (3, .int .i64 i_6)], hL [(0, .box [.int .i64 x_0.Kind, .int .i64 x_0.Do, .str x_0.Port, .int .i64 x_0.Number, .str x_0.In.Flight.Carrier, .int .i64 x_0.In.Flight.Number, .str x_0.In.Flight.Suffix, .int .i64 x_0.In.Flight.Day, .str x_0.In.Port, .str x_0.In.Class, .str x_0.Out.Flight.Carrier, .int .i64 x_0.Out.Flight.Number, .str x_0.Out.Flight.Suffix, .int .i64 x_0.Out.Flight.Day, .str x_0.Out.Port, .str x_0.Out.Class, .lst 6 (x_0.Onward.map encLeg), .int .i64 x_0.First.Lead, .int .i64 x_0.First.Airline, .int .i64 x_0.First.Serial, .int .i64 x_0.Count, .bool x_0.Load, .int .i64 x_0.Status, .int .i64 x_0.Sequence, .int .i64 x_0.Weight, .str x_0.Surname, .str x_0.Given, .int .i64 x_0.Exception, .str x_0.Node, .lst 1 (x_0.List.map iA)])], 1⟩
              conv => whnf
              refine len_q (enc := iA) (l := x_0.List) rfl ?_
              conv => whnf
              refine ⟨fun hb_21 => ?_, fun hb_21 => ?_⟩
              · replace hL1 := cond_t hb_21 hL1
                conv => whnf
                obtain ⟨e_7, h_e_7, hL1⟩ := bind_some hL1
                refine ix_q (enc := iA) (l := x_0.List) h_e_7 rfl (fun m_e_7 hm_e_7 hx_e_7 => ?_)
                conv => whnf
                refine ⟨_, rfl, ?_⟩
                conv => whnf
                obtain ⟨e_8, h_e_8, hL1⟩ := bind_some hL1
                refine ix_q (enc := iA) (l := x_0.List) h_e_8 rfl (fun m_e_8 hm_e_8 hx_e_8 => ?_)
                conv => whnf
                refine ⟨by kernel_rfl, ?_⟩
                conv => whnf
                refine ⟨fun hb_22 => ?_, fun hb_22 => ?_⟩
                · replace hL1 := cond_t hb_22 hL1
                  conv => whnf
                  obtain rfl := Option.some.inj hL1
                  replace hF := fin_ret hF
                  obtain rfl := Option.some.inj hF
                  exact ret_gz [] [] [] rfl (argE (by (conv => lhs; whnf); all_goals rfl) rfl) trivial
                · replace hL1 := cond_f hb_22 hL1
                  conv => whnf
                  refine ⟨_, rfl, ?_⟩
                  conv => whnf
                  exact ⟨(q_9, (w64 (i_6 + (1 : Int)))), [0], [], [], hL1, Nat.lt_succ_self _, wk_mk [0] [] [] rfl ⟨argP (id := 0) (by (conv => lhs; whnf); all_goals rfl) rfl, argE (by (conv => lhs; whnf); all_goals rfl) rfl, trivial⟩ ⟨boxL rfl rfl rfl ⟨(.ni _ rfl), (.ni _ rfl), (.ni _ rfl), (.ni _ rfl), (.ni _ rfl), (.ni _ rfl), (.ni _ rfl), (.ni _ rfl), (.ni _ rfl), (.ni _ rfl), (.ni _ rfl), (.ni _ rfl), (.ni _ rfl), (.ni _ rfl), (.ni _ rfl), (.ni _ rfl), (.ni _ rfl), (.ni _ rfl), (.ni _ rfl), (.ni _ rfl), (.ni _ rfl), (.ni _ rfl), (.ni _ rfl), (.ni _ rfl), (.ni _ rfl), (.ni _ rfl), (.ni _ rfl), (.ni _ rfl), (.ni _ rfl), (.ni _ rfl), trivial⟩, trivial⟩⟩
              · replace hL1 := cond_f hb_21 hL1
                conv => whnf
                obtain rfl := Option.some.inj hL1
                replace hF := fin_brk hF
                try dsimp only at hF
                obtain rfl := Option.some.inj hF
                exact ret_gz [] [] [] rfl (argE (by (conv => lhs; whnf); all_goals rfl) rfl) trivial
      · replace hF := cond_t hb_17 hF
        conv => whnf
        obtain rfl := Option.some.inj hF
        exact ret_gz [] [] [] rfl (argE (by (conv => lhs; whnf); all_goals rfl) rfl) trivial

set_option maxRecDepth 100000 in
set_option maxHeartbeats 40000000 in
theorem ref01_Run_ac (x_0 : Plate) (x_1 : Int) (r : (List Plate) × Int) (hF : ref01_Run x_0 x_1 = some r) : AC Try.prog 56 [.agg (encPlate x_0), .int .i64 x_1] [] (.tup [.lst 3 (r.1.map encPlate), .int .i64 r.2]) [] := by
  refine ac_of tab_ok follows_ok Try.func56 rfl Try.ntmps56 rfl ?_
  unfold ref01_Run at hF
  conv => whnf
  obtain ⟨r_1, h_r_1, hF⟩ := bind_some hF
  refine ⟨_, _, _, _, _, _, _, _, callX false [] [] Try.func55 (by decide) rfl (ref01_Valid_ac x_0 r_1 h_r_1) rfl ⟨(argE (by (conv => lhs; whnf); all_goals rfl) rfl), trivial⟩ rfl trivial rfl rfl rfl lend0 trivial, ?_⟩
  conv => whnf
  refine ⟨fun hb_8 => ?_, fun hb_8 => ?_⟩
  · replace hF := cond_f hb_8 hF
    conv => whnf
    refine ⟨fun hb_9 => ?_, fun hb_9 => ?_⟩
    · replace hF := cond_f hb_9 hF
      conv => whnf
      refine ⟨fun hb_10 => ?_, fun hb_10 => ?_⟩
      · replace hF := cond_t hb_10 hF
        conv => whnf
        obtain rfl := Option.some.inj hF
        exact ret_gz [] [] [] rfl (tupL rfl ⟨(argN (by (conv => lhs; whnf); all_goals rfl)), (argE (by (conv => lhs; whnf); all_goals rfl) rfl), trivial⟩) trivial
      · replace hF := cond_f hb_10 hF
        conv => whnf
        obtain ⟨c_1, hc_1, hF⟩ := fin_some hF
        refine sw_loop tab_ok follows_ok (fun y : Nat × (List Plate) × Int => ref01_Run_L1 x_0 x_1 y.1 y.2.1 y.2.2 = some c_1) (fun y => ⟨eL [(1, .int .i64 x_1), (2, .ptr 0 0), (6, .osl 1), (7, .int .i64 y.2.2)], hL [(0, .box [.int .i64 x_0.Lead, .int .i64 x_0.Airline, .int .i64 x_0.Serial]), (1, .row 3 (y.2.1.map encPlate))], 2⟩) (fun y => y.1) (9223372036854775807, ([] : List Plate), (0 : Int)) hc_1 (wk_mk [0] [1] [] rfl ⟨argE (by (conv => lhs; whnf); all_goals rfl) rfl, argP (id := 0) (by (conv => lhs; whnf); all_goals rfl) rfl, argZ (by (conv => lhs; whnf); all_goals rfl) rfl, argE (by (conv => lhs; whnf); all_goals rfl) rfl, trivial⟩ ⟨boxL rfl rfl rfl ⟨(.ni _ rfl), (.ni _ rfl), (.ni _ rfl), trivial⟩, blkZ rfl, trivial⟩) ?_
        rintro ⟨q_5, a_2, i_3⟩ hL1
        try dsimp only at hL1
        rcases q_5 with _ | q_5
        · rw [ref01_Run_L1.eq_1] at hL1
          cases hL1
        rw [ref01_Run_L1.eq_2] at hL1
        show awp _ _ _ _ _ _ ⟨eL [(1, .int .i64 x_1), (2, .ptr 0 0), (6, .osl 1), (7, .int .i64 i_3)], hL [(0, .box [.int .i64 x_0.Lead, .int .i64 x_0.Airline, .int .i64 x_0.Serial]), (1, .row 3 (a_2.map encPlate))], 2⟩
        conv => whnf
        refine ⟨fun hb_11 => ?_, fun hb_11 => ?_⟩
        · replace hL1 := cond_t hb_11 hL1
          conv => whnf
          refine ⟨_, rfl, ?_⟩
          conv => whnf
          refine ⟨by decide, _, rfl, ?_⟩
          conv => whnf
          obtain ⟨l_4, h_l_4, hL1⟩ := bind_some hL1
          refine ap_q (enc := encPlate) (l := a_2) (y := ([(⟨x_0.Lead, x_0.Airline, ((w64 (x_0.Serial + i_3)).tmod (1000000 : Int))⟩ : Plate)] : List Plate)) h_l_4 rfl rfl (by decide) ?_
          conv => whnf
          refine ⟨_, rfl, ?_⟩
          conv => whnf
          exact ⟨(q_5, l_4, (w64 (i_3 + (1 : Int)))), [0, 3], [], [], hL1, Nat.lt_succ_self _, wk_mk [0, 3] [] [] rfl ⟨argE (by (conv => lhs; whnf); all_goals rfl) rfl, argP (id := 0) (by (conv => lhs; whnf); all_goals rfl) rfl, argO (id := 3) (by (conv => lhs; whnf); all_goals rfl) rfl, argE (by (conv => lhs; whnf); all_goals rfl) rfl, trivial⟩ ⟨boxL rfl rfl rfl ⟨(.ni _ rfl), (.ni _ rfl), (.ni _ rfl), trivial⟩, blkR (fun _ => ⟨rfl, rfl⟩) rfl rfl, trivial⟩⟩
        · replace hL1 := cond_f hb_11 hL1
          conv => whnf
          obtain rfl := Option.some.inj hL1
          replace hF := fin_brk hF
          try dsimp only at hF
          obtain rfl := Option.some.inj hF
          exact ret_gz [] [] [1] rfl (tupL rfl ⟨(argOL 1 (by (conv => lhs; whnf); all_goals rfl) rfl rfl (map_ni (fun _ => ⟨rfl, rfl⟩) _)), (argE (by (conv => lhs; whnf); all_goals rfl) rfl), trivial⟩) trivial
    · replace hF := cond_t hb_9 hF
      conv => whnf
      obtain rfl := Option.some.inj hF
      exact ret_gz [] [] [] rfl (tupL rfl ⟨(argN (by (conv => lhs; whnf); all_goals rfl)), (argE (by (conv => lhs; whnf); all_goals rfl) rfl), trivial⟩) trivial
  · replace hF := cond_t hb_8 hF
    conv => whnf
    obtain rfl := Option.some.inj hF
    exact ret_gz [] [] [] rfl (tupL rfl ⟨(argN (by (conv => lhs; whnf); all_goals rfl)), (argE (by (conv => lhs; whnf); all_goals rfl) rfl), trivial⟩) trivial

set_option maxRecDepth 100000 in
set_option maxHeartbeats 40000000 in
theorem ref04_Plates_ac (x_0 : Message) (r : (List Plate)) (hF : ref04_Plates x_0 = some r) : AC Try.prog 20 [.agg (encMessage x_0)] [] (.lst 3 (r.map encPlate)) [] := by
  refine ac_of tab_ok follows_ok Try.func20 rfl Try.ntmps20 rfl ?_
  unfold ref04_Plates at hF
  conv => whnf
  obtain ⟨r_1, h_r_1, hF⟩ := bind_some hF
  refine ⟨_, _, _, _, _, _, _, _, callX false [] [] Try.func56 (by decide) rfl (ref01_Run_ac x_0.First x_0.Count r_1 h_r_1) rfl ⟨(argE (by (conv => lhs; whnf); all_goals rfl) rfl), (argE (by (conv => lhs; whnf); all_goals rfl) rfl), trivial⟩ rfl trivial rfl rfl rfl lend0 trivial, ?_⟩
  conv => whnf
  obtain rfl := Option.some.inj hF
  exact ret_gz [] [] [] rfl (argE (by (conv => lhs; whnf); all_goals rfl) rfl) trivial

set_option maxRecDepth 100000 in
set_option maxHeartbeats 40000000 in
theorem ref06_index_ac (x_0 : Registry) (x_1 : Plate) (r : Int) (hF : ref06_index x_0 x_1 = some r) : AC Try.prog 58 [.agg (encRegistry x_0), .agg (encPlate x_1)] [] (.int .i64 r) [] := by
  refine ac_of tab_ok follows_ok Try.func58 rfl Try.ntmps58 rfl ?_
  unfold ref06_index at hF
  conv => whnf
  obtain ⟨c_1, hc_1, hF⟩ := fin_some hF
  refine sw_bv 0 (v := .agg [.lst 25 (x_0.L.map encBag)]) (by (conv => lhs; whnf); all_goals rfl) (fun hb => ?_)
  have hbd_k_2 : x_0.L.length ≤ 9223372036854775807 := bnd_len (enc := encBag) ((bnd_at hb.cell 0 rfl))
  refine sw_loop tab_ok follows_ok (fun y : Nat => y ≤ x_0.L.length ∧ ref06_index_L1 x_1 (x_0.L.drop y) y = some c_1) (fun y => ⟨eL [(2, .ptr 0 0), (3, .ptr 1 0), (5, .int .i64 (y : Int))], hL [(0, .box [.lst 25 (x_0.L.map encBag)]), (1, .box [.int .i64 x_1.Lead, .int .i64 x_1.Airline, .int .i64 x_1.Serial])], 2⟩) (fun y => x_0.L.length - y) 0 ⟨Nat.zero_le _, hc_1⟩ (wk_mk [0, 1] [] [] rfl ⟨argP (id := 0) (by (conv => lhs; whnf); all_goals rfl) rfl, argP (id := 1) (by (conv => lhs; whnf); all_goals rfl) rfl, argE (by (conv => lhs; whnf); all_goals rfl) rfl, trivial⟩ ⟨boxL rfl rfl rfl ⟨(.ni _ rfl), trivial⟩, boxL rfl rfl rfl ⟨(.ni _ rfl), (.ni _ rfl), (.ni _ rfl), trivial⟩, trivial⟩) ?_
  rintro k_2 ⟨hk_k_2, hL1⟩
  try dsimp only at hk_k_2 hL1
  show awp _ _ _ _ _ _ ⟨eL [(2, .ptr 0 0), (3, .ptr 1 0), (5, .int .i64 (k_2 : Int))], hL [(0, .box [.lst 25 (x_0.L.map encBag)]), (1, .box [.int .i64 x_1.Lead, .int .i64 x_1.Airline, .int .i64 x_1.Serial])], 2⟩
  conv => whnf
  refine len_q (enc := encBag) (l := x_0.L) rfl ?_
  conv => whnf
  refine ⟨fun h => ?_, fun h => ?_⟩
  · have hlt_k_2 : k_2 < x_0.L.length := by have h := of_decide_eq_true h; omega
    obtain ⟨e_3, h_e_3⟩ : ∃ y, x_0.L[k_2]? = some y := ⟨_, List.getElem?_eq_getElem hlt_k_2⟩
    rw [drop_cons h_e_3, ref06_index_L1.eq_2] at hL1
    conv => whnf
    refine ⟨k_2, _, rfl, ix_map h_e_3, ?_⟩
    conv => whnf
    refine ⟨by kernel_rfl, ?_⟩
    conv => whnf
    refine ⟨fun hb_7 => ?_, fun hb_7 => ?_⟩
    · replace hL1 := cond_t hb_7 hL1
      conv => whnf
      obtain rfl := Option.some.inj hL1
      replace hF := fin_ret hF
      obtain rfl := Option.some.inj hF
      exact ret_gz [] [] [] rfl (argE (by (conv => lhs; whnf); all_goals rfl) rfl) trivial
    · replace hL1 := cond_f hb_7 hL1
      conv => whnf
      refine ⟨((k_2 + 1 : Nat) : Int), wrapE (by omega) (by omega) (by omega), ?_⟩
      conv => whnf
      exact ⟨k_2 + 1, [0, 1], [], [], ⟨hlt_k_2, hL1⟩, by show x_0.L.length - (k_2 + 1) < x_0.L.length - k_2; omega, wk_mk [0, 1] [] [] rfl ⟨argP (id := 0) (by (conv => lhs; whnf); all_goals rfl) rfl, argP (id := 1) (by (conv => lhs; whnf); all_goals rfl) rfl, argE (by (conv => lhs; whnf); all_goals rfl) rfl, trivial⟩ ⟨boxL rfl rfl rfl ⟨(.ni _ rfl), trivial⟩, boxL rfl rfl rfl ⟨(.ni _ rfl), (.ni _ rfl), (.ni _ rfl), trivial⟩, trivial⟩⟩
  · rw [drop_nil (show x_0.L.length ≤ k_2 by have h := of_decide_eq_false h; omega), ref06_index_L1.eq_1] at hL1
    conv => whnf
    obtain rfl := Option.some.inj hL1
    replace hF := fin_brk hF
    try dsimp only at hF
    obtain rfl := Option.some.inj hF
    exact ret_gz [] [] [] rfl (argE (by (conv => lhs; whnf); all_goals rfl) rfl) trivial

set_option maxRecDepth 100000 in
set_option maxHeartbeats 40000000 in
theorem ref06_possible_ac (x_0 : Registry) (x_1 : Message) (x_2 : (List Plate)) (r : Int) (hF : ref06_possible x_0 x_1 x_2 = some r) : AC Try.prog 48 [.agg (encRegistry x_0), .agg (encMessage x_1), .lst 3 (x_2.map encPlate)] [] (.int .i64 r) [] := by
  refine ac_of tab_ok follows_ok Try.func48 rfl Try.ntmps48 rfl ?_
  unfold ref06_possible at hF
  conv => whnf
  obtain ⟨r_1, h_r_1, hF⟩ := bind_some hF
  refine ⟨_, _, _, _, _, _, _, _, callX false [] [] Try.func49 (by decide) rfl (ref04_Bag_ac x_1.Kind r_1 h_r_1) rfl ⟨(argE (by (conv => lhs; whnf); all_goals rfl) rfl), trivial⟩ rfl trivial rfl rfl rfl lend0 trivial, ?_⟩
  conv => whnf
  refine ⟨fun hb_54 => ?_, fun hb_54 => ?_⟩
  · replace hF := cond_t hb_54 hF
    conv => whnf
    obtain ⟨c_1, hc_1, hF⟩ := fin_some hF
    refine sw_bv 2 (v := .lst 3 (x_2.map encPlate)) (by (conv => lhs; whnf); all_goals rfl) (fun hb => ?_)
    have hbd_k_3 : x_2.length ≤ 9223372036854775807 := bnd_len (enc := encPlate) (hb)
    refine sw_loop tab_ok follows_ok (fun y : Nat => y ≤ x_2.length ∧ ref06_possible_L1 x_0 x_1 (x_2.drop y) y = some c_1) (fun y => ⟨eL [(2, .lst 3 (x_2.map encPlate)), (3, .ptr 0 0), (4, .ptr 1 0), (7, .bool (x_1.Do == (0 : Int))), (8, .int .i64 (y : Int))], hL [(0, .box [.lst 25 (x_0.L.map encBag)]), (1, .box [.int .i64 x_1.Kind, .int .i64 x_1.Do, .str x_1.Port, .int .i64 x_1.Number, .str x_1.In.Flight.Carrier, .int .i64 x_1.In.Flight.Number, .str x_1.In.Flight.Suffix, .int .i64 x_1.In.Flight.Day, .str x_1.In.Port, .str x_1.In.Class, .str x_1.Out.Flight.Carrier, .int .i64 x_1.Out.Flight.Number, .str x_1.Out.Flight.Suffix, .int .i64 x_1.Out.Flight.Day, .str x_1.Out.Port, .str x_1.Out.Class, .lst 6 (x_1.Onward.map encLeg), .int .i64 x_1.First.Lead, .int .i64 x_1.First.Airline, .int .i64 x_1.First.Serial, .int .i64 x_1.Count, .bool x_1.Load, .int .i64 x_1.Status, .int .i64 x_1.Sequence, .int .i64 x_1.Weight, .str x_1.Surname, .str x_1.Given, .int .i64 x_1.Exception, .str x_1.Node, .lst 1 (x_1.List.map iA)])], 2⟩) (fun y => x_2.length - y) 0 ⟨Nat.zero_le _, hc_1⟩ (wk_mk [0, 1] [] [] rfl ⟨argE (by (conv => lhs; whnf); all_goals rfl) rfl, argP (id := 0) (by (conv => lhs; whnf); all_goals rfl) rfl, argP (id := 1) (by (conv => lhs; whnf); all_goals rfl) rfl, argE (by (conv => lhs; whnf); all_goals rfl) rfl, argE (by (conv => lhs; whnf); all_goals rfl) rfl, trivial⟩ ⟨boxL rfl rfl rfl ⟨(.ni _ rfl), trivial⟩, boxL rfl rfl rfl ⟨(.ni _ rfl), (.ni _ rfl), (.ni _ rfl), (.ni _ rfl), (.ni _ rfl), (.ni _ rfl), (.ni _ rfl), (.ni _ rfl), (.ni _ rfl), (.ni _ rfl), (.ni _ rfl), (.ni _ rfl), (.ni _ rfl), (.ni _ rfl), (.ni _ rfl), (.ni _ rfl), (.ni _ rfl), (.ni _ rfl), (.ni _ rfl), (.ni _ rfl), (.ni _ rfl), (.ni _ rfl), (.ni _ rfl), (.ni _ rfl), (.ni _ rfl), (.ni _ rfl), (.ni _ rfl), (.ni _ rfl), (.ni _ rfl), (.ni _ rfl), trivial⟩, trivial⟩) ?_
    rintro k_3 ⟨hk_k_3, hL1⟩
    try dsimp only at hk_k_3 hL1
    show awp _ _ _ _ _ _ ⟨eL [(2, .lst 3 (x_2.map encPlate)), (3, .ptr 0 0), (4, .ptr 1 0), (7, .bool (x_1.Do == (0 : Int))), (8, .int .i64 (k_3 : Int))], hL [(0, .box [.lst 25 (x_0.L.map encBag)]), (1, .box [.int .i64 x_1.Kind, .int .i64 x_1.Do, .str x_1.Port, .int .i64 x_1.Number, .str x_1.In.Flight.Carrier, .int .i64 x_1.In.Flight.Number, .str x_1.In.Flight.Suffix, .int .i64 x_1.In.Flight.Day, .str x_1.In.Port, .str x_1.In.Class, .str x_1.Out.Flight.Carrier, .int .i64 x_1.Out.Flight.Number, .str x_1.Out.Flight.Suffix, .int .i64 x_1.Out.Flight.Day, .str x_1.Out.Port, .str x_1.Out.Class, .lst 6 (x_1.Onward.map encLeg), .int .i64 x_1.First.Lead, .int .i64 x_1.First.Airline, .int .i64 x_1.First.Serial, .int .i64 x_1.Count, .bool x_1.Load, .int .i64 x_1.Status, .int .i64 x_1.Sequence, .int .i64 x_1.Weight, .str x_1.Surname, .str x_1.Given, .int .i64 x_1.Exception, .str x_1.Node, .lst 1 (x_1.List.map iA)])], 2⟩
    conv => whnf
    refine len_q (enc := encPlate) (l := x_2) rfl ?_
    conv => whnf
    refine ⟨fun h => ?_, fun h => ?_⟩
    · have hlt_k_3 : k_3 < x_2.length := by have h := of_decide_eq_true h; omega
      obtain ⟨e_4, h_e_4⟩ : ∃ y, x_2[k_3]? = some y := ⟨_, List.getElem?_eq_getElem hlt_k_3⟩
      rw [drop_cons h_e_4, ref06_possible_L1.eq_2] at hL1
      conv => whnf
      refine ⟨k_3, _, rfl, ix_map h_e_4, ?_⟩
      conv => whnf
      obtain ⟨r_5, h_r_5, hL1⟩ := bind_some hL1
      refine ⟨_, _, _, _, _, _, _, _, callX false [] [] Try.func58 (by decide) rfl (ref06_index_ac x_0 e_4 r_5 h_r_5) rfl ⟨(argE (by (conv => lhs; whnf); all_goals rfl) rfl), (argE (by (conv => lhs; whnf); all_goals rfl) rfl), trivial⟩ rfl trivial rfl rfl rfl lend0 trivial, ?_⟩
      conv => whnf
      refine ⟨by kernel_rfl, ?_⟩
      conv => whnf
      refine ⟨fun hb_55 => ?_, fun hb_55 => ?_⟩
      · replace hL1 := cond_t hb_55 hL1
        conv => whnf
        refine ⟨fun hb_56 => ?_, fun hb_56 => ?_⟩
        · replace hL1 := cond_t hb_56 hL1
          conv => whnf
          obtain rfl := Option.some.inj hL1
          replace hF := fin_ret hF
          obtain rfl := Option.some.inj hF
          exact ret_gz [] [] [] rfl (argE (by (conv => lhs; whnf); all_goals rfl) rfl) trivial
        · replace hL1 := cond_f hb_56 hL1
          conv => whnf
          refine ⟨fun h => ?_, fun h => ?_⟩
          · cases (not_kn (hb_55)).symm.trans h
          · conv => whnf
            refine ⟨((k_3 + 1 : Nat) : Int), wrapE (by omega) (by omega) (by omega), ?_⟩
            conv => whnf
            exact ⟨k_3 + 1, [0, 1], [], [], ⟨hlt_k_3, hL1⟩, by show x_2.length - (k_3 + 1) < x_2.length - k_3; omega, wk_mk [0, 1] [] [] rfl ⟨argE (by (conv => lhs; whnf); all_goals rfl) rfl, argP (id := 0) (by (conv => lhs; whnf); all_goals rfl) rfl, argP (id := 1) (by (conv => lhs; whnf); all_goals rfl) rfl, argE (by (conv => lhs; whnf); all_goals rfl) rfl, argE (by (conv => lhs; whnf); all_goals rfl) rfl, trivial⟩ ⟨boxL rfl rfl rfl ⟨(.ni _ rfl), trivial⟩, boxL rfl rfl rfl ⟨(.ni _ rfl), (.ni _ rfl), (.ni _ rfl), (.ni _ rfl), (.ni _ rfl), (.ni _ rfl), (.ni _ rfl), (.ni _ rfl), (.ni _ rfl), (.ni _ rfl), (.ni _ rfl), (.ni _ rfl), (.ni _ rfl), (.ni _ rfl), (.ni _ rfl), (.ni _ rfl), (.ni _ rfl), (.ni _ rfl), (.ni _ rfl), (.ni _ rfl), (.ni _ rfl), (.ni _ rfl), (.ni _ rfl), (.ni _ rfl), (.ni _ rfl), (.ni _ rfl), (.ni _ rfl), (.ni _ rfl), (.ni _ rfl), (.ni _ rfl), trivial⟩, trivial⟩⟩
      · replace hL1 := cond_f hb_55 hL1
        conv => whnf
        refine ⟨fun h => ?_, fun h => ?_⟩
        · conv => whnf
          refine ⟨fun hb_57 => ?_, fun hb_57 => ?_⟩
          · replace hL1 := cond_t hb_57 hL1
            conv => whnf
            obtain rfl := Option.some.inj hL1
            replace hF := fin_ret hF
            obtain rfl := Option.some.inj hF
            exact ret_gz [] [] [] rfl (argE (by (conv => lhs; whnf); all_goals rfl) rfl) trivial
          · replace hL1 := cond_f hb_57 hL1
            conv => whnf
            refine ⟨((k_3 + 1 : Nat) : Int), wrapE (by omega) (by omega) (by omega), ?_⟩
            conv => whnf
            exact ⟨k_3 + 1, [0, 1], [], [], ⟨hlt_k_3, hL1⟩, by show x_2.length - (k_3 + 1) < x_2.length - k_3; omega, wk_mk [0, 1] [] [] rfl ⟨argE (by (conv => lhs; whnf); all_goals rfl) rfl, argP (id := 0) (by (conv => lhs; whnf); all_goals rfl) rfl, argP (id := 1) (by (conv => lhs; whnf); all_goals rfl) rfl, argE (by (conv => lhs; whnf); all_goals rfl) rfl, argE (by (conv => lhs; whnf); all_goals rfl) rfl, trivial⟩ ⟨boxL rfl rfl rfl ⟨(.ni _ rfl), trivial⟩, boxL rfl rfl rfl ⟨(.ni _ rfl), (.ni _ rfl), (.ni _ rfl), (.ni _ rfl), (.ni _ rfl), (.ni _ rfl), (.ni _ rfl), (.ni _ rfl), (.ni _ rfl), (.ni _ rfl), (.ni _ rfl), (.ni _ rfl), (.ni _ rfl), (.ni _ rfl), (.ni _ rfl), (.ni _ rfl), (.ni _ rfl), (.ni _ rfl), (.ni _ rfl), (.ni _ rfl), (.ni _ rfl), (.ni _ rfl), (.ni _ rfl), (.ni _ rfl), (.ni _ rfl), (.ni _ rfl), (.ni _ rfl), (.ni _ rfl), (.ni _ rfl), (.ni _ rfl), trivial⟩, trivial⟩⟩
        · cases (not_kn (hb_55)).symm.trans h
    · rw [drop_nil (show x_2.length ≤ k_3 by have h := of_decide_eq_false h; omega), ref06_possible_L1.eq_1] at hL1
      conv => whnf
      obtain rfl := Option.some.inj hL1
      replace hF := fin_brk hF
      try dsimp only at hF
      refine ⟨fun hb_58 => ?_, fun hb_58 => ?_⟩
      · replace hF := cond_t hb_58 hF
        conv => whnf
        refine len_q (enc := encBag) (l := x_0.L) rfl ?_
        conv => whnf
        refine len_q (enc := encPlate) (l := x_2) rfl ?_
        conv => whnf
        refine ⟨_, rfl, ?_⟩
        conv => whnf
        refine ⟨fun hb_59 => ?_, fun hb_59 => ?_⟩
        · replace hF := cond_t hb_59 hF
          conv => whnf
          obtain rfl := Option.some.inj hF
          exact ret_gz [] [] [] rfl (argE (by (conv => lhs; whnf); all_goals rfl) rfl) trivial
        · replace hF := cond_f hb_59 hF
          conv => whnf
          obtain ⟨c_2, hc_2, hF⟩ := fin_some hF
          refine sw_bv 2 (v := .lst 3 (x_2.map encPlate)) (by (conv => lhs; whnf); all_goals rfl) (fun hb => ?_)
          have hbd_k_9 : x_2.length ≤ 9223372036854775807 := bnd_len (enc := encPlate) (hb)
          refine sw_loop tab_ok follows_ok (fun y : Nat => y ≤ x_2.length ∧ ref06_possible_L2 x_0 x_1 (x_2.drop y) y = some c_2) (fun y => ⟨eL [(2, .lst 3 (x_2.map encPlate)), (3, .ptr 0 0), (4, .ptr 1 0), (10, .int .i64 (y : Int))], hL [(0, .box [.lst 25 (x_0.L.map encBag)]), (1, .box [.int .i64 x_1.Kind, .int .i64 x_1.Do, .str x_1.Port, .int .i64 x_1.Number, .str x_1.In.Flight.Carrier, .int .i64 x_1.In.Flight.Number, .str x_1.In.Flight.Suffix, .int .i64 x_1.In.Flight.Day, .str x_1.In.Port, .str x_1.In.Class, .str x_1.Out.Flight.Carrier, .int .i64 x_1.Out.Flight.Number, .str x_1.Out.Flight.Suffix, .int .i64 x_1.Out.Flight.Day, .str x_1.Out.Port, .str x_1.Out.Class, .lst 6 (x_1.Onward.map encLeg), .int .i64 x_1.First.Lead, .int .i64 x_1.First.Airline, .int .i64 x_1.First.Serial, .int .i64 x_1.Count, .bool x_1.Load, .int .i64 x_1.Status, .int .i64 x_1.Sequence, .int .i64 x_1.Weight, .str x_1.Surname, .str x_1.Given, .int .i64 x_1.Exception, .str x_1.Node, .lst 1 (x_1.List.map iA)])], 2⟩) (fun y => x_2.length - y) 0 ⟨Nat.zero_le _, hc_2⟩ (wk_mk [0, 1] [] [] rfl ⟨argE (by (conv => lhs; whnf); all_goals rfl) rfl, argP (id := 0) (by (conv => lhs; whnf); all_goals rfl) rfl, argP (id := 1) (by (conv => lhs; whnf); all_goals rfl) rfl, argE (by (conv => lhs; whnf); all_goals rfl) rfl, trivial⟩ ⟨boxL rfl rfl rfl ⟨(.ni _ rfl), trivial⟩, boxL rfl rfl rfl ⟨(.ni _ rfl), (.ni _ rfl), (.ni _ rfl), (.ni _ rfl), (.ni _ rfl), (.ni _ rfl), (.ni _ rfl), (.ni _ rfl), (.ni _ rfl), (.ni _ rfl), (.ni _ rfl), (.ni _ rfl), (.ni _ rfl), (.ni _ rfl), (.ni _ rfl), (.ni _ rfl), (.ni _ rfl), (.ni _ rfl), (.ni _ rfl), (.ni _ rfl), (.ni _ rfl), (.ni _ rfl), (.ni _ rfl), (.ni _ rfl), (.ni _ rfl), (.ni _ rfl), (.ni _ rfl), (.ni _ rfl), (.ni _ rfl), (.ni _ rfl), trivial⟩, trivial⟩) ?_
          rintro k_9 ⟨hk_k_9, hL1⟩
          try dsimp only at hk_k_9 hL1
          show awp _ _ _ _ _ _ ⟨eL [(2, .lst 3 (x_2.map encPlate)), (3, .ptr 0 0), (4, .ptr 1 0), (10, .int .i64 (k_9 : Int))], hL [(0, .box [.lst 25 (x_0.L.map encBag)]), (1, .box [.int .i64 x_1.Kind, .int .i64 x_1.Do, .str x_1.Port, .int .i64 x_1.Number, .str x_1.In.Flight.Carrier, .int .i64 x_1.In.Flight.Number, .str x_1.In.Flight.Suffix, .int .i64 x_1.In.Flight.Day, .str x_1.In.Port, .str x_1.In.Class, .str x_1.Out.Flight.Carrier, .int .i64 x_1.Out.Flight.Number, .str x_1.Out.Flight.Suffix, .int .i64 x_1.Out.Flight.Day, .str x_1.Out.Port, .str x_1.Out.Class, .lst 6 (x_1.Onward.map encLeg), .int .i64 x_1.First.Lead, .int .i64 x_1.First.Airline, .int .i64 x_1.First.Serial, .int .i64 x_1.Count, .bool x_1.Load, .int .i64 x_1.Status, .int .i64 x_1.Sequence, .int .i64 x_1.Weight, .str x_1.Surname, .str x_1.Given, .int .i64 x_1.Exception, .str x_1.Node, .lst 1 (x_1.List.map iA)])], 2⟩
          conv => whnf
          refine len_q (enc := encPlate) (l := x_2) rfl ?_
          conv => whnf
          refine ⟨fun h => ?_, fun h => ?_⟩
          · have hlt_k_9 : k_9 < x_2.length := by have h := of_decide_eq_true h; omega
            obtain ⟨e_10, h_e_10⟩ : ∃ y, x_2[k_9]? = some y := ⟨_, List.getElem?_eq_getElem hlt_k_9⟩
            rw [drop_cons h_e_10, ref06_possible_L2.eq_2] at hL1
            conv => whnf
            refine ⟨fun hb_60 => ?_, fun hb_60 => ?_⟩
            · replace hL1 := cond_t hb_60 hL1
              conv => whnf
              refine ⟨k_9, _, rfl, ix_map h_e_10, ?_⟩
              conv => whnf
              obtain ⟨r_11, h_r_11, hL1⟩ := bind_some hL1
              refine ⟨_, _, _, _, _, _, _, _, callX false [] [] Try.func58 (by decide) rfl (ref06_index_ac x_0 e_10 r_11 h_r_11) rfl ⟨(argE (by (conv => lhs; whnf); all_goals rfl) rfl), (argE (by (conv => lhs; whnf); all_goals rfl) rfl), trivial⟩ rfl trivial rfl rfl rfl lend0 trivial, ?_⟩
              conv => whnf
              obtain ⟨e_12, h_e_12, hL1⟩ := bind_some hL1
              refine ix_q (enc := encBag) (l := x_0.L) h_e_12 rfl (fun m_e_12 hm_e_12 hx_e_12 => ?_)
              conv => whnf
              refine ⟨by kernel_rfl, ?_⟩
              conv => whnf
              refine ⟨fun hb_61 => ?_, fun hb_61 => ?_⟩
              · replace hL1 := cond_t hb_61 hL1
                conv => whnf
                obtain rfl := Option.some.inj hL1
                replace hF := fin_ret hF
                obtain rfl := Option.some.inj hF
                exact ret_gz [] [] [] rfl (argE (by (conv => lhs; whnf); all_goals rfl) rfl) trivial
              · replace hL1 := cond_f hb_61 hL1
                conv => whnf
                refine ⟨((k_9 + 1 : Nat) : Int), wrapE (by omega) (by omega) (by omega), ?_⟩
                conv => whnf
                exact ⟨k_9 + 1, [0, 1], [], [], ⟨hlt_k_9, hL1⟩, by show x_2.length - (k_9 + 1) < x_2.length - k_9; omega, wk_mk [0, 1] [] [] rfl ⟨argE (by (conv => lhs; whnf); all_goals rfl) rfl, argP (id := 0) (by (conv => lhs; whnf); all_goals rfl) rfl, argP (id := 1) (by (conv => lhs; whnf); all_goals rfl) rfl, argE (by (conv => lhs; whnf); all_goals rfl) rfl, trivial⟩ ⟨boxL rfl rfl rfl ⟨(.ni _ rfl), trivial⟩, boxL rfl rfl rfl ⟨(.ni _ rfl), (.ni _ rfl), (.ni _ rfl), (.ni _ rfl), (.ni _ rfl), (.ni _ rfl), (.ni _ rfl), (.ni _ rfl), (.ni _ rfl), (.ni _ rfl), (.ni _ rfl), (.ni _ rfl), (.ni _ rfl), (.ni _ rfl), (.ni _ rfl), (.ni _ rfl), (.ni _ rfl), (.ni _ rfl), (.ni _ rfl), (.ni _ rfl), (.ni _ rfl), (.ni _ rfl), (.ni _ rfl), (.ni _ rfl), (.ni _ rfl), (.ni _ rfl), (.ni _ rfl), (.ni _ rfl), (.ni _ rfl), (.ni _ rfl), trivial⟩, trivial⟩⟩
            · replace hL1 := cond_f hb_60 hL1
              conv => whnf
              obtain rfl := Option.some.inj hL1
              replace hF := fin_brk hF
              try dsimp only at hF
              obtain rfl := Option.some.inj hF
              exact ret_gz [] [] [] rfl (argE (by (conv => lhs; whnf); all_goals rfl) rfl) trivial
          · rw [drop_nil (show x_2.length ≤ k_9 by have h := of_decide_eq_false h; omega), ref06_possible_L2.eq_1] at hL1
            conv => whnf
            obtain rfl := Option.some.inj hL1
            replace hF := fin_brk hF
            try dsimp only at hF
            obtain rfl := Option.some.inj hF
            exact ret_gz [] [] [] rfl (argE (by (conv => lhs; whnf); all_goals rfl) rfl) trivial
      · replace hF := cond_f hb_58 hF
        conv => whnf
        obtain ⟨c_2, hc_2, hF⟩ := fin_some hF
        refine sw_bv 2 (v := .lst 3 (x_2.map encPlate)) (by (conv => lhs; whnf); all_goals rfl) (fun hb => ?_)
        have hbd_k_16 : x_2.length ≤ 9223372036854775807 := bnd_len (enc := encPlate) (hb)
        refine sw_loop tab_ok follows_ok (fun y : Nat => y ≤ x_2.length ∧ ref06_possible_L2 x_0 x_1 (x_2.drop y) y = some c_2) (fun y => ⟨eL [(2, .lst 3 (x_2.map encPlate)), (3, .ptr 0 0), (4, .ptr 1 0), (10, .int .i64 (y : Int))], hL [(0, .box [.lst 25 (x_0.L.map encBag)]), (1, .box [.int .i64 x_1.Kind, .int .i64 x_1.Do, .str x_1.Port, .int .i64 x_1.Number, .str x_1.In.Flight.Carrier, .int .i64 x_1.In.Flight.Number, .str x_1.In.Flight.Suffix, .int .i64 x_1.In.Flight.Day, .str x_1.In.Port, .str x_1.In.Class, .str x_1.Out.Flight.Carrier, .int .i64 x_1.Out.Flight.Number, .str x_1.Out.Flight.Suffix, .int .i64 x_1.Out.Flight.Day, .str x_1.Out.Port, .str x_1.Out.Class, .lst 6 (x_1.Onward.map encLeg), .int .i64 x_1.First.Lead, .int .i64 x_1.First.Airline, .int .i64 x_1.First.Serial, .int .i64 x_1.Count, .bool x_1.Load, .int .i64 x_1.Status, .int .i64 x_1.Sequence, .int .i64 x_1.Weight, .str x_1.Surname, .str x_1.Given, .int .i64 x_1.Exception, .str x_1.Node, .lst 1 (x_1.List.map iA)])], 2⟩) (fun y => x_2.length - y) 0 ⟨Nat.zero_le _, hc_2⟩ (wk_mk [0, 1] [] [] rfl ⟨argE (by (conv => lhs; whnf); all_goals rfl) rfl, argP (id := 0) (by (conv => lhs; whnf); all_goals rfl) rfl, argP (id := 1) (by (conv => lhs; whnf); all_goals rfl) rfl, argE (by (conv => lhs; whnf); all_goals rfl) rfl, trivial⟩ ⟨boxL rfl rfl rfl ⟨(.ni _ rfl), trivial⟩, boxL rfl rfl rfl ⟨(.ni _ rfl), (.ni _ rfl), (.ni _ rfl), (.ni _ rfl), (.ni _ rfl), (.ni _ rfl), (.ni _ rfl), (.ni _ rfl), (.ni _ rfl), (.ni _ rfl), (.ni _ rfl), (.ni _ rfl), (.ni _ rfl), (.ni _ rfl), (.ni _ rfl), (.ni _ rfl), (.ni _ rfl), (.ni _ rfl), (.ni _ rfl), (.ni _ rfl), (.ni _ rfl), (.ni _ rfl), (.ni _ rfl), (.ni _ rfl), (.ni _ rfl), (.ni _ rfl), (.ni _ rfl), (.ni _ rfl), (.ni _ rfl), (.ni _ rfl), trivial⟩, trivial⟩) ?_
        rintro k_16 ⟨hk_k_16, hL1⟩
        try dsimp only at hk_k_16 hL1
        show awp _ _ _ _ _ _ ⟨eL [(2, .lst 3 (x_2.map encPlate)), (3, .ptr 0 0), (4, .ptr 1 0), (10, .int .i64 (k_16 : Int))], hL [(0, .box [.lst 25 (x_0.L.map encBag)]), (1, .box [.int .i64 x_1.Kind, .int .i64 x_1.Do, .str x_1.Port, .int .i64 x_1.Number, .str x_1.In.Flight.Carrier, .int .i64 x_1.In.Flight.Number, .str x_1.In.Flight.Suffix, .int .i64 x_1.In.Flight.Day, .str x_1.In.Port, .str x_1.In.Class, .str x_1.Out.Flight.Carrier, .int .i64 x_1.Out.Flight.Number, .str x_1.Out.Flight.Suffix, .int .i64 x_1.Out.Flight.Day, .str x_1.Out.Port, .str x_1.Out.Class, .lst 6 (x_1.Onward.map encLeg), .int .i64 x_1.First.Lead, .int .i64 x_1.First.Airline, .int .i64 x_1.First.Serial, .int .i64 x_1.Count, .bool x_1.Load, .int .i64 x_1.Status, .int .i64 x_1.Sequence, .int .i64 x_1.Weight, .str x_1.Surname, .str x_1.Given, .int .i64 x_1.Exception, .str x_1.Node, .lst 1 (x_1.List.map iA)])], 2⟩
        conv => whnf
        refine len_q (enc := encPlate) (l := x_2) rfl ?_
        conv => whnf
        refine ⟨fun h => ?_, fun h => ?_⟩
        · have hlt_k_16 : k_16 < x_2.length := by have h := of_decide_eq_true h; omega
          obtain ⟨e_17, h_e_17⟩ : ∃ y, x_2[k_16]? = some y := ⟨_, List.getElem?_eq_getElem hlt_k_16⟩
          rw [drop_cons h_e_17, ref06_possible_L2.eq_2] at hL1
          conv => whnf
          refine ⟨fun hb_62 => ?_, fun hb_62 => ?_⟩
          · replace hL1 := cond_t hb_62 hL1
            conv => whnf
            refine ⟨k_16, _, rfl, ix_map h_e_17, ?_⟩
            conv => whnf
            obtain ⟨r_18, h_r_18, hL1⟩ := bind_some hL1
            refine ⟨_, _, _, _, _, _, _, _, callX false [] [] Try.func58 (by decide) rfl (ref06_index_ac x_0 e_17 r_18 h_r_18) rfl ⟨(argE (by (conv => lhs; whnf); all_goals rfl) rfl), (argE (by (conv => lhs; whnf); all_goals rfl) rfl), trivial⟩ rfl trivial rfl rfl rfl lend0 trivial, ?_⟩
            conv => whnf
            obtain ⟨e_19, h_e_19, hL1⟩ := bind_some hL1
            refine ix_q (enc := encBag) (l := x_0.L) h_e_19 rfl (fun m_e_19 hm_e_19 hx_e_19 => ?_)
            conv => whnf
            refine ⟨by kernel_rfl, ?_⟩
            conv => whnf
            refine ⟨fun hb_63 => ?_, fun hb_63 => ?_⟩
            · replace hL1 := cond_t hb_63 hL1
              conv => whnf
              obtain rfl := Option.some.inj hL1
              replace hF := fin_ret hF
              obtain rfl := Option.some.inj hF
              exact ret_gz [] [] [] rfl (argE (by (conv => lhs; whnf); all_goals rfl) rfl) trivial
            · replace hL1 := cond_f hb_63 hL1
              conv => whnf
              refine ⟨((k_16 + 1 : Nat) : Int), wrapE (by omega) (by omega) (by omega), ?_⟩
              conv => whnf
              exact ⟨k_16 + 1, [0, 1], [], [], ⟨hlt_k_16, hL1⟩, by show x_2.length - (k_16 + 1) < x_2.length - k_16; omega, wk_mk [0, 1] [] [] rfl ⟨argE (by (conv => lhs; whnf); all_goals rfl) rfl, argP (id := 0) (by (conv => lhs; whnf); all_goals rfl) rfl, argP (id := 1) (by (conv => lhs; whnf); all_goals rfl) rfl, argE (by (conv => lhs; whnf); all_goals rfl) rfl, trivial⟩ ⟨boxL rfl rfl rfl ⟨(.ni _ rfl), trivial⟩, boxL rfl rfl rfl ⟨(.ni _ rfl), (.ni _ rfl), (.ni _ rfl), (.ni _ rfl), (.ni _ rfl), (.ni _ rfl), (.ni _ rfl), (.ni _ rfl), (.ni _ rfl), (.ni _ rfl), (.ni _ rfl), (.ni _ rfl), (.ni _ rfl), (.ni _ rfl), (.ni _ rfl), (.ni _ rfl), (.ni _ rfl), (.ni _ rfl), (.ni _ rfl), (.ni _ rfl), (.ni _ rfl), (.ni _ rfl), (.ni _ rfl), (.ni _ rfl), (.ni _ rfl), (.ni _ rfl), (.ni _ rfl), (.ni _ rfl), (.ni _ rfl), (.ni _ rfl), trivial⟩, trivial⟩⟩
          · replace hL1 := cond_f hb_62 hL1
            conv => whnf
            obtain rfl := Option.some.inj hL1
            replace hF := fin_brk hF
            try dsimp only at hF
            obtain rfl := Option.some.inj hF
            exact ret_gz [] [] [] rfl (argE (by (conv => lhs; whnf); all_goals rfl) rfl) trivial
        · rw [drop_nil (show x_2.length ≤ k_16 by have h := of_decide_eq_false h; omega), ref06_possible_L2.eq_1] at hL1
          conv => whnf
          obtain rfl := Option.some.inj hL1
          replace hF := fin_brk hF
          try dsimp only at hF
          obtain rfl := Option.some.inj hF
          exact ret_gz [] [] [] rfl (argE (by (conv => lhs; whnf); all_goals rfl) rfl) trivial
  · replace hF := cond_f hb_54 hF
    conv => whnf
    obtain ⟨c_4, hc_4, hF⟩ := fin_some hF
    refine sw_bv 2 (v := .lst 3 (x_2.map encPlate)) (by (conv => lhs; whnf); all_goals rfl) (fun hb => ?_)
    have hbd_k_23 : x_2.length ≤ 9223372036854775807 := bnd_len (enc := encPlate) (hb)
    refine sw_loop tab_ok follows_ok (fun y : Nat => y ≤ x_2.length ∧ ref06_possible_L4 x_0 (x_2.drop y) y = some c_4) (fun y => ⟨eL [(2, .lst 3 (x_2.map encPlate)), (3, .ptr 0 0), (4, .ptr 1 0), (7, .fls), (8, .int .i64 (y : Int))], hL [(0, .box [.lst 25 (x_0.L.map encBag)]), (1, .box [.int .i64 x_1.Kind, .int .i64 x_1.Do, .str x_1.Port, .int .i64 x_1.Number, .str x_1.In.Flight.Carrier, .int .i64 x_1.In.Flight.Number, .str x_1.In.Flight.Suffix, .int .i64 x_1.In.Flight.Day, .str x_1.In.Port, .str x_1.In.Class, .str x_1.Out.Flight.Carrier, .int .i64 x_1.Out.Flight.Number, .str x_1.Out.Flight.Suffix, .int .i64 x_1.Out.Flight.Day, .str x_1.Out.Port, .str x_1.Out.Class, .lst 6 (x_1.Onward.map encLeg), .int .i64 x_1.First.Lead, .int .i64 x_1.First.Airline, .int .i64 x_1.First.Serial, .int .i64 x_1.Count, .bool x_1.Load, .int .i64 x_1.Status, .int .i64 x_1.Sequence, .int .i64 x_1.Weight, .str x_1.Surname, .str x_1.Given, .int .i64 x_1.Exception, .str x_1.Node, .lst 1 (x_1.List.map iA)])], 2⟩) (fun y => x_2.length - y) 0 ⟨Nat.zero_le _, hc_4⟩ (wk_mk [0, 1] [] [] rfl ⟨argE (by (conv => lhs; whnf); all_goals rfl) rfl, argP (id := 0) (by (conv => lhs; whnf); all_goals rfl) rfl, argP (id := 1) (by (conv => lhs; whnf); all_goals rfl) rfl, argE (by (conv => lhs; whnf); all_goals rfl) rfl, argE (by (conv => lhs; whnf); all_goals rfl) rfl, trivial⟩ ⟨boxL rfl rfl rfl ⟨(.ni _ rfl), trivial⟩, boxL rfl rfl rfl ⟨(.ni _ rfl), (.ni _ rfl), (.ni _ rfl), (.ni _ rfl), (.ni _ rfl), (.ni _ rfl), (.ni _ rfl), (.ni _ rfl), (.ni _ rfl), (.ni _ rfl), (.ni _ rfl), (.ni _ rfl), (.ni _ rfl), (.ni _ rfl), (.ni _ rfl), (.ni _ rfl), (.ni _ rfl), (.ni _ rfl), (.ni _ rfl), (.ni _ rfl), (.ni _ rfl), (.ni _ rfl), (.ni _ rfl), (.ni _ rfl), (.ni _ rfl), (.ni _ rfl), (.ni _ rfl), (.ni _ rfl), (.ni _ rfl), (.ni _ rfl), trivial⟩, trivial⟩) ?_
    rintro k_23 ⟨hk_k_23, hL1⟩
    try dsimp only at hk_k_23 hL1
    show awp _ _ _ _ _ _ ⟨eL [(2, .lst 3 (x_2.map encPlate)), (3, .ptr 0 0), (4, .ptr 1 0), (7, .fls), (8, .int .i64 (k_23 : Int))], hL [(0, .box [.lst 25 (x_0.L.map encBag)]), (1, .box [.int .i64 x_1.Kind, .int .i64 x_1.Do, .str x_1.Port, .int .i64 x_1.Number, .str x_1.In.Flight.Carrier, .int .i64 x_1.In.Flight.Number, .str x_1.In.Flight.Suffix, .int .i64 x_1.In.Flight.Day, .str x_1.In.Port, .str x_1.In.Class, .str x_1.Out.Flight.Carrier, .int .i64 x_1.Out.Flight.Number, .str x_1.Out.Flight.Suffix, .int .i64 x_1.Out.Flight.Day, .str x_1.Out.Port, .str x_1.Out.Class, .lst 6 (x_1.Onward.map encLeg), .int .i64 x_1.First.Lead, .int .i64 x_1.First.Airline, .int .i64 x_1.First.Serial, .int .i64 x_1.Count, .bool x_1.Load, .int .i64 x_1.Status, .int .i64 x_1.Sequence, .int .i64 x_1.Weight, .str x_1.Surname, .str x_1.Given, .int .i64 x_1.Exception, .str x_1.Node, .lst 1 (x_1.List.map iA)])], 2⟩
    conv => whnf
    refine len_q (enc := encPlate) (l := x_2) rfl ?_
    conv => whnf
    refine ⟨fun h => ?_, fun h => ?_⟩
    · have hlt_k_23 : k_23 < x_2.length := by have h := of_decide_eq_true h; omega
      obtain ⟨e_24, h_e_24⟩ : ∃ y, x_2[k_23]? = some y := ⟨_, List.getElem?_eq_getElem hlt_k_23⟩
      rw [drop_cons h_e_24, ref06_possible_L4.eq_2] at hL1
      conv => whnf
      refine ⟨k_23, _, rfl, ix_map h_e_24, ?_⟩
      conv => whnf
      obtain ⟨r_25, h_r_25, hL1⟩ := bind_some hL1
      refine ⟨_, _, _, _, _, _, _, _, callX false [] [] Try.func58 (by decide) rfl (ref06_index_ac x_0 e_24 r_25 h_r_25) rfl ⟨(argE (by (conv => lhs; whnf); all_goals rfl) rfl), (argE (by (conv => lhs; whnf); all_goals rfl) rfl), trivial⟩ rfl trivial rfl rfl rfl lend0 trivial, ?_⟩
      conv => whnf
      refine ⟨by kernel_rfl, ?_⟩
      conv => whnf
      refine ⟨fun hb_64 => ?_, fun hb_64 => ?_⟩
      · replace hL1 := cond_t hb_64 hL1
        conv => whnf
        obtain rfl := Option.some.inj hL1
        replace hF := fin_ret hF
        obtain rfl := Option.some.inj hF
        exact ret_gz [] [] [] rfl (argE (by (conv => lhs; whnf); all_goals rfl) rfl) trivial
      · replace hL1 := cond_f hb_64 hL1
        conv => whnf
        refine ⟨((k_23 + 1 : Nat) : Int), wrapE (by omega) (by omega) (by omega), ?_⟩
        conv => whnf
        exact ⟨k_23 + 1, [0, 1], [], [], ⟨hlt_k_23, hL1⟩, by show x_2.length - (k_23 + 1) < x_2.length - k_23; omega, wk_mk [0, 1] [] [] rfl ⟨argE (by (conv => lhs; whnf); all_goals rfl) rfl, argP (id := 0) (by (conv => lhs; whnf); all_goals rfl) rfl, argP (id := 1) (by (conv => lhs; whnf); all_goals rfl) rfl, argE (by (conv => lhs; whnf); all_goals rfl) rfl, argE (by (conv => lhs; whnf); all_goals rfl) rfl, trivial⟩ ⟨boxL rfl rfl rfl ⟨(.ni _ rfl), trivial⟩, boxL rfl rfl rfl ⟨(.ni _ rfl), (.ni _ rfl), (.ni _ rfl), (.ni _ rfl), (.ni _ rfl), (.ni _ rfl), (.ni _ rfl), (.ni _ rfl), (.ni _ rfl), (.ni _ rfl), (.ni _ rfl), (.ni _ rfl), (.ni _ rfl), (.ni _ rfl), (.ni _ rfl), (.ni _ rfl), (.ni _ rfl), (.ni _ rfl), (.ni _ rfl), (.ni _ rfl), (.ni _ rfl), (.ni _ rfl), (.ni _ rfl), (.ni _ rfl), (.ni _ rfl), (.ni _ rfl), (.ni _ rfl), (.ni _ rfl), (.ni _ rfl), (.ni _ rfl), trivial⟩, trivial⟩⟩
    · rw [drop_nil (show x_2.length ≤ k_23 by have h := of_decide_eq_false h; omega), ref06_possible_L4.eq_1] at hL1
      conv => whnf
      obtain rfl := Option.some.inj hL1
      replace hF := fin_brk hF
      try dsimp only at hF
      obtain ⟨c_2, hc_2, hF⟩ := fin_some hF
      refine sw_bv 2 (v := .lst 3 (x_2.map encPlate)) (by (conv => lhs; whnf); all_goals rfl) (fun hb => ?_)
      have hbd_k_29 : x_2.length ≤ 9223372036854775807 := bnd_len (enc := encPlate) (hb)
      refine sw_loop tab_ok follows_ok (fun y : Nat => y ≤ x_2.length ∧ ref06_possible_L2 x_0 x_1 (x_2.drop y) y = some c_2) (fun y => ⟨eL [(2, .lst 3 (x_2.map encPlate)), (3, .ptr 0 0), (4, .ptr 1 0), (10, .int .i64 (y : Int))], hL [(0, .box [.lst 25 (x_0.L.map encBag)]), (1, .box [.int .i64 x_1.Kind, .int .i64 x_1.Do, .str x_1.Port, .int .i64 x_1.Number, .str x_1.In.Flight.Carrier, .int .i64 x_1.In.Flight.Number, .str x_1.In.Flight.Suffix, .int .i64 x_1.In.Flight.Day, .str x_1.In.Port, .str x_1.In.Class, .str x_1.Out.Flight.Carrier, .int .i64 x_1.Out.Flight.Number, .str x_1.Out.Flight.Suffix, .int .i64 x_1.Out.Flight.Day, .str x_1.Out.Port, .str x_1.Out.Class, .lst 6 (x_1.Onward.map encLeg), .int .i64 x_1.First.Lead, .int .i64 x_1.First.Airline, .int .i64 x_1.First.Serial, .int .i64 x_1.Count, .bool x_1.Load, .int .i64 x_1.Status, .int .i64 x_1.Sequence, .int .i64 x_1.Weight, .str x_1.Surname, .str x_1.Given, .int .i64 x_1.Exception, .str x_1.Node, .lst 1 (x_1.List.map iA)])], 2⟩) (fun y => x_2.length - y) 0 ⟨Nat.zero_le _, hc_2⟩ (wk_mk [0, 1] [] [] rfl ⟨argE (by (conv => lhs; whnf); all_goals rfl) rfl, argP (id := 0) (by (conv => lhs; whnf); all_goals rfl) rfl, argP (id := 1) (by (conv => lhs; whnf); all_goals rfl) rfl, argE (by (conv => lhs; whnf); all_goals rfl) rfl, trivial⟩ ⟨boxL rfl rfl rfl ⟨(.ni _ rfl), trivial⟩, boxL rfl rfl rfl ⟨(.ni _ rfl), (.ni _ rfl), (.ni _ rfl), (.ni _ rfl), (.ni _ rfl), (.ni _ rfl), (.ni _ rfl), (.ni _ rfl), (.ni _ rfl), (.ni _ rfl), (.ni _ rfl), (.ni _ rfl), (.ni _ rfl), (.ni _ rfl), (.ni _ rfl), (.ni _ rfl), (.ni _ rfl), (.ni _ rfl), (.ni _ rfl), (.ni _ rfl), (.ni _ rfl), (.ni _ rfl), (.ni _ rfl), (.ni _ rfl), (.ni _ rfl), (.ni _ rfl), (.ni _ rfl), (.ni _ rfl), (.ni _ rfl), (.ni _ rfl), trivial⟩, trivial⟩) ?_
      rintro k_29 ⟨hk_k_29, hL1⟩
      try dsimp only at hk_k_29 hL1
      show awp _ _ _ _ _ _ ⟨eL [(2, .lst 3 (x_2.map encPlate)), (3, .ptr 0 0), (4, .ptr 1 0), (10, .int .i64 (k_29 : Int))], hL [(0, .box [.lst 25 (x_0.L.map encBag)]), (1, .box [.int .i64 x_1.Kind, .int .i64 x_1.Do, .str x_1.Port, .int .i64 x_1.Number, .str x_1.In.Flight.Carrier, .int .i64 x_1.In.Flight.Number, .str x_1.In.Flight.Suffix, .int .i64 x_1.In.Flight.Day, .str x_1.In.Port, .str x_1.In.Class, .str x_1.Out.Flight.Carrier, .int .i64 x_1.Out.Flight.Number, .str x_1.Out.Flight.Suffix, .int .i64 x_1.Out.Flight.Day, .str x_1.Out.Port, .str x_1.Out.Class, .lst 6 (x_1.Onward.map encLeg), .int .i64 x_1.First.Lead, .int .i64 x_1.First.Airline, .int .i64 x_1.First.Serial, .int .i64 x_1.Count, .bool x_1.Load, .int .i64 x_1.Status, .int .i64 x_1.Sequence, .int .i64 x_1.Weight, .str x_1.Surname, .str x_1.Given, .int .i64 x_1.Exception, .str x_1.Node, .lst 1 (x_1.List.map iA)])], 2⟩
      conv => whnf
      refine len_q (enc := encPlate) (l := x_2) rfl ?_
      conv => whnf
      refine ⟨fun h => ?_, fun h => ?_⟩
      · have hlt_k_29 : k_29 < x_2.length := by have h := of_decide_eq_true h; omega
        obtain ⟨e_30, h_e_30⟩ : ∃ y, x_2[k_29]? = some y := ⟨_, List.getElem?_eq_getElem hlt_k_29⟩
        rw [drop_cons h_e_30, ref06_possible_L2.eq_2] at hL1
        conv => whnf
        refine ⟨fun hb_65 => ?_, fun hb_65 => ?_⟩
        · replace hL1 := cond_t hb_65 hL1
          conv => whnf
          refine ⟨k_29, _, rfl, ix_map h_e_30, ?_⟩
          conv => whnf
          obtain ⟨r_31, h_r_31, hL1⟩ := bind_some hL1
          refine ⟨_, _, _, _, _, _, _, _, callX false [] [] Try.func58 (by decide) rfl (ref06_index_ac x_0 e_30 r_31 h_r_31) rfl ⟨(argE (by (conv => lhs; whnf); all_goals rfl) rfl), (argE (by (conv => lhs; whnf); all_goals rfl) rfl), trivial⟩ rfl trivial rfl rfl rfl lend0 trivial, ?_⟩
          conv => whnf
          obtain ⟨e_32, h_e_32, hL1⟩ := bind_some hL1
          refine ix_q (enc := encBag) (l := x_0.L) h_e_32 rfl (fun m_e_32 hm_e_32 hx_e_32 => ?_)
          conv => whnf
          refine ⟨by kernel_rfl, ?_⟩
          conv => whnf
          refine ⟨fun hb_66 => ?_, fun hb_66 => ?_⟩
          · replace hL1 := cond_t hb_66 hL1
            conv => whnf
            obtain rfl := Option.some.inj hL1
            replace hF := fin_ret hF
            obtain rfl := Option.some.inj hF
            exact ret_gz [] [] [] rfl (argE (by (conv => lhs; whnf); all_goals rfl) rfl) trivial
          · replace hL1 := cond_f hb_66 hL1
            conv => whnf
            refine ⟨((k_29 + 1 : Nat) : Int), wrapE (by omega) (by omega) (by omega), ?_⟩
            conv => whnf
            exact ⟨k_29 + 1, [0, 1], [], [], ⟨hlt_k_29, hL1⟩, by show x_2.length - (k_29 + 1) < x_2.length - k_29; omega, wk_mk [0, 1] [] [] rfl ⟨argE (by (conv => lhs; whnf); all_goals rfl) rfl, argP (id := 0) (by (conv => lhs; whnf); all_goals rfl) rfl, argP (id := 1) (by (conv => lhs; whnf); all_goals rfl) rfl, argE (by (conv => lhs; whnf); all_goals rfl) rfl, trivial⟩ ⟨boxL rfl rfl rfl ⟨(.ni _ rfl), trivial⟩, boxL rfl rfl rfl ⟨(.ni _ rfl), (.ni _ rfl), (.ni _ rfl), (.ni _ rfl), (.ni _ rfl), (.ni _ rfl), (.ni _ rfl), (.ni _ rfl), (.ni _ rfl), (.ni _ rfl), (.ni _ rfl), (.ni _ rfl), (.ni _ rfl), (.ni _ rfl), (.ni _ rfl), (.ni _ rfl), (.ni _ rfl), (.ni _ rfl), (.ni _ rfl), (.ni _ rfl), (.ni _ rfl), (.ni _ rfl), (.ni _ rfl), (.ni _ rfl), (.ni _ rfl), (.ni _ rfl), (.ni _ rfl), (.ni _ rfl), (.ni _ rfl), (.ni _ rfl), trivial⟩, trivial⟩⟩
        · replace hL1 := cond_f hb_65 hL1
          conv => whnf
          obtain rfl := Option.some.inj hL1
          replace hF := fin_brk hF
          try dsimp only at hF
          obtain rfl := Option.some.inj hF
          exact ret_gz [] [] [] rfl (argE (by (conv => lhs; whnf); all_goals rfl) rfl) trivial
      · rw [drop_nil (show x_2.length ≤ k_29 by have h := of_decide_eq_false h; omega), ref06_possible_L2.eq_1] at hL1
        conv => whnf
        obtain rfl := Option.some.inj hL1
        replace hF := fin_brk hF
        try dsimp only at hF
        obtain rfl := Option.some.inj hF
        exact ret_gz [] [] [] rfl (argE (by (conv => lhs; whnf); all_goals rfl) rfl) trivial

set_option maxRecDepth 100000 in
set_option maxHeartbeats 40000000 in
theorem ref06_Find_ac (x_0 : Registry) (x_1 : Plate) (r : Bag × Bool) (hF : ref06_Find x_0 x_1 = some r) : AC Try.prog 25 [.agg (encRegistry x_0), .agg (encPlate x_1)] [] (.tup [.agg (encBag r.1), .bool r.2]) [] := by
  refine ac_of tab_ok follows_ok Try.func25 rfl Try.ntmps25 rfl ?_
  unfold ref06_Find at hF
  conv => whnf
  obtain ⟨r_1, h_r_1, hF⟩ := bind_some hF
  refine ⟨_, _, _, _, _, _, _, _, callX false [] [] Try.func58 (by decide) rfl (ref06_index_ac x_0 x_1 r_1 h_r_1) rfl ⟨(argE (by (conv => lhs; whnf); all_goals rfl) rfl), (argE (by (conv => lhs; whnf); all_goals rfl) rfl), trivial⟩ rfl trivial rfl rfl rfl lend0 trivial, ?_⟩
  conv => whnf
  obtain ⟨r_2, h_r_2, hF⟩ := bind_some hF
  refine ⟨_, _, _, _, _, _, _, _, callX false [] [] Try.func18 (by decide) rfl (ref06_Validate_ac x_0 r_2 h_r_2) rfl ⟨(argE (by (conv => lhs; whnf); all_goals rfl) rfl), trivial⟩ rfl trivial rfl rfl rfl lend0 trivial, ?_⟩
  conv => whnf
  refine ⟨fun hb_3 => ?_, fun hb_3 => ?_⟩
  · replace hF := cond_f hb_3 hF
    conv => whnf
    refine ⟨fun hb_4 => ?_, fun hb_4 => ?_⟩
    · replace hF := cond_t hb_4 hF
      conv => whnf
      obtain rfl := Option.some.inj hF
      exact ret_gz [] [] [] rfl (tupL rfl ⟨(argA (c := [.int .i64 (0 : Int), .int .i64 (0 : Int), .int .i64 (0 : Int), .str (⟨#[]⟩ : ByteArray), .int .i64 (0 : Int), .str (⟨#[]⟩ : ByteArray), .int .i64 (0 : Int), .str (⟨#[]⟩ : ByteArray), .str (⟨#[]⟩ : ByteArray), .str (⟨#[]⟩ : ByteArray), .int .i64 (0 : Int), .str (⟨#[]⟩ : ByteArray), .int .i64 (0 : Int), .str (⟨#[]⟩ : ByteArray), .str (⟨#[]⟩ : ByteArray), .nils, .int .i64 (0 : Int), .int .i64 (0 : Int), .int .i64 (0 : Int), .fls, .str (⟨#[]⟩ : ByteArray), .str (⟨#[]⟩ : ByteArray), .int .i64 (0 : Int), .str (⟨#[]⟩ : ByteArray), .fls]) (by (conv => lhs; whnf); all_goals rfl) rfl ⟨(.ni _ rfl), (.ni _ rfl), (.ni _ rfl), (.ni _ rfl), (.ni _ rfl), (.ni _ rfl), (.ni _ rfl), (.ni _ rfl), (.ni _ rfl), (.ni _ rfl), (.ni _ rfl), (.ni _ rfl), (.ni _ rfl), (.ni _ rfl), (.ni _ rfl), (.nils _), (.ni _ rfl), (.ni _ rfl), (.ni _ rfl), .fls, (.ni _ rfl), (.ni _ rfl), (.ni _ rfl), (.ni _ rfl), .fls, trivial⟩), (argFl (by (conv => lhs; whnf); all_goals rfl)), trivial⟩) trivial
    · replace hF := cond_f hb_4 hF
      conv => whnf
      obtain ⟨e_3, h_e_3, hF⟩ := bind_some hF
      refine ix_q (enc := encBag) (l := x_0.L) h_e_3 rfl (fun m_e_3 hm_e_3 hx_e_3 => ?_)
      conv => whnf
      obtain rfl := Option.some.inj hF
      exact ret_gz [] [] [] rfl (tupL rfl ⟨(argE (by (conv => lhs; whnf); all_goals rfl) rfl), (argT (by (conv => lhs; whnf); all_goals rfl)), trivial⟩) trivial
  · replace hF := cond_t hb_3 hF
    conv => whnf
    obtain rfl := Option.some.inj hF
    exact ret_gz [] [] [] rfl (tupL rfl ⟨(argA (c := [.int .i64 (0 : Int), .int .i64 (0 : Int), .int .i64 (0 : Int), .str (⟨#[]⟩ : ByteArray), .int .i64 (0 : Int), .str (⟨#[]⟩ : ByteArray), .int .i64 (0 : Int), .str (⟨#[]⟩ : ByteArray), .str (⟨#[]⟩ : ByteArray), .str (⟨#[]⟩ : ByteArray), .int .i64 (0 : Int), .str (⟨#[]⟩ : ByteArray), .int .i64 (0 : Int), .str (⟨#[]⟩ : ByteArray), .str (⟨#[]⟩ : ByteArray), .nils, .int .i64 (0 : Int), .int .i64 (0 : Int), .int .i64 (0 : Int), .fls, .str (⟨#[]⟩ : ByteArray), .str (⟨#[]⟩ : ByteArray), .int .i64 (0 : Int), .str (⟨#[]⟩ : ByteArray), .fls]) (by (conv => lhs; whnf); all_goals rfl) rfl ⟨(.ni _ rfl), (.ni _ rfl), (.ni _ rfl), (.ni _ rfl), (.ni _ rfl), (.ni _ rfl), (.ni _ rfl), (.ni _ rfl), (.ni _ rfl), (.ni _ rfl), (.ni _ rfl), (.ni _ rfl), (.ni _ rfl), (.ni _ rfl), (.ni _ rfl), (.nils _), (.ni _ rfl), (.ni _ rfl), (.ni _ rfl), .fls, (.ni _ rfl), (.ni _ rfl), (.ni _ rfl), (.ni _ rfl), .fls, trivial⟩), (argFl (by (conv => lhs; whnf); all_goals rfl)), trivial⟩) trivial

set_option maxRecDepth 100000 in
set_option maxHeartbeats 40000000 in
theorem ref06_without_ac (x_0 : Registry) (x_1 : Plate) (r : Registry) (hF : ref06_without x_0 x_1 = some r) : AC Try.prog 50 [.agg (encRegistry x_0), .agg (encPlate x_1)] [] (.agg (encRegistry r)) [] := by
  refine ac_of tab_ok follows_ok Try.func50 rfl Try.ntmps50 rfl ?_
  unfold ref06_without at hF
  conv => whnf
  obtain ⟨c_1, hc_1, hF⟩ := fin_some hF
  refine sw_bv 0 (v := .agg [.lst 25 (x_0.L.map encBag)]) (by (conv => lhs; whnf); all_goals rfl) (fun hb => ?_)
  have hbd_k_3 : x_0.L.length ≤ 9223372036854775807 := bnd_len (enc := encBag) ((bnd_at hb.cell 0 rfl))
  refine sw_loop tab_ok follows_ok (fun y : Nat × (List Bag) => y.1 ≤ x_0.L.length ∧ ref06_without_L1 x_1 (x_0.L.drop y.1) y.1 y.2 = some c_1) (fun y => ⟨eL [(2, .ptr 0 0), (3, .ptr 1 0), (4, .ptr 2 0), (5, .ptr 3 0), (6, .int .i64 (y.1 : Int))], hL [(0, .box [.lst 25 (x_0.L.map encBag)]), (1, .box [.int .i64 x_1.Lead, .int .i64 x_1.Airline, .int .i64 x_1.Serial]), (2, .box [.nils]), (3, .box [.osl 4]), (4, .row 25 (y.2.map encBag))], 5⟩) (fun y => x_0.L.length - y.1) (0, ([] : List Bag)) ⟨Nat.zero_le _, hc_1⟩ (wk_mk [0, 1, 2, 3] [4] [] rfl ⟨argP (id := 0) (by (conv => lhs; whnf); all_goals rfl) rfl, argP (id := 1) (by (conv => lhs; whnf); all_goals rfl) rfl, argP (id := 2) (by (conv => lhs; whnf); all_goals rfl) rfl, argP (id := 3) (by (conv => lhs; whnf); all_goals rfl) rfl, argE (by (conv => lhs; whnf); all_goals rfl) rfl, trivial⟩ ⟨boxL rfl rfl rfl ⟨(.ni _ rfl), trivial⟩, boxL rfl rfl rfl ⟨(.ni _ rfl), (.ni _ rfl), (.ni _ rfl), trivial⟩, boxL rfl rfl rfl ⟨(.ni _ rfl), trivial⟩, boxL rfl rfl rfl ⟨(.nilz 4 (by simp)), trivial⟩, blkZ rfl, trivial⟩) ?_
  rintro ⟨k_3, a_1⟩ ⟨hk_k_3, hL1⟩
  try dsimp only at hk_k_3 hL1
  show awp _ _ _ _ _ _ ⟨eL [(2, .ptr 0 0), (3, .ptr 1 0), (4, .ptr 2 0), (5, .ptr 3 0), (6, .int .i64 (k_3 : Int))], hL [(0, .box [.lst 25 (x_0.L.map encBag)]), (1, .box [.int .i64 x_1.Lead, .int .i64 x_1.Airline, .int .i64 x_1.Serial]), (2, .box [.nils]), (3, .box [.osl 4]), (4, .row 25 (a_1.map encBag))], 5⟩
  conv => whnf
  refine len_q (enc := encBag) (l := x_0.L) rfl ?_
  conv => whnf
  refine ⟨fun h => ?_, fun h => ?_⟩
  · have hlt_k_3 : k_3 < x_0.L.length := by have h := of_decide_eq_true h; omega
    obtain ⟨e_4, h_e_4⟩ : ∃ y, x_0.L[k_3]? = some y := ⟨_, List.getElem?_eq_getElem hlt_k_3⟩
    rw [drop_cons h_e_4, ref06_without_L1.eq_2] at hL1
    conv => whnf
    refine ⟨k_3, _, rfl, ix_map h_e_4, ?_⟩
    conv => whnf
    refine ⟨by kernel_rfl, ?_⟩
    conv => whnf
    refine ⟨fun hb_7 => ?_, fun hb_7 => ?_⟩
    · replace hL1 := cond_t hb_7 hL1
      conv => whnf
      refine ⟨k_3, _, rfl, ix_map h_e_4, ?_⟩
      conv => whnf
      obtain ⟨l_5, h_l_5, hL1⟩ := bind_some hL1
      refine ap_q (enc := encBag) (l := a_1) (y := ([e_4] : List Bag)) h_l_5 rfl rfl (by decide) ?_
      conv => whnf
      refine ⟨by kernel_rfl, ?_⟩
      conv => whnf
      refine ⟨((k_3 + 1 : Nat) : Int), wrapE (by omega) (by omega) (by omega), ?_⟩
      conv => whnf
      exact ⟨(k_3 + 1, l_5), [0, 1, 2, 3, 6], [], [], ⟨hlt_k_3, hL1⟩, by show x_0.L.length - (k_3 + 1) < x_0.L.length - k_3; omega, wk_mk [0, 1, 2, 3, 6] [] [] rfl ⟨argP (id := 0) (by (conv => lhs; whnf); all_goals rfl) rfl, argP (id := 1) (by (conv => lhs; whnf); all_goals rfl) rfl, argP (id := 2) (by (conv => lhs; whnf); all_goals rfl) rfl, argP (id := 3) (by (conv => lhs; whnf); all_goals rfl) rfl, argE (by (conv => lhs; whnf); all_goals rfl) rfl, trivial⟩ ⟨boxL rfl rfl rfl ⟨(.ni _ rfl), trivial⟩, boxL rfl rfl rfl ⟨(.ni _ rfl), (.ni _ rfl), (.ni _ rfl), trivial⟩, boxL rfl rfl rfl ⟨(.ni _ rfl), trivial⟩, boxL rfl rfl rfl ⟨(.oslg 6 4 rfl), trivial⟩, blkR (fun _ => ⟨rfl, rfl⟩) rfl rfl, trivial⟩⟩
    · replace hL1 := cond_f hb_7 hL1
      conv => whnf
      refine ⟨((k_3 + 1 : Nat) : Int), wrapE (by omega) (by omega) (by omega), ?_⟩
      conv => whnf
      exact ⟨(k_3 + 1, a_1), [0, 1, 2, 3, 4], [], [], ⟨hlt_k_3, hL1⟩, by show x_0.L.length - (k_3 + 1) < x_0.L.length - k_3; omega, wk_mk [0, 1, 2, 3, 4] [] [] rfl ⟨argP (id := 0) (by (conv => lhs; whnf); all_goals rfl) rfl, argP (id := 1) (by (conv => lhs; whnf); all_goals rfl) rfl, argP (id := 2) (by (conv => lhs; whnf); all_goals rfl) rfl, argP (id := 3) (by (conv => lhs; whnf); all_goals rfl) rfl, argE (by (conv => lhs; whnf); all_goals rfl) rfl, trivial⟩ ⟨boxL rfl rfl rfl ⟨(.ni _ rfl), trivial⟩, boxL rfl rfl rfl ⟨(.ni _ rfl), (.ni _ rfl), (.ni _ rfl), trivial⟩, boxL rfl rfl rfl ⟨(.ni _ rfl), trivial⟩, boxL rfl rfl rfl ⟨(.oslg 4 4 rfl), trivial⟩, blkR (fun _ => ⟨rfl, rfl⟩) rfl rfl, trivial⟩⟩
  · rw [drop_nil (show x_0.L.length ≤ k_3 by have h := of_decide_eq_false h; omega), ref06_without_L1.eq_1] at hL1
    conv => whnf
    obtain rfl := Option.some.inj hL1
    replace hF := fin_brk hF
    try dsimp only at hF
    obtain rfl := Option.some.inj hF
    exact ret_gz [] [] [4] rfl (argA (c := [.osl 4]) (by (conv => lhs; whnf); all_goals rfl) rfl ⟨(.osl 4 25 _ (by simp) rfl (map_ni (fun _ => ⟨rfl, rfl⟩) _)), trivial⟩) trivial

set_option maxRecDepth 100000 in
set_option maxHeartbeats 40000000 in
theorem ref06_data_ac (x_0 : Bag) (x_1 : Message) (r : Bag) (hF : ref06_data x_0 x_1 = some r) : AC Try.prog 51 [.agg (encBag x_0), .agg (encMessage x_1)] [] (.agg (encBag r)) [] := by
  refine ac_of tab_ok follows_ok Try.func51 rfl Try.ntmps51 rfl ?_
  unfold ref06_data at hF
  conv => whnf
  obtain ⟨l_1, h_l_1, hF⟩ := bind_some hF
  refine ap_q (enc := encLeg) (l := ([] : List Leg)) (y := x_1.Onward) h_l_1 rfl rfl (by decide) ?_
  conv => whnf
  refine ⟨by kernel_rfl, ?_⟩
  conv => whnf
  refine ⟨by kernel_rfl, ?_⟩
  conv => whnf
  refine ⟨by kernel_rfl, ?_⟩
  conv => whnf
  obtain rfl := Option.some.inj hF
  exact ret_gz [] [] [3] rfl (argA (c := [.int .i64 x_0.Plate.Lead, .int .i64 x_0.Plate.Airline, .int .i64 x_0.Plate.Serial, .str x_1.In.Flight.Carrier, .int .i64 x_1.In.Flight.Number, .str x_1.In.Flight.Suffix, .int .i64 x_1.In.Flight.Day, .str x_1.In.Port, .str x_1.In.Class, .str x_1.Out.Flight.Carrier, .int .i64 x_1.Out.Flight.Number, .str x_1.Out.Flight.Suffix, .int .i64 x_1.Out.Flight.Day, .str x_1.Out.Port, .str x_1.Out.Class, .osl 3, .int .i64 x_1.Sequence, .int .i64 x_1.Status, .int .i64 x_1.Weight, .bool x_1.Load, .str x_1.Surname, .str x_1.Given, .int .i64 x_1.Exception, .str x_0.Node, .bool x_0.Unloaded]) (by (conv => lhs; whnf); all_goals rfl) rfl ⟨(.ni _ rfl), (.ni _ rfl), (.ni _ rfl), (.ni _ rfl), (.ni _ rfl), (.ni _ rfl), (.ni _ rfl), (.ni _ rfl), (.ni _ rfl), (.ni _ rfl), (.ni _ rfl), (.ni _ rfl), (.ni _ rfl), (.ni _ rfl), (.ni _ rfl), (.osl 3 6 _ (by simp) rfl (map_ni (fun _ => ⟨rfl, rfl⟩) _)), (.ni _ rfl), (.ni _ rfl), (.ni _ rfl), (.ni _ rfl), (.ni _ rfl), (.ni _ rfl), (.ni _ rfl), (.ni _ rfl), (.ni _ rfl), trivial⟩) trivial

set_option maxRecDepth 100000 in
set_option maxHeartbeats 40000000 in
theorem ref06_with_ac (x_0 : Registry) (x_1 : Bag) (r : Registry) (hF : ref06_with x_0 x_1 = some r) : AC Try.prog 52 [.agg (encRegistry x_0), .agg (encBag x_1)] [] (.agg (encRegistry r)) [] := by
  refine ac_of tab_ok follows_ok Try.func52 rfl Try.ntmps52 rfl ?_
  unfold ref06_with at hF
  conv => whnf
  obtain ⟨c_1, hc_1, hF⟩ := fin_some hF
  refine sw_bv 0 (v := .agg [.lst 25 (x_0.L.map encBag)]) (by (conv => lhs; whnf); all_goals rfl) (fun hb => ?_)
  have hbd_k_3 : x_0.L.length ≤ 9223372036854775807 := bnd_len (enc := encBag) ((bnd_at hb.cell 0 rfl))
  refine sw_loop tab_ok follows_ok (fun y : Nat × (List Bag) => y.1 ≤ x_0.L.length ∧ ref06_with_L1 x_1 (x_0.L.drop y.1) y.1 y.2 = some c_1) (fun y => ⟨eL [(2, .ptr 0 0), (3, .ptr 1 0), (4, .ptr 2 0), (5, .ptr 3 0), (6, .int .i64 (y.1 : Int))], hL [(0, .box [.lst 25 (x_0.L.map encBag)]), (1, .box [.int .i64 x_1.Plate.Lead, .int .i64 x_1.Plate.Airline, .int .i64 x_1.Plate.Serial, .str x_1.In.Flight.Carrier, .int .i64 x_1.In.Flight.Number, .str x_1.In.Flight.Suffix, .int .i64 x_1.In.Flight.Day, .str x_1.In.Port, .str x_1.In.Class, .str x_1.Out.Flight.Carrier, .int .i64 x_1.Out.Flight.Number, .str x_1.Out.Flight.Suffix, .int .i64 x_1.Out.Flight.Day, .str x_1.Out.Port, .str x_1.Out.Class, .lst 6 (x_1.Onward.map encLeg), .int .i64 x_1.Sequence, .int .i64 x_1.Status, .int .i64 x_1.Weight, .bool x_1.Load, .str x_1.Surname, .str x_1.Given, .int .i64 x_1.Exception, .str x_1.Node, .bool x_1.Unloaded]), (2, .box [.nils]), (3, .box [.osl 4]), (4, .row 25 (y.2.map encBag))], 5⟩) (fun y => x_0.L.length - y.1) (0, ([] : List Bag)) ⟨Nat.zero_le _, hc_1⟩ (wk_mk [0, 1, 2, 3] [4] [] rfl ⟨argP (id := 0) (by (conv => lhs; whnf); all_goals rfl) rfl, argP (id := 1) (by (conv => lhs; whnf); all_goals rfl) rfl, argP (id := 2) (by (conv => lhs; whnf); all_goals rfl) rfl, argP (id := 3) (by (conv => lhs; whnf); all_goals rfl) rfl, argE (by (conv => lhs; whnf); all_goals rfl) rfl, trivial⟩ ⟨boxL rfl rfl rfl ⟨(.ni _ rfl), trivial⟩, boxL rfl rfl rfl ⟨(.ni _ rfl), (.ni _ rfl), (.ni _ rfl), (.ni _ rfl), (.ni _ rfl), (.ni _ rfl), (.ni _ rfl), (.ni _ rfl), (.ni _ rfl), (.ni _ rfl), (.ni _ rfl), (.ni _ rfl), (.ni _ rfl), (.ni _ rfl), (.ni _ rfl), (.ni _ rfl), (.ni _ rfl), (.ni _ rfl), (.ni _ rfl), (.ni _ rfl), (.ni _ rfl), (.ni _ rfl), (.ni _ rfl), (.ni _ rfl), (.ni _ rfl), trivial⟩, boxL rfl rfl rfl ⟨(.ni _ rfl), trivial⟩, boxL rfl rfl rfl ⟨(.nilz 4 (by simp)), trivial⟩, blkZ rfl, trivial⟩) ?_
  rintro ⟨k_3, a_1⟩ ⟨hk_k_3, hL1⟩
  try dsimp only at hk_k_3 hL1
  show awp _ _ _ _ _ _ ⟨eL [(2, .ptr 0 0), (3, .ptr 1 0), (4, .ptr 2 0), (5, .ptr 3 0), (6, .int .i64 (k_3 : Int))], hL [(0, .box [.lst 25 (x_0.L.map encBag)]), (1, .box [.int .i64 x_1.Plate.Lead, .int .i64 x_1.Plate.Airline, .int .i64 x_1.Plate.Serial, .str x_1.In.Flight.Carrier, .int .i64 x_1.In.Flight.Number, .str x_1.In.Flight.Suffix, .int .i64 x_1.In.Flight.Day, .str x_1.In.Port, .str x_1.In.Class, .str x_1.Out.Flight.Carrier, .int .i64 x_1.Out.Flight.Number, .str x_1.Out.Flight.Suffix, .int .i64 x_1.Out.Flight.Day, .str x_1.Out.Port, .str x_1.Out.Class, .lst 6 (x_1.Onward.map encLeg), .int .i64 x_1.Sequence, .int .i64 x_1.Status, .int .i64 x_1.Weight, .bool x_1.Load, .str x_1.Surname, .str x_1.Given, .int .i64 x_1.Exception, .str x_1.Node, .bool x_1.Unloaded]), (2, .box [.nils]), (3, .box [.osl 4]), (4, .row 25 (a_1.map encBag))], 5⟩
  conv => whnf
  refine len_q (enc := encBag) (l := x_0.L) rfl ?_
  conv => whnf
  refine ⟨fun h => ?_, fun h => ?_⟩
  · have hlt_k_3 : k_3 < x_0.L.length := by have h := of_decide_eq_true h; omega
    obtain ⟨e_4, h_e_4⟩ : ∃ y, x_0.L[k_3]? = some y := ⟨_, List.getElem?_eq_getElem hlt_k_3⟩
    rw [drop_cons h_e_4, ref06_with_L1.eq_2] at hL1
    conv => whnf
    refine ⟨k_3, _, rfl, ix_map h_e_4, ?_⟩
    conv => whnf
    obtain ⟨r_5, h_r_5, hL1⟩ := bind_some hL1
    refine ⟨_, _, _, _, _, _, _, _, callX false [] [] Try.func34 (by decide) rfl (ref01_Compare_ac e_4.Plate x_1.Plate r_5 h_r_5) rfl ⟨(argE (by (conv => lhs; whnf); all_goals rfl) rfl), (argE (by (conv => lhs; whnf); all_goals rfl) rfl), trivial⟩ rfl trivial rfl rfl rfl lend0 trivial, ?_⟩
    conv => whnf
    refine ⟨by kernel_rfl, ?_⟩
    conv => whnf
    refine ⟨fun hb_9 => ?_, fun hb_9 => ?_⟩
    · replace hL1 := cond_t hb_9 hL1
      conv => whnf
      refine ⟨k_3, _, rfl, ix_map h_e_4, ?_⟩
      conv => whnf
      obtain ⟨l_6, h_l_6, hL1⟩ := bind_some hL1
      refine ap_q (enc := encBag) (l := a_1) (y := ([e_4] : List Bag)) h_l_6 rfl rfl (by decide) ?_
      conv => whnf
      refine ⟨by kernel_rfl, ?_⟩
      conv => whnf
      refine ⟨((k_3 + 1 : Nat) : Int), wrapE (by omega) (by omega) (by omega), ?_⟩
      conv => whnf
      exact ⟨(k_3 + 1, l_6), [0, 1, 2, 3, 7], [], [], ⟨hlt_k_3, hL1⟩, by show x_0.L.length - (k_3 + 1) < x_0.L.length - k_3; omega, wk_mk [0, 1, 2, 3, 7] [] [] rfl ⟨argP (id := 0) (by (conv => lhs; whnf); all_goals rfl) rfl, argP (id := 1) (by (conv => lhs; whnf); all_goals rfl) rfl, argP (id := 2) (by (conv => lhs; whnf); all_goals rfl) rfl, argP (id := 3) (by (conv => lhs; whnf); all_goals rfl) rfl, argE (by (conv => lhs; whnf); all_goals rfl) rfl, trivial⟩ ⟨boxL rfl rfl rfl ⟨(.ni _ rfl), trivial⟩, boxL rfl rfl rfl ⟨(.ni _ rfl), (.ni _ rfl), (.ni _ rfl), (.ni _ rfl), (.ni _ rfl), (.ni _ rfl), (.ni _ rfl), (.ni _ rfl), (.ni _ rfl), (.ni _ rfl), (.ni _ rfl), (.ni _ rfl), (.ni _ rfl), (.ni _ rfl), (.ni _ rfl), (.ni _ rfl), (.ni _ rfl), (.ni _ rfl), (.ni _ rfl), (.ni _ rfl), (.ni _ rfl), (.ni _ rfl), (.ni _ rfl), (.ni _ rfl), (.ni _ rfl), trivial⟩, boxL rfl rfl rfl ⟨(.ni _ rfl), trivial⟩, boxL rfl rfl rfl ⟨(.oslg 7 4 rfl), trivial⟩, blkR (fun _ => ⟨rfl, rfl⟩) rfl rfl, trivial⟩⟩
    · replace hL1 := cond_f hb_9 hL1
      conv => whnf
      obtain rfl := Option.some.inj hL1
      replace hF := fin_brk hF
      try dsimp only at hF
      obtain ⟨l_9, h_l_9, hF⟩ := bind_some hF
      refine ap_q (enc := encBag) (l := a_1) (y := ([x_1] : List Bag)) h_l_9 rfl rfl (by decide) ?_
      conv => whnf
      refine len_q (enc := encBag) (l := x_0.L) rfl ?_
      conv => whnf
      refine ⟨fun hb_10 => ?_, fun hb_10 => ?_⟩
      · replace hF := cond_t hb_10 hF
        conv => whnf
        obtain ⟨e_10, h_e_10, hF⟩ := bind_some hF
        refine ix_q (enc := encBag) (l := x_0.L) h_e_10 rfl (fun m_e_10 hm_e_10 hx_e_10 => ?_)
        conv => whnf
        refine ⟨by kernel_rfl, ?_⟩
        conv => whnf
        refine ⟨fun hb_11 => ?_, fun hb_11 => ?_⟩
        · replace hF := cond_t hb_11 hF
          conv => whnf
          refine ⟨_, rfl, ?_⟩
          conv => whnf
          obtain ⟨l_11, h_l_11, hF⟩ := bind_some hF
          refine sl_q1 (enc := encBag) (l := x_0.L) h_l_11 rfl ?_
          conv => whnf
          obtain ⟨l_12, h_l_12, hF⟩ := bind_some hF
          refine ap_q (enc := encBag) (l := l_9) (y := l_11) h_l_12 rfl rfl (by decide) ?_
          conv => whnf
          refine ⟨by kernel_rfl, ?_⟩
          conv => whnf
          obtain rfl := Option.some.inj hF
          exact ret_gz [] [] [8] rfl (argA (c := [.osl 8]) (by (conv => lhs; whnf); all_goals rfl) rfl ⟨(.osl 8 25 _ (by simp) rfl (map_ni (fun _ => ⟨rfl, rfl⟩) _)), trivial⟩) trivial
        · replace hF := cond_f hb_11 hF
          conv => whnf
          obtain ⟨l_13, h_l_13, hF⟩ := bind_some hF
          refine sl_q1 (enc := encBag) (l := x_0.L) h_l_13 rfl ?_
          conv => whnf
          obtain ⟨l_14, h_l_14, hF⟩ := bind_some hF
          refine ap_q (enc := encBag) (l := l_9) (y := l_13) h_l_14 rfl rfl (by decide) ?_
          conv => whnf
          refine ⟨by kernel_rfl, ?_⟩
          conv => whnf
          obtain rfl := Option.some.inj hF
          exact ret_gz [] [] [8] rfl (argA (c := [.osl 8]) (by (conv => lhs; whnf); all_goals rfl) rfl ⟨(.osl 8 25 _ (by simp) rfl (map_ni (fun _ => ⟨rfl, rfl⟩) _)), trivial⟩) trivial
      · replace hF := cond_f hb_10 hF
        conv => whnf
        refine ⟨by kernel_rfl, ?_⟩
        conv => whnf
        obtain ⟨l_15, h_l_15, hF⟩ := bind_some hF
        refine sl_q1 (enc := encBag) (l := x_0.L) h_l_15 rfl ?_
        conv => whnf
        obtain ⟨l_16, h_l_16, hF⟩ := bind_some hF
        refine ap_q (enc := encBag) (l := l_9) (y := l_15) h_l_16 rfl rfl (by decide) ?_
        conv => whnf
        refine ⟨by kernel_rfl, ?_⟩
        conv => whnf
        obtain rfl := Option.some.inj hF
        exact ret_gz [] [] [8] rfl (argA (c := [.osl 8]) (by (conv => lhs; whnf); all_goals rfl) rfl ⟨(.osl 8 25 _ (by simp) rfl (map_ni (fun _ => ⟨rfl, rfl⟩) _)), trivial⟩) trivial
  · rw [drop_nil (show x_0.L.length ≤ k_3 by have h := of_decide_eq_false h; omega), ref06_with_L1.eq_1] at hL1
    conv => whnf
    refine ⟨by kernel_rfl, ?_⟩
    conv => whnf
    obtain rfl := Option.some.inj hL1
    replace hF := fin_brk hF
    try dsimp only at hF
    obtain ⟨l_9, h_l_9, hF⟩ := bind_some hF
    refine ap_q (enc := encBag) (l := a_1) (y := ([x_1] : List Bag)) h_l_9 rfl rfl (by decide) ?_
    conv => whnf
    refine len_q (enc := encBag) (l := x_0.L) rfl ?_
    conv => whnf
    refine ⟨fun hb_12 => ?_, fun hb_12 => ?_⟩
    · replace hF := cond_t hb_12 hF
      conv => whnf
      obtain ⟨e_10, h_e_10, hF⟩ := bind_some hF
      refine ix_q (enc := encBag) (l := x_0.L) h_e_10 rfl (fun m_e_10 hm_e_10 hx_e_10 => ?_)
      conv => whnf
      refine ⟨by kernel_rfl, ?_⟩
      conv => whnf
      refine ⟨fun hb_13 => ?_, fun hb_13 => ?_⟩
      · replace hF := cond_t hb_13 hF
        conv => whnf
        refine ⟨_, rfl, ?_⟩
        conv => whnf
        obtain ⟨l_11, h_l_11, hF⟩ := bind_some hF
        refine sl_q1 (enc := encBag) (l := x_0.L) h_l_11 rfl ?_
        conv => whnf
        obtain ⟨l_12, h_l_12, hF⟩ := bind_some hF
        refine ap_q (enc := encBag) (l := l_9) (y := l_11) h_l_12 rfl rfl (by decide) ?_
        conv => whnf
        refine ⟨by kernel_rfl, ?_⟩
        conv => whnf
        obtain rfl := Option.some.inj hF
        exact ret_gz [] [] [7] rfl (argA (c := [.osl 7]) (by (conv => lhs; whnf); all_goals rfl) rfl ⟨(.osl 7 25 _ (by simp) rfl (map_ni (fun _ => ⟨rfl, rfl⟩) _)), trivial⟩) trivial
      · replace hF := cond_f hb_13 hF
        conv => whnf
        obtain ⟨l_13, h_l_13, hF⟩ := bind_some hF
        refine sl_q1 (enc := encBag) (l := x_0.L) h_l_13 rfl ?_
        conv => whnf
        obtain ⟨l_14, h_l_14, hF⟩ := bind_some hF
        refine ap_q (enc := encBag) (l := l_9) (y := l_13) h_l_14 rfl rfl (by decide) ?_
        conv => whnf
        refine ⟨by kernel_rfl, ?_⟩
        conv => whnf
        obtain rfl := Option.some.inj hF
        exact ret_gz [] [] [7] rfl (argA (c := [.osl 7]) (by (conv => lhs; whnf); all_goals rfl) rfl ⟨(.osl 7 25 _ (by simp) rfl (map_ni (fun _ => ⟨rfl, rfl⟩) _)), trivial⟩) trivial
    · replace hF := cond_f hb_12 hF
      conv => whnf
      refine ⟨by kernel_rfl, ?_⟩
      conv => whnf
      obtain ⟨l_15, h_l_15, hF⟩ := bind_some hF
      refine sl_q1 (enc := encBag) (l := x_0.L) h_l_15 rfl ?_
      conv => whnf
      obtain ⟨l_16, h_l_16, hF⟩ := bind_some hF
      refine ap_q (enc := encBag) (l := l_9) (y := l_15) h_l_16 rfl rfl (by decide) ?_
      conv => whnf
      refine ⟨by kernel_rfl, ?_⟩
      conv => whnf
      obtain rfl := Option.some.inj hF
      exact ret_gz [] [] [7] rfl (argA (c := [.osl 7]) (by (conv => lhs; whnf); all_goals rfl) rfl ⟨(.osl 7 25 _ (by simp) rfl (map_ni (fun _ => ⟨rfl, rfl⟩) _)), trivial⟩) trivial

set_option maxRecDepth 100000 in
set_option maxHeartbeats 40000000 in
theorem ref06_Apply_ac (x_0 : Registry) (x_1 : Message) (r : Registry × Int) (hF : ref06_Apply x_0 x_1 = some r) : AC Try.prog 15 [.agg (encRegistry x_0), .agg (encMessage x_1)] [] (.tup [.agg (encRegistry r.1), .int .i64 r.2]) [] := by
  refine ac_of tab_ok follows_ok Try.func15 rfl Try.ntmps15 rfl ?_
  unfold ref06_Apply at hF
  conv => whnf
  obtain ⟨r_1, h_r_1, hF⟩ := bind_some hF
  refine ⟨_, _, _, _, _, _, _, _, callX false [] [] Try.func18 (by decide) rfl (ref06_Validate_ac x_0 r_1 h_r_1) rfl ⟨(argE (by (conv => lhs; whnf); all_goals rfl) rfl), trivial⟩ rfl trivial rfl rfl rfl lend0 trivial, ?_⟩
  conv => whnf
  refine ⟨fun hb_35 => ?_, fun hb_35 => ?_⟩
  · replace hF := cond_t hb_35 hF
    conv => whnf
    obtain rfl := Option.some.inj hF
    exact ret_gz [] [] [] rfl (tupL rfl ⟨(argA (c := [.nils]) (by (conv => lhs; whnf); all_goals rfl) rfl ⟨(.nils _), trivial⟩), (argE (by (conv => lhs; whnf); all_goals rfl) rfl), trivial⟩) trivial
  · replace hF := cond_f hb_35 hF
    conv => whnf
    obtain ⟨r_2, h_r_2, hF⟩ := bind_some hF
    refine ⟨_, _, _, _, _, _, _, _, callX false [] [] Try.func47 (by decide) rfl (ref04_Validate_ac x_1 r_2 h_r_2) rfl ⟨(argE (by (conv => lhs; whnf); all_goals rfl) rfl), trivial⟩ rfl trivial rfl rfl rfl lend0 trivial, ?_⟩
    conv => whnf
    refine ⟨fun hb_36 => ?_, fun hb_36 => ?_⟩
    · replace hF := cond_t hb_36 hF
      conv => whnf
      obtain rfl := Option.some.inj hF
      exact ret_gz [] [] [] rfl (tupL rfl ⟨(argA (c := [.nils]) (by (conv => lhs; whnf); all_goals rfl) rfl ⟨(.nils _), trivial⟩), (argE (by (conv => lhs; whnf); all_goals rfl) rfl), trivial⟩) trivial
    · replace hF := cond_f hb_36 hF
      conv => whnf
      obtain ⟨r_3, h_r_3, hF⟩ := bind_some hF
      refine ⟨_, _, _, _, _, _, _, _, callX false [] [] Try.func20 (by decide) rfl (ref04_Plates_ac x_1 r_3 h_r_3) rfl ⟨(argE (by (conv => lhs; whnf); all_goals rfl) rfl), trivial⟩ rfl trivial rfl rfl rfl lend0 trivial, ?_⟩
      conv => whnf
      refine ⟨fun hb_37 => ?_, fun hb_37 => ?_⟩
      · replace hF := cond_t hb_37 hF
        conv => whnf
        obtain ⟨r_4, h_r_4, hF⟩ := bind_some hF
        refine ⟨_, _, _, _, _, _, _, _, callX false [] [] Try.func48 (by decide) rfl (ref06_possible_ac x_0 x_1 ([] : (List Plate)) r_4 h_r_4) rfl ⟨(argE (by (conv => lhs; whnf); all_goals rfl) rfl), (argE (by (conv => lhs; whnf); all_goals rfl) rfl), (argN (by (conv => lhs; whnf); all_goals rfl)), trivial⟩ rfl trivial rfl rfl rfl lend0 trivial, ?_⟩
        conv => whnf
        refine ⟨fun hb_38 => ?_, fun hb_38 => ?_⟩
        · replace hF := cond_t hb_38 hF
          conv => whnf
          obtain rfl := Option.some.inj hF
          exact ret_gz [] [] [] rfl (tupL rfl ⟨(argA (c := [.nils]) (by (conv => lhs; whnf); all_goals rfl) rfl ⟨(.nils _), trivial⟩), (argE (by (conv => lhs; whnf); all_goals rfl) rfl), trivial⟩) trivial
        · replace hF := cond_f hb_38 hF
          conv => whnf
          obtain ⟨c_1, hc_1, hF⟩ := fin_some hF
          refine sw_loop tab_ok follows_ok (fun y : Nat => ref06_Apply_L1 y = some c_1) (fun y => ⟨eL [(2, .ptr 0 0), (3, .ptr 1 0), (4, .ptr 2 0), (8, .nils), (10, .int .i64 (0 : Int))], hL [(0, .box [.lst 25 (x_0.L.map encBag)]), (1, .box [.int .i64 x_1.Kind, .int .i64 x_1.Do, .str x_1.Port, .int .i64 x_1.Number, .str x_1.In.Flight.Carrier, .int .i64 x_1.In.Flight.Number, .str x_1.In.Flight.Suffix, .int .i64 x_1.In.Flight.Day, .str x_1.In.Port, .str x_1.In.Class, .str x_1.Out.Flight.Carrier, .int .i64 x_1.Out.Flight.Number, .str x_1.Out.Flight.Suffix, .int .i64 x_1.Out.Flight.Day, .str x_1.Out.Port, .str x_1.Out.Class, .lst 6 (x_1.Onward.map encLeg), .int .i64 x_1.First.Lead, .int .i64 x_1.First.Airline, .int .i64 x_1.First.Serial, .int .i64 x_1.Count, .bool x_1.Load, .int .i64 x_1.Status, .int .i64 x_1.Sequence, .int .i64 x_1.Weight, .str x_1.Surname, .str x_1.Given, .int .i64 x_1.Exception, .str x_1.Node, .lst 1 (x_1.List.map iA)]), (2, .box [.nils])], 3⟩) (fun y => y) 9223372036854775807 hc_1 (wk_mk [0, 1, 2] [] [] rfl ⟨argP (id := 0) (by (conv => lhs; whnf); all_goals rfl) rfl, argP (id := 1) (by (conv => lhs; whnf); all_goals rfl) rfl, argP (id := 2) (by (conv => lhs; whnf); all_goals rfl) rfl, argE (by (conv => lhs; whnf); all_goals rfl) rfl, argE (by (conv => lhs; whnf); all_goals rfl) rfl, trivial⟩ ⟨boxL rfl rfl rfl ⟨(.ni _ rfl), trivial⟩, boxL rfl rfl rfl ⟨(.ni _ rfl), (.ni _ rfl), (.ni _ rfl), (.ni _ rfl), (.ni _ rfl), (.ni _ rfl), (.ni _ rfl), (.ni _ rfl), (.ni _ rfl), (.ni _ rfl), (.ni _ rfl), (.ni _ rfl), (.ni _ rfl), (.ni _ rfl), (.ni _ rfl), (.ni _ rfl), (.ni _ rfl), (.ni _ rfl), (.ni _ rfl), (.ni _ rfl), (.ni _ rfl), (.ni _ rfl), (.ni _ rfl), (.ni _ rfl), (.ni _ rfl), (.ni _ rfl), (.ni _ rfl), (.ni _ rfl), (.ni _ rfl), (.ni _ rfl), trivial⟩, boxL rfl rfl rfl ⟨(.ni _ rfl), trivial⟩, trivial⟩) ?_
          rintro q_5 hL1
          try dsimp only at hL1
          rcases q_5 with _ | q_5
          · rw [ref06_Apply_L1.eq_1] at hL1
            cases hL1
          rw [ref06_Apply_L1.eq_2] at hL1
          show awp _ _ _ _ _ _ ⟨eL [(2, .ptr 0 0), (3, .ptr 1 0), (4, .ptr 2 0), (8, .nils), (10, .int .i64 (0 : Int))], hL [(0, .box [.lst 25 (x_0.L.map encBag)]), (1, .box [.int .i64 x_1.Kind, .int .i64 x_1.Do, .str x_1.Port, .int .i64 x_1.Number, .str x_1.In.Flight.Carrier, .int .i64 x_1.In.Flight.Number, .str x_1.In.Flight.Suffix, .int .i64 x_1.In.Flight.Day, .str x_1.In.Port, .str x_1.In.Class, .str x_1.Out.Flight.Carrier, .int .i64 x_1.Out.Flight.Number, .str x_1.Out.Flight.Suffix, .int .i64 x_1.Out.Flight.Day, .str x_1.Out.Port, .str x_1.Out.Class, .lst 6 (x_1.Onward.map encLeg), .int .i64 x_1.First.Lead, .int .i64 x_1.First.Airline, .int .i64 x_1.First.Serial, .int .i64 x_1.Count, .bool x_1.Load, .int .i64 x_1.Status, .int .i64 x_1.Sequence, .int .i64 x_1.Weight, .str x_1.Surname, .str x_1.Given, .int .i64 x_1.Exception, .str x_1.Node, .lst 1 (x_1.List.map iA)]), (2, .box [.nils])], 3⟩
          conv => whnf
          refine ⟨fun hb_39 => ?_, fun hb_39 => ?_⟩
          · replace hL1 := cond_t hb_39 hL1
            conv => whnf
            cases hL1
          · replace hL1 := cond_f hb_39 hL1
            conv => whnf
            obtain rfl := Option.some.inj hL1
            replace hF := fin_brk hF
            try dsimp only at hF
            obtain rfl := Option.some.inj hF
            exact ret_gz [] [] [] rfl (tupL rfl ⟨(argE (by (conv => lhs; whnf); all_goals rfl) rfl), (argE (by (conv => lhs; whnf); all_goals rfl) rfl), trivial⟩) trivial
      · replace hF := cond_f hb_37 hF
        conv => whnf
        obtain ⟨r_7, h_r_7, hF⟩ := bind_some hF
        refine ⟨_, _, _, _, _, _, _, _, callX false [] [] Try.func48 (by decide) rfl (ref06_possible_ac x_0 x_1 r_3 r_7 h_r_7) rfl ⟨(argE (by (conv => lhs; whnf); all_goals rfl) rfl), (argE (by (conv => lhs; whnf); all_goals rfl) rfl), (argE (by (conv => lhs; whnf); all_goals rfl) rfl), trivial⟩ rfl trivial rfl rfl rfl lend0 trivial, ?_⟩
        conv => whnf
        refine ⟨fun hb_40 => ?_, fun hb_40 => ?_⟩
        · replace hF := cond_t hb_40 hF
          conv => whnf
          obtain rfl := Option.some.inj hF
          exact ret_gz [] [] [] rfl (tupL rfl ⟨(argA (c := [.nils]) (by (conv => lhs; whnf); all_goals rfl) rfl ⟨(.nils _), trivial⟩), (argE (by (conv => lhs; whnf); all_goals rfl) rfl), trivial⟩) trivial
        · replace hF := cond_f hb_40 hF
          conv => whnf
          obtain ⟨c_2, hc_2, hF⟩ := fin_some hF
          refine sw_bv 8 (v := .lst 3 (r_3.map encPlate)) (by (conv => lhs; whnf); all_goals rfl) (fun hb => ?_)
          have hbd_k_10 : r_3.length ≤ 9223372036854775807 := bnd_len (enc := encPlate) (hb)
          refine sw_loop tab_ok follows_ok (fun y : Nat × (List Bag) => y.1 ≤ r_3.length ∧ ref06_Apply_L2 x_1 (r_3.drop y.1) y.1 y.2 = some c_2) (fun y => ⟨eL [(2, .ptr 0 0), (3, .ptr 1 0), (4, .ptr 2 0), (8, .lst 3 (r_3.map encPlate)), (10, .int .i64 (y.1 : Int))], hL [(0, .box [.lst 25 (y.2.map encBag)]), (1, .box [.int .i64 x_1.Kind, .int .i64 x_1.Do, .str x_1.Port, .int .i64 x_1.Number, .str x_1.In.Flight.Carrier, .int .i64 x_1.In.Flight.Number, .str x_1.In.Flight.Suffix, .int .i64 x_1.In.Flight.Day, .str x_1.In.Port, .str x_1.In.Class, .str x_1.Out.Flight.Carrier, .int .i64 x_1.Out.Flight.Number, .str x_1.Out.Flight.Suffix, .int .i64 x_1.Out.Flight.Day, .str x_1.Out.Port, .str x_1.Out.Class, .lst 6 (x_1.Onward.map encLeg), .int .i64 x_1.First.Lead, .int .i64 x_1.First.Airline, .int .i64 x_1.First.Serial, .int .i64 x_1.Count, .bool x_1.Load, .int .i64 x_1.Status, .int .i64 x_1.Sequence, .int .i64 x_1.Weight, .str x_1.Surname, .str x_1.Given, .int .i64 x_1.Exception, .str x_1.Node, .lst 1 (x_1.List.map iA)]), (2, .box [.nils])], 3⟩) (fun y => r_3.length - y.1) (0, x_0.L) ⟨Nat.zero_le _, hc_2⟩ (wk_mk [0, 1, 2] [] [] rfl ⟨argP (id := 0) (by (conv => lhs; whnf); all_goals rfl) rfl, argP (id := 1) (by (conv => lhs; whnf); all_goals rfl) rfl, argP (id := 2) (by (conv => lhs; whnf); all_goals rfl) rfl, argE (by (conv => lhs; whnf); all_goals rfl) rfl, argE (by (conv => lhs; whnf); all_goals rfl) rfl, trivial⟩ ⟨boxL rfl rfl rfl ⟨(.ni _ rfl), trivial⟩, boxL rfl rfl rfl ⟨(.ni _ rfl), (.ni _ rfl), (.ni _ rfl), (.ni _ rfl), (.ni _ rfl), (.ni _ rfl), (.ni _ rfl), (.ni _ rfl), (.ni _ rfl), (.ni _ rfl), (.ni _ rfl), (.ni _ rfl), (.ni _ rfl), (.ni _ rfl), (.ni _ rfl), (.ni _ rfl), (.ni _ rfl), (.ni _ rfl), (.ni _ rfl), (.ni _ rfl), (.ni _ rfl), (.ni _ rfl), (.ni _ rfl), (.ni _ rfl), (.ni _ rfl), (.ni _ rfl), (.ni _ rfl), (.ni _ rfl), (.ni _ rfl), (.ni _ rfl), trivial⟩, boxL rfl rfl rfl ⟨(.ni _ rfl), trivial⟩, trivial⟩) ?_
          rintro ⟨k_10, a_8⟩ ⟨hk_k_10, hL1⟩
          try dsimp only at hk_k_10 hL1
          show awp _ _ _ _ _ _ ⟨eL [(2, .ptr 0 0), (3, .ptr 1 0), (4, .ptr 2 0), (8, .lst 3 (r_3.map encPlate)), (10, .int .i64 (k_10 : Int))], hL [(0, .box [.lst 25 (a_8.map encBag)]), (1, .box [.int .i64 x_1.Kind, .int .i64 x_1.Do, .str x_1.Port, .int .i64 x_1.Number, .str x_1.In.Flight.Carrier, .int .i64 x_1.In.Flight.Number, .str x_1.In.Flight.Suffix, .int .i64 x_1.In.Flight.Day, .str x_1.In.Port, .str x_1.In.Class, .str x_1.Out.Flight.Carrier, .int .i64 x_1.Out.Flight.Number, .str x_1.Out.Flight.Suffix, .int .i64 x_1.Out.Flight.Day, .str x_1.Out.Port, .str x_1.Out.Class, .lst 6 (x_1.Onward.map encLeg), .int .i64 x_1.First.Lead, .int .i64 x_1.First.Airline, .int .i64 x_1.First.Serial, .int .i64 x_1.Count, .bool x_1.Load, .int .i64 x_1.Status, .int .i64 x_1.Sequence, .int .i64 x_1.Weight, .str x_1.Surname, .str x_1.Given, .int .i64 x_1.Exception, .str x_1.Node, .lst 1 (x_1.List.map iA)]), (2, .box [.nils])], 3⟩
          conv => whnf
          refine len_q (enc := encPlate) (l := r_3) rfl ?_
          conv => whnf
          refine ⟨fun h => ?_, fun h => ?_⟩
          · have hlt_k_10 : k_10 < r_3.length := by have h := of_decide_eq_true h; omega
            obtain ⟨e_11, h_e_11⟩ : ∃ y, r_3[k_10]? = some y := ⟨_, List.getElem?_eq_getElem hlt_k_10⟩
            rw [drop_cons h_e_11, ref06_Apply_L2.eq_2] at hL1
            conv => whnf
            refine ⟨k_10, _, rfl, ix_map h_e_11, ?_⟩
            conv => whnf
            obtain ⟨r_12, h_r_12, hL1⟩ := bind_some hL1
            refine ⟨_, _, _, _, _, _, _, _, callX false [] [] Try.func25 (by decide) rfl (ref06_Find_ac (⟨a_8⟩ : Registry) e_11 r_12 h_r_12) rfl ⟨(argE (by (conv => lhs; whnf); all_goals rfl) rfl), (argE (by (conv => lhs; whnf); all_goals rfl) rfl), trivial⟩ rfl trivial rfl rfl rfl lend0 trivial, ?_⟩
            conv => whnf
            refine ⟨by kernel_rfl, ?_⟩
            conv => whnf
            refine ⟨k_10, _, rfl, ix_map h_e_11, ?_⟩
            conv => whnf
            obtain ⟨r_13, h_r_13, hL1⟩ := bind_some hL1
            refine ⟨_, _, _, _, _, _, _, _, callX false [] [] Try.func49 (by decide) rfl (ref04_Bag_ac x_1.Kind r_13 h_r_13) rfl ⟨(argE (by (conv => lhs; whnf); all_goals rfl) rfl), trivial⟩ rfl trivial rfl rfl rfl lend0 trivial, ?_⟩
            conv => whnf
            refine ⟨fun hb_41 => ?_, fun hb_41 => ?_⟩
            · replace hL1 := cond_t hb_41 hL1
              conv => whnf
              refine ⟨fun hb_42 => ?_, fun hb_42 => ?_⟩
              · replace hL1 := cond_t hb_42 hL1
                conv => whnf
                refine ⟨k_10, _, rfl, ix_map h_e_11, ?_⟩
                conv => whnf
                obtain ⟨r_14, h_r_14, hL1⟩ := bind_some hL1
                refine ⟨_, _, _, _, _, _, _, _, callX false [] [] Try.func50 (by decide) rfl (ref06_without_ac (⟨a_8⟩ : Registry) e_11 r_14 h_r_14) rfl ⟨(argE (by (conv => lhs; whnf); all_goals rfl) rfl), (argE (by (conv => lhs; whnf); all_goals rfl) rfl), trivial⟩ rfl trivial rfl rfl rfl lend0 trivial, ?_⟩
                conv => whnf
                refine ⟨by kernel_rfl, ?_⟩
                conv => whnf
                refine ⟨((k_10 + 1 : Nat) : Int), wrapE (by omega) (by omega) (by omega), ?_⟩
                conv => whnf
                exact ⟨(k_10 + 1, r_14.L), [0, 1, 2], [], [], ⟨hlt_k_10, hL1⟩, by show r_3.length - (k_10 + 1) < r_3.length - k_10; omega, wk_mk [0, 1, 2] [] [] rfl ⟨argP (id := 0) (by (conv => lhs; whnf); all_goals rfl) rfl, argP (id := 1) (by (conv => lhs; whnf); all_goals rfl) rfl, argP (id := 2) (by (conv => lhs; whnf); all_goals rfl) rfl, argE (by (conv => lhs; whnf); all_goals rfl) rfl, argE (by (conv => lhs; whnf); all_goals rfl) rfl, trivial⟩ ⟨boxL rfl rfl rfl ⟨(.ni _ rfl), trivial⟩, boxL rfl rfl rfl ⟨(.ni _ rfl), (.ni _ rfl), (.ni _ rfl), (.ni _ rfl), (.ni _ rfl), (.ni _ rfl), (.ni _ rfl), (.ni _ rfl), (.ni _ rfl), (.ni _ rfl), (.ni _ rfl), (.ni _ rfl), (.ni _ rfl), (.ni _ rfl), (.ni _ rfl), (.ni _ rfl), (.ni _ rfl), (.ni _ rfl), (.ni _ rfl), (.ni _ rfl), (.ni _ rfl), (.ni _ rfl), (.ni _ rfl), (.ni _ rfl), (.ni _ rfl), (.ni _ rfl), (.ni _ rfl), (.ni _ rfl), (.ni _ rfl), (.ni _ rfl), trivial⟩, boxL rfl rfl rfl ⟨(.ni _ rfl), trivial⟩, trivial⟩⟩
              · replace hL1 := cond_f hb_42 hL1
                conv => whnf
                obtain ⟨r_15, h_r_15, hL1⟩ := bind_some hL1
                refine ⟨_, _, _, _, _, _, _, _, callX false [] [] Try.func49 (by decide) rfl (ref04_Bag_ac x_1.Kind r_15 h_r_15) rfl ⟨(argE (by (conv => lhs; whnf); all_goals rfl) rfl), trivial⟩ rfl trivial rfl rfl rfl lend0 trivial, ?_⟩
                conv => whnf
                refine ⟨fun hb_43 => ?_, fun hb_43 => ?_⟩
                · replace hL1 := cond_t hb_43 hL1
                  conv => whnf
                  obtain ⟨r_16, h_r_16, hL1⟩ := bind_some hL1
                  refine ⟨_, _, _, _, _, _, _, _, callX false [] [] Try.func51 (by decide) rfl (ref06_data_ac (⟨e_11, r_12.1.In, r_12.1.Out, r_12.1.Onward, r_12.1.Sequence, r_12.1.Status, r_12.1.Weight, r_12.1.Load, r_12.1.Surname, r_12.1.Given, r_12.1.Exception, r_12.1.Node, r_12.1.Unloaded⟩ : Bag) x_1 r_16 h_r_16) rfl ⟨(argE (by (conv => lhs; whnf); all_goals rfl) rfl), (argE (by (conv => lhs; whnf); all_goals rfl) rfl), trivial⟩ rfl trivial rfl rfl rfl lend0 trivial, ?_⟩
                  conv => whnf
                  obtain ⟨r_17, h_r_17, hL1⟩ := bind_some hL1
                  refine ⟨_, _, _, _, _, _, _, _, callX false [] [] Try.func52 (by decide) rfl (ref06_with_ac (⟨a_8⟩ : Registry) r_16 r_17 h_r_17) rfl ⟨(argE (by (conv => lhs; whnf); all_goals rfl) rfl), (argE (by (conv => lhs; whnf); all_goals rfl) rfl), trivial⟩ rfl trivial rfl rfl rfl lend0 trivial, ?_⟩
                  conv => whnf
                  refine ⟨((k_10 + 1 : Nat) : Int), wrapE (by omega) (by omega) (by omega), ?_⟩
                  conv => whnf
                  exact ⟨(k_10 + 1, r_17.L), [0, 1, 2], [], [], ⟨hlt_k_10, hL1⟩, by show r_3.length - (k_10 + 1) < r_3.length - k_10; omega, wk_mk [0, 1, 2] [] [] rfl ⟨argP (id := 0) (by (conv => lhs; whnf); all_goals rfl) rfl, argP (id := 1) (by (conv => lhs; whnf); all_goals rfl) rfl, argP (id := 2) (by (conv => lhs; whnf); all_goals rfl) rfl, argE (by (conv => lhs; whnf); all_goals rfl) rfl, argE (by (conv => lhs; whnf); all_goals rfl) rfl, trivial⟩ ⟨boxL rfl rfl rfl ⟨(.ni _ rfl), trivial⟩, boxL rfl rfl rfl ⟨(.ni _ rfl), (.ni _ rfl), (.ni _ rfl), (.ni _ rfl), (.ni _ rfl), (.ni _ rfl), (.ni _ rfl), (.ni _ rfl), (.ni _ rfl), (.ni _ rfl), (.ni _ rfl), (.ni _ rfl), (.ni _ rfl), (.ni _ rfl), (.ni _ rfl), (.ni _ rfl), (.ni _ rfl), (.ni _ rfl), (.ni _ rfl), (.ni _ rfl), (.ni _ rfl), (.ni _ rfl), (.ni _ rfl), (.ni _ rfl), (.ni _ rfl), (.ni _ rfl), (.ni _ rfl), (.ni _ rfl), (.ni _ rfl), (.ni _ rfl), trivial⟩, boxL rfl rfl rfl ⟨(.ni _ rfl), trivial⟩, trivial⟩⟩
                · replace hL1 := cond_f hb_43 hL1
                  conv => whnf
                  refine ⟨fun hb_44 => ?_, fun hb_44 => ?_⟩
                  · replace hL1 := cond_t hb_44 hL1
                    conv => whnf
                    obtain ⟨r_18, h_r_18, hL1⟩ := bind_some hL1
                    refine ⟨_, _, _, _, _, _, _, _, callX false [] [] Try.func52 (by decide) rfl (ref06_with_ac (⟨a_8⟩ : Registry) (⟨e_11, r_12.1.In, r_12.1.Out, r_12.1.Onward, r_12.1.Sequence, r_12.1.Status, r_12.1.Weight, r_12.1.Load, r_12.1.Surname, r_12.1.Given, r_12.1.Exception, x_1.Node, r_12.1.Unloaded⟩ : Bag) r_18 h_r_18) rfl ⟨(argE (by (conv => lhs; whnf); all_goals rfl) rfl), (argE (by (conv => lhs; whnf); all_goals rfl) rfl), trivial⟩ rfl trivial rfl rfl rfl lend0 trivial, ?_⟩
                    conv => whnf
                    refine ⟨((k_10 + 1 : Nat) : Int), wrapE (by omega) (by omega) (by omega), ?_⟩
                    conv => whnf
                    exact ⟨(k_10 + 1, r_18.L), [0, 1, 2], [], [], ⟨hlt_k_10, hL1⟩, by show r_3.length - (k_10 + 1) < r_3.length - k_10; omega, wk_mk [0, 1, 2] [] [] rfl ⟨argP (id := 0) (by (conv => lhs; whnf); all_goals rfl) rfl, argP (id := 1) (by (conv => lhs; whnf); all_goals rfl) rfl, argP (id := 2) (by (conv => lhs; whnf); all_goals rfl) rfl, argE (by (conv => lhs; whnf); all_goals rfl) rfl, argE (by (conv => lhs; whnf); all_goals rfl) rfl, trivial⟩ ⟨boxL rfl rfl rfl ⟨(.ni _ rfl), trivial⟩, boxL rfl rfl rfl ⟨(.ni _ rfl), (.ni _ rfl), (.ni _ rfl), (.ni _ rfl), (.ni _ rfl), (.ni _ rfl), (.ni _ rfl), (.ni _ rfl), (.ni _ rfl), (.ni _ rfl), (.ni _ rfl), (.ni _ rfl), (.ni _ rfl), (.ni _ rfl), (.ni _ rfl), (.ni _ rfl), (.ni _ rfl), (.ni _ rfl), (.ni _ rfl), (.ni _ rfl), (.ni _ rfl), (.ni _ rfl), (.ni _ rfl), (.ni _ rfl), (.ni _ rfl), (.ni _ rfl), (.ni _ rfl), (.ni _ rfl), (.ni _ rfl), (.ni _ rfl), trivial⟩, boxL rfl rfl rfl ⟨(.ni _ rfl), trivial⟩, trivial⟩⟩
                  · replace hL1 := cond_f hb_44 hL1
                    conv => whnf
                    obtain ⟨r_19, h_r_19, hL1⟩ := bind_some hL1
                    refine ⟨_, _, _, _, _, _, _, _, callX false [] [] Try.func52 (by decide) rfl (ref06_with_ac (⟨a_8⟩ : Registry) (⟨e_11, r_12.1.In, r_12.1.Out, r_12.1.Onward, r_12.1.Sequence, r_12.1.Status, r_12.1.Weight, false, r_12.1.Surname, r_12.1.Given, r_12.1.Exception, r_12.1.Node, true⟩ : Bag) r_19 h_r_19) rfl ⟨(argE (by (conv => lhs; whnf); all_goals rfl) rfl), (argA (c := [.int .i64 e_11.Lead, .int .i64 e_11.Airline, .int .i64 e_11.Serial, .str r_12.1.In.Flight.Carrier, .int .i64 r_12.1.In.Flight.Number, .str r_12.1.In.Flight.Suffix, .int .i64 r_12.1.In.Flight.Day, .str r_12.1.In.Port, .str r_12.1.In.Class, .str r_12.1.Out.Flight.Carrier, .int .i64 r_12.1.Out.Flight.Number, .str r_12.1.Out.Flight.Suffix, .int .i64 r_12.1.Out.Flight.Day, .str r_12.1.Out.Port, .str r_12.1.Out.Class, .lst 6 (r_12.1.Onward.map encLeg), .int .i64 r_12.1.Sequence, .int .i64 r_12.1.Status, .int .i64 r_12.1.Weight, .fls, .str r_12.1.Surname, .str r_12.1.Given, .int .i64 r_12.1.Exception, .str r_12.1.Node, .tru]) (by (conv => lhs; whnf); all_goals rfl) rfl ⟨(.ni _ rfl), (.ni _ rfl), (.ni _ rfl), (.ni _ rfl), (.ni _ rfl), (.ni _ rfl), (.ni _ rfl), (.ni _ rfl), (.ni _ rfl), (.ni _ rfl), (.ni _ rfl), (.ni _ rfl), (.ni _ rfl), (.ni _ rfl), (.ni _ rfl), (.ni _ rfl), (.ni _ rfl), (.ni _ rfl), (.ni _ rfl), .fls, (.ni _ rfl), (.ni _ rfl), (.ni _ rfl), (.ni _ rfl), .tru, trivial⟩), trivial⟩ rfl trivial rfl rfl rfl lend0 trivial, ?_⟩
                    conv => whnf
                    refine ⟨((k_10 + 1 : Nat) : Int), wrapE (by omega) (by omega) (by omega), ?_⟩
                    conv => whnf
                    exact ⟨(k_10 + 1, r_19.L), [0, 1, 2], [], [], ⟨hlt_k_10, hL1⟩, by show r_3.length - (k_10 + 1) < r_3.length - k_10; omega, wk_mk [0, 1, 2] [] [] rfl ⟨argP (id := 0) (by (conv => lhs; whnf); all_goals rfl) rfl, argP (id := 1) (by (conv => lhs; whnf); all_goals rfl) rfl, argP (id := 2) (by (conv => lhs; whnf); all_goals rfl) rfl, argE (by (conv => lhs; whnf); all_goals rfl) rfl, argE (by (conv => lhs; whnf); all_goals rfl) rfl, trivial⟩ ⟨boxL rfl rfl rfl ⟨(.ni _ rfl), trivial⟩, boxL rfl rfl rfl ⟨(.ni _ rfl), (.ni _ rfl), (.ni _ rfl), (.ni _ rfl), (.ni _ rfl), (.ni _ rfl), (.ni _ rfl), (.ni _ rfl), (.ni _ rfl), (.ni _ rfl), (.ni _ rfl), (.ni _ rfl), (.ni _ rfl), (.ni _ rfl), (.ni _ rfl), (.ni _ rfl), (.ni _ rfl), (.ni _ rfl), (.ni _ rfl), (.ni _ rfl), (.ni _ rfl), (.ni _ rfl), (.ni _ rfl), (.ni _ rfl), (.ni _ rfl), (.ni _ rfl), (.ni _ rfl), (.ni _ rfl), (.ni _ rfl), (.ni _ rfl), trivial⟩, boxL rfl rfl rfl ⟨(.ni _ rfl), trivial⟩, trivial⟩⟩
            · replace hL1 := cond_f hb_41 hL1
              conv => whnf
              obtain ⟨r_20, h_r_20, hL1⟩ := bind_some hL1
              refine ⟨_, _, _, _, _, _, _, _, callX false [] [] Try.func49 (by decide) rfl (ref04_Bag_ac x_1.Kind r_20 h_r_20) rfl ⟨(argE (by (conv => lhs; whnf); all_goals rfl) rfl), trivial⟩ rfl trivial rfl rfl rfl lend0 trivial, ?_⟩
              conv => whnf
              refine ⟨fun hb_45 => ?_, fun hb_45 => ?_⟩
              · replace hL1 := cond_t hb_45 hL1
                conv => whnf
                obtain ⟨r_21, h_r_21, hL1⟩ := bind_some hL1
                refine ⟨_, _, _, _, _, _, _, _, callX false [] [] Try.func51 (by decide) rfl (ref06_data_ac (⟨e_11, r_12.1.In, r_12.1.Out, r_12.1.Onward, r_12.1.Sequence, r_12.1.Status, r_12.1.Weight, r_12.1.Load, r_12.1.Surname, r_12.1.Given, r_12.1.Exception, r_12.1.Node, r_12.1.Unloaded⟩ : Bag) x_1 r_21 h_r_21) rfl ⟨(argE (by (conv => lhs; whnf); all_goals rfl) rfl), (argE (by (conv => lhs; whnf); all_goals rfl) rfl), trivial⟩ rfl trivial rfl rfl rfl lend0 trivial, ?_⟩
                conv => whnf
                obtain ⟨r_22, h_r_22, hL1⟩ := bind_some hL1
                refine ⟨_, _, _, _, _, _, _, _, callX false [] [] Try.func52 (by decide) rfl (ref06_with_ac (⟨a_8⟩ : Registry) r_21 r_22 h_r_22) rfl ⟨(argE (by (conv => lhs; whnf); all_goals rfl) rfl), (argE (by (conv => lhs; whnf); all_goals rfl) rfl), trivial⟩ rfl trivial rfl rfl rfl lend0 trivial, ?_⟩
                conv => whnf
                refine ⟨((k_10 + 1 : Nat) : Int), wrapE (by omega) (by omega) (by omega), ?_⟩
                conv => whnf
                exact ⟨(k_10 + 1, r_22.L), [0, 1, 2], [], [], ⟨hlt_k_10, hL1⟩, by show r_3.length - (k_10 + 1) < r_3.length - k_10; omega, wk_mk [0, 1, 2] [] [] rfl ⟨argP (id := 0) (by (conv => lhs; whnf); all_goals rfl) rfl, argP (id := 1) (by (conv => lhs; whnf); all_goals rfl) rfl, argP (id := 2) (by (conv => lhs; whnf); all_goals rfl) rfl, argE (by (conv => lhs; whnf); all_goals rfl) rfl, argE (by (conv => lhs; whnf); all_goals rfl) rfl, trivial⟩ ⟨boxL rfl rfl rfl ⟨(.ni _ rfl), trivial⟩, boxL rfl rfl rfl ⟨(.ni _ rfl), (.ni _ rfl), (.ni _ rfl), (.ni _ rfl), (.ni _ rfl), (.ni _ rfl), (.ni _ rfl), (.ni _ rfl), (.ni _ rfl), (.ni _ rfl), (.ni _ rfl), (.ni _ rfl), (.ni _ rfl), (.ni _ rfl), (.ni _ rfl), (.ni _ rfl), (.ni _ rfl), (.ni _ rfl), (.ni _ rfl), (.ni _ rfl), (.ni _ rfl), (.ni _ rfl), (.ni _ rfl), (.ni _ rfl), (.ni _ rfl), (.ni _ rfl), (.ni _ rfl), (.ni _ rfl), (.ni _ rfl), (.ni _ rfl), trivial⟩, boxL rfl rfl rfl ⟨(.ni _ rfl), trivial⟩, trivial⟩⟩
              · replace hL1 := cond_f hb_45 hL1
                conv => whnf
                refine ⟨fun hb_46 => ?_, fun hb_46 => ?_⟩
                · replace hL1 := cond_t hb_46 hL1
                  conv => whnf
                  obtain ⟨r_23, h_r_23, hL1⟩ := bind_some hL1
                  refine ⟨_, _, _, _, _, _, _, _, callX false [] [] Try.func52 (by decide) rfl (ref06_with_ac (⟨a_8⟩ : Registry) (⟨e_11, r_12.1.In, r_12.1.Out, r_12.1.Onward, r_12.1.Sequence, r_12.1.Status, r_12.1.Weight, r_12.1.Load, r_12.1.Surname, r_12.1.Given, r_12.1.Exception, x_1.Node, r_12.1.Unloaded⟩ : Bag) r_23 h_r_23) rfl ⟨(argE (by (conv => lhs; whnf); all_goals rfl) rfl), (argE (by (conv => lhs; whnf); all_goals rfl) rfl), trivial⟩ rfl trivial rfl rfl rfl lend0 trivial, ?_⟩
                  conv => whnf
                  refine ⟨((k_10 + 1 : Nat) : Int), wrapE (by omega) (by omega) (by omega), ?_⟩
                  conv => whnf
                  exact ⟨(k_10 + 1, r_23.L), [0, 1, 2], [], [], ⟨hlt_k_10, hL1⟩, by show r_3.length - (k_10 + 1) < r_3.length - k_10; omega, wk_mk [0, 1, 2] [] [] rfl ⟨argP (id := 0) (by (conv => lhs; whnf); all_goals rfl) rfl, argP (id := 1) (by (conv => lhs; whnf); all_goals rfl) rfl, argP (id := 2) (by (conv => lhs; whnf); all_goals rfl) rfl, argE (by (conv => lhs; whnf); all_goals rfl) rfl, argE (by (conv => lhs; whnf); all_goals rfl) rfl, trivial⟩ ⟨boxL rfl rfl rfl ⟨(.ni _ rfl), trivial⟩, boxL rfl rfl rfl ⟨(.ni _ rfl), (.ni _ rfl), (.ni _ rfl), (.ni _ rfl), (.ni _ rfl), (.ni _ rfl), (.ni _ rfl), (.ni _ rfl), (.ni _ rfl), (.ni _ rfl), (.ni _ rfl), (.ni _ rfl), (.ni _ rfl), (.ni _ rfl), (.ni _ rfl), (.ni _ rfl), (.ni _ rfl), (.ni _ rfl), (.ni _ rfl), (.ni _ rfl), (.ni _ rfl), (.ni _ rfl), (.ni _ rfl), (.ni _ rfl), (.ni _ rfl), (.ni _ rfl), (.ni _ rfl), (.ni _ rfl), (.ni _ rfl), (.ni _ rfl), trivial⟩, boxL rfl rfl rfl ⟨(.ni _ rfl), trivial⟩, trivial⟩⟩
                · replace hL1 := cond_f hb_46 hL1
                  conv => whnf
                  obtain ⟨r_24, h_r_24, hL1⟩ := bind_some hL1
                  refine ⟨_, _, _, _, _, _, _, _, callX false [] [] Try.func52 (by decide) rfl (ref06_with_ac (⟨a_8⟩ : Registry) (⟨e_11, r_12.1.In, r_12.1.Out, r_12.1.Onward, r_12.1.Sequence, r_12.1.Status, r_12.1.Weight, false, r_12.1.Surname, r_12.1.Given, r_12.1.Exception, r_12.1.Node, true⟩ : Bag) r_24 h_r_24) rfl ⟨(argE (by (conv => lhs; whnf); all_goals rfl) rfl), (argA (c := [.int .i64 e_11.Lead, .int .i64 e_11.Airline, .int .i64 e_11.Serial, .str r_12.1.In.Flight.Carrier, .int .i64 r_12.1.In.Flight.Number, .str r_12.1.In.Flight.Suffix, .int .i64 r_12.1.In.Flight.Day, .str r_12.1.In.Port, .str r_12.1.In.Class, .str r_12.1.Out.Flight.Carrier, .int .i64 r_12.1.Out.Flight.Number, .str r_12.1.Out.Flight.Suffix, .int .i64 r_12.1.Out.Flight.Day, .str r_12.1.Out.Port, .str r_12.1.Out.Class, .lst 6 (r_12.1.Onward.map encLeg), .int .i64 r_12.1.Sequence, .int .i64 r_12.1.Status, .int .i64 r_12.1.Weight, .fls, .str r_12.1.Surname, .str r_12.1.Given, .int .i64 r_12.1.Exception, .str r_12.1.Node, .tru]) (by (conv => lhs; whnf); all_goals rfl) rfl ⟨(.ni _ rfl), (.ni _ rfl), (.ni _ rfl), (.ni _ rfl), (.ni _ rfl), (.ni _ rfl), (.ni _ rfl), (.ni _ rfl), (.ni _ rfl), (.ni _ rfl), (.ni _ rfl), (.ni _ rfl), (.ni _ rfl), (.ni _ rfl), (.ni _ rfl), (.ni _ rfl), (.ni _ rfl), (.ni _ rfl), (.ni _ rfl), .fls, (.ni _ rfl), (.ni _ rfl), (.ni _ rfl), (.ni _ rfl), .tru, trivial⟩), trivial⟩ rfl trivial rfl rfl rfl lend0 trivial, ?_⟩
                  conv => whnf
                  refine ⟨((k_10 + 1 : Nat) : Int), wrapE (by omega) (by omega) (by omega), ?_⟩
                  conv => whnf
                  exact ⟨(k_10 + 1, r_24.L), [0, 1, 2], [], [], ⟨hlt_k_10, hL1⟩, by show r_3.length - (k_10 + 1) < r_3.length - k_10; omega, wk_mk [0, 1, 2] [] [] rfl ⟨argP (id := 0) (by (conv => lhs; whnf); all_goals rfl) rfl, argP (id := 1) (by (conv => lhs; whnf); all_goals rfl) rfl, argP (id := 2) (by (conv => lhs; whnf); all_goals rfl) rfl, argE (by (conv => lhs; whnf); all_goals rfl) rfl, argE (by (conv => lhs; whnf); all_goals rfl) rfl, trivial⟩ ⟨boxL rfl rfl rfl ⟨(.ni _ rfl), trivial⟩, boxL rfl rfl rfl ⟨(.ni _ rfl), (.ni _ rfl), (.ni _ rfl), (.ni _ rfl), (.ni _ rfl), (.ni _ rfl), (.ni _ rfl), (.ni _ rfl), (.ni _ rfl), (.ni _ rfl), (.ni _ rfl), (.ni _ rfl), (.ni _ rfl), (.ni _ rfl), (.ni _ rfl), (.ni _ rfl), (.ni _ rfl), (.ni _ rfl), (.ni _ rfl), (.ni _ rfl), (.ni _ rfl), (.ni _ rfl), (.ni _ rfl), (.ni _ rfl), (.ni _ rfl), (.ni _ rfl), (.ni _ rfl), (.ni _ rfl), (.ni _ rfl), (.ni _ rfl), trivial⟩, boxL rfl rfl rfl ⟨(.ni _ rfl), trivial⟩, trivial⟩⟩
          · rw [drop_nil (show r_3.length ≤ k_10 by have h := of_decide_eq_false h; omega), ref06_Apply_L2.eq_1] at hL1
            conv => whnf
            obtain rfl := Option.some.inj hL1
            replace hF := fin_brk hF
            try dsimp only at hF
            obtain rfl := Option.some.inj hF
            exact ret_gz [] [] [] rfl (tupL rfl ⟨(argE (by (conv => lhs; whnf); all_goals rfl) rfl), (argE (by (conv => lhs; whnf); all_goals rfl) rfl), trivial⟩) trivial

set_option maxRecDepth 100000 in
set_option maxHeartbeats 40000000 in
theorem ref06_SameBag_ac (x_0 : Bag) (x_1 : Bag) (r : Bool) (hF : ref06_SameBag x_0 x_1 = some r) : AC Try.prog 22 [.agg (encBag x_0), .agg (encBag x_1)] [] (.bool r) [] := by
  refine ac_of tab_ok follows_ok Try.func22 rfl Try.ntmps22 rfl ?_
  unfold ref06_SameBag at hF
  conv => whnf
  refine len_q (enc := encLeg) (l := x_0.Onward) rfl ?_
  conv => whnf
  refine len_q (enc := encLeg) (l := x_1.Onward) rfl ?_
  conv => whnf
  refine ⟨fun hb_19 => ?_, fun hb_19 => ?_⟩
  · replace hF := cond_t hb_19 hF
    conv => whnf
    obtain rfl := Option.some.inj hF
    exact ret_gz [] [] [] rfl (argFl (by (conv => lhs; whnf); all_goals rfl)) trivial
  · replace hF := cond_f hb_19 hF
    conv => whnf
    obtain ⟨c_1, hc_1, hF⟩ := fin_some hF
    refine sw_bv 0 (v := .agg [.int .i64 x_0.Plate.Lead, .int .i64 x_0.Plate.Airline, .int .i64 x_0.Plate.Serial, .str x_0.In.Flight.Carrier, .int .i64 x_0.In.Flight.Number, .str x_0.In.Flight.Suffix, .int .i64 x_0.In.Flight.Day, .str x_0.In.Port, .str x_0.In.Class, .str x_0.Out.Flight.Carrier, .int .i64 x_0.Out.Flight.Number, .str x_0.Out.Flight.Suffix, .int .i64 x_0.Out.Flight.Day, .str x_0.Out.Port, .str x_0.Out.Class, .lst 6 (x_0.Onward.map encLeg), .int .i64 x_0.Sequence, .int .i64 x_0.Status, .int .i64 x_0.Weight, .bool x_0.Load, .str x_0.Surname, .str x_0.Given, .int .i64 x_0.Exception, .str x_0.Node, .bool x_0.Unloaded]) (by (conv => lhs; whnf); all_goals rfl) (fun hb => ?_)
    have hbd_k_2 : x_0.Onward.length ≤ 9223372036854775807 := bnd_len (enc := encLeg) ((bnd_at hb.cell 15 rfl))
    refine sw_loop tab_ok follows_ok (fun y : Nat => y ≤ x_0.Onward.length ∧ ref06_SameBag_L1 x_1 (x_0.Onward.drop y) y = some c_1) (fun y => ⟨eL [(2, .ptr 0 0), (3, .ptr 1 0), (5, .int .i64 (y : Int))], hL [(0, .box [.int .i64 x_0.Plate.Lead, .int .i64 x_0.Plate.Airline, .int .i64 x_0.Plate.Serial, .str x_0.In.Flight.Carrier, .int .i64 x_0.In.Flight.Number, .str x_0.In.Flight.Suffix, .int .i64 x_0.In.Flight.Day, .str x_0.In.Port, .str x_0.In.Class, .str x_0.Out.Flight.Carrier, .int .i64 x_0.Out.Flight.Number, .str x_0.Out.Flight.Suffix, .int .i64 x_0.Out.Flight.Day, .str x_0.Out.Port, .str x_0.Out.Class, .lst 6 (x_0.Onward.map encLeg), .int .i64 x_0.Sequence, .int .i64 x_0.Status, .int .i64 x_0.Weight, .bool x_0.Load, .str x_0.Surname, .str x_0.Given, .int .i64 x_0.Exception, .str x_0.Node, .bool x_0.Unloaded]), (1, .box [.int .i64 x_1.Plate.Lead, .int .i64 x_1.Plate.Airline, .int .i64 x_1.Plate.Serial, .str x_1.In.Flight.Carrier, .int .i64 x_1.In.Flight.Number, .str x_1.In.Flight.Suffix, .int .i64 x_1.In.Flight.Day, .str x_1.In.Port, .str x_1.In.Class, .str x_1.Out.Flight.Carrier, .int .i64 x_1.Out.Flight.Number, .str x_1.Out.Flight.Suffix, .int .i64 x_1.Out.Flight.Day, .str x_1.Out.Port, .str x_1.Out.Class, .lst 6 (x_1.Onward.map encLeg), .int .i64 x_1.Sequence, .int .i64 x_1.Status, .int .i64 x_1.Weight, .bool x_1.Load, .str x_1.Surname, .str x_1.Given, .int .i64 x_1.Exception, .str x_1.Node, .bool x_1.Unloaded])], 2⟩) (fun y => x_0.Onward.length - y) 0 ⟨Nat.zero_le _, hc_1⟩ (wk_mk [0, 1] [] [] rfl ⟨argP (id := 0) (by (conv => lhs; whnf); all_goals rfl) rfl, argP (id := 1) (by (conv => lhs; whnf); all_goals rfl) rfl, argE (by (conv => lhs; whnf); all_goals rfl) rfl, trivial⟩ ⟨boxL rfl rfl rfl ⟨(.ni _ rfl), (.ni _ rfl), (.ni _ rfl), (.ni _ rfl), (.ni _ rfl), (.ni _ rfl), (.ni _ rfl), (.ni _ rfl), (.ni _ rfl), (.ni _ rfl), (.ni _ rfl), (.ni _ rfl), (.ni _ rfl), (.ni _ rfl), (.ni _ rfl), (.ni _ rfl), (.ni _ rfl), (.ni _ rfl), (.ni _ rfl), (.ni _ rfl), (.ni _ rfl), (.ni _ rfl), (.ni _ rfl), (.ni _ rfl), (.ni _ rfl), trivial⟩, boxL rfl rfl rfl ⟨(.ni _ rfl), (.ni _ rfl), (.ni _ rfl), (.ni _ rfl), (.ni _ rfl), (.ni _ rfl), (.ni _ rfl), (.ni _ rfl), (.ni _ rfl), (.ni _ rfl), (.ni _ rfl), (.ni _ rfl), (.ni _ rfl), (.ni _ rfl), (.ni _ rfl), (.ni _ rfl), (.ni _ rfl), (.ni _ rfl), (.ni _ rfl), (.ni _ rfl), (.ni _ rfl), (.ni _ rfl), (.ni _ rfl), (.ni _ rfl), (.ni _ rfl), trivial⟩, trivial⟩) ?_
    rintro k_2 ⟨hk_k_2, hL1⟩
    try dsimp only at hk_k_2 hL1
    show awp _ _ _ _ _ _ ⟨eL [(2, .ptr 0 0), (3, .ptr 1 0), (5, .int .i64 (k_2 : Int))], hL [(0, .box [.int .i64 x_0.Plate.Lead, .int .i64 x_0.Plate.Airline, .int .i64 x_0.Plate.Serial, .str x_0.In.Flight.Carrier, .int .i64 x_0.In.Flight.Number, .str x_0.In.Flight.Suffix, .int .i64 x_0.In.Flight.Day, .str x_0.In.Port, .str x_0.In.Class, .str x_0.Out.Flight.Carrier, .int .i64 x_0.Out.Flight.Number, .str x_0.Out.Flight.Suffix, .int .i64 x_0.Out.Flight.Day, .str x_0.Out.Port, .str x_0.Out.Class, .lst 6 (x_0.Onward.map encLeg), .int .i64 x_0.Sequence, .int .i64 x_0.Status, .int .i64 x_0.Weight, .bool x_0.Load, .str x_0.Surname, .str x_0.Given, .int .i64 x_0.Exception, .str x_0.Node, .bool x_0.Unloaded]), (1, .box [.int .i64 x_1.Plate.Lead, .int .i64 x_1.Plate.Airline, .int .i64 x_1.Plate.Serial, .str x_1.In.Flight.Carrier, .int .i64 x_1.In.Flight.Number, .str x_1.In.Flight.Suffix, .int .i64 x_1.In.Flight.Day, .str x_1.In.Port, .str x_1.In.Class, .str x_1.Out.Flight.Carrier, .int .i64 x_1.Out.Flight.Number, .str x_1.Out.Flight.Suffix, .int .i64 x_1.Out.Flight.Day, .str x_1.Out.Port, .str x_1.Out.Class, .lst 6 (x_1.Onward.map encLeg), .int .i64 x_1.Sequence, .int .i64 x_1.Status, .int .i64 x_1.Weight, .bool x_1.Load, .str x_1.Surname, .str x_1.Given, .int .i64 x_1.Exception, .str x_1.Node, .bool x_1.Unloaded])], 2⟩
    conv => whnf
    refine len_q (enc := encLeg) (l := x_0.Onward) rfl ?_
    conv => whnf
    refine ⟨fun h => ?_, fun h => ?_⟩
    · have hlt_k_2 : k_2 < x_0.Onward.length := by have h := of_decide_eq_true h; omega
      obtain ⟨e_3, h_e_3⟩ : ∃ y, x_0.Onward[k_2]? = some y := ⟨_, List.getElem?_eq_getElem hlt_k_2⟩
      rw [drop_cons h_e_3, ref06_SameBag_L1.eq_2] at hL1
      conv => whnf
      refine ⟨k_2, _, rfl, ix_map h_e_3, ?_⟩
      conv => whnf
      obtain ⟨e_4, h_e_4, hL1⟩ := bind_some hL1
      refine ix_q (enc := encLeg) (l := x_1.Onward) h_e_4 rfl (fun m_e_4 hm_e_4 hx_e_4 => ?_)
      conv => whnf
      refine ⟨by kernel_rfl, ?_⟩
      conv => whnf
      refine ⟨fun hb_20 => ?_, fun hb_20 => ?_⟩
      · replace hL1 := cond_t hb_20 hL1
        conv => whnf
        obtain rfl := Option.some.inj hL1
        replace hF := fin_ret hF
        obtain rfl := Option.some.inj hF
        exact ret_gz [] [] [] rfl (argFl (by (conv => lhs; whnf); all_goals rfl)) trivial
      · replace hL1 := cond_f hb_20 hL1
        conv => whnf
        refine ⟨((k_2 + 1 : Nat) : Int), wrapE (by omega) (by omega) (by omega), ?_⟩
        conv => whnf
        exact ⟨k_2 + 1, [0, 1], [], [], ⟨hlt_k_2, hL1⟩, by show x_0.Onward.length - (k_2 + 1) < x_0.Onward.length - k_2; omega, wk_mk [0, 1] [] [] rfl ⟨argP (id := 0) (by (conv => lhs; whnf); all_goals rfl) rfl, argP (id := 1) (by (conv => lhs; whnf); all_goals rfl) rfl, argE (by (conv => lhs; whnf); all_goals rfl) rfl, trivial⟩ ⟨boxL rfl rfl rfl ⟨(.ni _ rfl), (.ni _ rfl), (.ni _ rfl), (.ni _ rfl), (.ni _ rfl), (.ni _ rfl), (.ni _ rfl), (.ni _ rfl), (.ni _ rfl), (.ni _ rfl), (.ni _ rfl), (.ni _ rfl), (.ni _ rfl), (.ni _ rfl), (.ni _ rfl), (.ni _ rfl), (.ni _ rfl), (.ni _ rfl), (.ni _ rfl), (.ni _ rfl), (.ni _ rfl), (.ni _ rfl), (.ni _ rfl), (.ni _ rfl), (.ni _ rfl), trivial⟩, boxL rfl rfl rfl ⟨(.ni _ rfl), (.ni _ rfl), (.ni _ rfl), (.ni _ rfl), (.ni _ rfl), (.ni _ rfl), (.ni _ rfl), (.ni _ rfl), (.ni _ rfl), (.ni _ rfl), (.ni _ rfl), (.ni _ rfl), (.ni _ rfl), (.ni _ rfl), (.ni _ rfl), (.ni _ rfl), (.ni _ rfl), (.ni _ rfl), (.ni _ rfl), (.ni _ rfl), (.ni _ rfl), (.ni _ rfl), (.ni _ rfl), (.ni _ rfl), (.ni _ rfl), trivial⟩, trivial⟩⟩
    · rw [drop_nil (show x_0.Onward.length ≤ k_2 by have h := of_decide_eq_false h; omega), ref06_SameBag_L1.eq_1] at hL1
      conv => whnf
      obtain rfl := Option.some.inj hL1
      replace hF := fin_brk hF
      try dsimp only at hF
      refine ⟨fun hb_21 => ?_, fun hb_21 => ?_⟩
      · replace hF := cond_t hb_21 hF
        conv => whnf
        refine ⟨fun hb_22 => ?_, fun hb_22 => ?_⟩
        · replace hF := cond_t hb_22 hF
          conv => whnf
          refine ⟨fun hb_23 => ?_, fun hb_23 => ?_⟩
          · replace hF := cond_t hb_23 hF
            conv => whnf
            refine ⟨fun hb_24 => ?_, fun hb_24 => ?_⟩
            · replace hF := cond_t hb_24 hF
              conv => whnf
              refine ⟨fun hb_25 => ?_, fun hb_25 => ?_⟩
              · replace hF := cond_t hb_25 hF
                conv => whnf
                refine ⟨fun hb_26 => ?_, fun hb_26 => ?_⟩
                · replace hF := cond_t hb_26 hF
                  conv => whnf
                  refine ⟨fun hb_27 => ?_, fun hb_27 => ?_⟩
                  · replace hF := cond_t hb_27 hF
                    conv => whnf
                    refine ⟨fun hb_28 => ?_, fun hb_28 => ?_⟩
                    · replace hF := cond_t hb_28 hF
                      conv => whnf
                      refine ⟨fun hb_29 => ?_, fun hb_29 => ?_⟩
                      · replace hF := cond_t hb_29 hF
                        conv => whnf
                        refine ⟨fun hb_30 => ?_, fun hb_30 => ?_⟩
                        · replace hF := cond_t hb_30 hF
                          conv => whnf
                          refine ⟨fun hb_31 => ?_, fun hb_31 => ?_⟩
                          · replace hF := cond_t hb_31 hF
                            conv => whnf
                            obtain rfl := Option.some.inj hF
                            exact ret_gz [] [] [] rfl (argE (by (conv => lhs; whnf); all_goals rfl) rfl) trivial
                          · replace hF := cond_f hb_31 hF
                            conv => whnf
                            obtain rfl := Option.some.inj hF
                            exact ret_gz [] [] [] rfl (argFl (by (conv => lhs; whnf); all_goals rfl)) trivial
                        · replace hF := cond_f hb_30 hF
                          conv => whnf
                          obtain rfl := Option.some.inj hF
                          exact ret_gz [] [] [] rfl (argFl (by (conv => lhs; whnf); all_goals rfl)) trivial
                      · replace hF := cond_f hb_29 hF
                        conv => whnf
                        obtain rfl := Option.some.inj hF
                        exact ret_gz [] [] [] rfl (argFl (by (conv => lhs; whnf); all_goals rfl)) trivial
                    · replace hF := cond_f hb_28 hF
                      conv => whnf
                      obtain rfl := Option.some.inj hF
                      exact ret_gz [] [] [] rfl (argFl (by (conv => lhs; whnf); all_goals rfl)) trivial
                  · replace hF := cond_f hb_27 hF
                    conv => whnf
                    obtain rfl := Option.some.inj hF
                    exact ret_gz [] [] [] rfl (argFl (by (conv => lhs; whnf); all_goals rfl)) trivial
                · replace hF := cond_f hb_26 hF
                  conv => whnf
                  obtain rfl := Option.some.inj hF
                  exact ret_gz [] [] [] rfl (argFl (by (conv => lhs; whnf); all_goals rfl)) trivial
              · replace hF := cond_f hb_25 hF
                conv => whnf
                obtain rfl := Option.some.inj hF
                exact ret_gz [] [] [] rfl (argFl (by (conv => lhs; whnf); all_goals rfl)) trivial
            · replace hF := cond_f hb_24 hF
              conv => whnf
              obtain rfl := Option.some.inj hF
              exact ret_gz [] [] [] rfl (argFl (by (conv => lhs; whnf); all_goals rfl)) trivial
          · replace hF := cond_f hb_23 hF
            conv => whnf
            obtain rfl := Option.some.inj hF
            exact ret_gz [] [] [] rfl (argFl (by (conv => lhs; whnf); all_goals rfl)) trivial
        · replace hF := cond_f hb_22 hF
          conv => whnf
          obtain rfl := Option.some.inj hF
          exact ret_gz [] [] [] rfl (argFl (by (conv => lhs; whnf); all_goals rfl)) trivial
      · replace hF := cond_f hb_21 hF
        conv => whnf
        obtain rfl := Option.some.inj hF
        exact ret_gz [] [] [] rfl (argFl (by (conv => lhs; whnf); all_goals rfl)) trivial

set_option maxRecDepth 100000 in
set_option maxHeartbeats 40000000 in
theorem ref06_Same_ac (x_0 : Registry) (x_1 : Registry) (r : Bool) (hF : ref06_Same x_0 x_1 = some r) : AC Try.prog 16 [.agg (encRegistry x_0), .agg (encRegistry x_1)] [] (.bool r) [] := by
  refine ac_of tab_ok follows_ok Try.func16 rfl Try.ntmps16 rfl ?_
  unfold ref06_Same at hF
  conv => whnf
  refine len_q (enc := encBag) (l := x_0.L) rfl ?_
  conv => whnf
  refine len_q (enc := encBag) (l := x_1.L) rfl ?_
  conv => whnf
  refine ⟨fun hb_8 => ?_, fun hb_8 => ?_⟩
  · replace hF := cond_t hb_8 hF
    conv => whnf
    obtain rfl := Option.some.inj hF
    exact ret_gz [] [] [] rfl (argFl (by (conv => lhs; whnf); all_goals rfl)) trivial
  · replace hF := cond_f hb_8 hF
    conv => whnf
    obtain ⟨c_1, hc_1, hF⟩ := fin_some hF
    refine sw_bv 0 (v := .agg [.lst 25 (x_0.L.map encBag)]) (by (conv => lhs; whnf); all_goals rfl) (fun hb => ?_)
    have hbd_k_2 : x_0.L.length ≤ 9223372036854775807 := bnd_len (enc := encBag) ((bnd_at hb.cell 0 rfl))
    refine sw_loop tab_ok follows_ok (fun y : Nat => y ≤ x_0.L.length ∧ ref06_Same_L1 x_1 (x_0.L.drop y) y = some c_1) (fun y => ⟨eL [(2, .ptr 0 0), (3, .ptr 1 0), (5, .int .i64 (y : Int))], hL [(0, .box [.lst 25 (x_0.L.map encBag)]), (1, .box [.lst 25 (x_1.L.map encBag)])], 2⟩) (fun y => x_0.L.length - y) 0 ⟨Nat.zero_le _, hc_1⟩ (wk_mk [0, 1] [] [] rfl ⟨argP (id := 0) (by (conv => lhs; whnf); all_goals rfl) rfl, argP (id := 1) (by (conv => lhs; whnf); all_goals rfl) rfl, argE (by (conv => lhs; whnf); all_goals rfl) rfl, trivial⟩ ⟨boxL rfl rfl rfl ⟨(.ni _ rfl), trivial⟩, boxL rfl rfl rfl ⟨(.ni _ rfl), trivial⟩, trivial⟩) ?_
    rintro k_2 ⟨hk_k_2, hL1⟩
    try dsimp only at hk_k_2 hL1
    show awp _ _ _ _ _ _ ⟨eL [(2, .ptr 0 0), (3, .ptr 1 0), (5, .int .i64 (k_2 : Int))], hL [(0, .box [.lst 25 (x_0.L.map encBag)]), (1, .box [.lst 25 (x_1.L.map encBag)])], 2⟩
    conv => whnf
    refine len_q (enc := encBag) (l := x_0.L) rfl ?_
    conv => whnf
    refine ⟨fun h => ?_, fun h => ?_⟩
    · have hlt_k_2 : k_2 < x_0.L.length := by have h := of_decide_eq_true h; omega
      obtain ⟨e_3, h_e_3⟩ : ∃ y, x_0.L[k_2]? = some y := ⟨_, List.getElem?_eq_getElem hlt_k_2⟩
      rw [drop_cons h_e_3, ref06_Same_L1.eq_2] at hL1
      conv => whnf
      refine ⟨k_2, _, rfl, ix_map h_e_3, ?_⟩
      conv => whnf
      obtain ⟨e_4, h_e_4, hL1⟩ := bind_some hL1
      refine ix_q (enc := encBag) (l := x_1.L) h_e_4 rfl (fun m_e_4 hm_e_4 hx_e_4 => ?_)
      conv => whnf
      obtain ⟨r_5, h_r_5, hL1⟩ := bind_some hL1
      refine ⟨_, _, _, _, _, _, _, _, callX false [] [] Try.func22 (by decide) rfl (ref06_SameBag_ac e_3 e_4 r_5 h_r_5) rfl ⟨(argE (by (conv => lhs; whnf); all_goals rfl) rfl), (argE (by (conv => lhs; whnf); all_goals rfl) rfl), trivial⟩ rfl trivial rfl rfl rfl lend0 trivial, ?_⟩
      conv => whnf
      refine ⟨by kernel_rfl, ?_⟩
      conv => whnf
      refine ⟨fun hb_9 => ?_, fun hb_9 => ?_⟩
      · replace hL1 := cond_t hb_9 hL1
        conv => whnf
        obtain rfl := Option.some.inj hL1
        replace hF := fin_ret hF
        obtain rfl := Option.some.inj hF
        exact ret_gz [] [] [] rfl (argFl (by (conv => lhs; whnf); all_goals rfl)) trivial
      · replace hL1 := cond_f hb_9 hL1
        conv => whnf
        refine ⟨((k_2 + 1 : Nat) : Int), wrapE (by omega) (by omega) (by omega), ?_⟩
        conv => whnf
        exact ⟨k_2 + 1, [0, 1], [], [], ⟨hlt_k_2, hL1⟩, by show x_0.L.length - (k_2 + 1) < x_0.L.length - k_2; omega, wk_mk [0, 1] [] [] rfl ⟨argP (id := 0) (by (conv => lhs; whnf); all_goals rfl) rfl, argP (id := 1) (by (conv => lhs; whnf); all_goals rfl) rfl, argE (by (conv => lhs; whnf); all_goals rfl) rfl, trivial⟩ ⟨boxL rfl rfl rfl ⟨(.ni _ rfl), trivial⟩, boxL rfl rfl rfl ⟨(.ni _ rfl), trivial⟩, trivial⟩⟩
    · rw [drop_nil (show x_0.L.length ≤ k_2 by have h := of_decide_eq_false h; omega), ref06_Same_L1.eq_1] at hL1
      conv => whnf
      obtain rfl := Option.some.inj hL1
      replace hF := fin_brk hF
      try dsimp only at hF
      obtain rfl := Option.some.inj hF
      exact ret_gz [] [] [] rfl (argT (by (conv => lhs; whnf); all_goals rfl)) trivial

set_option maxRecDepth 100000 in
set_option maxHeartbeats 40000000 in
theorem keep_Src_More_ac (x_0 : Src) (r : Bool) (hF : keep_Src_More x_0 = some r) : AC Try.prog 12 [.iptr [.lst 1 (x_0.L.map iA), .int .i64 x_0.At]] [] (.bool r) [] := by
  refine ac_of tab_ok follows_ok Try.func12 rfl Try.ntmps12 rfl ?_
  unfold keep_Src_More at hF
  conv => whnf
  refine len_q (enc := iA) (l := x_0.L) rfl ?_
  conv => whnf
  refine ⟨by kernel_rfl, ?_⟩
  conv => whnf
  obtain rfl := Option.some.inj hF
  exact ret_gz [] [] [] rfl (argE (by (conv => lhs; whnf); all_goals rfl) rfl) trivial

set_option maxRecDepth 100000 in
set_option maxHeartbeats 40000000 in
theorem law06_built_ac (x_0 : Src) (x_1 : Int) (r : Registry × Src) (hF : law06_built x_0 x_1 = some r) : AC Try.prog 19 [.ptr 0 0, .int .i64 x_1] [.box (encSrc x_0)] (.agg (encRegistry r.1)) [.box (encSrc r.2)] := by
  refine ac_of tab_ok follows_ok Try.func19 rfl Try.ntmps19 rfl ?_
  unfold law06_built at hF
  conv => whnf
  obtain ⟨c_1, hc_1, hF⟩ := fin_some hF
  refine sw_loop tab_ok follows_ok (fun y : Nat × (List Int) × Int × (List Bag) × Int => law06_built_L1 x_1 y.1 y.2.1 y.2.2.1 y.2.2.2.1 y.2.2.2.2 = some c_1) (fun y => ⟨eL [(0, .ptr 0 0), (1, .int .i64 x_1), (4, .ptr 1 0), (5, .ptr 2 0), (6, .int .i64 y.2.2.2.2)], hL [(0, .box [.lst 1 (y.2.1.map iA), .int .i64 y.2.2.1]), (1, .box [.nils]), (2, .box [.lst 25 (y.2.2.2.1.map encBag)])], 3⟩) (fun y => y.1) (9223372036854775807, x_0.L, x_0.At, ([] : List Bag), (0 : Int)) hc_1 (wk_mk [0, 1, 2] [] [] rfl ⟨argP (id := 0) (by (conv => lhs; whnf); all_goals rfl) rfl, argE (by (conv => lhs; whnf); all_goals rfl) rfl, argP (id := 1) (by (conv => lhs; whnf); all_goals rfl) rfl, argP (id := 2) (by (conv => lhs; whnf); all_goals rfl) rfl, argE (by (conv => lhs; whnf); all_goals rfl) rfl, trivial⟩ ⟨boxL rfl rfl rfl ⟨(.ni _ rfl), (.ni _ rfl), trivial⟩, boxL rfl rfl rfl ⟨(.ni _ rfl), trivial⟩, boxL rfl rfl rfl ⟨(.nils _), trivial⟩, trivial⟩) ?_
  rintro ⟨q_8, a_1, i_2, a_3, i_4⟩ hL1
  try dsimp only at hL1
  rcases q_8 with _ | q_8
  · rw [law06_built_L1.eq_1] at hL1
    cases hL1
  rw [law06_built_L1.eq_2] at hL1
  show awp _ _ _ _ _ _ ⟨eL [(0, .ptr 0 0), (1, .int .i64 x_1), (4, .ptr 1 0), (5, .ptr 2 0), (6, .int .i64 i_4)], hL [(0, .box [.lst 1 (a_1.map iA), .int .i64 i_2]), (1, .box [.nils]), (2, .box [.lst 25 (a_3.map encBag)])], 3⟩
  conv => whnf
  refine ⟨fun hb_13 => ?_, fun hb_13 => ?_⟩
  · replace hL1 := cond_t hb_13 hL1
    conv => whnf
    obtain ⟨r_5, h_r_5, hL1⟩ := bind_some hL1
    refine ⟨_, _, _, _, _, _, _, _, callX false [] [0] Try.func12 (by decide) rfl (keep_Src_More_ac (⟨a_1, i_2⟩ : Src) r_5 h_r_5) rfl ⟨(argIb 0 _ (by (conv => lhs; whnf); all_goals rfl) rfl rfl rfl rfl), trivial⟩ rfl trivial rfl rfl rfl (lendF rfl) trivial, ?_⟩
    conv => whnf
    refine ⟨fun hb_14 => ?_, fun hb_14 => ?_⟩
    · replace hL1 := cond_t hb_14 hL1
      conv => whnf
      obtain ⟨r_6, h_r_6, hL1⟩ := bind_some hL1
      refine ⟨_, _, _, _, _, _, _, _, callX false [0] [] Try.func13 (by decide) rfl (keep_Src_Message_ac (⟨a_1, i_2⟩ : Src) (0 : Int) r_6 h_r_6) rfl ⟨(argP (id := 0) (by (conv => lhs; whnf); all_goals rfl) rfl), (argE (by (conv => lhs; whnf); all_goals rfl) rfl), trivial⟩ rfl ⟨rfl, trivial⟩ rfl rfl rfl lend0 ⟨rfl, trivial⟩, ?_⟩
      conv => whnf
      obtain ⟨r_7, h_r_7, hL1⟩ := bind_some hL1
      refine ⟨_, _, _, _, _, _, _, _, callX false [] [] Try.func15 (by decide) rfl (ref06_Apply_ac (⟨a_3⟩ : Registry) r_6.1 r_7 h_r_7) rfl ⟨(argE (by (conv => lhs; whnf); all_goals rfl) rfl), (argE (by (conv => lhs; whnf); all_goals rfl) rfl), trivial⟩ rfl trivial rfl rfl rfl lend0 trivial, ?_⟩
      conv => whnf
      refine ⟨by kernel_rfl, ?_⟩
      conv => whnf
      refine ⟨fun hb_15 => ?_, fun hb_15 => ?_⟩
      · replace hL1 := cond_t hb_15 hL1
        conv => whnf
        refine ⟨_, rfl, ?_⟩
        conv => whnf
        exact ⟨(q_8, r_6.2.L, r_6.2.At, r_7.1.L, (w64 (i_4 + (1 : Int)))), [0, 1, 2], [], [], hL1, Nat.lt_succ_self _, wk_mk [0, 1, 2] [] [] rfl ⟨argP (id := 0) (by (conv => lhs; whnf); all_goals rfl) rfl, argE (by (conv => lhs; whnf); all_goals rfl) rfl, argP (id := 1) (by (conv => lhs; whnf); all_goals rfl) rfl, argP (id := 2) (by (conv => lhs; whnf); all_goals rfl) rfl, argE (by (conv => lhs; whnf); all_goals rfl) rfl, trivial⟩ ⟨boxL rfl rfl rfl ⟨(.ni _ rfl), (.ni _ rfl), trivial⟩, boxL rfl rfl rfl ⟨(.ni _ rfl), trivial⟩, boxL rfl rfl rfl ⟨(.ni _ rfl), trivial⟩, trivial⟩⟩
      · replace hL1 := cond_f hb_15 hL1
        conv => whnf
        refine ⟨_, rfl, ?_⟩
        conv => whnf
        exact ⟨(q_8, r_6.2.L, r_6.2.At, a_3, (w64 (i_4 + (1 : Int)))), [0, 1, 2], [], [], hL1, Nat.lt_succ_self _, wk_mk [0, 1, 2] [] [] rfl ⟨argP (id := 0) (by (conv => lhs; whnf); all_goals rfl) rfl, argE (by (conv => lhs; whnf); all_goals rfl) rfl, argP (id := 1) (by (conv => lhs; whnf); all_goals rfl) rfl, argP (id := 2) (by (conv => lhs; whnf); all_goals rfl) rfl, argE (by (conv => lhs; whnf); all_goals rfl) rfl, trivial⟩ ⟨boxL rfl rfl rfl ⟨(.ni _ rfl), (.ni _ rfl), trivial⟩, boxL rfl rfl rfl ⟨(.ni _ rfl), trivial⟩, boxL rfl rfl rfl ⟨(.ni _ rfl), trivial⟩, trivial⟩⟩
    · replace hL1 := cond_f hb_14 hL1
      conv => whnf
      obtain rfl := Option.some.inj hL1
      replace hF := fin_brk hF
      try dsimp only at hF
      obtain rfl := Option.some.inj hF
      exact ret_gz [0] [] [] rfl (argE (by (conv => lhs; whnf); all_goals rfl) rfl) ⟨boxL rfl rfl rfl ⟨(.ni _ rfl), (.ni _ rfl), trivial⟩, trivial⟩
  · replace hL1 := cond_f hb_13 hL1
    conv => whnf
    obtain rfl := Option.some.inj hL1
    replace hF := fin_brk hF
    try dsimp only at hF
    obtain rfl := Option.some.inj hF
    exact ret_gz [0] [] [] rfl (argE (by (conv => lhs; whnf); all_goals rfl) rfl) ⟨boxL rfl rfl rfl ⟨(.ni _ rfl), (.ni _ rfl), trivial⟩, trivial⟩

set_option maxRecDepth 100000 in
set_option maxHeartbeats 40000000 in
theorem registry_OfFlight_f1_ac (x_0 : Bag) (x_1 : Flight) (r : Bool) (hF : registry_OfFlight_f1 x_0 x_1 = some r) : AC Try.prog 60 [.agg (encBag x_0), .iptr [.str x_1.Carrier, .int .i64 x_1.Number, .str x_1.Suffix, .int .i64 x_1.Day]] [] (.bool r) [] := by
  refine ac_of tab_ok follows_ok Try.func60 rfl Try.ntmps60 rfl ?_
  unfold registry_OfFlight_f1 at hF
  conv => whnf
  obtain rfl := Option.some.inj hF
  exact ret_gz [] [] [] rfl (argE (by (conv => lhs; whnf); all_goals rfl) rfl) trivial

set_option maxRecDepth 100000 in
set_option maxHeartbeats 40000000 in
theorem registry_chosen_ac (x_0 : Registry) (x_1 : Flight) (r : (List Plate)) (hF : registry_chosen x_0 x_1 = some r) : AC Try.prog 59 [.agg (encRegistry x_0), .fn 60 [.iptr [.str x_1.Carrier, .int .i64 x_1.Number, .str x_1.Suffix, .int .i64 x_1.Day]]] [] (.lst 3 (r.map encPlate)) [] := by
  refine ac_of tab_ok follows_ok Try.func59 rfl Try.ntmps59 rfl ?_
  unfold registry_chosen at hF
  conv => whnf
  obtain ⟨r_1, h_r_1, hF⟩ := bind_some hF
  refine ⟨_, _, _, _, _, _, _, _, callX false [] [] Try.func17 (by decide) rfl (registry_Validate_ac x_0 r_1 h_r_1) rfl ⟨(argE (by (conv => lhs; whnf); all_goals rfl) rfl), trivial⟩ rfl trivial rfl rfl rfl lend0 trivial, ?_⟩
  conv => whnf
  refine ⟨fun hb_8 => ?_, fun hb_8 => ?_⟩
  · replace hF := cond_t hb_8 hF
    conv => whnf
    obtain rfl := Option.some.inj hF
    exact ret_gz [] [] [] rfl (argN (by (conv => lhs; whnf); all_goals rfl)) trivial
  · replace hF := cond_f hb_8 hF
    conv => whnf
    refine len_q (enc := encBag) (l := x_0.L) rfl ?_
    conv => whnf
    obtain ⟨c_1, hc_1, hF⟩ := fin_some hF
    refine sw_bv 0 (v := .agg [.lst 25 (x_0.L.map encBag)]) (by (conv => lhs; whnf); all_goals rfl) (fun hb => ?_)
    have hbd_k_4 : x_0.L.length ≤ 9223372036854775807 := bnd_len (enc := encBag) ((bnd_at hb.cell 0 rfl))
    refine sw_loop tab_ok follows_ok (fun y : Nat × (List Plate) => y.1 ≤ x_0.L.length ∧ registry_chosen_L1 x_1 (x_0.L.drop y.1) y.1 y.2 = some c_1) (fun y => ⟨eL [(1, .fn 60 [.iptr [.str x_1.Carrier, .int .i64 x_1.Number, .str x_1.Suffix, .int .i64 x_1.Day]]), (5, .osl 0), (12, .lst 25 (x_0.L.map encBag)), (13, .int .i64 (x_0.L.length : Int)), (14, .int .i64 (y.1 : Int))], hL [(0, .row 3 (y.2.map encPlate))], 1⟩) (fun y => x_0.L.length - y.1) (0, ([] : List Plate)) ⟨Nat.zero_le _, hc_1⟩ (wk_mk [] [0] [] rfl ⟨argE (by (conv => lhs; whnf); all_goals rfl) rfl, argZ (by (conv => lhs; whnf); all_goals rfl) rfl, argE (by (conv => lhs; whnf); all_goals rfl) rfl, argE (by (conv => lhs; whnf); all_goals rfl) rfl, argE (by (conv => lhs; whnf); all_goals rfl) rfl, trivial⟩ ⟨blkZ rfl, trivial⟩) ?_
    rintro ⟨k_4, a_2⟩ ⟨hk_k_4, hL1⟩
    try dsimp only at hk_k_4 hL1
    show awp _ _ _ _ _ _ ⟨eL [(1, .fn 60 [.iptr [.str x_1.Carrier, .int .i64 x_1.Number, .str x_1.Suffix, .int .i64 x_1.Day]]), (5, .osl 0), (12, .lst 25 (x_0.L.map encBag)), (13, .int .i64 (x_0.L.length : Int)), (14, .int .i64 (k_4 : Int))], hL [(0, .row 3 (a_2.map encPlate))], 1⟩
    conv => whnf
    refine ⟨fun h => ?_, fun h => ?_⟩
    · have hlt_k_4 : k_4 < x_0.L.length := by have h := of_decide_eq_true h; omega
      obtain ⟨e_5, h_e_5⟩ : ∃ y, x_0.L[k_4]? = some y := ⟨_, List.getElem?_eq_getElem hlt_k_4⟩
      rw [drop_cons h_e_5, registry_chosen_L1.eq_2] at hL1
      conv => whnf
      refine ⟨k_4, _, rfl, ix_map h_e_5, ?_⟩
      conv => whnf
      obtain ⟨r_6, h_r_6, hL1⟩ := bind_some hL1
      refine ⟨_, _, _, _, _, _, _, _, callX false [] [] Try.func60 (by decide) rfl (registry_OfFlight_f1_ac e_5 x_1 r_6 h_r_6) rfl ⟨(argE (by (conv => lhs; whnf); all_goals rfl) rfl), (argE (by (conv => lhs; whnf); all_goals rfl) rfl), trivial⟩ rfl trivial rfl rfl rfl lend0 trivial, ?_⟩
      conv => whnf
      refine ⟨fun hb_9 => ?_, fun hb_9 => ?_⟩
      · replace hL1 := cond_t hb_9 hL1
        conv => whnf
        obtain ⟨l_7, h_l_7, hL1⟩ := bind_some hL1
        refine ap_q (enc := encPlate) (l := a_2) (y := ([e_5.Plate] : List Plate)) h_l_7 rfl rfl (by decide) ?_
        conv => whnf
        refine ⟨((k_4 + 1 : Nat) : Int), wrapE (by omega) (by omega) (by omega), ?_⟩
        conv => whnf
        exact ⟨(k_4 + 1, l_7), [4], [], [], ⟨hlt_k_4, hL1⟩, by show x_0.L.length - (k_4 + 1) < x_0.L.length - k_4; omega, wk_mk [4] [] [] rfl ⟨argE (by (conv => lhs; whnf); all_goals rfl) rfl, argO (id := 4) (by (conv => lhs; whnf); all_goals rfl) rfl, argE (by (conv => lhs; whnf); all_goals rfl) rfl, argE (by (conv => lhs; whnf); all_goals rfl) rfl, argE (by (conv => lhs; whnf); all_goals rfl) rfl, trivial⟩ ⟨blkR (fun _ => ⟨rfl, rfl⟩) rfl rfl, trivial⟩⟩
      · replace hL1 := cond_f hb_9 hL1
        conv => whnf
        refine ⟨((k_4 + 1 : Nat) : Int), wrapE (by omega) (by omega) (by omega), ?_⟩
        conv => whnf
        exact ⟨(k_4 + 1, a_2), [0], [], [], ⟨hlt_k_4, hL1⟩, by show x_0.L.length - (k_4 + 1) < x_0.L.length - k_4; omega, wk_mk [0] [] [] rfl ⟨argE (by (conv => lhs; whnf); all_goals rfl) rfl, argO (id := 0) (by (conv => lhs; whnf); all_goals rfl) rfl, argE (by (conv => lhs; whnf); all_goals rfl) rfl, argE (by (conv => lhs; whnf); all_goals rfl) rfl, argE (by (conv => lhs; whnf); all_goals rfl) rfl, trivial⟩ ⟨blkR (fun _ => ⟨rfl, rfl⟩) rfl rfl, trivial⟩⟩
    · rw [drop_nil (show x_0.L.length ≤ k_4 by have h := of_decide_eq_false h; omega), registry_chosen_L1.eq_1] at hL1
      conv => whnf
      obtain rfl := Option.some.inj hL1
      replace hF := fin_brk hF
      try dsimp only at hF
      obtain rfl := Option.some.inj hF
      exact ret_gz [] [] [0] rfl (argOL 0 (by (conv => lhs; whnf); all_goals rfl) rfl rfl (map_ni (fun _ => ⟨rfl, rfl⟩) _)) trivial

set_option maxRecDepth 100000 in
set_option maxHeartbeats 40000000 in
theorem registry_OfFlight_ac (x_0 : Registry) (x_1 : Flight) (r : (List Plate)) (hF : registry_OfFlight x_0 x_1 = some r) : AC Try.prog 30 [.agg (encRegistry x_0), .agg (encFlight x_1)] [] (.lst 3 (r.map encPlate)) [] := by
  refine ac_of tab_ok follows_ok Try.func30 rfl Try.ntmps30 rfl ?_
  unfold registry_OfFlight at hF
  conv => whnf
  obtain ⟨r_1, h_r_1, hF⟩ := bind_some hF
  refine ⟨_, _, _, _, _, _, _, _, callX true [] [1] Try.func59 (by decide) rfl (registry_chosen_ac x_0 x_1 r_1 h_r_1) rfl ⟨(argE (by (conv => lhs; whnf); all_goals rfl) rfl), (argFn (c := [.ptr 1 0]) (by (conv => lhs; whnf); all_goals rfl) rfl ⟨(argIb 1 _ rfl rfl rfl rfl rfl), trivial⟩), trivial⟩ rfl trivial rfl rfl rfl (giveU rfl) trivial, ?_⟩
  conv => whnf
  obtain rfl := Option.some.inj hF
  exact ret_gz [] [] [] rfl (argE (by (conv => lhs; whnf); all_goals rfl) rfl) trivial

set_option maxRecDepth 100000 in
set_option maxHeartbeats 40000000 in
theorem ref06_OfFlight_ac (x_0 : Registry) (x_1 : Flight) (r : (List Plate)) (hF : ref06_OfFlight x_0 x_1 = some r) : AC Try.prog 31 [.agg (encRegistry x_0), .agg (encFlight x_1)] [] (.lst 3 (r.map encPlate)) [] := by
  refine ac_of tab_ok follows_ok Try.func31 rfl Try.ntmps31 rfl ?_
  unfold ref06_OfFlight at hF
  conv => whnf
  obtain ⟨c_1, hc_1, hF⟩ := fin_some hF
  refine sw_bv 0 (v := .agg [.lst 25 (x_0.L.map encBag)]) (by (conv => lhs; whnf); all_goals rfl) (fun hb => ?_)
  have hbd_k_3 : x_0.L.length ≤ 9223372036854775807 := bnd_len (enc := encBag) ((bnd_at hb.cell 0 rfl))
  refine sw_loop tab_ok follows_ok (fun y : Nat × (List Plate) => y.1 ≤ x_0.L.length ∧ ref06_OfFlight_L1 x_0 x_1 (x_0.L.drop y.1) y.1 y.2 = some c_1) (fun y => ⟨eL [(2, .ptr 0 0), (3, .ptr 1 0), (5, .osl 2), (6, .int .i64 (y.1 : Int))], hL [(0, .box [.lst 25 (x_0.L.map encBag)]), (1, .box [.str x_1.Carrier, .int .i64 x_1.Number, .str x_1.Suffix, .int .i64 x_1.Day]), (2, .row 3 (y.2.map encPlate))], 3⟩) (fun y => x_0.L.length - y.1) (0, ([] : List Plate)) ⟨Nat.zero_le _, hc_1⟩ (wk_mk [0, 1] [2] [] rfl ⟨argP (id := 0) (by (conv => lhs; whnf); all_goals rfl) rfl, argP (id := 1) (by (conv => lhs; whnf); all_goals rfl) rfl, argZ (by (conv => lhs; whnf); all_goals rfl) rfl, argE (by (conv => lhs; whnf); all_goals rfl) rfl, trivial⟩ ⟨boxL rfl rfl rfl ⟨(.ni _ rfl), trivial⟩, boxL rfl rfl rfl ⟨(.ni _ rfl), (.ni _ rfl), (.ni _ rfl), (.ni _ rfl), trivial⟩, blkZ rfl, trivial⟩) ?_
  rintro ⟨k_3, a_1⟩ ⟨hk_k_3, hL1⟩
  try dsimp only at hk_k_3 hL1
  show awp _ _ _ _ _ _ ⟨eL [(2, .ptr 0 0), (3, .ptr 1 0), (5, .osl 2), (6, .int .i64 (k_3 : Int))], hL [(0, .box [.lst 25 (x_0.L.map encBag)]), (1, .box [.str x_1.Carrier, .int .i64 x_1.Number, .str x_1.Suffix, .int .i64 x_1.Day]), (2, .row 3 (a_1.map encPlate))], 3⟩
  conv => whnf
  refine len_q (enc := encBag) (l := x_0.L) rfl ?_
  conv => whnf
  refine ⟨fun h => ?_, fun h => ?_⟩
  · have hlt_k_3 : k_3 < x_0.L.length := by have h := of_decide_eq_true h; omega
    obtain ⟨e_4, h_e_4⟩ : ∃ y, x_0.L[k_3]? = some y := ⟨_, List.getElem?_eq_getElem hlt_k_3⟩
    rw [drop_cons h_e_4, ref06_OfFlight_L1.eq_2] at hL1
    conv => whnf
    obtain ⟨r_5, h_r_5, hL1⟩ := bind_some hL1
    refine ⟨_, _, _, _, _, _, _, _, callX false [] [] Try.func18 (by decide) rfl (ref06_Validate_ac x_0 r_5 h_r_5) rfl ⟨(argE (by (conv => lhs; whnf); all_goals rfl) rfl), trivial⟩ rfl trivial rfl rfl rfl lend0 trivial, ?_⟩
    conv => whnf
    refine ⟨fun hb_11 => ?_, fun hb_11 => ?_⟩
    · replace hL1 := cond_t hb_11 hL1
      conv => whnf
      refine ⟨k_3, _, rfl, ix_map h_e_4, ?_⟩
      conv => whnf
      refine ⟨by kernel_rfl, ?_⟩
      conv => whnf
      refine ⟨fun hb_12 => ?_, fun hb_12 => ?_⟩
      · replace hL1 := cond_t hb_12 hL1
        conv => whnf
        refine ⟨k_3, _, rfl, ix_map h_e_4, ?_⟩
        conv => whnf
        obtain ⟨l_6, h_l_6, hL1⟩ := bind_some hL1
        refine ap_q (enc := encPlate) (l := a_1) (y := ([e_4.Plate] : List Plate)) h_l_6 rfl rfl (by decide) ?_
        conv => whnf
        refine ⟨((k_3 + 1 : Nat) : Int), wrapE (by omega) (by omega) (by omega), ?_⟩
        conv => whnf
        exact ⟨(k_3 + 1, l_6), [0, 1, 5], [], [], ⟨hlt_k_3, hL1⟩, by show x_0.L.length - (k_3 + 1) < x_0.L.length - k_3; omega, wk_mk [0, 1, 5] [] [] rfl ⟨argP (id := 0) (by (conv => lhs; whnf); all_goals rfl) rfl, argP (id := 1) (by (conv => lhs; whnf); all_goals rfl) rfl, argO (id := 5) (by (conv => lhs; whnf); all_goals rfl) rfl, argE (by (conv => lhs; whnf); all_goals rfl) rfl, trivial⟩ ⟨boxL rfl rfl rfl ⟨(.ni _ rfl), trivial⟩, boxL rfl rfl rfl ⟨(.ni _ rfl), (.ni _ rfl), (.ni _ rfl), (.ni _ rfl), trivial⟩, blkR (fun _ => ⟨rfl, rfl⟩) rfl rfl, trivial⟩⟩
      · replace hL1 := cond_f hb_12 hL1
        conv => whnf
        refine ⟨((k_3 + 1 : Nat) : Int), wrapE (by omega) (by omega) (by omega), ?_⟩
        conv => whnf
        exact ⟨(k_3 + 1, a_1), [0, 1, 2], [], [], ⟨hlt_k_3, hL1⟩, by show x_0.L.length - (k_3 + 1) < x_0.L.length - k_3; omega, wk_mk [0, 1, 2] [] [] rfl ⟨argP (id := 0) (by (conv => lhs; whnf); all_goals rfl) rfl, argP (id := 1) (by (conv => lhs; whnf); all_goals rfl) rfl, argO (id := 2) (by (conv => lhs; whnf); all_goals rfl) rfl, argE (by (conv => lhs; whnf); all_goals rfl) rfl, trivial⟩ ⟨boxL rfl rfl rfl ⟨(.ni _ rfl), trivial⟩, boxL rfl rfl rfl ⟨(.ni _ rfl), (.ni _ rfl), (.ni _ rfl), (.ni _ rfl), trivial⟩, blkR (fun _ => ⟨rfl, rfl⟩) rfl rfl, trivial⟩⟩
    · replace hL1 := cond_f hb_11 hL1
      conv => whnf
      obtain rfl := Option.some.inj hL1
      replace hF := fin_brk hF
      try dsimp only at hF
      obtain rfl := Option.some.inj hF
      exact ret_gz [] [] [2] rfl (argOL 2 (by (conv => lhs; whnf); all_goals rfl) rfl rfl (map_ni (fun _ => ⟨rfl, rfl⟩) _)) trivial
  · rw [drop_nil (show x_0.L.length ≤ k_3 by have h := of_decide_eq_false h; omega), ref06_OfFlight_L1.eq_1] at hL1
    conv => whnf
    obtain rfl := Option.some.inj hL1
    replace hF := fin_brk hF
    try dsimp only at hF
    obtain rfl := Option.some.inj hF
    exact ret_gz [] [] [2] rfl (argOL 2 (by (conv => lhs; whnf); all_goals rfl) rfl rfl (map_ni (fun _ => ⟨rfl, rfl⟩) _)) trivial

set_option maxRecDepth 100000 in
set_option maxHeartbeats 40000000 in
theorem ref06_SamePlates_ac (x_0 : (List Plate)) (x_1 : (List Plate)) (r : Bool) (hF : ref06_SamePlates x_0 x_1 = some r) : AC Try.prog 29 [.lst 3 (x_0.map encPlate), .lst 3 (x_1.map encPlate)] [] (.bool r) [] := by
  refine ac_of tab_ok follows_ok Try.func29 rfl Try.ntmps29 rfl ?_
  unfold ref06_SamePlates at hF
  conv => whnf
  refine len_q (enc := encPlate) (l := x_0) rfl ?_
  conv => whnf
  refine len_q (enc := encPlate) (l := x_1) rfl ?_
  conv => whnf
  refine ⟨fun hb_8 => ?_, fun hb_8 => ?_⟩
  · replace hF := cond_t hb_8 hF
    conv => whnf
    obtain rfl := Option.some.inj hF
    exact ret_gz [] [] [] rfl (argFl (by (conv => lhs; whnf); all_goals rfl)) trivial
  · replace hF := cond_f hb_8 hF
    conv => whnf
    obtain ⟨c_1, hc_1, hF⟩ := fin_some hF
    refine sw_bv 0 (v := .lst 3 (x_0.map encPlate)) (by (conv => lhs; whnf); all_goals rfl) (fun hb => ?_)
    have hbd_k_2 : x_0.length ≤ 9223372036854775807 := bnd_len (enc := encPlate) (hb)
    refine sw_loop tab_ok follows_ok (fun y : Nat => y ≤ x_0.length ∧ ref06_SamePlates_L1 x_1 (x_0.drop y) y = some c_1) (fun y => ⟨eL [(0, .lst 3 (x_0.map encPlate)), (1, .lst 3 (x_1.map encPlate)), (5, .int .i64 (y : Int))], hL [], 0⟩) (fun y => x_0.length - y) 0 ⟨Nat.zero_le _, hc_1⟩ (wk_mk [] [] [] rfl ⟨argE (by (conv => lhs; whnf); all_goals rfl) rfl, argE (by (conv => lhs; whnf); all_goals rfl) rfl, argE (by (conv => lhs; whnf); all_goals rfl) rfl, trivial⟩ trivial) ?_
    rintro k_2 ⟨hk_k_2, hL1⟩
    try dsimp only at hk_k_2 hL1
    show awp _ _ _ _ _ _ ⟨eL [(0, .lst 3 (x_0.map encPlate)), (1, .lst 3 (x_1.map encPlate)), (5, .int .i64 (k_2 : Int))], hL [], 0⟩
    conv => whnf
    refine len_q (enc := encPlate) (l := x_0) rfl ?_
    conv => whnf
    refine ⟨fun h => ?_, fun h => ?_⟩
    · have hlt_k_2 : k_2 < x_0.length := by have h := of_decide_eq_true h; omega
      obtain ⟨e_3, h_e_3⟩ : ∃ y, x_0[k_2]? = some y := ⟨_, List.getElem?_eq_getElem hlt_k_2⟩
      rw [drop_cons h_e_3, ref06_SamePlates_L1.eq_2] at hL1
      conv => whnf
      refine ⟨k_2, _, rfl, ix_map h_e_3, ?_⟩
      conv => whnf
      obtain ⟨e_4, h_e_4, hL1⟩ := bind_some hL1
      refine ix_q (enc := encPlate) (l := x_1) h_e_4 rfl (fun m_e_4 hm_e_4 hx_e_4 => ?_)
      conv => whnf
      refine ⟨by kernel_rfl, ?_⟩
      conv => whnf
      refine ⟨fun hb_9 => ?_, fun hb_9 => ?_⟩
      · replace hL1 := cond_t hb_9 hL1
        conv => whnf
        obtain rfl := Option.some.inj hL1
        replace hF := fin_ret hF
        obtain rfl := Option.some.inj hF
        exact ret_gz [] [] [] rfl (argFl (by (conv => lhs; whnf); all_goals rfl)) trivial
      · replace hL1 := cond_f hb_9 hL1
        conv => whnf
        refine ⟨((k_2 + 1 : Nat) : Int), wrapE (by omega) (by omega) (by omega), ?_⟩
        conv => whnf
        exact ⟨k_2 + 1, [], [], [], ⟨hlt_k_2, hL1⟩, by show x_0.length - (k_2 + 1) < x_0.length - k_2; omega, wk_mk [] [] [] rfl ⟨argE (by (conv => lhs; whnf); all_goals rfl) rfl, argE (by (conv => lhs; whnf); all_goals rfl) rfl, argE (by (conv => lhs; whnf); all_goals rfl) rfl, trivial⟩ trivial⟩
    · rw [drop_nil (show x_0.length ≤ k_2 by have h := of_decide_eq_false h; omega), ref06_SamePlates_L1.eq_1] at hL1
      conv => whnf
      obtain rfl := Option.some.inj hL1
      replace hF := fin_brk hF
      try dsimp only at hF
      obtain rfl := Option.some.inj hF
      exact ret_gz [] [] [] rfl (argT (by (conv => lhs; whnf); all_goals rfl)) trivial

set_option maxRecDepth 100000 in
set_option maxHeartbeats 40000000 in
theorem registry_OfPassenger_f1_ac (x_0 : Bag) (x_1 : Flight) (x_2 : Int) (r : Bool) (hF : registry_OfPassenger_f1 x_0 x_1 x_2 = some r) : AC Try.prog 61 [.agg (encBag x_0), .iptr [.str x_1.Carrier, .int .i64 x_1.Number, .str x_1.Suffix, .int .i64 x_1.Day], .iptr [.int .i64 x_2]] [] (.bool r) [] := by
  refine ac_of tab_ok follows_ok Try.func61 rfl Try.ntmps61 rfl ?_
  unfold registry_OfPassenger_f1 at hF
  conv => whnf
  refine ⟨fun hb_2 => ?_, fun hb_2 => ?_⟩
  · replace hF := cond_t hb_2 hF
    conv => whnf
    obtain rfl := Option.some.inj hF
    exact ret_gz [] [] [] rfl (argE (by (conv => lhs; whnf); all_goals rfl) rfl) trivial
  · replace hF := cond_f hb_2 hF
    conv => whnf
    obtain rfl := Option.some.inj hF
    exact ret_gz [] [] [] rfl (argFl (by (conv => lhs; whnf); all_goals rfl)) trivial

set_option maxRecDepth 100000 in
set_option maxHeartbeats 40000000 in
theorem registry_chosen_v2_ac (x_0 : Registry) (x_1 : Flight) (x_2 : Int) (r : (List Plate) × Flight × Int) (hF : registry_chosen_v2 x_0 x_1 x_2 = some r) : AC Try.prog 59 [.agg (encRegistry x_0), .fn 61 [.ptr 0 0, .ptr 1 0]] [.box (encFlight x_1), .box ([.int .i64 x_2])] (.lst 3 (r.1.map encPlate)) [.box (encFlight r.2.1), .box ([.int .i64 r.2.2])] := by
  refine ac_of tab_ok follows_ok Try.func59 rfl Try.ntmps59 rfl ?_
  unfold registry_chosen_v2 at hF
  conv => whnf
  obtain ⟨r_1, h_r_1, hF⟩ := bind_some hF
  refine ⟨_, _, _, _, _, _, _, _, callX false [] [] Try.func17 (by decide) rfl (registry_Validate_ac x_0 r_1 h_r_1) rfl ⟨(argE (by (conv => lhs; whnf); all_goals rfl) rfl), trivial⟩ rfl trivial rfl rfl rfl lend0 trivial, ?_⟩
  conv => whnf
  refine ⟨fun hb_8 => ?_, fun hb_8 => ?_⟩
  · replace hF := cond_t hb_8 hF
    conv => whnf
    obtain rfl := Option.some.inj hF
    exact ret_gz [0, 1] [] [] rfl (argN (by (conv => lhs; whnf); all_goals rfl)) ⟨boxL rfl rfl rfl ⟨(.ni _ rfl), (.ni _ rfl), (.ni _ rfl), (.ni _ rfl), trivial⟩, boxL rfl rfl rfl ⟨(.ni _ rfl), trivial⟩, trivial⟩
  · replace hF := cond_f hb_8 hF
    conv => whnf
    refine len_q (enc := encBag) (l := x_0.L) rfl ?_
    conv => whnf
    obtain ⟨c_1, hc_1, hF⟩ := fin_some hF
    refine sw_bv 0 (v := .agg [.lst 25 (x_0.L.map encBag)]) (by (conv => lhs; whnf); all_goals rfl) (fun hb => ?_)
    have hbd_k_4 : x_0.L.length ≤ 9223372036854775807 := bnd_len (enc := encBag) ((bnd_at hb.cell 0 rfl))
    refine sw_loop tab_ok follows_ok (fun y : Nat × (List Plate) => y.1 ≤ x_0.L.length ∧ registry_chosen_v2_L1 x_1 x_2 (x_0.L.drop y.1) y.1 y.2 = some c_1) (fun y => ⟨eL [(1, .fn 61 [.ptr 0 0, .ptr 1 0]), (5, .osl 2), (12, .lst 25 (x_0.L.map encBag)), (13, .int .i64 (x_0.L.length : Int)), (14, .int .i64 (y.1 : Int))], hL [(0, .box [.str x_1.Carrier, .int .i64 x_1.Number, .str x_1.Suffix, .int .i64 x_1.Day]), (1, .box [.int .i64 x_2]), (2, .row 3 (y.2.map encPlate))], 3⟩) (fun y => x_0.L.length - y.1) (0, ([] : List Plate)) ⟨Nat.zero_le _, hc_1⟩ (wk_mk [0, 1] [2] [] rfl ⟨argFn (c := [.ptr 0 0, .ptr 1 0]) (by (conv => lhs; whnf); all_goals rfl) rfl ⟨(.ptr 0 0 0 rfl), (.ptr 1 0 1 rfl), trivial⟩, argZ (by (conv => lhs; whnf); all_goals rfl) rfl, argE (by (conv => lhs; whnf); all_goals rfl) rfl, argE (by (conv => lhs; whnf); all_goals rfl) rfl, argE (by (conv => lhs; whnf); all_goals rfl) rfl, trivial⟩ ⟨boxL rfl rfl rfl ⟨(.ni _ rfl), (.ni _ rfl), (.ni _ rfl), (.ni _ rfl), trivial⟩, boxL rfl rfl rfl ⟨(.ni _ rfl), trivial⟩, blkZ rfl, trivial⟩) ?_
    rintro ⟨k_4, a_2⟩ ⟨hk_k_4, hL1⟩
    try dsimp only at hk_k_4 hL1
    show awp _ _ _ _ _ _ ⟨eL [(1, .fn 61 [.ptr 0 0, .ptr 1 0]), (5, .osl 2), (12, .lst 25 (x_0.L.map encBag)), (13, .int .i64 (x_0.L.length : Int)), (14, .int .i64 (k_4 : Int))], hL [(0, .box [.str x_1.Carrier, .int .i64 x_1.Number, .str x_1.Suffix, .int .i64 x_1.Day]), (1, .box [.int .i64 x_2]), (2, .row 3 (a_2.map encPlate))], 3⟩
    conv => whnf
    refine ⟨fun h => ?_, fun h => ?_⟩
    · have hlt_k_4 : k_4 < x_0.L.length := by have h := of_decide_eq_true h; omega
      obtain ⟨e_5, h_e_5⟩ : ∃ y, x_0.L[k_4]? = some y := ⟨_, List.getElem?_eq_getElem hlt_k_4⟩
      rw [drop_cons h_e_5, registry_chosen_v2_L1.eq_2] at hL1
      conv => whnf
      refine ⟨k_4, _, rfl, ix_map h_e_5, ?_⟩
      conv => whnf
      obtain ⟨r_6, h_r_6, hL1⟩ := bind_some hL1
      refine ⟨_, _, _, _, _, _, _, _, callX false [] [0, 1] Try.func61 (by decide) rfl (registry_OfPassenger_f1_ac e_5 x_1 x_2 r_6 h_r_6) rfl ⟨(argE (by (conv => lhs; whnf); all_goals rfl) rfl), (argIb 0 _ (by (conv => lhs; whnf); all_goals rfl) rfl rfl rfl rfl), (argIb 1 _ (by (conv => lhs; whnf); all_goals rfl) rfl rfl rfl rfl), trivial⟩ rfl trivial rfl rfl rfl (lendF rfl) trivial, ?_⟩
      conv => whnf
      refine ⟨fun hb_9 => ?_, fun hb_9 => ?_⟩
      · replace hL1 := cond_t hb_9 hL1
        conv => whnf
        obtain ⟨l_7, h_l_7, hL1⟩ := bind_some hL1
        refine ap_q (enc := encPlate) (l := a_2) (y := ([e_5.Plate] : List Plate)) h_l_7 rfl rfl (by decide) ?_
        conv => whnf
        refine ⟨((k_4 + 1 : Nat) : Int), wrapE (by omega) (by omega) (by omega), ?_⟩
        conv => whnf
        exact ⟨(k_4 + 1, l_7), [0, 1, 6], [], [], ⟨hlt_k_4, hL1⟩, by show x_0.L.length - (k_4 + 1) < x_0.L.length - k_4; omega, wk_mk [0, 1, 6] [] [] rfl ⟨argFn (c := [.ptr 0 0, .ptr 1 0]) (by (conv => lhs; whnf); all_goals rfl) rfl ⟨(.ptr 0 0 0 rfl), (.ptr 1 0 1 rfl), trivial⟩, argO (id := 6) (by (conv => lhs; whnf); all_goals rfl) rfl, argE (by (conv => lhs; whnf); all_goals rfl) rfl, argE (by (conv => lhs; whnf); all_goals rfl) rfl, argE (by (conv => lhs; whnf); all_goals rfl) rfl, trivial⟩ ⟨boxL rfl rfl rfl ⟨(.ni _ rfl), (.ni _ rfl), (.ni _ rfl), (.ni _ rfl), trivial⟩, boxL rfl rfl rfl ⟨(.ni _ rfl), trivial⟩, blkR (fun _ => ⟨rfl, rfl⟩) rfl rfl, trivial⟩⟩
      · replace hL1 := cond_f hb_9 hL1
        conv => whnf
        refine ⟨((k_4 + 1 : Nat) : Int), wrapE (by omega) (by omega) (by omega), ?_⟩
        conv => whnf
        exact ⟨(k_4 + 1, a_2), [0, 1, 2], [], [], ⟨hlt_k_4, hL1⟩, by show x_0.L.length - (k_4 + 1) < x_0.L.length - k_4; omega, wk_mk [0, 1, 2] [] [] rfl ⟨argFn (c := [.ptr 0 0, .ptr 1 0]) (by (conv => lhs; whnf); all_goals rfl) rfl ⟨(.ptr 0 0 0 rfl), (.ptr 1 0 1 rfl), trivial⟩, argO (id := 2) (by (conv => lhs; whnf); all_goals rfl) rfl, argE (by (conv => lhs; whnf); all_goals rfl) rfl, argE (by (conv => lhs; whnf); all_goals rfl) rfl, argE (by (conv => lhs; whnf); all_goals rfl) rfl, trivial⟩ ⟨boxL rfl rfl rfl ⟨(.ni _ rfl), (.ni _ rfl), (.ni _ rfl), (.ni _ rfl), trivial⟩, boxL rfl rfl rfl ⟨(.ni _ rfl), trivial⟩, blkR (fun _ => ⟨rfl, rfl⟩) rfl rfl, trivial⟩⟩
    · rw [drop_nil (show x_0.L.length ≤ k_4 by have h := of_decide_eq_false h; omega), registry_chosen_v2_L1.eq_1] at hL1
      conv => whnf
      obtain rfl := Option.some.inj hL1
      replace hF := fin_brk hF
      try dsimp only at hF
      obtain rfl := Option.some.inj hF
      exact ret_gz [0, 1] [] [2] rfl (argOL 2 (by (conv => lhs; whnf); all_goals rfl) rfl rfl (map_ni (fun _ => ⟨rfl, rfl⟩) _)) ⟨boxL rfl rfl rfl ⟨(.ni _ rfl), (.ni _ rfl), (.ni _ rfl), (.ni _ rfl), trivial⟩, boxL rfl rfl rfl ⟨(.ni _ rfl), trivial⟩, trivial⟩

set_option maxRecDepth 100000 in
set_option maxHeartbeats 40000000 in
theorem registry_OfPassenger_ac (x_0 : Registry) (x_1 : Flight) (x_2 : Int) (r : (List Plate)) (hF : registry_OfPassenger x_0 x_1 x_2 = some r) : AC Try.prog 32 [.agg (encRegistry x_0), .agg (encFlight x_1), .int .i64 x_2] [] (.lst 3 (r.map encPlate)) [] := by
  refine ac_of tab_ok follows_ok Try.func32 rfl Try.ntmps32 rfl ?_
  unfold registry_OfPassenger at hF
  conv => whnf
  obtain ⟨r_1, h_r_1, hF⟩ := bind_some hF
  refine ⟨_, _, _, _, _, _, _, _, callX false [1, 2] [] Try.func59 (by decide) rfl (registry_chosen_v2_ac x_0 x_1 x_2 r_1 h_r_1) rfl ⟨(argE (by (conv => lhs; whnf); all_goals rfl) rfl), (argFn (c := [.ptr 1 0, .ptr 2 0]) (by (conv => lhs; whnf); all_goals rfl) rfl ⟨(.ptr 1 0 0 rfl), (.ptr 2 0 1 rfl), trivial⟩), trivial⟩ rfl ⟨rfl, rfl, trivial⟩ rfl rfl rfl lend0 ⟨rfl, rfl, trivial⟩, ?_⟩
  conv => whnf
  obtain rfl := Option.some.inj hF
  exact ret_gz [] [] [] rfl (argE (by (conv => lhs; whnf); all_goals rfl) rfl) trivial
end Go.Proofs.Ytkliakcegihikaa.Ex
