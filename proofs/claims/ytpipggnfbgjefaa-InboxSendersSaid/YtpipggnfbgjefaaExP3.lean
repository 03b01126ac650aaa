/- The functions of the program compute what was printed; walks printed by a program. -/
import Derived.Test.YtpipggnfbgjefaaExF
import Derived.Test.YtpipggnfbgjefaaExP1
import Derived.Test.YtpipggnfbgjefaaExP2
namespace Go.Proofs.Ytpipggnfbgjefaa.Ex
open Go.RowKit Go.Proofs.Ytpipggnfbgjefaa.Ax
set_option linter.unusedVariables false
set_option linter.unusedSimpArgs false
set_option maxRecDepth 100000 in
set_option maxHeartbeats 40000000 in
theorem keep_Src_Message_ac (x_0 : Src) (x_1 : Int) (r : Message × Src) (hF : keep_Src_Message x_0 x_1 = some r) : AC Try.prog 18 [.ptr 0 0, .int .i64 x_1] [.box (encSrc x_0)] (.agg (encMessage r.1)) [.box (encSrc r.2)] := by
  refine ac_of tab_ok follows_ok Try.func18 rfl Try.ntmps18 rfl ?_
  unfold keep_Src_Message at hF
  conv => whnf
  refine ⟨fun hb_34 => ?_, fun hb_34 => ?_⟩
  · replace hF := cond_t hb_34 hF
    conv => whnf
    obtain ⟨r_1, h_r_1, hF⟩ := bind_some hF
    refine ⟨_, _, _, _, _, _, _, _, _, callX false [0] [] 0 Try.func11 (by decide) rfl (keep_Src_Range_ac x_0 (1 : Int) (5 : Int) r_1 h_r_1) rfl ⟨(argP (id := 0) (by (conv => lhs; whnf); all_goals rfl) rfl), (argE (by (conv => lhs; whnf); all_goals rfl) rfl), (argE (by (conv => lhs; whnf); all_goals rfl) rfl), trivial⟩ rfl ⟨rfl, trivial⟩ rfl rfl rfl lend0 ⟨rfl, trivial⟩ rfl, ?_⟩
    conv => whnf
    obtain ⟨r_2, h_r_2, hF⟩ := bind_some hF
    refine ⟨_, _, _, _, _, _, _, _, _, callX true [0] [3] 0 Try.func24 (by decide) rfl (keep_Src_Text_ac r_1.2 ([(⟨#[65, 82, 78]⟩ : ByteArray), (⟨#[67, 80, 72]⟩ : ByteArray)] : List ByteArray) r_2 h_r_2) rfl ⟨(argP (id := 0) (by (conv => lhs; whnf); all_goals rfl) rfl), (argOL 3 (by (conv => lhs; whnf); all_goals rfl) rfl rfl (map_ni (fun _ => ⟨rfl, rfl⟩) _)), trivial⟩ rfl ⟨rfl, trivial⟩ rfl rfl rfl giveU ⟨rfl, trivial⟩ rfl, ?_⟩
    conv => whnf
    obtain ⟨r_3, h_r_3, hF⟩ := bind_some hF
    refine ⟨_, _, _, _, _, _, _, _, _, callX false [0] [] 0 Try.func11 (by decide) rfl (keep_Src_Range_ac r_2.2 (1 : Int) (12 : Int) r_3 h_r_3) rfl ⟨(argP (id := 0) (by (conv => lhs; whnf); all_goals rfl) rfl), (argE (by (conv => lhs; whnf); all_goals rfl) rfl), (argE (by (conv => lhs; whnf); all_goals rfl) rfl), trivial⟩ rfl ⟨rfl, trivial⟩ rfl rfl rfl lend0 ⟨rfl, trivial⟩ rfl, ?_⟩
    conv => whnf
    refine ⟨fun hb_35 => ?_, fun hb_35 => ?_⟩
    · replace hF := cond_t hb_35 hF
      conv => whnf
      obtain ⟨r_4, h_r_4, hF⟩ := bind_some hF
      refine ⟨_, _, _, _, _, _, _, _, _, callX false [0] [] 0 Try.func41 (by decide) rfl (keep_Src_AnyPlate_ac r_3.2 r_4 h_r_4) rfl ⟨(argP (id := 0) (by (conv => lhs; whnf); all_goals rfl) rfl), trivial⟩ rfl ⟨rfl, trivial⟩ rfl rfl rfl lend0 ⟨rfl, trivial⟩ rfl, ?_⟩
      conv => whnf
      obtain ⟨r_5, h_r_5, hF⟩ := bind_some hF
      refine ⟨_, _, _, _, _, _, _, _, _, callX false [0] [] 0 Try.func11 (by decide) rfl (keep_Src_Range_ac r_4.2 (1 : Int) (3 : Int) r_5 h_r_5) rfl ⟨(argP (id := 0) (by (conv => lhs; whnf); all_goals rfl) rfl), (argE (by (conv => lhs; whnf); all_goals rfl) rfl), (argE (by (conv => lhs; whnf); all_goals rfl) rfl), trivial⟩ rfl ⟨rfl, trivial⟩ rfl rfl rfl lend0 ⟨rfl, trivial⟩ rfl, ?_⟩
      conv => whnf
      obtain ⟨r_6, h_r_6, hF⟩ := bind_some hF
      refine ⟨_, _, _, _, _, _, _, _, _, callX false [0] [] 0 Try.func42 (by decide) rfl (keep_Src_Letters_ac r_5.2 (1 : Int) (4 : Int) r_6 h_r_6) rfl ⟨(argP (id := 0) (by (conv => lhs; whnf); all_goals rfl) rfl), (argE (by (conv => lhs; whnf); all_goals rfl) rfl), (argE (by (conv => lhs; whnf); all_goals rfl) rfl), trivial⟩ rfl ⟨rfl, trivial⟩ rfl rfl rfl lend0 ⟨rfl, trivial⟩ rfl, ?_⟩
      conv => whnf
      obtain rfl := Option.some.inj hF
      exact ret_gz [0] [] [] rfl (argA (c := [.int .i64 r_1.1, .int .i64 (0 : Int), .str r_2.1, .int .i64 r_3.1, .str (⟨#[]⟩ : ByteArray), .int .i64 (0 : Int), .str (⟨#[]⟩ : ByteArray), .int .i64 (0 : Int), .str (⟨#[]⟩ : ByteArray), .str (⟨#[]⟩ : ByteArray), .str (⟨#[]⟩ : ByteArray), .int .i64 (0 : Int), .str (⟨#[]⟩ : ByteArray), .int .i64 (0 : Int), .str (⟨#[]⟩ : ByteArray), .str (⟨#[]⟩ : ByteArray), .nils, .int .i64 r_4.1.Lead, .int .i64 r_4.1.Airline, .int .i64 r_4.1.Serial, .int .i64 r_5.1, .fls, .int .i64 (0 : Int), .int .i64 (0 : Int), .int .i64 (0 : Int), .str (⟨#[]⟩ : ByteArray), .str (⟨#[]⟩ : ByteArray), .int .i64 (0 : Int), .str r_6.1, .nils]) (by (conv => lhs; whnf); all_goals rfl) rfl ⟨(.ni _ rfl), (.ni _ rfl), (.ni _ rfl), (.ni _ rfl), (.ni _ rfl), (.ni _ rfl), (.ni _ rfl), (.ni _ rfl), (.ni _ rfl), (.ni _ rfl), (.ni _ rfl), (.ni _ rfl), (.ni _ rfl), (.ni _ rfl), (.ni _ rfl), (.ni _ rfl), (.nils _), (.ni _ rfl), (.ni _ rfl), (.ni _ rfl), (.ni _ rfl), .fls, (.ni _ rfl), (.ni _ rfl), (.ni _ rfl), (.ni _ rfl), (.ni _ rfl), (.ni _ rfl), (.ni _ rfl), (.nils _), trivial⟩) ⟨boxL rfl rfl rfl ⟨(.ni _ rfl), (.ni _ rfl), trivial⟩, trivial⟩
    · replace hF := cond_f hb_35 hF
      conv => whnf
      refine ⟨fun hb_36 => ?_, fun hb_36 => ?_⟩
      · replace hF := cond_t hb_36 hF
        conv => whnf
        obtain ⟨r_7, h_r_7, hF⟩ := bind_some hF
        refine ⟨_, _, _, _, _, _, _, _, _, callX false [0] [] 0 Try.func41 (by decide) rfl (keep_Src_AnyPlate_ac r_3.2 r_7 h_r_7) rfl ⟨(argP (id := 0) (by (conv => lhs; whnf); all_goals rfl) rfl), trivial⟩ rfl ⟨rfl, trivial⟩ rfl rfl rfl lend0 ⟨rfl, trivial⟩ rfl, ?_⟩
        conv => whnf
        obtain ⟨r_8, h_r_8, hF⟩ := bind_some hF
        refine ⟨_, _, _, _, _, _, _, _, _, callX false [0] [] 0 Try.func11 (by decide) rfl (keep_Src_Range_ac r_7.2 (1 : Int) (3 : Int) r_8 h_r_8) rfl ⟨(argP (id := 0) (by (conv => lhs; whnf); all_goals rfl) rfl), (argE (by (conv => lhs; whnf); all_goals rfl) rfl), (argE (by (conv => lhs; whnf); all_goals rfl) rfl), trivial⟩ rfl ⟨rfl, trivial⟩ rfl rfl rfl lend0 ⟨rfl, trivial⟩ rfl, ?_⟩
        conv => whnf
        obtain ⟨r_9, h_r_9, hF⟩ := bind_some hF
        refine ⟨_, _, _, _, _, _, _, _, _, callX false [0] [] 0 Try.func43 (by decide) rfl (keep_Src_Leg_ac r_8.2 r_9 h_r_9) rfl ⟨(argP (id := 0) (by (conv => lhs; whnf); all_goals rfl) rfl), trivial⟩ rfl ⟨rfl, trivial⟩ rfl rfl rfl lend0 ⟨rfl, trivial⟩ rfl, ?_⟩
        conv => whnf
        obtain rfl := Option.some.inj hF
        exact ret_gz [0] [] [] rfl (argA (c := [.int .i64 r_1.1, .int .i64 (0 : Int), .str r_2.1, .int .i64 r_3.1, .str (⟨#[]⟩ : ByteArray), .int .i64 (0 : Int), .str (⟨#[]⟩ : ByteArray), .int .i64 (0 : Int), .str (⟨#[]⟩ : ByteArray), .str (⟨#[]⟩ : ByteArray), .str r_9.1.Flight.Carrier, .int .i64 r_9.1.Flight.Number, .str r_9.1.Flight.Suffix, .int .i64 r_9.1.Flight.Day, .str r_9.1.Port, .str r_9.1.Class, .nils, .int .i64 r_7.1.Lead, .int .i64 r_7.1.Airline, .int .i64 r_7.1.Serial, .int .i64 r_8.1, .fls, .int .i64 (0 : Int), .int .i64 (0 : Int), .int .i64 (0 : Int), .str (⟨#[]⟩ : ByteArray), .str (⟨#[]⟩ : ByteArray), .int .i64 (0 : Int), .str (⟨#[]⟩ : ByteArray), .nils]) (by (conv => lhs; whnf); all_goals rfl) rfl ⟨(.ni _ rfl), (.ni _ rfl), (.ni _ rfl), (.ni _ rfl), (.ni _ rfl), (.ni _ rfl), (.ni _ rfl), (.ni _ rfl), (.ni _ rfl), (.ni _ rfl), (.ni _ rfl), (.ni _ rfl), (.ni _ rfl), (.ni _ rfl), (.ni _ rfl), (.ni _ rfl), (.nils _), (.ni _ rfl), (.ni _ rfl), (.ni _ rfl), (.ni _ rfl), .fls, (.ni _ rfl), (.ni _ rfl), (.ni _ rfl), (.ni _ rfl), (.ni _ rfl), (.ni _ rfl), (.ni _ rfl), (.nils _), trivial⟩) ⟨boxL rfl rfl rfl ⟨(.ni _ rfl), (.ni _ rfl), trivial⟩, trivial⟩
      · replace hF := cond_f hb_36 hF
        conv => whnf
        refine ⟨fun hb_37 => ?_, fun hb_37 => ?_⟩
        · replace hF := cond_t hb_37 hF
          conv => whnf
          obtain ⟨r_10, h_r_10, hF⟩ := bind_some hF
          refine ⟨_, _, _, _, _, _, _, _, _, callX false [0] [] 0 Try.func43 (by decide) rfl (keep_Src_Leg_ac r_3.2 r_10 h_r_10) rfl ⟨(argP (id := 0) (by (conv => lhs; whnf); all_goals rfl) rfl), trivial⟩ rfl ⟨rfl, trivial⟩ rfl rfl rfl lend0 ⟨rfl, trivial⟩ rfl, ?_⟩
          conv => whnf
          obtain ⟨r_11, h_r_11, hF⟩ := bind_some hF
          refine ⟨_, _, _, _, _, _, _, _, _, callX false [0] [] 0 Try.func23 (by decide) rfl (keep_Src_N_ac r_10.2 (12 : Int) r_11 h_r_11) rfl ⟨(argP (id := 0) (by (conv => lhs; whnf); all_goals rfl) rfl), (argE (by (conv => lhs; whnf); all_goals rfl) rfl), trivial⟩ rfl ⟨rfl, trivial⟩ rfl rfl rfl lend0 ⟨rfl, trivial⟩ rfl, ?_⟩
          conv => whnf
          obtain ⟨c_1, hc_1, hF⟩ := fin_some hF
          refine sw_loop tab_ok follows_ok (fun y : Nat × (List Int) × Int × (List Int) × Int × Int => keep_Src_Message_L1 y.1 y.2.1 y.2.2.1 y.2.2.2.1 y.2.2.2.2.1 y.2.2.2.2.2 = some c_1) (fun y => ⟨eL [(0, .ptr 0 0), (4, .ptr 1 0), (5, .ptr 2 0), (6, .int .i64 y.2.2.2.2.1), (7, .int .i64 y.2.2.2.2.2)], hL [(0, .box [.lst 1 (y.2.1.map iA), .int .i64 y.2.2.1]), (1, .box [.int .i64 (0 : Int), .int .i64 (0 : Int), .str (⟨#[]⟩ : ByteArray), .int .i64 (0 : Int), .str (⟨#[]⟩ : ByteArray), .int .i64 (0 : Int), .str (⟨#[]⟩ : ByteArray), .int .i64 (0 : Int), .str (⟨#[]⟩ : ByteArray), .str (⟨#[]⟩ : ByteArray), .str (⟨#[]⟩ : ByteArray), .int .i64 (0 : Int), .str (⟨#[]⟩ : ByteArray), .int .i64 (0 : Int), .str (⟨#[]⟩ : ByteArray), .str (⟨#[]⟩ : ByteArray), .nils, .int .i64 (0 : Int), .int .i64 (0 : Int), .int .i64 (0 : Int), .int .i64 (0 : Int), .fls, .int .i64 (0 : Int), .int .i64 (0 : Int), .int .i64 (0 : Int), .str (⟨#[]⟩ : ByteArray), .str (⟨#[]⟩ : ByteArray), .int .i64 (0 : Int), .str (⟨#[]⟩ : ByteArray), .nils]), (2, .box [.int .i64 r_1.1, .int .i64 (0 : Int), .str r_2.1, .int .i64 r_3.1, .str (⟨#[]⟩ : ByteArray), .int .i64 (0 : Int), .str (⟨#[]⟩ : ByteArray), .int .i64 (0 : Int), .str (⟨#[]⟩ : ByteArray), .str (⟨#[]⟩ : ByteArray), .str r_10.1.Flight.Carrier, .int .i64 r_10.1.Flight.Number, .str r_10.1.Flight.Suffix, .int .i64 r_10.1.Flight.Day, .str r_10.1.Port, .str r_10.1.Class, .nils, .int .i64 (0 : Int), .int .i64 (0 : Int), .int .i64 (0 : Int), .int .i64 (0 : Int), .fls, .int .i64 (0 : Int), .int .i64 (0 : Int), .int .i64 (0 : Int), .str (⟨#[]⟩ : ByteArray), .str (⟨#[]⟩ : ByteArray), .int .i64 (0 : Int), .str (⟨#[]⟩ : ByteArray), .osl 3]), (3, .row 1 (y.2.2.2.1.map iA))], 4⟩) (fun y => y.1) (9223372036854775807, r_11.2.L, r_11.2.At, ([] : List Int), (0 : Int), r_11.1) hc_1 (wk_mk [0, 1, 6] [3] [] rfl ⟨argP (id := 0) (by (conv => lhs; whnf); all_goals rfl) rfl, argP (id := 1) (by (conv => lhs; whnf); all_goals rfl) rfl, argP (id := 6) (by (conv => lhs; whnf); all_goals rfl) rfl, argE (by (conv => lhs; whnf); all_goals rfl) rfl, argE (by (conv => lhs; whnf); all_goals rfl) rfl, trivial⟩ ⟨boxL rfl rfl rfl ⟨(.ni _ rfl), (.ni _ rfl), trivial⟩, boxL rfl rfl rfl ⟨(.ni _ rfl), (.ni _ rfl), (.ni _ rfl), (.ni _ rfl), (.ni _ rfl), (.ni _ rfl), (.ni _ rfl), (.ni _ rfl), (.ni _ rfl), (.ni _ rfl), (.ni _ rfl), (.ni _ rfl), (.ni _ rfl), (.ni _ rfl), (.ni _ rfl), (.ni _ rfl), (.ni _ rfl), (.ni _ rfl), (.ni _ rfl), (.ni _ rfl), (.ni _ rfl), (.ni _ rfl), (.ni _ rfl), (.ni _ rfl), (.ni _ rfl), (.ni _ rfl), (.ni _ rfl), (.ni _ rfl), (.ni _ rfl), (.ni _ rfl), trivial⟩, boxL rfl rfl rfl ⟨(.ni _ rfl), (.ni _ rfl), (.ni _ rfl), (.ni _ rfl), (.ni _ rfl), (.ni _ rfl), (.ni _ rfl), (.ni _ rfl), (.ni _ rfl), (.ni _ rfl), (.ni _ rfl), (.ni _ rfl), (.ni _ rfl), (.ni _ rfl), (.ni _ rfl), (.ni _ rfl), (.ni _ rfl), (.ni _ rfl), (.ni _ rfl), (.ni _ rfl), (.ni _ rfl), (.ni _ rfl), (.ni _ rfl), (.ni _ rfl), (.ni _ rfl), (.ni _ rfl), (.ni _ rfl), (.ni _ rfl), (.ni _ rfl), (.nilz 3 (by simp)), trivial⟩, blkZ rfl, trivial⟩) ?_
          rintro ⟨q_19, a_12, i_13, a_14, i_15, i_16⟩ hL1
          try dsimp only at hL1
          rcases q_19 with _ | q_19
          · rw [keep_Src_Message_L1.eq_1] at hL1
            cases hL1
          rw [keep_Src_Message_L1.eq_2] at hL1
          show awp _ _ _ _ _ _ ⟨eL [(0, .ptr 0 0), (4, .ptr 1 0), (5, .ptr 2 0), (6, .int .i64 i_15), (7, .int .i64 i_16)], hL [(0, .box [.lst 1 (a_12.map iA), .int .i64 i_13]), (1, .box [.int .i64 (0 : Int), .int .i64 (0 : Int), .str (⟨#[]⟩ : ByteArray), .int .i64 (0 : Int), .str (⟨#[]⟩ : ByteArray), .int .i64 (0 : Int), .str (⟨#[]⟩ : ByteArray), .int .i64 (0 : Int), .str (⟨#[]⟩ : ByteArray), .str (⟨#[]⟩ : ByteArray), .str (⟨#[]⟩ : ByteArray), .int .i64 (0 : Int), .str (⟨#[]⟩ : ByteArray), .int .i64 (0 : Int), .str (⟨#[]⟩ : ByteArray), .str (⟨#[]⟩ : ByteArray), .nils, .int .i64 (0 : Int), .int .i64 (0 : Int), .int .i64 (0 : Int), .int .i64 (0 : Int), .fls, .int .i64 (0 : Int), .int .i64 (0 : Int), .int .i64 (0 : Int), .str (⟨#[]⟩ : ByteArray), .str (⟨#[]⟩ : ByteArray), .int .i64 (0 : Int), .str (⟨#[]⟩ : ByteArray), .nils]), (2, .box [.int .i64 r_1.1, .int .i64 (0 : Int), .str r_2.1, .int .i64 r_3.1, .str (⟨#[]⟩ : ByteArray), .int .i64 (0 : Int), .str (⟨#[]⟩ : ByteArray), .int .i64 (0 : Int), .str (⟨#[]⟩ : ByteArray), .str (⟨#[]⟩ : ByteArray), .str r_10.1.Flight.Carrier, .int .i64 r_10.1.Flight.Number, .str r_10.1.Flight.Suffix, .int .i64 r_10.1.Flight.Day, .str r_10.1.Port, .str r_10.1.Class, .nils, .int .i64 (0 : Int), .int .i64 (0 : Int), .int .i64 (0 : Int), .int .i64 (0 : Int), .fls, .int .i64 (0 : Int), .int .i64 (0 : Int), .int .i64 (0 : Int), .str (⟨#[]⟩ : ByteArray), .str (⟨#[]⟩ : ByteArray), .int .i64 (0 : Int), .str (⟨#[]⟩ : ByteArray), .osl 3]), (3, .row 1 (a_14.map iA))], 4⟩
          conv => whnf
          refine ⟨fun hb_38 => ?_, fun hb_38 => ?_⟩
          · replace hL1 := cond_t hb_38 hL1
            conv => whnf
            obtain ⟨r_17, h_r_17, hL1⟩ := bind_some hL1
            refine ⟨_, _, _, _, _, _, _, _, _, callX false [0] [] 0 Try.func11 (by decide) rfl (keep_Src_Range_ac (⟨a_12, i_13⟩ : Src) (1 : Int) (3 : Int) r_17 h_r_17) rfl ⟨(argP (id := 0) (by (conv => lhs; whnf); all_goals rfl) rfl), (argE (by (conv => lhs; whnf); all_goals rfl) rfl), (argE (by (conv => lhs; whnf); all_goals rfl) rfl), trivial⟩ rfl ⟨rfl, trivial⟩ rfl rfl rfl lend0 ⟨rfl, trivial⟩ rfl, ?_⟩
            conv => whnf
            refine ⟨_, rfl, ?_⟩
            conv => whnf
            obtain ⟨l_18, h_l_18, hL1⟩ := bind_some hL1
            refine ap_q (enc := iA) (l := a_14) (y := ([(w64 (i_15 + r_17.1))] : List Int)) h_l_18 rfl rfl (by decide) ?_
            conv => whnf
            refine ⟨_, rfl, ?_⟩
            conv => whnf
            exact ⟨(q_19, r_17.2.L, r_17.2.At, l_18, (w64 (i_15 + r_17.1)), (w64 (i_16 - (1 : Int)))), [0, 1, 2, 6], [], [], hL1, Nat.lt_succ_self _, wk_mk [0, 1, 2, 6] [] [] rfl ⟨argP (id := 0) (by (conv => lhs; whnf); all_goals rfl) rfl, argP (id := 1) (by (conv => lhs; whnf); all_goals rfl) rfl, argP (id := 2) (by (conv => lhs; whnf); all_goals rfl) rfl, argE (by (conv => lhs; whnf); all_goals rfl) rfl, argE (by (conv => lhs; whnf); all_goals rfl) rfl, trivial⟩ ⟨boxL rfl rfl rfl ⟨(.ni _ rfl), (.ni _ rfl), trivial⟩, boxL rfl rfl rfl ⟨(.ni _ rfl), (.ni _ rfl), (.ni _ rfl), (.ni _ rfl), (.ni _ rfl), (.ni _ rfl), (.ni _ rfl), (.ni _ rfl), (.ni _ rfl), (.ni _ rfl), (.ni _ rfl), (.ni _ rfl), (.ni _ rfl), (.ni _ rfl), (.ni _ rfl), (.ni _ rfl), (.ni _ rfl), (.ni _ rfl), (.ni _ rfl), (.ni _ rfl), (.ni _ rfl), (.ni _ rfl), (.ni _ rfl), (.ni _ rfl), (.ni _ rfl), (.ni _ rfl), (.ni _ rfl), (.ni _ rfl), (.ni _ rfl), (.ni _ rfl), trivial⟩, boxL rfl rfl rfl ⟨(.ni _ rfl), (.ni _ rfl), (.ni _ rfl), (.ni _ rfl), (.ni _ rfl), (.ni _ rfl), (.ni _ rfl), (.ni _ rfl), (.ni _ rfl), (.ni _ rfl), (.ni _ rfl), (.ni _ rfl), (.ni _ rfl), (.ni _ rfl), (.ni _ rfl), (.ni _ rfl), (.ni _ rfl), (.ni _ rfl), (.ni _ rfl), (.ni _ rfl), (.ni _ rfl), (.ni _ rfl), (.ni _ rfl), (.ni _ rfl), (.ni _ rfl), (.ni _ rfl), (.ni _ rfl), (.ni _ rfl), (.ni _ rfl), (.oslg 6 3 rfl), trivial⟩, blkR (fun _ => ⟨rfl, rfl⟩) rfl rfl, trivial⟩⟩
          · replace hL1 := cond_f hb_38 hL1
            conv => whnf
            obtain rfl := Option.some.inj hL1
            replace hF := fin_brk hF
            try dsimp only at hF
            obtain rfl := Option.some.inj hF
            exact ret_gz [0] [] [3] rfl (argA (c := [.int .i64 r_1.1, .int .i64 (0 : Int), .str r_2.1, .int .i64 r_3.1, .str (⟨#[]⟩ : ByteArray), .int .i64 (0 : Int), .str (⟨#[]⟩ : ByteArray), .int .i64 (0 : Int), .str (⟨#[]⟩ : ByteArray), .str (⟨#[]⟩ : ByteArray), .str r_10.1.Flight.Carrier, .int .i64 r_10.1.Flight.Number, .str r_10.1.Flight.Suffix, .int .i64 r_10.1.Flight.Day, .str r_10.1.Port, .str r_10.1.Class, .nils, .int .i64 (0 : Int), .int .i64 (0 : Int), .int .i64 (0 : Int), .int .i64 (0 : Int), .fls, .int .i64 (0 : Int), .int .i64 (0 : Int), .int .i64 (0 : Int), .str (⟨#[]⟩ : ByteArray), .str (⟨#[]⟩ : ByteArray), .int .i64 (0 : Int), .str (⟨#[]⟩ : ByteArray), .osl 3]) (by (conv => lhs; whnf); all_goals rfl) rfl ⟨(.ni _ rfl), (.ni _ rfl), (.ni _ rfl), (.ni _ rfl), (.ni _ rfl), (.ni _ rfl), (.ni _ rfl), (.ni _ rfl), (.ni _ rfl), (.ni _ rfl), (.ni _ rfl), (.ni _ rfl), (.ni _ rfl), (.ni _ rfl), (.ni _ rfl), (.ni _ rfl), (.nils _), (.ni _ rfl), (.ni _ rfl), (.ni _ rfl), (.ni _ rfl), .fls, (.ni _ rfl), (.ni _ rfl), (.ni _ rfl), (.ni _ rfl), (.ni _ rfl), (.ni _ rfl), (.ni _ rfl), (.osl 3 1 _ (by simp) rfl (map_ni (fun _ => ⟨rfl, rfl⟩) _)), trivial⟩) ⟨boxL rfl rfl rfl ⟨(.ni _ rfl), (.ni _ rfl), trivial⟩, trivial⟩
        · replace hF := cond_f hb_37 hF
          conv => whnf
          obtain ⟨r_21, h_r_21, hF⟩ := bind_some hF
          refine ⟨_, _, _, _, _, _, _, _, _, callX true [0] [7] 0 Try.func44 (by decide) rfl (keep_Src_Pick_ac r_3.2 ([(0 : Int), (0 : Int), (1 : Int), (2 : Int)] : List Int) r_21 h_r_21) rfl ⟨(argP (id := 0) (by (conv => lhs; whnf); all_goals rfl) rfl), (argOL 7 (by (conv => lhs; whnf); all_goals rfl) rfl rfl (map_ni (fun _ => ⟨rfl, rfl⟩) _)), trivial⟩ rfl ⟨rfl, trivial⟩ rfl rfl rfl giveU ⟨rfl, trivial⟩ rfl, ?_⟩
          conv => whnf
          obtain ⟨r_22, h_r_22, hF⟩ := bind_some hF
          refine ⟨_, _, _, _, _, _, _, _, _, callX false [0] [] 0 Try.func43 (by decide) rfl (keep_Src_Leg_ac r_21.2 r_22 h_r_22) rfl ⟨(argP (id := 0) (by (conv => lhs; whnf); all_goals rfl) rfl), trivial⟩ rfl ⟨rfl, trivial⟩ rfl rfl rfl lend0 ⟨rfl, trivial⟩ rfl, ?_⟩
          conv => whnf
          obtain ⟨r_23, h_r_23, hF⟩ := bind_some hF
          refine ⟨_, _, _, _, _, _, _, _, _, callX false [0] [] 0 Try.func41 (by decide) rfl (keep_Src_AnyPlate_ac r_22.2 r_23 h_r_23) rfl ⟨(argP (id := 0) (by (conv => lhs; whnf); all_goals rfl) rfl), trivial⟩ rfl ⟨rfl, trivial⟩ rfl rfl rfl lend0 ⟨rfl, trivial⟩ rfl, ?_⟩
          conv => whnf
          obtain ⟨r_24, h_r_24, hF⟩ := bind_some hF
          refine ⟨_, _, _, _, _, _, _, _, _, callX false [0] [] 0 Try.func11 (by decide) rfl (keep_Src_Range_ac r_23.2 (1 : Int) (3 : Int) r_24 h_r_24) rfl ⟨(argP (id := 0) (by (conv => lhs; whnf); all_goals rfl) rfl), (argE (by (conv => lhs; whnf); all_goals rfl) rfl), (argE (by (conv => lhs; whnf); all_goals rfl) rfl), trivial⟩ rfl ⟨rfl, trivial⟩ rfl rfl rfl lend0 ⟨rfl, trivial⟩ rfl, ?_⟩
          conv => whnf
          refine ⟨fun hb_39 => ?_, fun hb_39 => ?_⟩
          · replace hF := cond_t hb_39 hF
            conv => whnf
            obtain ⟨r_25, h_r_25, hF⟩ := bind_some hF
            refine ⟨_, _, _, _, _, _, _, _, _, callX false [0] [] 0 Try.func43 (by decide) rfl (keep_Src_Leg_ac r_24.2 r_25 h_r_25) rfl ⟨(argP (id := 0) (by (conv => lhs; whnf); all_goals rfl) rfl), trivial⟩ rfl ⟨rfl, trivial⟩ rfl rfl rfl lend0 ⟨rfl, trivial⟩ rfl, ?_⟩
            conv => whnf
            obtain ⟨r_26, h_r_26, hF⟩ := bind_some hF
            refine ⟨_, _, _, _, _, _, _, _, _, callX false [0] [] 0 Try.func23 (by decide) rfl (keep_Src_N_ac r_25.2 (4 : Int) r_26 h_r_26) rfl ⟨(argP (id := 0) (by (conv => lhs; whnf); all_goals rfl) rfl), (argE (by (conv => lhs; whnf); all_goals rfl) rfl), trivial⟩ rfl ⟨rfl, trivial⟩ rfl rfl rfl lend0 ⟨rfl, trivial⟩ rfl, ?_⟩
            conv => whnf
            obtain ⟨c_2, hc_2, hF⟩ := fin_some hF
            refine sw_loop tab_ok follows_ok (fun y : Nat × (List Int) × Int × (List Leg) × Int => keep_Src_Message_L2 y.1 y.2.1 y.2.2.1 y.2.2.2.1 y.2.2.2.2 = some c_2) (fun y => ⟨eL [(0, .ptr 0 0), (4, .ptr 1 0), (5, .ptr 2 0), (8, .int .i64 y.2.2.2.2)], hL [(0, .box [.lst 1 (y.2.1.map iA), .int .i64 y.2.2.1]), (1, .box [.int .i64 (0 : Int), .int .i64 (0 : Int), .str (⟨#[]⟩ : ByteArray), .int .i64 (0 : Int), .str (⟨#[]⟩ : ByteArray), .int .i64 (0 : Int), .str (⟨#[]⟩ : ByteArray), .int .i64 (0 : Int), .str (⟨#[]⟩ : ByteArray), .str (⟨#[]⟩ : ByteArray), .str (⟨#[]⟩ : ByteArray), .int .i64 (0 : Int), .str (⟨#[]⟩ : ByteArray), .int .i64 (0 : Int), .str (⟨#[]⟩ : ByteArray), .str (⟨#[]⟩ : ByteArray), .nils, .int .i64 (0 : Int), .int .i64 (0 : Int), .int .i64 (0 : Int), .int .i64 (0 : Int), .fls, .int .i64 (0 : Int), .int .i64 (0 : Int), .int .i64 (0 : Int), .str (⟨#[]⟩ : ByteArray), .str (⟨#[]⟩ : ByteArray), .int .i64 (0 : Int), .str (⟨#[]⟩ : ByteArray), .nils]), (2, .box [.int .i64 r_1.1, .int .i64 r_21.1, .str r_2.1, .int .i64 r_3.1, .str r_25.1.Flight.Carrier, .int .i64 r_25.1.Flight.Number, .str r_25.1.Flight.Suffix, .int .i64 r_25.1.Flight.Day, .str r_25.1.Port, .str r_25.1.Class, .str r_22.1.Flight.Carrier, .int .i64 r_22.1.Flight.Number, .str r_22.1.Flight.Suffix, .int .i64 r_22.1.Flight.Day, .str r_22.1.Port, .str r_22.1.Class, .osl 3, .int .i64 r_23.1.Lead, .int .i64 r_23.1.Airline, .int .i64 r_23.1.Serial, .int .i64 r_24.1, .fls, .int .i64 (0 : Int), .int .i64 (0 : Int), .int .i64 (0 : Int), .str (⟨#[]⟩ : ByteArray), .str (⟨#[]⟩ : ByteArray), .int .i64 (0 : Int), .str (⟨#[]⟩ : ByteArray), .nils]), (3, .row 6 (y.2.2.2.1.map encLeg))], 4⟩) (fun y => y.1) (9223372036854775807, r_26.2.L, r_26.2.At, ([] : List Leg), r_26.1) hc_2 (wk_mk [0, 1, 6] [3] [] rfl ⟨argP (id := 0) (by (conv => lhs; whnf); all_goals rfl) rfl, argP (id := 1) (by (conv => lhs; whnf); all_goals rfl) rfl, argP (id := 6) (by (conv => lhs; whnf); all_goals rfl) rfl, argE (by (conv => lhs; whnf); all_goals rfl) rfl, trivial⟩ ⟨boxL rfl rfl rfl ⟨(.ni _ rfl), (.ni _ rfl), trivial⟩, boxL rfl rfl rfl ⟨(.ni _ rfl), (.ni _ rfl), (.ni _ rfl), (.ni _ rfl), (.ni _ rfl), (.ni _ rfl), (.ni _ rfl), (.ni _ rfl), (.ni _ rfl), (.ni _ rfl), (.ni _ rfl), (.ni _ rfl), (.ni _ rfl), (.ni _ rfl), (.ni _ rfl), (.ni _ rfl), (.ni _ rfl), (.ni _ rfl), (.ni _ rfl), (.ni _ rfl), (.ni _ rfl), (.ni _ rfl), (.ni _ rfl), (.ni _ rfl), (.ni _ rfl), (.ni _ rfl), (.ni _ rfl), (.ni _ rfl), (.ni _ rfl), (.ni _ rfl), trivial⟩, boxL rfl rfl rfl ⟨(.ni _ rfl), (.ni _ rfl), (.ni _ rfl), (.ni _ rfl), (.ni _ rfl), (.ni _ rfl), (.ni _ rfl), (.ni _ rfl), (.ni _ rfl), (.ni _ rfl), (.ni _ rfl), (.ni _ rfl), (.ni _ rfl), (.ni _ rfl), (.ni _ rfl), (.ni _ rfl), (.nilz 3 (by simp)), (.ni _ rfl), (.ni _ rfl), (.ni _ rfl), (.ni _ rfl), (.ni _ rfl), (.ni _ rfl), (.ni _ rfl), (.ni _ rfl), (.ni _ rfl), (.ni _ rfl), (.ni _ rfl), (.ni _ rfl), (.ni _ rfl), trivial⟩, blkZ rfl, trivial⟩) ?_
            rintro ⟨q_33, a_27, i_28, a_29, i_30⟩ hL1
            try dsimp only at hL1
            rcases q_33 with _ | q_33
            · rw [keep_Src_Message_L2.eq_1] at hL1
              cases hL1
            rw [keep_Src_Message_L2.eq_2] at hL1
            show awp _ _ _ _ _ _ ⟨eL [(0, .ptr 0 0), (4, .ptr 1 0), (5, .ptr 2 0), (8, .int .i64 i_30)], hL [(0, .box [.lst 1 (a_27.map iA), .int .i64 i_28]), (1, .box [.int .i64 (0 : Int), .int .i64 (0 : Int), .str (⟨#[]⟩ : ByteArray), .int .i64 (0 : Int), .str (⟨#[]⟩ : ByteArray), .int .i64 (0 : Int), .str (⟨#[]⟩ : ByteArray), .int .i64 (0 : Int), .str (⟨#[]⟩ : ByteArray), .str (⟨#[]⟩ : ByteArray), .str (⟨#[]⟩ : ByteArray), .int .i64 (0 : Int), .str (⟨#[]⟩ : ByteArray), .int .i64 (0 : Int), .str (⟨#[]⟩ : ByteArray), .str (⟨#[]⟩ : ByteArray), .nils, .int .i64 (0 : Int), .int .i64 (0 : Int), .int .i64 (0 : Int), .int .i64 (0 : Int), .fls, .int .i64 (0 : Int), .int .i64 (0 : Int), .int .i64 (0 : Int), .str (⟨#[]⟩ : ByteArray), .str (⟨#[]⟩ : ByteArray), .int .i64 (0 : Int), .str (⟨#[]⟩ : ByteArray), .nils]), (2, .box [.int .i64 r_1.1, .int .i64 r_21.1, .str r_2.1, .int .i64 r_3.1, .str r_25.1.Flight.Carrier, .int .i64 r_25.1.Flight.Number, .str r_25.1.Flight.Suffix, .int .i64 r_25.1.Flight.Day, .str r_25.1.Port, .str r_25.1.Class, .str r_22.1.Flight.Carrier, .int .i64 r_22.1.Flight.Number, .str r_22.1.Flight.Suffix, .int .i64 r_22.1.Flight.Day, .str r_22.1.Port, .str r_22.1.Class, .osl 3, .int .i64 r_23.1.Lead, .int .i64 r_23.1.Airline, .int .i64 r_23.1.Serial, .int .i64 r_24.1, .fls, .int .i64 (0 : Int), .int .i64 (0 : Int), .int .i64 (0 : Int), .str (⟨#[]⟩ : ByteArray), .str (⟨#[]⟩ : ByteArray), .int .i64 (0 : Int), .str (⟨#[]⟩ : ByteArray), .nils]), (3, .row 6 (a_29.map encLeg))], 4⟩
            conv => whnf
            refine ⟨fun hb_40 => ?_, fun hb_40 => ?_⟩
            · replace hL1 := cond_t hb_40 hL1
              conv => whnf
              obtain ⟨r_31, h_r_31, hL1⟩ := bind_some hL1
              refine ⟨_, _, _, _, _, _, _, _, _, callX false [0] [] 0 Try.func43 (by decide) rfl (keep_Src_Leg_ac (⟨a_27, i_28⟩ : Src) r_31 h_r_31) rfl ⟨(argP (id := 0) (by (conv => lhs; whnf); all_goals rfl) rfl), trivial⟩ rfl ⟨rfl, trivial⟩ rfl rfl rfl lend0 ⟨rfl, trivial⟩ rfl, ?_⟩
              conv => whnf
              obtain ⟨l_32, h_l_32, hL1⟩ := bind_some hL1
              refine ap_q (enc := encLeg) (l := a_29) (y := ([r_31.1] : List Leg)) h_l_32 rfl rfl (by decide) ?_
              conv => whnf
              refine ⟨by kernel_rfl, ?_⟩
              conv => whnf
              refine ⟨_, rfl, ?_⟩
              conv => whnf
              exact ⟨(q_33, r_31.2.L, r_31.2.At, l_32, (w64 (i_30 - (1 : Int)))), [0, 1, 2, 6], [], [], hL1, Nat.lt_succ_self _, wk_mk [0, 1, 2, 6] [] [] rfl ⟨argP (id := 0) (by (conv => lhs; whnf); all_goals rfl) rfl, argP (id := 1) (by (conv => lhs; whnf); all_goals rfl) rfl, argP (id := 2) (by (conv => lhs; whnf); all_goals rfl) rfl, argE (by (conv => lhs; whnf); all_goals rfl) rfl, trivial⟩ ⟨boxL rfl rfl rfl ⟨(.ni _ rfl), (.ni _ rfl), trivial⟩, boxL rfl rfl rfl ⟨(.ni _ rfl), (.ni _ rfl), (.ni _ rfl), (.ni _ rfl), (.ni _ rfl), (.ni _ rfl), (.ni _ rfl), (.ni _ rfl), (.ni _ rfl), (.ni _ rfl), (.ni _ rfl), (.ni _ rfl), (.ni _ rfl), (.ni _ rfl), (.ni _ rfl), (.ni _ rfl), (.ni _ rfl), (.ni _ rfl), (.ni _ rfl), (.ni _ rfl), (.ni _ rfl), (.ni _ rfl), (.ni _ rfl), (.ni _ rfl), (.ni _ rfl), (.ni _ rfl), (.ni _ rfl), (.ni _ rfl), (.ni _ rfl), (.ni _ rfl), trivial⟩, boxL rfl rfl rfl ⟨(.ni _ rfl), (.ni _ rfl), (.ni _ rfl), (.ni _ rfl), (.ni _ rfl), (.ni _ rfl), (.ni _ rfl), (.ni _ rfl), (.ni _ rfl), (.ni _ rfl), (.ni _ rfl), (.ni _ rfl), (.ni _ rfl), (.ni _ rfl), (.ni _ rfl), (.ni _ rfl), (.oslg 6 3 rfl), (.ni _ rfl), (.ni _ rfl), (.ni _ rfl), (.ni _ rfl), (.ni _ rfl), (.ni _ rfl), (.ni _ rfl), (.ni _ rfl), (.ni _ rfl), (.ni _ rfl), (.ni _ rfl), (.ni _ rfl), (.ni _ rfl), trivial⟩, blkR (fun _ => ⟨rfl, rfl⟩) rfl rfl, trivial⟩⟩
            · replace hL1 := cond_f hb_40 hL1
              conv => whnf
              obtain rfl := Option.some.inj hL1
              replace hF := fin_brk hF
              try dsimp only at hF
              obtain ⟨r_35, h_r_35, hF⟩ := bind_some hF
              refine ⟨_, _, _, _, _, _, _, _, _, callX false [0] [] 0 Try.func23 (by decide) rfl (keep_Src_N_ac (⟨a_27, i_28⟩ : Src) (3 : Int) r_35 h_r_35) rfl ⟨(argP (id := 0) (by (conv => lhs; whnf); all_goals rfl) rfl), (argE (by (conv => lhs; whnf); all_goals rfl) rfl), trivial⟩ rfl ⟨rfl, trivial⟩ rfl rfl rfl lend0 ⟨rfl, trivial⟩ rfl, ?_⟩
              conv => whnf
              obtain ⟨r_36, h_r_36, hF⟩ := bind_some hF
              refine ⟨_, _, _, _, _, _, _, _, _, callX false [0] [] 0 Try.func11 (by decide) rfl (keep_Src_Range_ac r_35.2 (1 : Int) (4 : Int) r_36 h_r_36) rfl ⟨(argP (id := 0) (by (conv => lhs; whnf); all_goals rfl) rfl), (argE (by (conv => lhs; whnf); all_goals rfl) rfl), (argE (by (conv => lhs; whnf); all_goals rfl) rfl), trivial⟩ rfl ⟨rfl, trivial⟩ rfl rfl rfl lend0 ⟨rfl, trivial⟩ rfl, ?_⟩
              conv => whnf
              obtain ⟨r_37, h_r_37, hF⟩ := bind_some hF
              refine ⟨_, _, _, _, _, _, _, _, _, callX false [0] [] 0 Try.func11 (by decide) rfl (keep_Src_Range_ac r_36.2 (1 : Int) (4 : Int) r_37 h_r_37) rfl ⟨(argP (id := 0) (by (conv => lhs; whnf); all_goals rfl) rfl), (argE (by (conv => lhs; whnf); all_goals rfl) rfl), (argE (by (conv => lhs; whnf); all_goals rfl) rfl), trivial⟩ rfl ⟨rfl, trivial⟩ rfl rfl rfl lend0 ⟨rfl, trivial⟩ rfl, ?_⟩
              conv => whnf
              obtain ⟨r_38, h_r_38, hF⟩ := bind_some hF
              refine ⟨_, _, _, _, _, _, _, _, _, callX true [0] [7] 0 Try.func44 (by decide) rfl (keep_Src_Pick_ac r_37.2 ([(20 : Int), (0 : Int), (999 : Int)] : List Int) r_38 h_r_38) rfl ⟨(argP (id := 0) (by (conv => lhs; whnf); all_goals rfl) rfl), (argOL 7 (by (conv => lhs; whnf); all_goals rfl) rfl rfl (map_ni (fun _ => ⟨rfl, rfl⟩) _)), trivial⟩ rfl ⟨rfl, trivial⟩ rfl rfl rfl giveU ⟨rfl, trivial⟩ rfl, ?_⟩
              conv => whnf
              obtain ⟨r_39, h_r_39, hF⟩ := bind_some hF
              refine ⟨_, _, _, _, _, _, _, _, _, callX false [0] [] 0 Try.func42 (by decide) rfl (keep_Src_Letters_ac r_38.2 (1 : Int) (6 : Int) r_39 h_r_39) rfl ⟨(argP (id := 0) (by (conv => lhs; whnf); all_goals rfl) rfl), (argE (by (conv => lhs; whnf); all_goals rfl) rfl), (argE (by (conv => lhs; whnf); all_goals rfl) rfl), trivial⟩ rfl ⟨rfl, trivial⟩ rfl rfl rfl lend0 ⟨rfl, trivial⟩ rfl, ?_⟩
              conv => whnf
              obtain ⟨r_40, h_r_40, hF⟩ := bind_some hF
              refine ⟨_, _, _, _, _, _, _, _, _, callX false [0] [] 0 Try.func42 (by decide) rfl (keep_Src_Letters_ac r_39.2 (0 : Int) (5 : Int) r_40 h_r_40) rfl ⟨(argP (id := 0) (by (conv => lhs; whnf); all_goals rfl) rfl), (argE (by (conv => lhs; whnf); all_goals rfl) rfl), (argE (by (conv => lhs; whnf); all_goals rfl) rfl), trivial⟩ rfl ⟨rfl, trivial⟩ rfl rfl rfl lend0 ⟨rfl, trivial⟩ rfl, ?_⟩
              conv => whnf
              obtain ⟨r_41, h_r_41, hF⟩ := bind_some hF
              refine ⟨_, _, _, _, _, _, _, _, _, callX false [0] [] 0 Try.func11 (by decide) rfl (keep_Src_Range_ac r_40.2 (0 : Int) (3 : Int) r_41 h_r_41) rfl ⟨(argP (id := 0) (by (conv => lhs; whnf); all_goals rfl) rfl), (argE (by (conv => lhs; whnf); all_goals rfl) rfl), (argE (by (conv => lhs; whnf); all_goals rfl) rfl), trivial⟩ rfl ⟨rfl, trivial⟩ rfl rfl rfl lend0 ⟨rfl, trivial⟩ rfl, ?_⟩
              conv => whnf
              obtain rfl := Option.some.inj hF
              exact ret_gz [0] [] [3] rfl (argA (c := [.int .i64 r_1.1, .int .i64 r_21.1, .str r_2.1, .int .i64 r_3.1, .str r_25.1.Flight.Carrier, .int .i64 r_25.1.Flight.Number, .str r_25.1.Flight.Suffix, .int .i64 r_25.1.Flight.Day, .str r_25.1.Port, .str r_25.1.Class, .str r_22.1.Flight.Carrier, .int .i64 r_22.1.Flight.Number, .str r_22.1.Flight.Suffix, .int .i64 r_22.1.Flight.Day, .str r_22.1.Port, .str r_22.1.Class, .osl 3, .int .i64 r_23.1.Lead, .int .i64 r_23.1.Airline, .int .i64 r_23.1.Serial, .int .i64 r_24.1, .bool (decide ((0 : Int) < r_35.1)), .int .i64 r_36.1, .int .i64 r_37.1, .int .i64 r_38.1, .str r_39.1, .str r_40.1, .int .i64 r_41.1, .str (⟨#[]⟩ : ByteArray), .nils]) (by (conv => lhs; whnf); all_goals rfl) rfl ⟨(.ni _ rfl), (.ni _ rfl), (.ni _ rfl), (.ni _ rfl), (.ni _ rfl), (.ni _ rfl), (.ni _ rfl), (.ni _ rfl), (.ni _ rfl), (.ni _ rfl), (.ni _ rfl), (.ni _ rfl), (.ni _ rfl), (.ni _ rfl), (.ni _ rfl), (.ni _ rfl), (.osl 3 6 _ (by simp) rfl (map_ni (fun _ => ⟨rfl, rfl⟩) _)), (.ni _ rfl), (.ni _ rfl), (.ni _ rfl), (.ni _ rfl), (.ni _ rfl), (.ni _ rfl), (.ni _ rfl), (.ni _ rfl), (.ni _ rfl), (.ni _ rfl), (.ni _ rfl), (.ni _ rfl), (.nils _), trivial⟩) ⟨boxL rfl rfl rfl ⟨(.ni _ rfl), (.ni _ rfl), trivial⟩, trivial⟩
          · replace hF := cond_f hb_39 hF
            conv => whnf
            obtain ⟨r_42, h_r_42, hF⟩ := bind_some hF
            refine ⟨_, _, _, _, _, _, _, _, _, callX false [0] [] 0 Try.func23 (by decide) rfl (keep_Src_N_ac r_24.2 (4 : Int) r_42 h_r_42) rfl ⟨(argP (id := 0) (by (conv => lhs; whnf); all_goals rfl) rfl), (argE (by (conv => lhs; whnf); all_goals rfl) rfl), trivial⟩ rfl ⟨rfl, trivial⟩ rfl rfl rfl lend0 ⟨rfl, trivial⟩ rfl, ?_⟩
            conv => whnf
            obtain ⟨c_2, hc_2, hF⟩ := fin_some hF
            refine sw_loop tab_ok follows_ok (fun y : Nat × (List Int) × Int × (List Leg) × Int => keep_Src_Message_L2 y.1 y.2.1 y.2.2.1 y.2.2.2.1 y.2.2.2.2 = some c_2) (fun y => ⟨eL [(0, .ptr 0 0), (4, .ptr 1 0), (5, .ptr 2 0), (8, .int .i64 y.2.2.2.2)], hL [(0, .box [.lst 1 (y.2.1.map iA), .int .i64 y.2.2.1]), (1, .box [.int .i64 (0 : Int), .int .i64 (0 : Int), .str (⟨#[]⟩ : ByteArray), .int .i64 (0 : Int), .str (⟨#[]⟩ : ByteArray), .int .i64 (0 : Int), .str (⟨#[]⟩ : ByteArray), .int .i64 (0 : Int), .str (⟨#[]⟩ : ByteArray), .str (⟨#[]⟩ : ByteArray), .str (⟨#[]⟩ : ByteArray), .int .i64 (0 : Int), .str (⟨#[]⟩ : ByteArray), .int .i64 (0 : Int), .str (⟨#[]⟩ : ByteArray), .str (⟨#[]⟩ : ByteArray), .nils, .int .i64 (0 : Int), .int .i64 (0 : Int), .int .i64 (0 : Int), .int .i64 (0 : Int), .fls, .int .i64 (0 : Int), .int .i64 (0 : Int), .int .i64 (0 : Int), .str (⟨#[]⟩ : ByteArray), .str (⟨#[]⟩ : ByteArray), .int .i64 (0 : Int), .str (⟨#[]⟩ : ByteArray), .nils]), (2, .box [.int .i64 r_1.1, .int .i64 r_21.1, .str r_2.1, .int .i64 r_3.1, .str (⟨#[]⟩ : ByteArray), .int .i64 (0 : Int), .str (⟨#[]⟩ : ByteArray), .int .i64 (0 : Int), .str (⟨#[]⟩ : ByteArray), .str (⟨#[]⟩ : ByteArray), .str r_22.1.Flight.Carrier, .int .i64 r_22.1.Flight.Number, .str r_22.1.Flight.Suffix, .int .i64 r_22.1.Flight.Day, .str r_22.1.Port, .str r_22.1.Class, .osl 3, .int .i64 r_23.1.Lead, .int .i64 r_23.1.Airline, .int .i64 r_23.1.Serial, .int .i64 r_24.1, .fls, .int .i64 (0 : Int), .int .i64 (0 : Int), .int .i64 (0 : Int), .str (⟨#[]⟩ : ByteArray), .str (⟨#[]⟩ : ByteArray), .int .i64 (0 : Int), .str (⟨#[]⟩ : ByteArray), .nils]), (3, .row 6 (y.2.2.2.1.map encLeg))], 4⟩) (fun y => y.1) (9223372036854775807, r_42.2.L, r_42.2.At, ([] : List Leg), r_42.1) hc_2 (wk_mk [0, 1, 6] [3] [] rfl ⟨argP (id := 0) (by (conv => lhs; whnf); all_goals rfl) rfl, argP (id := 1) (by (conv => lhs; whnf); all_goals rfl) rfl, argP (id := 6) (by (conv => lhs; whnf); all_goals rfl) rfl, argE (by (conv => lhs; whnf); all_goals rfl) rfl, trivial⟩ ⟨boxL rfl rfl rfl ⟨(.ni _ rfl), (.ni _ rfl), trivial⟩, boxL rfl rfl rfl ⟨(.ni _ rfl), (.ni _ rfl), (.ni _ rfl), (.ni _ rfl), (.ni _ rfl), (.ni _ rfl), (.ni _ rfl), (.ni _ rfl), (.ni _ rfl), (.ni _ rfl), (.ni _ rfl), (.ni _ rfl), (.ni _ rfl), (.ni _ rfl), (.ni _ rfl), (.ni _ rfl), (.ni _ rfl), (.ni _ rfl), (.ni _ rfl), (.ni _ rfl), (.ni _ rfl), (.ni _ rfl), (.ni _ rfl), (.ni _ rfl), (.ni _ rfl), (.ni _ rfl), (.ni _ rfl), (.ni _ rfl), (.ni _ rfl), (.ni _ rfl), trivial⟩, boxL rfl rfl rfl ⟨(.ni _ rfl), (.ni _ rfl), (.ni _ rfl), (.ni _ rfl), (.ni _ rfl), (.ni _ rfl), (.ni _ rfl), (.ni _ rfl), (.ni _ rfl), (.ni _ rfl), (.ni _ rfl), (.ni _ rfl), (.ni _ rfl), (.ni _ rfl), (.ni _ rfl), (.ni _ rfl), (.nilz 3 (by simp)), (.ni _ rfl), (.ni _ rfl), (.ni _ rfl), (.ni _ rfl), (.ni _ rfl), (.ni _ rfl), (.ni _ rfl), (.ni _ rfl), (.ni _ rfl), (.ni _ rfl), (.ni _ rfl), (.ni _ rfl), (.ni _ rfl), trivial⟩, blkZ rfl, trivial⟩) ?_
            rintro ⟨q_49, a_43, i_44, a_45, i_46⟩ hL1
            try dsimp only at hL1
            rcases q_49 with _ | q_49
            · rw [keep_Src_Message_L2.eq_1] at hL1
              cases hL1
            rw [keep_Src_Message_L2.eq_2] at hL1
            show awp _ _ _ _ _ _ ⟨eL [(0, .ptr 0 0), (4, .ptr 1 0), (5, .ptr 2 0), (8, .int .i64 i_46)], hL [(0, .box [.lst 1 (a_43.map iA), .int .i64 i_44]), (1, .box [.int .i64 (0 : Int), .int .i64 (0 : Int), .str (⟨#[]⟩ : ByteArray), .int .i64 (0 : Int), .str (⟨#[]⟩ : ByteArray), .int .i64 (0 : Int), .str (⟨#[]⟩ : ByteArray), .int .i64 (0 : Int), .str (⟨#[]⟩ : ByteArray), .str (⟨#[]⟩ : ByteArray), .str (⟨#[]⟩ : ByteArray), .int .i64 (0 : Int), .str (⟨#[]⟩ : ByteArray), .int .i64 (0 : Int), .str (⟨#[]⟩ : ByteArray), .str (⟨#[]⟩ : ByteArray), .nils, .int .i64 (0 : Int), .int .i64 (0 : Int), .int .i64 (0 : Int), .int .i64 (0 : Int), .fls, .int .i64 (0 : Int), .int .i64 (0 : Int), .int .i64 (0 : Int), .str (⟨#[]⟩ : ByteArray), .str (⟨#[]⟩ : ByteArray), .int .i64 (0 : Int), .str (⟨#[]⟩ : ByteArray), .nils]), (2, .box [.int .i64 r_1.1, .int .i64 r_21.1, .str r_2.1, .int .i64 r_3.1, .str (⟨#[]⟩ : ByteArray), .int .i64 (0 : Int), .str (⟨#[]⟩ : ByteArray), .int .i64 (0 : Int), .str (⟨#[]⟩ : ByteArray), .str (⟨#[]⟩ : ByteArray), .str r_22.1.Flight.Carrier, .int .i64 r_22.1.Flight.Number, .str r_22.1.Flight.Suffix, .int .i64 r_22.1.Flight.Day, .str r_22.1.Port, .str r_22.1.Class, .osl 3, .int .i64 r_23.1.Lead, .int .i64 r_23.1.Airline, .int .i64 r_23.1.Serial, .int .i64 r_24.1, .fls, .int .i64 (0 : Int), .int .i64 (0 : Int), .int .i64 (0 : Int), .str (⟨#[]⟩ : ByteArray), .str (⟨#[]⟩ : ByteArray), .int .i64 (0 : Int), .str (⟨#[]⟩ : ByteArray), .nils]), (3, .row 6 (a_45.map encLeg))], 4⟩
            conv => whnf
            refine ⟨fun hb_41 => ?_, fun hb_41 => ?_⟩
            · replace hL1 := cond_t hb_41 hL1
              conv => whnf
              obtain ⟨r_47, h_r_47, hL1⟩ := bind_some hL1
              refine ⟨_, _, _, _, _, _, _, _, _, callX false [0] [] 0 Try.func43 (by decide) rfl (keep_Src_Leg_ac (⟨a_43, i_44⟩ : Src) r_47 h_r_47) rfl ⟨(argP (id := 0) (by (conv => lhs; whnf); all_goals rfl) rfl), trivial⟩ rfl ⟨rfl, trivial⟩ rfl rfl rfl lend0 ⟨rfl, trivial⟩ rfl, ?_⟩
              conv => whnf
              obtain ⟨l_48, h_l_48, hL1⟩ := bind_some hL1
              refine ap_q (enc := encLeg) (l := a_45) (y := ([r_47.1] : List Leg)) h_l_48 rfl rfl (by decide) ?_
              conv => whnf
              refine ⟨by kernel_rfl, ?_⟩
              conv => whnf
              refine ⟨_, rfl, ?_⟩
              conv => whnf
              exact ⟨(q_49, r_47.2.L, r_47.2.At, l_48, (w64 (i_46 - (1 : Int)))), [0, 1, 2, 6], [], [], hL1, Nat.lt_succ_self _, wk_mk [0, 1, 2, 6] [] [] rfl ⟨argP (id := 0) (by (conv => lhs; whnf); all_goals rfl) rfl, argP (id := 1) (by (conv => lhs; whnf); all_goals rfl) rfl, argP (id := 2) (by (conv => lhs; whnf); all_goals rfl) rfl, argE (by (conv => lhs; whnf); all_goals rfl) rfl, trivial⟩ ⟨boxL rfl rfl rfl ⟨(.ni _ rfl), (.ni _ rfl), trivial⟩, boxL rfl rfl rfl ⟨(.ni _ rfl), (.ni _ rfl), (.ni _ rfl), (.ni _ rfl), (.ni _ rfl), (.ni _ rfl), (.ni _ rfl), (.ni _ rfl), (.ni _ rfl), (.ni _ rfl), (.ni _ rfl), (.ni _ rfl), (.ni _ rfl), (.ni _ rfl), (.ni _ rfl), (.ni _ rfl), (.ni _ rfl), (.ni _ rfl), (.ni _ rfl), (.ni _ rfl), (.ni _ rfl), (.ni _ rfl), (.ni _ rfl), (.ni _ rfl), (.ni _ rfl), (.ni _ rfl), (.ni _ rfl), (.ni _ rfl), (.ni _ rfl), (.ni _ rfl), trivial⟩, boxL rfl rfl rfl ⟨(.ni _ rfl), (.ni _ rfl), (.ni _ rfl), (.ni _ rfl), (.ni _ rfl), (.ni _ rfl), (.ni _ rfl), (.ni _ rfl), (.ni _ rfl), (.ni _ rfl), (.ni _ rfl), (.ni _ rfl), (.ni _ rfl), (.ni _ rfl), (.ni _ rfl), (.ni _ rfl), (.oslg 6 3 rfl), (.ni _ rfl), (.ni _ rfl), (.ni _ rfl), (.ni _ rfl), (.ni _ rfl), (.ni _ rfl), (.ni _ rfl), (.ni _ rfl), (.ni _ rfl), (.ni _ rfl), (.ni _ rfl), (.ni _ rfl), (.ni _ rfl), trivial⟩, blkR (fun _ => ⟨rfl, rfl⟩) rfl rfl, trivial⟩⟩
            · replace hL1 := cond_f hb_41 hL1
              conv => whnf
              obtain rfl := Option.some.inj hL1
              replace hF := fin_brk hF
              try dsimp only at hF
              obtain ⟨r_51, h_r_51, hF⟩ := bind_some hF
              refine ⟨_, _, _, _, _, _, _, _, _, callX false [0] [] 0 Try.func23 (by decide) rfl (keep_Src_N_ac (⟨a_43, i_44⟩ : Src) (3 : Int) r_51 h_r_51) rfl ⟨(argP (id := 0) (by (conv => lhs; whnf); all_goals rfl) rfl), (argE (by (conv => lhs; whnf); all_goals rfl) rfl), trivial⟩ rfl ⟨rfl, trivial⟩ rfl rfl rfl lend0 ⟨rfl, trivial⟩ rfl, ?_⟩
              conv => whnf
              obtain ⟨r_52, h_r_52, hF⟩ := bind_some hF
              refine ⟨_, _, _, _, _, _, _, _, _, callX false [0] [] 0 Try.func11 (by decide) rfl (keep_Src_Range_ac r_51.2 (1 : Int) (4 : Int) r_52 h_r_52) rfl ⟨(argP (id := 0) (by (conv => lhs; whnf); all_goals rfl) rfl), (argE (by (conv => lhs; whnf); all_goals rfl) rfl), (argE (by (conv => lhs; whnf); all_goals rfl) rfl), trivial⟩ rfl ⟨rfl, trivial⟩ rfl rfl rfl lend0 ⟨rfl, trivial⟩ rfl, ?_⟩
              conv => whnf
              obtain ⟨r_53, h_r_53, hF⟩ := bind_some hF
              refine ⟨_, _, _, _, _, _, _, _, _, callX false [0] [] 0 Try.func11 (by decide) rfl (keep_Src_Range_ac r_52.2 (1 : Int) (4 : Int) r_53 h_r_53) rfl ⟨(argP (id := 0) (by (conv => lhs; whnf); all_goals rfl) rfl), (argE (by (conv => lhs; whnf); all_goals rfl) rfl), (argE (by (conv => lhs; whnf); all_goals rfl) rfl), trivial⟩ rfl ⟨rfl, trivial⟩ rfl rfl rfl lend0 ⟨rfl, trivial⟩ rfl, ?_⟩
              conv => whnf
              obtain ⟨r_54, h_r_54, hF⟩ := bind_some hF
              refine ⟨_, _, _, _, _, _, _, _, _, callX true [0] [7] 0 Try.func44 (by decide) rfl (keep_Src_Pick_ac r_53.2 ([(20 : Int), (0 : Int), (999 : Int)] : List Int) r_54 h_r_54) rfl ⟨(argP (id := 0) (by (conv => lhs; whnf); all_goals rfl) rfl), (argOL 7 (by (conv => lhs; whnf); all_goals rfl) rfl rfl (map_ni (fun _ => ⟨rfl, rfl⟩) _)), trivial⟩ rfl ⟨rfl, trivial⟩ rfl rfl rfl giveU ⟨rfl, trivial⟩ rfl, ?_⟩
              conv => whnf
              obtain ⟨r_55, h_r_55, hF⟩ := bind_some hF
              refine ⟨_, _, _, _, _, _, _, _, _, callX false [0] [] 0 Try.func42 (by decide) rfl (keep_Src_Letters_ac r_54.2 (1 : Int) (6 : Int) r_55 h_r_55) rfl ⟨(argP (id := 0) (by (conv => lhs; whnf); all_goals rfl) rfl), (argE (by (conv => lhs; whnf); all_goals rfl) rfl), (argE (by (conv => lhs; whnf); all_goals rfl) rfl), trivial⟩ rfl ⟨rfl, trivial⟩ rfl rfl rfl lend0 ⟨rfl, trivial⟩ rfl, ?_⟩
              conv => whnf
              obtain ⟨r_56, h_r_56, hF⟩ := bind_some hF
              refine ⟨_, _, _, _, _, _, _, _, _, callX false [0] [] 0 Try.func42 (by decide) rfl (keep_Src_Letters_ac r_55.2 (0 : Int) (5 : Int) r_56 h_r_56) rfl ⟨(argP (id := 0) (by (conv => lhs; whnf); all_goals rfl) rfl), (argE (by (conv => lhs; whnf); all_goals rfl) rfl), (argE (by (conv => lhs; whnf); all_goals rfl) rfl), trivial⟩ rfl ⟨rfl, trivial⟩ rfl rfl rfl lend0 ⟨rfl, trivial⟩ rfl, ?_⟩
              conv => whnf
              obtain ⟨r_57, h_r_57, hF⟩ := bind_some hF
              refine ⟨_, _, _, _, _, _, _, _, _, callX false [0] [] 0 Try.func11 (by decide) rfl (keep_Src_Range_ac r_56.2 (0 : Int) (3 : Int) r_57 h_r_57) rfl ⟨(argP (id := 0) (by (conv => lhs; whnf); all_goals rfl) rfl), (argE (by (conv => lhs; whnf); all_goals rfl) rfl), (argE (by (conv => lhs; whnf); all_goals rfl) rfl), trivial⟩ rfl ⟨rfl, trivial⟩ rfl rfl rfl lend0 ⟨rfl, trivial⟩ rfl, ?_⟩
              conv => whnf
              obtain rfl := Option.some.inj hF
              exact ret_gz [0] [] [3] rfl (argA (c := [.int .i64 r_1.1, .int .i64 r_21.1, .str r_2.1, .int .i64 r_3.1, .str (⟨#[]⟩ : ByteArray), .int .i64 (0 : Int), .str (⟨#[]⟩ : ByteArray), .int .i64 (0 : Int), .str (⟨#[]⟩ : ByteArray), .str (⟨#[]⟩ : ByteArray), .str r_22.1.Flight.Carrier, .int .i64 r_22.1.Flight.Number, .str r_22.1.Flight.Suffix, .int .i64 r_22.1.Flight.Day, .str r_22.1.Port, .str r_22.1.Class, .osl 3, .int .i64 r_23.1.Lead, .int .i64 r_23.1.Airline, .int .i64 r_23.1.Serial, .int .i64 r_24.1, .bool (decide ((0 : Int) < r_51.1)), .int .i64 r_52.1, .int .i64 r_53.1, .int .i64 r_54.1, .str r_55.1, .str r_56.1, .int .i64 r_57.1, .str (⟨#[]⟩ : ByteArray), .nils]) (by (conv => lhs; whnf); all_goals rfl) rfl ⟨(.ni _ rfl), (.ni _ rfl), (.ni _ rfl), (.ni _ rfl), (.ni _ rfl), (.ni _ rfl), (.ni _ rfl), (.ni _ rfl), (.ni _ rfl), (.ni _ rfl), (.ni _ rfl), (.ni _ rfl), (.ni _ rfl), (.ni _ rfl), (.ni _ rfl), (.ni _ rfl), (.osl 3 6 _ (by simp) rfl (map_ni (fun _ => ⟨rfl, rfl⟩) _)), (.ni _ rfl), (.ni _ rfl), (.ni _ rfl), (.ni _ rfl), (.ni _ rfl), (.ni _ rfl), (.ni _ rfl), (.ni _ rfl), (.ni _ rfl), (.ni _ rfl), (.ni _ rfl), (.ni _ rfl), (.nils _), trivial⟩) ⟨boxL rfl rfl rfl ⟨(.ni _ rfl), (.ni _ rfl), trivial⟩, trivial⟩
  · replace hF := cond_f hb_34 hF
    conv => whnf
    obtain ⟨r_58, h_r_58, hF⟩ := bind_some hF
    refine ⟨_, _, _, _, _, _, _, _, _, callX true [0] [2] 0 Try.func24 (by decide) rfl (keep_Src_Text_ac x_0 ([(⟨#[65, 82, 78]⟩ : ByteArray), (⟨#[67, 80, 72]⟩ : ByteArray)] : List ByteArray) r_58 h_r_58) rfl ⟨(argP (id := 0) (by (conv => lhs; whnf); all_goals rfl) rfl), (argOL 2 (by (conv => lhs; whnf); all_goals rfl) rfl rfl (map_ni (fun _ => ⟨rfl, rfl⟩) _)), trivial⟩ rfl ⟨rfl, trivial⟩ rfl rfl rfl giveU ⟨rfl, trivial⟩ rfl, ?_⟩
    conv => whnf
    obtain ⟨r_59, h_r_59, hF⟩ := bind_some hF
    refine ⟨_, _, _, _, _, _, _, _, _, callX false [0] [] 0 Try.func11 (by decide) rfl (keep_Src_Range_ac r_58.2 (1 : Int) (12 : Int) r_59 h_r_59) rfl ⟨(argP (id := 0) (by (conv => lhs; whnf); all_goals rfl) rfl), (argE (by (conv => lhs; whnf); all_goals rfl) rfl), (argE (by (conv => lhs; whnf); all_goals rfl) rfl), trivial⟩ rfl ⟨rfl, trivial⟩ rfl rfl rfl lend0 ⟨rfl, trivial⟩ rfl, ?_⟩
    conv => whnf
    refine ⟨fun hb_42 => ?_, fun hb_42 => ?_⟩
    · replace hF := cond_t hb_42 hF
      conv => whnf
      obtain ⟨r_60, h_r_60, hF⟩ := bind_some hF
      refine ⟨_, _, _, _, _, _, _, _, _, callX false [0] [] 0 Try.func41 (by decide) rfl (keep_Src_AnyPlate_ac r_59.2 r_60 h_r_60) rfl ⟨(argP (id := 0) (by (conv => lhs; whnf); all_goals rfl) rfl), trivial⟩ rfl ⟨rfl, trivial⟩ rfl rfl rfl lend0 ⟨rfl, trivial⟩ rfl, ?_⟩
      conv => whnf
      obtain ⟨r_61, h_r_61, hF⟩ := bind_some hF
      refine ⟨_, _, _, _, _, _, _, _, _, callX false [0] [] 0 Try.func11 (by decide) rfl (keep_Src_Range_ac r_60.2 (1 : Int) (3 : Int) r_61 h_r_61) rfl ⟨(argP (id := 0) (by (conv => lhs; whnf); all_goals rfl) rfl), (argE (by (conv => lhs; whnf); all_goals rfl) rfl), (argE (by (conv => lhs; whnf); all_goals rfl) rfl), trivial⟩ rfl ⟨rfl, trivial⟩ rfl rfl rfl lend0 ⟨rfl, trivial⟩ rfl, ?_⟩
      conv => whnf
      obtain ⟨r_62, h_r_62, hF⟩ := bind_some hF
      refine ⟨_, _, _, _, _, _, _, _, _, callX false [0] [] 0 Try.func42 (by decide) rfl (keep_Src_Letters_ac r_61.2 (1 : Int) (4 : Int) r_62 h_r_62) rfl ⟨(argP (id := 0) (by (conv => lhs; whnf); all_goals rfl) rfl), (argE (by (conv => lhs; whnf); all_goals rfl) rfl), (argE (by (conv => lhs; whnf); all_goals rfl) rfl), trivial⟩ rfl ⟨rfl, trivial⟩ rfl rfl rfl lend0 ⟨rfl, trivial⟩ rfl, ?_⟩
      conv => whnf
      obtain rfl := Option.some.inj hF
      exact ret_gz [0] [] [] rfl (argA (c := [.int .i64 x_1, .int .i64 (0 : Int), .str r_58.1, .int .i64 r_59.1, .str (⟨#[]⟩ : ByteArray), .int .i64 (0 : Int), .str (⟨#[]⟩ : ByteArray), .int .i64 (0 : Int), .str (⟨#[]⟩ : ByteArray), .str (⟨#[]⟩ : ByteArray), .str (⟨#[]⟩ : ByteArray), .int .i64 (0 : Int), .str (⟨#[]⟩ : ByteArray), .int .i64 (0 : Int), .str (⟨#[]⟩ : ByteArray), .str (⟨#[]⟩ : ByteArray), .nils, .int .i64 r_60.1.Lead, .int .i64 r_60.1.Airline, .int .i64 r_60.1.Serial, .int .i64 r_61.1, .fls, .int .i64 (0 : Int), .int .i64 (0 : Int), .int .i64 (0 : Int), .str (⟨#[]⟩ : ByteArray), .str (⟨#[]⟩ : ByteArray), .int .i64 (0 : Int), .str r_62.1, .nils]) (by (conv => lhs; whnf); all_goals rfl) rfl ⟨(.ni _ rfl), (.ni _ rfl), (.ni _ rfl), (.ni _ rfl), (.ni _ rfl), (.ni _ rfl), (.ni _ rfl), (.ni _ rfl), (.ni _ rfl), (.ni _ rfl), (.ni _ rfl), (.ni _ rfl), (.ni _ rfl), (.ni _ rfl), (.ni _ rfl), (.ni _ rfl), (.nils _), (.ni _ rfl), (.ni _ rfl), (.ni _ rfl), (.ni _ rfl), .fls, (.ni _ rfl), (.ni _ rfl), (.ni _ rfl), (.ni _ rfl), (.ni _ rfl), (.ni _ rfl), (.ni _ rfl), (.nils _), trivial⟩) ⟨boxL rfl rfl rfl ⟨(.ni _ rfl), (.ni _ rfl), trivial⟩, trivial⟩
    · replace hF := cond_f hb_42 hF
      conv => whnf
      refine ⟨fun hb_43 => ?_, fun hb_43 => ?_⟩
      · replace hF := cond_t hb_43 hF
        conv => whnf
        obtain ⟨r_63, h_r_63, hF⟩ := bind_some hF
        refine ⟨_, _, _, _, _, _, _, _, _, callX false [0] [] 0 Try.func41 (by decide) rfl (keep_Src_AnyPlate_ac r_59.2 r_63 h_r_63) rfl ⟨(argP (id := 0) (by (conv => lhs; whnf); all_goals rfl) rfl), trivial⟩ rfl ⟨rfl, trivial⟩ rfl rfl rfl lend0 ⟨rfl, trivial⟩ rfl, ?_⟩
        conv => whnf
        obtain ⟨r_64, h_r_64, hF⟩ := bind_some hF
        refine ⟨_, _, _, _, _, _, _, _, _, callX false [0] [] 0 Try.func11 (by decide) rfl (keep_Src_Range_ac r_63.2 (1 : Int) (3 : Int) r_64 h_r_64) rfl ⟨(argP (id := 0) (by (conv => lhs; whnf); all_goals rfl) rfl), (argE (by (conv => lhs; whnf); all_goals rfl) rfl), (argE (by (conv => lhs; whnf); all_goals rfl) rfl), trivial⟩ rfl ⟨rfl, trivial⟩ rfl rfl rfl lend0 ⟨rfl, trivial⟩ rfl, ?_⟩
        conv => whnf
        obtain ⟨r_65, h_r_65, hF⟩ := bind_some hF
        refine ⟨_, _, _, _, _, _, _, _, _, callX false [0] [] 0 Try.func43 (by decide) rfl (keep_Src_Leg_ac r_64.2 r_65 h_r_65) rfl ⟨(argP (id := 0) (by (conv => lhs; whnf); all_goals rfl) rfl), trivial⟩ rfl ⟨rfl, trivial⟩ rfl rfl rfl lend0 ⟨rfl, trivial⟩ rfl, ?_⟩
        conv => whnf
        obtain rfl := Option.some.inj hF
        exact ret_gz [0] [] [] rfl (argA (c := [.int .i64 x_1, .int .i64 (0 : Int), .str r_58.1, .int .i64 r_59.1, .str (⟨#[]⟩ : ByteArray), .int .i64 (0 : Int), .str (⟨#[]⟩ : ByteArray), .int .i64 (0 : Int), .str (⟨#[]⟩ : ByteArray), .str (⟨#[]⟩ : ByteArray), .str r_65.1.Flight.Carrier, .int .i64 r_65.1.Flight.Number, .str r_65.1.Flight.Suffix, .int .i64 r_65.1.Flight.Day, .str r_65.1.Port, .str r_65.1.Class, .nils, .int .i64 r_63.1.Lead, .int .i64 r_63.1.Airline, .int .i64 r_63.1.Serial, .int .i64 r_64.1, .fls, .int .i64 (0 : Int), .int .i64 (0 : Int), .int .i64 (0 : Int), .str (⟨#[]⟩ : ByteArray), .str (⟨#[]⟩ : ByteArray), .int .i64 (0 : Int), .str (⟨#[]⟩ : ByteArray), .nils]) (by (conv => lhs; whnf); all_goals rfl) rfl ⟨(.ni _ rfl), (.ni _ rfl), (.ni _ rfl), (.ni _ rfl), (.ni _ rfl), (.ni _ rfl), (.ni _ rfl), (.ni _ rfl), (.ni _ rfl), (.ni _ rfl), (.ni _ rfl), (.ni _ rfl), (.ni _ rfl), (.ni _ rfl), (.ni _ rfl), (.ni _ rfl), (.nils _), (.ni _ rfl), (.ni _ rfl), (.ni _ rfl), (.ni _ rfl), .fls, (.ni _ rfl), (.ni _ rfl), (.ni _ rfl), (.ni _ rfl), (.ni _ rfl), (.ni _ rfl), (.ni _ rfl), (.nils _), trivial⟩) ⟨boxL rfl rfl rfl ⟨(.ni _ rfl), (.ni _ rfl), trivial⟩, trivial⟩
      · replace hF := cond_f hb_43 hF
        conv => whnf
        refine ⟨fun hb_44 => ?_, fun hb_44 => ?_⟩
        · replace hF := cond_t hb_44 hF
          conv => whnf
          obtain ⟨r_66, h_r_66, hF⟩ := bind_some hF
          refine ⟨_, _, _, _, _, _, _, _, _, callX false [0] [] 0 Try.func43 (by decide) rfl (keep_Src_Leg_ac r_59.2 r_66 h_r_66) rfl ⟨(argP (id := 0) (by (conv => lhs; whnf); all_goals rfl) rfl), trivial⟩ rfl ⟨rfl, trivial⟩ rfl rfl rfl lend0 ⟨rfl, trivial⟩ rfl, ?_⟩
          conv => whnf
          obtain ⟨r_67, h_r_67, hF⟩ := bind_some hF
          refine ⟨_, _, _, _, _, _, _, _, _, callX false [0] [] 0 Try.func23 (by decide) rfl (keep_Src_N_ac r_66.2 (12 : Int) r_67 h_r_67) rfl ⟨(argP (id := 0) (by (conv => lhs; whnf); all_goals rfl) rfl), (argE (by (conv => lhs; whnf); all_goals rfl) rfl), trivial⟩ rfl ⟨rfl, trivial⟩ rfl rfl rfl lend0 ⟨rfl, trivial⟩ rfl, ?_⟩
          conv => whnf
          obtain ⟨c_1, hc_1, hF⟩ := fin_some hF
          refine sw_loop tab_ok follows_ok (fun y : Nat × (List Int) × Int × (List Int) × Int × Int => keep_Src_Message_L1 y.1 y.2.1 y.2.2.1 y.2.2.2.1 y.2.2.2.2.1 y.2.2.2.2.2 = some c_1) (fun y => ⟨eL [(0, .ptr 0 0), (4, .ptr 1 0), (5, .ptr 2 0), (6, .int .i64 y.2.2.2.2.1), (7, .int .i64 y.2.2.2.2.2)], hL [(0, .box [.lst 1 (y.2.1.map iA), .int .i64 y.2.2.1]), (1, .box [.int .i64 (0 : Int), .int .i64 (0 : Int), .str (⟨#[]⟩ : ByteArray), .int .i64 (0 : Int), .str (⟨#[]⟩ : ByteArray), .int .i64 (0 : Int), .str (⟨#[]⟩ : ByteArray), .int .i64 (0 : Int), .str (⟨#[]⟩ : ByteArray), .str (⟨#[]⟩ : ByteArray), .str (⟨#[]⟩ : ByteArray), .int .i64 (0 : Int), .str (⟨#[]⟩ : ByteArray), .int .i64 (0 : Int), .str (⟨#[]⟩ : ByteArray), .str (⟨#[]⟩ : ByteArray), .nils, .int .i64 (0 : Int), .int .i64 (0 : Int), .int .i64 (0 : Int), .int .i64 (0 : Int), .fls, .int .i64 (0 : Int), .int .i64 (0 : Int), .int .i64 (0 : Int), .str (⟨#[]⟩ : ByteArray), .str (⟨#[]⟩ : ByteArray), .int .i64 (0 : Int), .str (⟨#[]⟩ : ByteArray), .nils]), (2, .box [.int .i64 x_1, .int .i64 (0 : Int), .str r_58.1, .int .i64 r_59.1, .str (⟨#[]⟩ : ByteArray), .int .i64 (0 : Int), .str (⟨#[]⟩ : ByteArray), .int .i64 (0 : Int), .str (⟨#[]⟩ : ByteArray), .str (⟨#[]⟩ : ByteArray), .str r_66.1.Flight.Carrier, .int .i64 r_66.1.Flight.Number, .str r_66.1.Flight.Suffix, .int .i64 r_66.1.Flight.Day, .str r_66.1.Port, .str r_66.1.Class, .nils, .int .i64 (0 : Int), .int .i64 (0 : Int), .int .i64 (0 : Int), .int .i64 (0 : Int), .fls, .int .i64 (0 : Int), .int .i64 (0 : Int), .int .i64 (0 : Int), .str (⟨#[]⟩ : ByteArray), .str (⟨#[]⟩ : ByteArray), .int .i64 (0 : Int), .str (⟨#[]⟩ : ByteArray), .osl 3]), (3, .row 1 (y.2.2.2.1.map iA))], 4⟩) (fun y => y.1) (9223372036854775807, r_67.2.L, r_67.2.At, ([] : List Int), (0 : Int), r_67.1) hc_1 (wk_mk [0, 1, 5] [3] [] rfl ⟨argP (id := 0) (by (conv => lhs; whnf); all_goals rfl) rfl, argP (id := 1) (by (conv => lhs; whnf); all_goals rfl) rfl, argP (id := 5) (by (conv => lhs; whnf); all_goals rfl) rfl, argE (by (conv => lhs; whnf); all_goals rfl) rfl, argE (by (conv => lhs; whnf); all_goals rfl) rfl, trivial⟩ ⟨boxL rfl rfl rfl ⟨(.ni _ rfl), (.ni _ rfl), trivial⟩, boxL rfl rfl rfl ⟨(.ni _ rfl), (.ni _ rfl), (.ni _ rfl), (.ni _ rfl), (.ni _ rfl), (.ni _ rfl), (.ni _ rfl), (.ni _ rfl), (.ni _ rfl), (.ni _ rfl), (.ni _ rfl), (.ni _ rfl), (.ni _ rfl), (.ni _ rfl), (.ni _ rfl), (.ni _ rfl), (.ni _ rfl), (.ni _ rfl), (.ni _ rfl), (.ni _ rfl), (.ni _ rfl), (.ni _ rfl), (.ni _ rfl), (.ni _ rfl), (.ni _ rfl), (.ni _ rfl), (.ni _ rfl), (.ni _ rfl), (.ni _ rfl), (.ni _ rfl), trivial⟩, boxL rfl rfl rfl ⟨(.ni _ rfl), (.ni _ rfl), (.ni _ rfl), (.ni _ rfl), (.ni _ rfl), (.ni _ rfl), (.ni _ rfl), (.ni _ rfl), (.ni _ rfl), (.ni _ rfl), (.ni _ rfl), (.ni _ rfl), (.ni _ rfl), (.ni _ rfl), (.ni _ rfl), (.ni _ rfl), (.ni _ rfl), (.ni _ rfl), (.ni _ rfl), (.ni _ rfl), (.ni _ rfl), (.ni _ rfl), (.ni _ rfl), (.ni _ rfl), (.ni _ rfl), (.ni _ rfl), (.ni _ rfl), (.ni _ rfl), (.ni _ rfl), (.nilz 3 (by simp)), trivial⟩, blkZ rfl, trivial⟩) ?_
          rintro ⟨q_75, a_68, i_69, a_70, i_71, i_72⟩ hL1
          try dsimp only at hL1
          rcases q_75 with _ | q_75
          · rw [keep_Src_Message_L1.eq_1] at hL1
            cases hL1
          rw [keep_Src_Message_L1.eq_2] at hL1
          show awp _ _ _ _ _ _ ⟨eL [(0, .ptr 0 0), (4, .ptr 1 0), (5, .ptr 2 0), (6, .int .i64 i_71), (7, .int .i64 i_72)], hL [(0, .box [.lst 1 (a_68.map iA), .int .i64 i_69]), (1, .box [.int .i64 (0 : Int), .int .i64 (0 : Int), .str (⟨#[]⟩ : ByteArray), .int .i64 (0 : Int), .str (⟨#[]⟩ : ByteArray), .int .i64 (0 : Int), .str (⟨#[]⟩ : ByteArray), .int .i64 (0 : Int), .str (⟨#[]⟩ : ByteArray), .str (⟨#[]⟩ : ByteArray), .str (⟨#[]⟩ : ByteArray), .int .i64 (0 : Int), .str (⟨#[]⟩ : ByteArray), .int .i64 (0 : Int), .str (⟨#[]⟩ : ByteArray), .str (⟨#[]⟩ : ByteArray), .nils, .int .i64 (0 : Int), .int .i64 (0 : Int), .int .i64 (0 : Int), .int .i64 (0 : Int), .fls, .int .i64 (0 : Int), .int .i64 (0 : Int), .int .i64 (0 : Int), .str (⟨#[]⟩ : ByteArray), .str (⟨#[]⟩ : ByteArray), .int .i64 (0 : Int), .str (⟨#[]⟩ : ByteArray), .nils]), (2, .box [.int .i64 x_1, .int .i64 (0 : Int), .str r_58.1, .int .i64 r_59.1, .str (⟨#[]⟩ : ByteArray), .int .i64 (0 : Int), .str (⟨#[]⟩ : ByteArray), .int .i64 (0 : Int), .str (⟨#[]⟩ : ByteArray), .str (⟨#[]⟩ : ByteArray), .str r_66.1.Flight.Carrier, .int .i64 r_66.1.Flight.Number, .str r_66.1.Flight.Suffix, .int .i64 r_66.1.Flight.Day, .str r_66.1.Port, .str r_66.1.Class, .nils, .int .i64 (0 : Int), .int .i64 (0 : Int), .int .i64 (0 : Int), .int .i64 (0 : Int), .fls, .int .i64 (0 : Int), .int .i64 (0 : Int), .int .i64 (0 : Int), .str (⟨#[]⟩ : ByteArray), .str (⟨#[]⟩ : ByteArray), .int .i64 (0 : Int), .str (⟨#[]⟩ : ByteArray), .osl 3]), (3, .row 1 (a_70.map iA))], 4⟩
          conv => whnf
          refine ⟨fun hb_45 => ?_, fun hb_45 => ?_⟩
          · replace hL1 := cond_t hb_45 hL1
            conv => whnf
            obtain ⟨r_73, h_r_73, hL1⟩ := bind_some hL1
            refine ⟨_, _, _, _, _, _, _, _, _, callX false [0] [] 0 Try.func11 (by decide) rfl (keep_Src_Range_ac (⟨a_68, i_69⟩ : Src) (1 : Int) (3 : Int) r_73 h_r_73) rfl ⟨(argP (id := 0) (by (conv => lhs; whnf); all_goals rfl) rfl), (argE (by (conv => lhs; whnf); all_goals rfl) rfl), (argE (by (conv => lhs; whnf); all_goals rfl) rfl), trivial⟩ rfl ⟨rfl, trivial⟩ rfl rfl rfl lend0 ⟨rfl, trivial⟩ rfl, ?_⟩
            conv => whnf
            refine ⟨_, rfl, ?_⟩
            conv => whnf
            obtain ⟨l_74, h_l_74, hL1⟩ := bind_some hL1
            refine ap_q (enc := iA) (l := a_70) (y := ([(w64 (i_71 + r_73.1))] : List Int)) h_l_74 rfl rfl (by decide) ?_
            conv => whnf
            refine ⟨_, rfl, ?_⟩
            conv => whnf
            exact ⟨(q_75, r_73.2.L, r_73.2.At, l_74, (w64 (i_71 + r_73.1)), (w64 (i_72 - (1 : Int)))), [0, 1, 2, 6], [], [], hL1, Nat.lt_succ_self _, wk_mk [0, 1, 2, 6] [] [] rfl ⟨argP (id := 0) (by (conv => lhs; whnf); all_goals rfl) rfl, argP (id := 1) (by (conv => lhs; whnf); all_goals rfl) rfl, argP (id := 2) (by (conv => lhs; whnf); all_goals rfl) rfl, argE (by (conv => lhs; whnf); all_goals rfl) rfl, argE (by (conv => lhs; whnf); all_goals rfl) rfl, trivial⟩ ⟨boxL rfl rfl rfl ⟨(.ni _ rfl), (.ni _ rfl), trivial⟩, boxL rfl rfl rfl ⟨(.ni _ rfl), (.ni _ rfl), (.ni _ rfl), (.ni _ rfl), (.ni _ rfl), (.ni _ rfl), (.ni _ rfl), (.ni _ rfl), (.ni _ rfl), (.ni _ rfl), (.ni _ rfl), (.ni _ rfl), (.ni _ rfl), (.ni _ rfl), (.ni _ rfl), (.ni _ rfl), (.ni _ rfl), (.ni _ rfl), (.ni _ rfl), (.ni _ rfl), (.ni _ rfl), (.ni _ rfl), (.ni _ rfl), (.ni _ rfl), (.ni _ rfl), (.ni _ rfl), (.ni _ rfl), (.ni _ rfl), (.ni _ rfl), (.ni _ rfl), trivial⟩, boxL rfl rfl rfl ⟨(.ni _ rfl), (.ni _ rfl), (.ni _ rfl), (.ni _ rfl), (.ni _ rfl), (.ni _ rfl), (.ni _ rfl), (.ni _ rfl), (.ni _ rfl), (.ni _ rfl), (.ni _ rfl), (.ni _ rfl), (.ni _ rfl), (.ni _ rfl), (.ni _ rfl), (.ni _ rfl), (.ni _ rfl), (.ni _ rfl), (.ni _ rfl), (.ni _ rfl), (.ni _ rfl), (.ni _ rfl), (.ni _ rfl), (.ni _ rfl), (.ni _ rfl), (.ni _ rfl), (.ni _ rfl), (.ni _ rfl), (.ni _ rfl), (.oslg 6 3 rfl), trivial⟩, blkR (fun _ => ⟨rfl, rfl⟩) rfl rfl, trivial⟩⟩
          · replace hL1 := cond_f hb_45 hL1
            conv => whnf
            obtain rfl := Option.some.inj hL1
            replace hF := fin_brk hF
            try dsimp only at hF
            obtain rfl := Option.some.inj hF
            exact ret_gz [0] [] [3] rfl (argA (c := [.int .i64 x_1, .int .i64 (0 : Int), .str r_58.1, .int .i64 r_59.1, .str (⟨#[]⟩ : ByteArray), .int .i64 (0 : Int), .str (⟨#[]⟩ : ByteArray), .int .i64 (0 : Int), .str (⟨#[]⟩ : ByteArray), .str (⟨#[]⟩ : ByteArray), .str r_66.1.Flight.Carrier, .int .i64 r_66.1.Flight.Number, .str r_66.1.Flight.Suffix, .int .i64 r_66.1.Flight.Day, .str r_66.1.Port, .str r_66.1.Class, .nils, .int .i64 (0 : Int), .int .i64 (0 : Int), .int .i64 (0 : Int), .int .i64 (0 : Int), .fls, .int .i64 (0 : Int), .int .i64 (0 : Int), .int .i64 (0 : Int), .str (⟨#[]⟩ : ByteArray), .str (⟨#[]⟩ : ByteArray), .int .i64 (0 : Int), .str (⟨#[]⟩ : ByteArray), .osl 3]) (by (conv => lhs; whnf); all_goals rfl) rfl ⟨(.ni _ rfl), (.ni _ rfl), (.ni _ rfl), (.ni _ rfl), (.ni _ rfl), (.ni _ rfl), (.ni _ rfl), (.ni _ rfl), (.ni _ rfl), (.ni _ rfl), (.ni _ rfl), (.ni _ rfl), (.ni _ rfl), (.ni _ rfl), (.ni _ rfl), (.ni _ rfl), (.nils _), (.ni _ rfl), (.ni _ rfl), (.ni _ rfl), (.ni _ rfl), .fls, (.ni _ rfl), (.ni _ rfl), (.ni _ rfl), (.ni _ rfl), (.ni _ rfl), (.ni _ rfl), (.ni _ rfl), (.osl 3 1 _ (by simp) rfl (map_ni (fun _ => ⟨rfl, rfl⟩) _)), trivial⟩) ⟨boxL rfl rfl rfl ⟨(.ni _ rfl), (.ni _ rfl), trivial⟩, trivial⟩
        · replace hF := cond_f hb_44 hF
          conv => whnf
          obtain ⟨r_77, h_r_77, hF⟩ := bind_some hF
          refine ⟨_, _, _, _, _, _, _, _, _, callX true [0] [6] 0 Try.func44 (by decide) rfl (keep_Src_Pick_ac r_59.2 ([(0 : Int), (0 : Int), (1 : Int), (2 : Int)] : List Int) r_77 h_r_77) rfl ⟨(argP (id := 0) (by (conv => lhs; whnf); all_goals rfl) rfl), (argOL 6 (by (conv => lhs; whnf); all_goals rfl) rfl rfl (map_ni (fun _ => ⟨rfl, rfl⟩) _)), trivial⟩ rfl ⟨rfl, trivial⟩ rfl rfl rfl giveU ⟨rfl, trivial⟩ rfl, ?_⟩
          conv => whnf
          obtain ⟨r_78, h_r_78, hF⟩ := bind_some hF
          refine ⟨_, _, _, _, _, _, _, _, _, callX false [0] [] 0 Try.func43 (by decide) rfl (keep_Src_Leg_ac r_77.2 r_78 h_r_78) rfl ⟨(argP (id := 0) (by (conv => lhs; whnf); all_goals rfl) rfl), trivial⟩ rfl ⟨rfl, trivial⟩ rfl rfl rfl lend0 ⟨rfl, trivial⟩ rfl, ?_⟩
          conv => whnf
          obtain ⟨r_79, h_r_79, hF⟩ := bind_some hF
          refine ⟨_, _, _, _, _, _, _, _, _, callX false [0] [] 0 Try.func41 (by decide) rfl (keep_Src_AnyPlate_ac r_78.2 r_79 h_r_79) rfl ⟨(argP (id := 0) (by (conv => lhs; whnf); all_goals rfl) rfl), trivial⟩ rfl ⟨rfl, trivial⟩ rfl rfl rfl lend0 ⟨rfl, trivial⟩ rfl, ?_⟩
          conv => whnf
          obtain ⟨r_80, h_r_80, hF⟩ := bind_some hF
          refine ⟨_, _, _, _, _, _, _, _, _, callX false [0] [] 0 Try.func11 (by decide) rfl (keep_Src_Range_ac r_79.2 (1 : Int) (3 : Int) r_80 h_r_80) rfl ⟨(argP (id := 0) (by (conv => lhs; whnf); all_goals rfl) rfl), (argE (by (conv => lhs; whnf); all_goals rfl) rfl), (argE (by (conv => lhs; whnf); all_goals rfl) rfl), trivial⟩ rfl ⟨rfl, trivial⟩ rfl rfl rfl lend0 ⟨rfl, trivial⟩ rfl, ?_⟩
          conv => whnf
          refine ⟨fun hb_46 => ?_, fun hb_46 => ?_⟩
          · replace hF := cond_t hb_46 hF
            conv => whnf
            obtain ⟨r_81, h_r_81, hF⟩ := bind_some hF
            refine ⟨_, _, _, _, _, _, _, _, _, callX false [0] [] 0 Try.func43 (by decide) rfl (keep_Src_Leg_ac r_80.2 r_81 h_r_81) rfl ⟨(argP (id := 0) (by (conv => lhs; whnf); all_goals rfl) rfl), trivial⟩ rfl ⟨rfl, trivial⟩ rfl rfl rfl lend0 ⟨rfl, trivial⟩ rfl, ?_⟩
            conv => whnf
            obtain ⟨r_82, h_r_82, hF⟩ := bind_some hF
            refine ⟨_, _, _, _, _, _, _, _, _, callX false [0] [] 0 Try.func23 (by decide) rfl (keep_Src_N_ac r_81.2 (4 : Int) r_82 h_r_82) rfl ⟨(argP (id := 0) (by (conv => lhs; whnf); all_goals rfl) rfl), (argE (by (conv => lhs; whnf); all_goals rfl) rfl), trivial⟩ rfl ⟨rfl, trivial⟩ rfl rfl rfl lend0 ⟨rfl, trivial⟩ rfl, ?_⟩
            conv => whnf
            obtain ⟨c_2, hc_2, hF⟩ := fin_some hF
            refine sw_loop tab_ok follows_ok (fun y : Nat × (List Int) × Int × (List Leg) × Int => keep_Src_Message_L2 y.1 y.2.1 y.2.2.1 y.2.2.2.1 y.2.2.2.2 = some c_2) (fun y => ⟨eL [(0, .ptr 0 0), (4, .ptr 1 0), (5, .ptr 2 0), (8, .int .i64 y.2.2.2.2)], hL [(0, .box [.lst 1 (y.2.1.map iA), .int .i64 y.2.2.1]), (1, .box [.int .i64 (0 : Int), .int .i64 (0 : Int), .str (⟨#[]⟩ : ByteArray), .int .i64 (0 : Int), .str (⟨#[]⟩ : ByteArray), .int .i64 (0 : Int), .str (⟨#[]⟩ : ByteArray), .int .i64 (0 : Int), .str (⟨#[]⟩ : ByteArray), .str (⟨#[]⟩ : ByteArray), .str (⟨#[]⟩ : ByteArray), .int .i64 (0 : Int), .str (⟨#[]⟩ : ByteArray), .int .i64 (0 : Int), .str (⟨#[]⟩ : ByteArray), .str (⟨#[]⟩ : ByteArray), .nils, .int .i64 (0 : Int), .int .i64 (0 : Int), .int .i64 (0 : Int), .int .i64 (0 : Int), .fls, .int .i64 (0 : Int), .int .i64 (0 : Int), .int .i64 (0 : Int), .str (⟨#[]⟩ : ByteArray), .str (⟨#[]⟩ : ByteArray), .int .i64 (0 : Int), .str (⟨#[]⟩ : ByteArray), .nils]), (2, .box [.int .i64 x_1, .int .i64 r_77.1, .str r_58.1, .int .i64 r_59.1, .str r_81.1.Flight.Carrier, .int .i64 r_81.1.Flight.Number, .str r_81.1.Flight.Suffix, .int .i64 r_81.1.Flight.Day, .str r_81.1.Port, .str r_81.1.Class, .str r_78.1.Flight.Carrier, .int .i64 r_78.1.Flight.Number, .str r_78.1.Flight.Suffix, .int .i64 r_78.1.Flight.Day, .str r_78.1.Port, .str r_78.1.Class, .osl 3, .int .i64 r_79.1.Lead, .int .i64 r_79.1.Airline, .int .i64 r_79.1.Serial, .int .i64 r_80.1, .fls, .int .i64 (0 : Int), .int .i64 (0 : Int), .int .i64 (0 : Int), .str (⟨#[]⟩ : ByteArray), .str (⟨#[]⟩ : ByteArray), .int .i64 (0 : Int), .str (⟨#[]⟩ : ByteArray), .nils]), (3, .row 6 (y.2.2.2.1.map encLeg))], 4⟩) (fun y => y.1) (9223372036854775807, r_82.2.L, r_82.2.At, ([] : List Leg), r_82.1) hc_2 (wk_mk [0, 1, 5] [3] [] rfl ⟨argP (id := 0) (by (conv => lhs; whnf); all_goals rfl) rfl, argP (id := 1) (by (conv => lhs; whnf); all_goals rfl) rfl, argP (id := 5) (by (conv => lhs; whnf); all_goals rfl) rfl, argE (by (conv => lhs; whnf); all_goals rfl) rfl, trivial⟩ ⟨boxL rfl rfl rfl ⟨(.ni _ rfl), (.ni _ rfl), trivial⟩, boxL rfl rfl rfl ⟨(.ni _ rfl), (.ni _ rfl), (.ni _ rfl), (.ni _ rfl), (.ni _ rfl), (.ni _ rfl), (.ni _ rfl), (.ni _ rfl), (.ni _ rfl), (.ni _ rfl), (.ni _ rfl), (.ni _ rfl), (.ni _ rfl), (.ni _ rfl), (.ni _ rfl), (.ni _ rfl), (.ni _ rfl), (.ni _ rfl), (.ni _ rfl), (.ni _ rfl), (.ni _ rfl), (.ni _ rfl), (.ni _ rfl), (.ni _ rfl), (.ni _ rfl), (.ni _ rfl), (.ni _ rfl), (.ni _ rfl), (.ni _ rfl), (.ni _ rfl), trivial⟩, boxL rfl rfl rfl ⟨(.ni _ rfl), (.ni _ rfl), (.ni _ rfl), (.ni _ rfl), (.ni _ rfl), (.ni _ rfl), (.ni _ rfl), (.ni _ rfl), (.ni _ rfl), (.ni _ rfl), (.ni _ rfl), (.ni _ rfl), (.ni _ rfl), (.ni _ rfl), (.ni _ rfl), (.ni _ rfl), (.nilz 3 (by simp)), (.ni _ rfl), (.ni _ rfl), (.ni _ rfl), (.ni _ rfl), (.ni _ rfl), (.ni _ rfl), (.ni _ rfl), (.ni _ rfl), (.ni _ rfl), (.ni _ rfl), (.ni _ rfl), (.ni _ rfl), (.ni _ rfl), trivial⟩, blkZ rfl, trivial⟩) ?_
            rintro ⟨q_89, a_83, i_84, a_85, i_86⟩ hL1
            try dsimp only at hL1
            rcases q_89 with _ | q_89
            · rw [keep_Src_Message_L2.eq_1] at hL1
              cases hL1
            rw [keep_Src_Message_L2.eq_2] at hL1
            show awp _ _ _ _ _ _ ⟨eL [(0, .ptr 0 0), (4, .ptr 1 0), (5, .ptr 2 0), (8, .int .i64 i_86)], hL [(0, .box [.lst 1 (a_83.map iA), .int .i64 i_84]), (1, .box [.int .i64 (0 : Int), .int .i64 (0 : Int), .str (⟨#[]⟩ : ByteArray), .int .i64 (0 : Int), .str (⟨#[]⟩ : ByteArray), .int .i64 (0 : Int), .str (⟨#[]⟩ : ByteArray), .int .i64 (0 : Int), .str (⟨#[]⟩ : ByteArray), .str (⟨#[]⟩ : ByteArray), .str (⟨#[]⟩ : ByteArray), .int .i64 (0 : Int), .str (⟨#[]⟩ : ByteArray), .int .i64 (0 : Int), .str (⟨#[]⟩ : ByteArray), .str (⟨#[]⟩ : ByteArray), .nils, .int .i64 (0 : Int), .int .i64 (0 : Int), .int .i64 (0 : Int), .int .i64 (0 : Int), .fls, .int .i64 (0 : Int), .int .i64 (0 : Int), .int .i64 (0 : Int), .str (⟨#[]⟩ : ByteArray), .str (⟨#[]⟩ : ByteArray), .int .i64 (0 : Int), .str (⟨#[]⟩ : ByteArray), .nils]), (2, .box [.int .i64 x_1, .int .i64 r_77.1, .str r_58.1, .int .i64 r_59.1, .str r_81.1.Flight.Carrier, .int .i64 r_81.1.Flight.Number, .str r_81.1.Flight.Suffix, .int .i64 r_81.1.Flight.Day, .str r_81.1.Port, .str r_81.1.Class, .str r_78.1.Flight.Carrier, .int .i64 r_78.1.Flight.Number, .str r_78.1.Flight.Suffix, .int .i64 r_78.1.Flight.Day, .str r_78.1.Port, .str r_78.1.Class, .osl 3, .int .i64 r_79.1.Lead, .int .i64 r_79.1.Airline, .int .i64 r_79.1.Serial, .int .i64 r_80.1, .fls, .int .i64 (0 : Int), .int .i64 (0 : Int), .int .i64 (0 : Int), .str (⟨#[]⟩ : ByteArray), .str (⟨#[]⟩ : ByteArray), .int .i64 (0 : Int), .str (⟨#[]⟩ : ByteArray), .nils]), (3, .row 6 (a_85.map encLeg))], 4⟩
            conv => whnf
            refine ⟨fun hb_47 => ?_, fun hb_47 => ?_⟩
            · replace hL1 := cond_t hb_47 hL1
              conv => whnf
              obtain ⟨r_87, h_r_87, hL1⟩ := bind_some hL1
              refine ⟨_, _, _, _, _, _, _, _, _, callX false [0] [] 0 Try.func43 (by decide) rfl (keep_Src_Leg_ac (⟨a_83, i_84⟩ : Src) r_87 h_r_87) rfl ⟨(argP (id := 0) (by (conv => lhs; whnf); all_goals rfl) rfl), trivial⟩ rfl ⟨rfl, trivial⟩ rfl rfl rfl lend0 ⟨rfl, trivial⟩ rfl, ?_⟩
              conv => whnf
              obtain ⟨l_88, h_l_88, hL1⟩ := bind_some hL1
              refine ap_q (enc := encLeg) (l := a_85) (y := ([r_87.1] : List Leg)) h_l_88 rfl rfl (by decide) ?_
              conv => whnf
              refine ⟨by kernel_rfl, ?_⟩
              conv => whnf
              refine ⟨_, rfl, ?_⟩
              conv => whnf
              exact ⟨(q_89, r_87.2.L, r_87.2.At, l_88, (w64 (i_86 - (1 : Int)))), [0, 1, 2, 6], [], [], hL1, Nat.lt_succ_self _, wk_mk [0, 1, 2, 6] [] [] rfl ⟨argP (id := 0) (by (conv => lhs; whnf); all_goals rfl) rfl, argP (id := 1) (by (conv => lhs; whnf); all_goals rfl) rfl, argP (id := 2) (by (conv => lhs; whnf); all_goals rfl) rfl, argE (by (conv => lhs; whnf); all_goals rfl) rfl, trivial⟩ ⟨boxL rfl rfl rfl ⟨(.ni _ rfl), (.ni _ rfl), trivial⟩, boxL rfl rfl rfl ⟨(.ni _ rfl), (.ni _ rfl), (.ni _ rfl), (.ni _ rfl), (.ni _ rfl), (.ni _ rfl), (.ni _ rfl), (.ni _ rfl), (.ni _ rfl), (.ni _ rfl), (.ni _ rfl), (.ni _ rfl), (.ni _ rfl), (.ni _ rfl), (.ni _ rfl), (.ni _ rfl), (.ni _ rfl), (.ni _ rfl), (.ni _ rfl), (.ni _ rfl), (.ni _ rfl), (.ni _ rfl), (.ni _ rfl), (.ni _ rfl), (.ni _ rfl), (.ni _ rfl), (.ni _ rfl), (.ni _ rfl), (.ni _ rfl), (.ni _ rfl), trivial⟩, boxL rfl rfl rfl ⟨(.ni _ rfl), (.ni _ rfl), (.ni _ rfl), (.ni _ rfl), (.ni _ rfl), (.ni _ rfl), (.ni _ rfl), (.ni _ rfl), (.ni _ rfl), (.ni _ rfl), (.ni _ rfl), (.ni _ rfl), (.ni _ rfl), (.ni _ rfl), (.ni _ rfl), (.ni _ rfl), (.oslg 6 3 rfl), (.ni _ rfl), (.ni _ rfl), (.ni _ rfl), (.ni _ rfl), (.ni _ rfl), (.ni _ rfl), (.ni _ rfl), (.ni _ rfl), (.ni _ rfl), (.ni _ rfl), (.ni _ rfl), (.ni _ rfl), (.ni _ rfl), trivial⟩, blkR (fun _ => ⟨rfl, rfl⟩) rfl rfl, trivial⟩⟩
            · replace hL1 := cond_f hb_47 hL1
              conv => whnf
              obtain rfl := Option.some.inj hL1
              replace hF := fin_brk hF
              try dsimp only at hF
              obtain ⟨r_91, h_r_91, hF⟩ := bind_some hF
              refine ⟨_, _, _, _, _, _, _, _, _, callX false [0] [] 0 Try.func23 (by decide) rfl (keep_Src_N_ac (⟨a_83, i_84⟩ : Src) (3 : Int) r_91 h_r_91) rfl ⟨(argP (id := 0) (by (conv => lhs; whnf); all_goals rfl) rfl), (argE (by (conv => lhs; whnf); all_goals rfl) rfl), trivial⟩ rfl ⟨rfl, trivial⟩ rfl rfl rfl lend0 ⟨rfl, trivial⟩ rfl, ?_⟩
              conv => whnf
              obtain ⟨r_92, h_r_92, hF⟩ := bind_some hF
              refine ⟨_, _, _, _, _, _, _, _, _, callX false [0] [] 0 Try.func11 (by decide) rfl (keep_Src_Range_ac r_91.2 (1 : Int) (4 : Int) r_92 h_r_92) rfl ⟨(argP (id := 0) (by (conv => lhs; whnf); all_goals rfl) rfl), (argE (by (conv => lhs; whnf); all_goals rfl) rfl), (argE (by (conv => lhs; whnf); all_goals rfl) rfl), trivial⟩ rfl ⟨rfl, trivial⟩ rfl rfl rfl lend0 ⟨rfl, trivial⟩ rfl, ?_⟩
              conv => whnf
              obtain ⟨r_93, h_r_93, hF⟩ := bind_some hF
              refine ⟨_, _, _, _, _, _, _, _, _, callX false [0] [] 0 Try.func11 (by decide) rfl (keep_Src_Range_ac r_92.2 (1 : Int) (4 : Int) r_93 h_r_93) rfl ⟨(argP (id := 0) (by (conv => lhs; whnf); all_goals rfl) rfl), (argE (by (conv => lhs; whnf); all_goals rfl) rfl), (argE (by (conv => lhs; whnf); all_goals rfl) rfl), trivial⟩ rfl ⟨rfl, trivial⟩ rfl rfl rfl lend0 ⟨rfl, trivial⟩ rfl, ?_⟩
              conv => whnf
              obtain ⟨r_94, h_r_94, hF⟩ := bind_some hF
              refine ⟨_, _, _, _, _, _, _, _, _, callX true [0] [7] 0 Try.func44 (by decide) rfl (keep_Src_Pick_ac r_93.2 ([(20 : Int), (0 : Int), (999 : Int)] : List Int) r_94 h_r_94) rfl ⟨(argP (id := 0) (by (conv => lhs; whnf); all_goals rfl) rfl), (argOL 7 (by (conv => lhs; whnf); all_goals rfl) rfl rfl (map_ni (fun _ => ⟨rfl, rfl⟩) _)), trivial⟩ rfl ⟨rfl, trivial⟩ rfl rfl rfl giveU ⟨rfl, trivial⟩ rfl, ?_⟩
              conv => whnf
              obtain ⟨r_95, h_r_95, hF⟩ := bind_some hF
              refine ⟨_, _, _, _, _, _, _, _, _, callX false [0] [] 0 Try.func42 (by decide) rfl (keep_Src_Letters_ac r_94.2 (1 : Int) (6 : Int) r_95 h_r_95) rfl ⟨(argP (id := 0) (by (conv => lhs; whnf); all_goals rfl) rfl), (argE (by (conv => lhs; whnf); all_goals rfl) rfl), (argE (by (conv => lhs; whnf); all_goals rfl) rfl), trivial⟩ rfl ⟨rfl, trivial⟩ rfl rfl rfl lend0 ⟨rfl, trivial⟩ rfl, ?_⟩
              conv => whnf
              obtain ⟨r_96, h_r_96, hF⟩ := bind_some hF
              refine ⟨_, _, _, _, _, _, _, _, _, callX false [0] [] 0 Try.func42 (by decide) rfl (keep_Src_Letters_ac r_95.2 (0 : Int) (5 : Int) r_96 h_r_96) rfl ⟨(argP (id := 0) (by (conv => lhs; whnf); all_goals rfl) rfl), (argE (by (conv => lhs; whnf); all_goals rfl) rfl), (argE (by (conv => lhs; whnf); all_goals rfl) rfl), trivial⟩ rfl ⟨rfl, trivial⟩ rfl rfl rfl lend0 ⟨rfl, trivial⟩ rfl, ?_⟩
              conv => whnf
              obtain ⟨r_97, h_r_97, hF⟩ := bind_some hF
              refine ⟨_, _, _, _, _, _, _, _, _, callX false [0] [] 0 Try.func11 (by decide) rfl (keep_Src_Range_ac r_96.2 (0 : Int) (3 : Int) r_97 h_r_97) rfl ⟨(argP (id := 0) (by (conv => lhs; whnf); all_goals rfl) rfl), (argE (by (conv => lhs; whnf); all_goals rfl) rfl), (argE (by (conv => lhs; whnf); all_goals rfl) rfl), trivial⟩ rfl ⟨rfl, trivial⟩ rfl rfl rfl lend0 ⟨rfl, trivial⟩ rfl, ?_⟩
              conv => whnf
              obtain rfl := Option.some.inj hF
              exact ret_gz [0] [] [3] rfl (argA (c := [.int .i64 x_1, .int .i64 r_77.1, .str r_58.1, .int .i64 r_59.1, .str r_81.1.Flight.Carrier, .int .i64 r_81.1.Flight.Number, .str r_81.1.Flight.Suffix, .int .i64 r_81.1.Flight.Day, .str r_81.1.Port, .str r_81.1.Class, .str r_78.1.Flight.Carrier, .int .i64 r_78.1.Flight.Number, .str r_78.1.Flight.Suffix, .int .i64 r_78.1.Flight.Day, .str r_78.1.Port, .str r_78.1.Class, .osl 3, .int .i64 r_79.1.Lead, .int .i64 r_79.1.Airline, .int .i64 r_79.1.Serial, .int .i64 r_80.1, .bool (decide ((0 : Int) < r_91.1)), .int .i64 r_92.1, .int .i64 r_93.1, .int .i64 r_94.1, .str r_95.1, .str r_96.1, .int .i64 r_97.1, .str (⟨#[]⟩ : ByteArray), .nils]) (by (conv => lhs; whnf); all_goals rfl) rfl ⟨(.ni _ rfl), (.ni _ rfl), (.ni _ rfl), (.ni _ rfl), (.ni _ rfl), (.ni _ rfl), (.ni _ rfl), (.ni _ rfl), (.ni _ rfl), (.ni _ rfl), (.ni _ rfl), (.ni _ rfl), (.ni _ rfl), (.ni _ rfl), (.ni _ rfl), (.ni _ rfl), (.osl 3 6 _ (by simp) rfl (map_ni (fun _ => ⟨rfl, rfl⟩) _)), (.ni _ rfl), (.ni _ rfl), (.ni _ rfl), (.ni _ rfl), (.ni _ rfl), (.ni _ rfl), (.ni _ rfl), (.ni _ rfl), (.ni _ rfl), (.ni _ rfl), (.ni _ rfl), (.ni _ rfl), (.nils _), trivial⟩) ⟨boxL rfl rfl rfl ⟨(.ni _ rfl), (.ni _ rfl), trivial⟩, trivial⟩
          · replace hF := cond_f hb_46 hF
            conv => whnf
            obtain ⟨r_98, h_r_98, hF⟩ := bind_some hF
            refine ⟨_, _, _, _, _, _, _, _, _, callX false [0] [] 0 Try.func23 (by decide) rfl (keep_Src_N_ac r_80.2 (4 : Int) r_98 h_r_98) rfl ⟨(argP (id := 0) (by (conv => lhs; whnf); all_goals rfl) rfl), (argE (by (conv => lhs; whnf); all_goals rfl) rfl), trivial⟩ rfl ⟨rfl, trivial⟩ rfl rfl rfl lend0 ⟨rfl, trivial⟩ rfl, ?_⟩
            conv => whnf
            obtain ⟨c_2, hc_2, hF⟩ := fin_some hF
            refine sw_loop tab_ok follows_ok (fun y : Nat × (List Int) × Int × (List Leg) × Int => keep_Src_Message_L2 y.1 y.2.1 y.2.2.1 y.2.2.2.1 y.2.2.2.2 = some c_2) (fun y => ⟨eL [(0, .ptr 0 0), (4, .ptr 1 0), (5, .ptr 2 0), (8, .int .i64 y.2.2.2.2)], hL [(0, .box [.lst 1 (y.2.1.map iA), .int .i64 y.2.2.1]), (1, .box [.int .i64 (0 : Int), .int .i64 (0 : Int), .str (⟨#[]⟩ : ByteArray), .int .i64 (0 : Int), .str (⟨#[]⟩ : ByteArray), .int .i64 (0 : Int), .str (⟨#[]⟩ : ByteArray), .int .i64 (0 : Int), .str (⟨#[]⟩ : ByteArray), .str (⟨#[]⟩ : ByteArray), .str (⟨#[]⟩ : ByteArray), .int .i64 (0 : Int), .str (⟨#[]⟩ : ByteArray), .int .i64 (0 : Int), .str (⟨#[]⟩ : ByteArray), .str (⟨#[]⟩ : ByteArray), .nils, .int .i64 (0 : Int), .int .i64 (0 : Int), .int .i64 (0 : Int), .int .i64 (0 : Int), .fls, .int .i64 (0 : Int), .int .i64 (0 : Int), .int .i64 (0 : Int), .str (⟨#[]⟩ : ByteArray), .str (⟨#[]⟩ : ByteArray), .int .i64 (0 : Int), .str (⟨#[]⟩ : ByteArray), .nils]), (2, .box [.int .i64 x_1, .int .i64 r_77.1, .str r_58.1, .int .i64 r_59.1, .str (⟨#[]⟩ : ByteArray), .int .i64 (0 : Int), .str (⟨#[]⟩ : ByteArray), .int .i64 (0 : Int), .str (⟨#[]⟩ : ByteArray), .str (⟨#[]⟩ : ByteArray), .str r_78.1.Flight.Carrier, .int .i64 r_78.1.Flight.Number, .str r_78.1.Flight.Suffix, .int .i64 r_78.1.Flight.Day, .str r_78.1.Port, .str r_78.1.Class, .osl 3, .int .i64 r_79.1.Lead, .int .i64 r_79.1.Airline, .int .i64 r_79.1.Serial, .int .i64 r_80.1, .fls, .int .i64 (0 : Int), .int .i64 (0 : Int), .int .i64 (0 : Int), .str (⟨#[]⟩ : ByteArray), .str (⟨#[]⟩ : ByteArray), .int .i64 (0 : Int), .str (⟨#[]⟩ : ByteArray), .nils]), (3, .row 6 (y.2.2.2.1.map encLeg))], 4⟩) (fun y => y.1) (9223372036854775807, r_98.2.L, r_98.2.At, ([] : List Leg), r_98.1) hc_2 (wk_mk [0, 1, 5] [3] [] rfl ⟨argP (id := 0) (by (conv => lhs; whnf); all_goals rfl) rfl, argP (id := 1) (by (conv => lhs; whnf); all_goals rfl) rfl, argP (id := 5) (by (conv => lhs; whnf); all_goals rfl) rfl, argE (by (conv => lhs; whnf); all_goals rfl) rfl, trivial⟩ ⟨boxL rfl rfl rfl ⟨(.ni _ rfl), (.ni _ rfl), trivial⟩, boxL rfl rfl rfl ⟨(.ni _ rfl), (.ni _ rfl), (.ni _ rfl), (.ni _ rfl), (.ni _ rfl), (.ni _ rfl), (.ni _ rfl), (.ni _ rfl), (.ni _ rfl), (.ni _ rfl), (.ni _ rfl), (.ni _ rfl), (.ni _ rfl), (.ni _ rfl), (.ni _ rfl), (.ni _ rfl), (.ni _ rfl), (.ni _ rfl), (.ni _ rfl), (.ni _ rfl), (.ni _ rfl), (.ni _ rfl), (.ni _ rfl), (.ni _ rfl), (.ni _ rfl), (.ni _ rfl), (.ni _ rfl), (.ni _ rfl), (.ni _ rfl), (.ni _ rfl), trivial⟩, boxL rfl rfl rfl ⟨(.ni _ rfl), (.ni _ rfl), (.ni _ rfl), (.ni _ rfl), (.ni _ rfl), (.ni _ rfl), (.ni _ rfl), (.ni _ rfl), (.ni _ rfl), (.ni _ rfl), (.ni _ rfl), (.ni _ rfl), (.ni _ rfl), (.ni _ rfl), (.ni _ rfl), (.ni _ rfl), (.nilz 3 (by simp)), (.ni _ rfl), (.ni _ rfl), (.ni _ rfl), (.ni _ rfl), (.ni _ rfl), (.ni _ rfl), (.ni _ rfl), (.ni _ rfl), (.ni _ rfl), (.ni _ rfl), (.ni _ rfl), (.ni _ rfl), (.ni _ rfl), trivial⟩, blkZ rfl, trivial⟩) ?_
            rintro ⟨q_105, a_99, i_100, a_101, i_102⟩ hL1
            try dsimp only at hL1
            rcases q_105 with _ | q_105
            · rw [keep_Src_Message_L2.eq_1] at hL1
              cases hL1
            rw [keep_Src_Message_L2.eq_2] at hL1
            show awp _ _ _ _ _ _ ⟨eL [(0, .ptr 0 0), (4, .ptr 1 0), (5, .ptr 2 0), (8, .int .i64 i_102)], hL [(0, .box [.lst 1 (a_99.map iA), .int .i64 i_100]), (1, .box [.int .i64 (0 : Int), .int .i64 (0 : Int), .str (⟨#[]⟩ : ByteArray), .int .i64 (0 : Int), .str (⟨#[]⟩ : ByteArray), .int .i64 (0 : Int), .str (⟨#[]⟩ : ByteArray), .int .i64 (0 : Int), .str (⟨#[]⟩ : ByteArray), .str (⟨#[]⟩ : ByteArray), .str (⟨#[]⟩ : ByteArray), .int .i64 (0 : Int), .str (⟨#[]⟩ : ByteArray), .int .i64 (0 : Int), .str (⟨#[]⟩ : ByteArray), .str (⟨#[]⟩ : ByteArray), .nils, .int .i64 (0 : Int), .int .i64 (0 : Int), .int .i64 (0 : Int), .int .i64 (0 : Int), .fls, .int .i64 (0 : Int), .int .i64 (0 : Int), .int .i64 (0 : Int), .str (⟨#[]⟩ : ByteArray), .str (⟨#[]⟩ : ByteArray), .int .i64 (0 : Int), .str (⟨#[]⟩ : ByteArray), .nils]), (2, .box [.int .i64 x_1, .int .i64 r_77.1, .str r_58.1, .int .i64 r_59.1, .str (⟨#[]⟩ : ByteArray), .int .i64 (0 : Int), .str (⟨#[]⟩ : ByteArray), .int .i64 (0 : Int), .str (⟨#[]⟩ : ByteArray), .str (⟨#[]⟩ : ByteArray), .str r_78.1.Flight.Carrier, .int .i64 r_78.1.Flight.Number, .str r_78.1.Flight.Suffix, .int .i64 r_78.1.Flight.Day, .str r_78.1.Port, .str r_78.1.Class, .osl 3, .int .i64 r_79.1.Lead, .int .i64 r_79.1.Airline, .int .i64 r_79.1.Serial, .int .i64 r_80.1, .fls, .int .i64 (0 : Int), .int .i64 (0 : Int), .int .i64 (0 : Int), .str (⟨#[]⟩ : ByteArray), .str (⟨#[]⟩ : ByteArray), .int .i64 (0 : Int), .str (⟨#[]⟩ : ByteArray), .nils]), (3, .row 6 (a_101.map encLeg))], 4⟩
            conv => whnf
            refine ⟨fun hb_48 => ?_, fun hb_48 => ?_⟩
            · replace hL1 := cond_t hb_48 hL1
              conv => whnf
              obtain ⟨r_103, h_r_103, hL1⟩ := bind_some hL1
              refine ⟨_, _, _, _, _, _, _, _, _, callX false [0] [] 0 Try.func43 (by decide) rfl (keep_Src_Leg_ac (⟨a_99, i_100⟩ : Src) r_103 h_r_103) rfl ⟨(argP (id := 0) (by (conv => lhs; whnf); all_goals rfl) rfl), trivial⟩ rfl ⟨rfl, trivial⟩ rfl rfl rfl lend0 ⟨rfl, trivial⟩ rfl, ?_⟩
              conv => whnf
              obtain ⟨l_104, h_l_104, hL1⟩ := bind_some hL1
              refine ap_q (enc := encLeg) (l := a_101) (y := ([r_103.1] : List Leg)) h_l_104 rfl rfl (by decide) ?_
              conv => whnf
              refine ⟨by kernel_rfl, ?_⟩
              conv => whnf
              refine ⟨_, rfl, ?_⟩
              conv => whnf
              exact ⟨(q_105, r_103.2.L, r_103.2.At, l_104, (w64 (i_102 - (1 : Int)))), [0, 1, 2, 6], [], [], hL1, Nat.lt_succ_self _, wk_mk [0, 1, 2, 6] [] [] rfl ⟨argP (id := 0) (by (conv => lhs; whnf); all_goals rfl) rfl, argP (id := 1) (by (conv => lhs; whnf); all_goals rfl) rfl, argP (id := 2) (by (conv => lhs; whnf); all_goals rfl) rfl, argE (by (conv => lhs; whnf); all_goals rfl) rfl, trivial⟩ ⟨boxL rfl rfl rfl ⟨(.ni _ rfl), (.ni _ rfl), trivial⟩, boxL rfl rfl rfl ⟨(.ni _ rfl), (.ni _ rfl), (.ni _ rfl), (.ni _ rfl), (.ni _ rfl), (.ni _ rfl), (.ni _ rfl), (.ni _ rfl), (.ni _ rfl), (.ni _ rfl), (.ni _ rfl), (.ni _ rfl), (.ni _ rfl), (.ni _ rfl), (.ni _ rfl), (.ni _ rfl), (.ni _ rfl), (.ni _ rfl), (.ni _ rfl), (.ni _ rfl), (.ni _ rfl), (.ni _ rfl), (.ni _ rfl), (.ni _ rfl), (.ni _ rfl), (.ni _ rfl), (.ni _ rfl), (.ni _ rfl), (.ni _ rfl), (.ni _ rfl), trivial⟩, boxL rfl rfl rfl ⟨(.ni _ rfl), (.ni _ rfl), (.ni _ rfl), (.ni _ rfl), (.ni _ rfl), (.ni _ rfl), (.ni _ rfl), (.ni _ rfl), (.ni _ rfl), (.ni _ rfl), (.ni _ rfl), (.ni _ rfl), (.ni _ rfl), (.ni _ rfl), (.ni _ rfl), (.ni _ rfl), (.oslg 6 3 rfl), (.ni _ rfl), (.ni _ rfl), (.ni _ rfl), (.ni _ rfl), (.ni _ rfl), (.ni _ rfl), (.ni _ rfl), (.ni _ rfl), (.ni _ rfl), (.ni _ rfl), (.ni _ rfl), (.ni _ rfl), (.ni _ rfl), trivial⟩, blkR (fun _ => ⟨rfl, rfl⟩) rfl rfl, trivial⟩⟩
            · replace hL1 := cond_f hb_48 hL1
              conv => whnf
              obtain rfl := Option.some.inj hL1
              replace hF := fin_brk hF
              try dsimp only at hF
              obtain ⟨r_107, h_r_107, hF⟩ := bind_some hF
              refine ⟨_, _, _, _, _, _, _, _, _, callX false [0] [] 0 Try.func23 (by decide) rfl (keep_Src_N_ac (⟨a_99, i_100⟩ : Src) (3 : Int) r_107 h_r_107) rfl ⟨(argP (id := 0) (by (conv => lhs; whnf); all_goals rfl) rfl), (argE (by (conv => lhs; whnf); all_goals rfl) rfl), trivial⟩ rfl ⟨rfl, trivial⟩ rfl rfl rfl lend0 ⟨rfl, trivial⟩ rfl, ?_⟩
              conv => whnf
              obtain ⟨r_108, h_r_108, hF⟩ := bind_some hF
              refine ⟨_, _, _, _, _, _, _, _, _, callX false [0] [] 0 Try.func11 (by decide) rfl (keep_Src_Range_ac r_107.2 (1 : Int) (4 : Int) r_108 h_r_108) rfl ⟨(argP (id := 0) (by (conv => lhs; whnf); all_goals rfl) rfl), (argE (by (conv => lhs; whnf); all_goals rfl) rfl), (argE (by (conv => lhs; whnf); all_goals rfl) rfl), trivial⟩ rfl ⟨rfl, trivial⟩ rfl rfl rfl lend0 ⟨rfl, trivial⟩ rfl, ?_⟩
              conv => whnf
              obtain ⟨r_109, h_r_109, hF⟩ := bind_some hF
              refine ⟨_, _, _, _, _, _, _, _, _, callX false [0] [] 0 Try.func11 (by decide) rfl (keep_Src_Range_ac r_108.2 (1 : Int) (4 : Int) r_109 h_r_109) rfl ⟨(argP (id := 0) (by (conv => lhs; whnf); all_goals rfl) rfl), (argE (by (conv => lhs; whnf); all_goals rfl) rfl), (argE (by (conv => lhs; whnf); all_goals rfl) rfl), trivial⟩ rfl ⟨rfl, trivial⟩ rfl rfl rfl lend0 ⟨rfl, trivial⟩ rfl, ?_⟩
              conv => whnf
              obtain ⟨r_110, h_r_110, hF⟩ := bind_some hF
              refine ⟨_, _, _, _, _, _, _, _, _, callX true [0] [7] 0 Try.func44 (by decide) rfl (keep_Src_Pick_ac r_109.2 ([(20 : Int), (0 : Int), (999 : Int)] : List Int) r_110 h_r_110) rfl ⟨(argP (id := 0) (by (conv => lhs; whnf); all_goals rfl) rfl), (argOL 7 (by (conv => lhs; whnf); all_goals rfl) rfl rfl (map_ni (fun _ => ⟨rfl, rfl⟩) _)), trivial⟩ rfl ⟨rfl, trivial⟩ rfl rfl rfl giveU ⟨rfl, trivial⟩ rfl, ?_⟩
              conv => whnf
              obtain ⟨r_111, h_r_111, hF⟩ := bind_some hF
              refine ⟨_, _, _, _, _, _, _, _, _, callX false [0] [] 0 Try.func42 (by decide) rfl (keep_Src_Letters_ac r_110.2 (1 : Int) (6 : Int) r_111 h_r_111) rfl ⟨(argP (id := 0) (by (conv => lhs; whnf); all_goals rfl) rfl), (argE (by (conv => lhs; whnf); all_goals rfl) rfl), (argE (by (conv => lhs; whnf); all_goals rfl) rfl), trivial⟩ rfl ⟨rfl, trivial⟩ rfl rfl rfl lend0 ⟨rfl, trivial⟩ rfl, ?_⟩
              conv => whnf
              obtain ⟨r_112, h_r_112, hF⟩ := bind_some hF
              refine ⟨_, _, _, _, _, _, _, _, _, callX false [0] [] 0 Try.func42 (by decide) rfl (keep_Src_Letters_ac r_111.2 (0 : Int) (5 : Int) r_112 h_r_112) rfl ⟨(argP (id := 0) (by (conv => lhs; whnf); all_goals rfl) rfl), (argE (by (conv => lhs; whnf); all_goals rfl) rfl), (argE (by (conv => lhs; whnf); all_goals rfl) rfl), trivial⟩ rfl ⟨rfl, trivial⟩ rfl rfl rfl lend0 ⟨rfl, trivial⟩ rfl, ?_⟩
              conv => whnf
              obtain ⟨r_113, h_r_113, hF⟩ := bind_some hF
              refine ⟨_, _, _, _, _, _, _, _, _, callX false [0] [] 0 Try.func11 (by decide) rfl (keep_Src_Range_ac r_112.2 (0 : Int) (3 : Int) r_113 h_r_113) rfl ⟨(argP (id := 0) (by (conv => lhs; whnf); all_goals rfl) rfl), (argE (by (conv => lhs; whnf); all_goals rfl) rfl), (argE (by (conv => lhs; whnf); all_goals rfl) rfl), trivial⟩ rfl ⟨rfl, trivial⟩ rfl rfl rfl lend0 ⟨rfl, trivial⟩ rfl, ?_⟩
              conv => whnf
              obtain rfl := Option.some.inj hF
              exact ret_gz [0] [] [3] rfl (argA (c := [.int .i64 x_1, .int .i64 r_77.1, .str r_58.1, .int .i64 r_59.1, .str (⟨#[]⟩ : ByteArray), .int .i64 (0 : Int), .str (⟨#[]⟩ : ByteArray), .int .i64 (0 : Int), .str (⟨#[]⟩ : ByteArray), .str (⟨#[]⟩ : ByteArray), .str r_78.1.Flight.Carrier, .int .i64 r_78.1.Flight.Number, .str r_78.1.Flight.Suffix, .int .i64 r_78.1.Flight.Day, .str r_78.1.Port, .str r_78.1.Class, .osl 3, .int .i64 r_79.1.Lead, .int .i64 r_79.1.Airline, .int .i64 r_79.1.Serial, .int .i64 r_80.1, .bool (decide ((0 : Int) < r_107.1)), .int .i64 r_108.1, .int .i64 r_109.1, .int .i64 r_110.1, .str r_111.1, .str r_112.1, .int .i64 r_113.1, .str (⟨#[]⟩ : ByteArray), .nils]) (by (conv => lhs; whnf); all_goals rfl) rfl ⟨(.ni _ rfl), (.ni _ rfl), (.ni _ rfl), (.ni _ rfl), (.ni _ rfl), (.ni _ rfl), (.ni _ rfl), (.ni _ rfl), (.ni _ rfl), (.ni _ rfl), (.ni _ rfl), (.ni _ rfl), (.ni _ rfl), (.ni _ rfl), (.ni _ rfl), (.ni _ rfl), (.osl 3 6 _ (by simp) rfl (map_ni (fun _ => ⟨rfl, rfl⟩) _)), (.ni _ rfl), (.ni _ rfl), (.ni _ rfl), (.ni _ rfl), (.ni _ rfl), (.ni _ rfl), (.ni _ rfl), (.ni _ rfl), (.ni _ rfl), (.ni _ rfl), (.ni _ rfl), (.ni _ rfl), (.nils _), trivial⟩) ⟨boxL rfl rfl rfl ⟨(.ni _ rfl), (.ni _ rfl), trivial⟩, trivial⟩

set_option maxRecDepth 100000 in
set_option maxHeartbeats 40000000 in
theorem ref05_Sender_ac (x_0 : Inbox) (x_1 : ByteArray) (r : Sender × Bool) (hF : ref05_Sender x_0 x_1 = some r) : AC Try.prog 46 [.agg (encInbox x_0), .str x_1] [] (.tup [.agg (encSender r.1), .bool r.2]) [] := by
  refine ac_of tab_ok follows_ok Try.func46 rfl Try.ntmps46 rfl ?_
  unfold ref05_Sender at hF
  conv => whnf
  obtain ⟨c_1, hc_1, hF⟩ := fin_some hF
  refine sw_bv 0 (v := .agg [.int .i64 x_0.Window, .lst 3 (x_0.L.map encSender)]) (by (conv => lhs; whnf); all_goals rfl) (fun hb => ?_)
  have hbd_k_2 : x_0.L.length ≤ 9223372036854775807 := bnd_len (enc := encSender) ((bnd_at hb.cell 1 rfl))
  refine sw_loop tab_ok follows_ok (fun y : Nat => y ≤ x_0.L.length ∧ ref05_Sender_L1 x_1 (x_0.L.drop y) y = some c_1) (fun y => ⟨eL [(1, .str x_1), (2, .ptr 0 0), (4, .ptr 1 0), (6, .int .i64 (y : Int))], hL [(0, .box [.int .i64 x_0.Window, .lst 3 (x_0.L.map encSender)]), (1, .box [.str (⟨#[]⟩ : ByteArray), .int .i64 (0 : Int), .nils])], 2⟩) (fun y => x_0.L.length - y) 0 ⟨Nat.zero_le _, hc_1⟩ (wk_mk [0, 1] [] [] rfl ⟨argE (by (conv => lhs; whnf); all_goals rfl) rfl, argP (id := 0) (by (conv => lhs; whnf); all_goals rfl) rfl, argP (id := 1) (by (conv => lhs; whnf); all_goals rfl) rfl, argE (by (conv => lhs; whnf); all_goals rfl) rfl, trivial⟩ ⟨boxL rfl rfl rfl ⟨(.ni _ rfl), (.ni _ rfl), trivial⟩, boxL rfl rfl rfl ⟨(.ni _ rfl), (.ni _ rfl), (.ni _ rfl), trivial⟩, trivial⟩) ?_
  rintro k_2 ⟨hk_k_2, hL1⟩
  try dsimp only at hk_k_2 hL1
  show awp _ _ _ _ _ _ ⟨eL [(1, .str x_1), (2, .ptr 0 0), (4, .ptr 1 0), (6, .int .i64 (k_2 : Int))], hL [(0, .box [.int .i64 x_0.Window, .lst 3 (x_0.L.map encSender)]), (1, .box [.str (⟨#[]⟩ : ByteArray), .int .i64 (0 : Int), .nils])], 2⟩
  conv => whnf
  refine len_q (enc := encSender) (l := x_0.L) rfl ?_
  conv => whnf
  refine ⟨fun h => ?_, fun h => ?_⟩
  · have hlt_k_2 : k_2 < x_0.L.length := by have h := of_decide_eq_true h; omega
    obtain ⟨e_3, h_e_3⟩ : ∃ y, x_0.L[k_2]? = some y := ⟨_, List.getElem?_eq_getElem hlt_k_2⟩
    rw [drop_cons h_e_3, ref05_Sender_L1.eq_2] at hL1
    conv => whnf
    refine ⟨k_2, _, rfl, ix_map h_e_3, ?_⟩
    conv => whnf
    refine ⟨fun hb_7 => ?_, fun hb_7 => ?_⟩
    · replace hL1 := cond_t hb_7 hL1
      conv => whnf
      refine ⟨k_2, _, rfl, ix_map h_e_3, ?_⟩
      conv => whnf
      obtain rfl := Option.some.inj hL1
      replace hF := fin_ret hF
      obtain rfl := Option.some.inj hF
      exact ret_gz [] [] [] rfl (tupL rfl ⟨(argE (by (conv => lhs; whnf); all_goals rfl) rfl), (argT (by (conv => lhs; whnf); all_goals rfl)), trivial⟩) trivial
    · replace hL1 := cond_f hb_7 hL1
      conv => whnf
      refine ⟨((k_2 + 1 : Nat) : Int), wrapE (by omega) (by omega) (by omega), ?_⟩
      conv => whnf
      exact ⟨k_2 + 1, [0, 1], [], [], ⟨hlt_k_2, hL1⟩, by show x_0.L.length - (k_2 + 1) < x_0.L.length - k_2; omega, wk_mk [0, 1] [] [] rfl ⟨argE (by (conv => lhs; whnf); all_goals rfl) rfl, argP (id := 0) (by (conv => lhs; whnf); all_goals rfl) rfl, argP (id := 1) (by (conv => lhs; whnf); all_goals rfl) rfl, argE (by (conv => lhs; whnf); all_goals rfl) rfl, trivial⟩ ⟨boxL rfl rfl rfl ⟨(.ni _ rfl), (.ni _ rfl), trivial⟩, boxL rfl rfl rfl ⟨(.ni _ rfl), (.ni _ rfl), (.ni _ rfl), trivial⟩, trivial⟩⟩
  · rw [drop_nil (show x_0.L.length ≤ k_2 by have h := of_decide_eq_false h; omega), ref05_Sender_L1.eq_1] at hL1
    conv => whnf
    obtain rfl := Option.some.inj hL1
    replace hF := fin_brk hF
    try dsimp only at hF
    obtain rfl := Option.some.inj hF
    exact ret_gz [] [] [] rfl (tupL rfl ⟨(argA (c := [.str x_1, .int .i64 (1 : Int), .nils]) (by (conv => lhs; whnf); all_goals rfl) rfl ⟨(.ni _ rfl), (.ni _ rfl), (.nils _), trivial⟩), (argFl (by (conv => lhs; whnf); all_goals rfl)), trivial⟩) trivial

set_option maxRecDepth 100000 in
set_option maxHeartbeats 40000000 in
theorem ref05_held_ac (x_0 : Sender) (x_1 : Int) (r : Int) (hF : ref05_held x_0 x_1 = some r) : AC Try.prog 47 [.agg (encSender x_0), .int .i64 x_1] [] (.int .i64 r) [] := by
  refine ac_of tab_ok follows_ok Try.func47 rfl Try.ntmps47 rfl ?_
  unfold ref05_held at hF
  conv => whnf
  obtain ⟨c_1, hc_1, hF⟩ := fin_some hF
  refine sw_bv 0 (v := .agg [.str x_0.Port, .int .i64 x_0.Next, .lst 30 (x_0.Held.map encMessage)]) (by (conv => lhs; whnf); all_goals rfl) (fun hb => ?_)
  have hbd_k_2 : x_0.Held.length ≤ 9223372036854775807 := bnd_len (enc := encMessage) ((bnd_at hb.cell 2 rfl))
  refine sw_loop tab_ok follows_ok (fun y : Nat => y ≤ x_0.Held.length ∧ ref05_held_L1 x_1 (x_0.Held.drop y) y = some c_1) (fun y => ⟨eL [(1, .int .i64 x_1), (2, .ptr 0 0), (5, .int .i64 (y : Int))], hL [(0, .box [.str x_0.Port, .int .i64 x_0.Next, .lst 30 (x_0.Held.map encMessage)])], 1⟩) (fun y => x_0.Held.length - y) 0 ⟨Nat.zero_le _, hc_1⟩ (wk_mk [0] [] [] rfl ⟨argE (by (conv => lhs; whnf); all_goals rfl) rfl, argP (id := 0) (by (conv => lhs; whnf); all_goals rfl) rfl, argE (by (conv => lhs; whnf); all_goals rfl) rfl, trivial⟩ ⟨boxL rfl rfl rfl ⟨(.ni _ rfl), (.ni _ rfl), (.ni _ rfl), trivial⟩, trivial⟩) ?_
  rintro k_2 ⟨hk_k_2, hL1⟩
  try dsimp only at hk_k_2 hL1
  show awp _ _ _ _ _ _ ⟨eL [(1, .int .i64 x_1), (2, .ptr 0 0), (5, .int .i64 (k_2 : Int))], hL [(0, .box [.str x_0.Port, .int .i64 x_0.Next, .lst 30 (x_0.Held.map encMessage)])], 1⟩
  conv => whnf
  refine len_q (enc := encMessage) (l := x_0.Held) rfl ?_
  conv => whnf
  refine ⟨fun h => ?_, fun h => ?_⟩
  · have hlt_k_2 : k_2 < x_0.Held.length := by have h := of_decide_eq_true h; omega
    obtain ⟨e_3, h_e_3⟩ : ∃ y, x_0.Held[k_2]? = some y := ⟨_, List.getElem?_eq_getElem hlt_k_2⟩
    rw [drop_cons h_e_3, ref05_held_L1.eq_2] at hL1
    conv => whnf
    refine ⟨k_2, _, rfl, ix_map h_e_3, ?_⟩
    conv => whnf
    refine ⟨fun hb_7 => ?_, fun hb_7 => ?_⟩
    · replace hL1 := cond_t hb_7 hL1
      conv => whnf
      obtain rfl := Option.some.inj hL1
      replace hF := fin_ret hF
      obtain rfl := Option.some.inj hF
      exact ret_gz [] [] [] rfl (argE (by (conv => lhs; whnf); all_goals rfl) rfl) trivial
    · replace hL1 := cond_f hb_7 hL1
      conv => whnf
      refine ⟨((k_2 + 1 : Nat) : Int), wrapE (by omega) (by omega) (by omega), ?_⟩
      conv => whnf
      exact ⟨k_2 + 1, [0], [], [], ⟨hlt_k_2, hL1⟩, by show x_0.Held.length - (k_2 + 1) < x_0.Held.length - k_2; omega, wk_mk [0] [] [] rfl ⟨argE (by (conv => lhs; whnf); all_goals rfl) rfl, argP (id := 0) (by (conv => lhs; whnf); all_goals rfl) rfl, argE (by (conv => lhs; whnf); all_goals rfl) rfl, trivial⟩ ⟨boxL rfl rfl rfl ⟨(.ni _ rfl), (.ni _ rfl), (.ni _ rfl), trivial⟩, trivial⟩⟩
  · rw [drop_nil (show x_0.Held.length ≤ k_2 by have h := of_decide_eq_false h; omega), ref05_held_L1.eq_1] at hL1
    conv => whnf
    obtain rfl := Option.some.inj hL1
    replace hF := fin_brk hF
    try dsimp only at hF
    obtain rfl := Option.some.inj hF
    exact ret_gz [] [] [] rfl (argE (by (conv => lhs; whnf); all_goals rfl) rfl) trivial

set_option maxRecDepth 100000 in
set_option maxHeartbeats 40000000 in
theorem ref05_Missing_ac (x_0 : Inbox) (x_1 : ByteArray) (r : (List Int)) (hF : ref05_Missing x_0 x_1 = some r) : AC Try.prog 25 [.agg (encInbox x_0), .str x_1] [] (.lst 1 (r.map iA)) [] := by
  refine ac_of tab_ok follows_ok Try.func25 rfl Try.ntmps25 rfl ?_
  unfold ref05_Missing at hF
  conv => whnf
  obtain ⟨r_1, h_r_1, hF⟩ := bind_some hF
  refine ⟨_, _, _, _, _, _, _, _, _, callX false [] [] 0 Try.func46 (by decide) rfl (ref05_Sender_ac x_0 x_1 r_1 h_r_1) rfl ⟨(argE (by (conv => lhs; whnf); all_goals rfl) rfl), (argE (by (conv => lhs; whnf); all_goals rfl) rfl), trivial⟩ rfl trivial rfl rfl rfl lend0 trivial rfl, ?_⟩
  conv => whnf
  refine len_q (enc := encMessage) (l := r_1.1.Held) rfl ?_
  conv => whnf
  refine ⟨fun hb_10 => ?_, fun hb_10 => ?_⟩
  · replace hF := cond_t hb_10 hF
    conv => whnf
    obtain rfl := Option.some.inj hF
    exact ret_gz [] [] [] rfl (argN (by (conv => lhs; whnf); all_goals rfl)) trivial
  · replace hF := cond_f hb_10 hF
    conv => whnf
    obtain ⟨c_1, hc_1, hF⟩ := fin_some hF
    refine sw_loop tab_ok follows_ok (fun y : Nat × (List Int) × Int => ref05_Missing_L1 r_1 y.1 y.2.1 y.2.2 = some c_1) (fun y => ⟨eL [(5, .ptr 0 0), (7, .osl 1), (8, .int .i64 y.2.2)], hL [(0, .box [.str r_1.1.Port, .int .i64 r_1.1.Next, .lst 30 (r_1.1.Held.map encMessage)]), (1, .row 1 (y.2.1.map iA))], 2⟩) (fun y => y.1) (9223372036854775807, ([] : List Int), r_1.1.Next) hc_1 (wk_mk [2] [1] [] rfl ⟨argP (id := 2) (by (conv => lhs; whnf); all_goals rfl) rfl, argZ (by (conv => lhs; whnf); all_goals rfl) rfl, argE (by (conv => lhs; whnf); all_goals rfl) rfl, trivial⟩ ⟨boxL rfl rfl rfl ⟨(.ni _ rfl), (.ni _ rfl), (.ni _ rfl), trivial⟩, blkZ rfl, trivial⟩) ?_
    rintro ⟨q_7, a_2, i_3⟩ hL1
    try dsimp only at hL1
    rcases q_7 with _ | q_7
    · rw [ref05_Missing_L1.eq_1] at hL1
      cases hL1
    rw [ref05_Missing_L1.eq_2] at hL1
    show awp _ _ _ _ _ _ ⟨eL [(5, .ptr 0 0), (7, .osl 1), (8, .int .i64 i_3)], hL [(0, .box [.str r_1.1.Port, .int .i64 r_1.1.Next, .lst 30 (r_1.1.Held.map encMessage)]), (1, .row 1 (a_2.map iA))], 2⟩
    conv => whnf
    refine len_q (enc := encMessage) (l := r_1.1.Held) rfl ?_
    conv => whnf
    refine ⟨_, rfl, ?_⟩
    conv => whnf
    obtain ⟨e_4, h_e_4, hL1⟩ := bind_some hL1
    refine ix_q (enc := encMessage) (l := r_1.1.Held) h_e_4 rfl (fun m_e_4 hm_e_4 hx_e_4 => ?_)
    conv => whnf
    refine ⟨fun hb_11 => ?_, fun hb_11 => ?_⟩
    · replace hL1 := cond_t hb_11 hL1
      conv => whnf
      obtain ⟨r_5, h_r_5, hL1⟩ := bind_some hL1
      refine ⟨_, _, _, _, _, _, _, _, _, callX false [] [] 0 Try.func47 (by decide) rfl (ref05_held_ac r_1.1 i_3 r_5 h_r_5) rfl ⟨(argE (by (conv => lhs; whnf); all_goals rfl) rfl), (argE (by (conv => lhs; whnf); all_goals rfl) rfl), trivial⟩ rfl trivial rfl rfl rfl lend0 trivial rfl, ?_⟩
      conv => whnf
      refine ⟨fun hb_12 => ?_, fun hb_12 => ?_⟩
      · replace hL1 := cond_t hb_12 hL1
        conv => whnf
        obtain ⟨l_6, h_l_6, hL1⟩ := bind_some hL1
        refine ap_q (enc := iA) (l := a_2) (y := ([i_3] : List Int)) h_l_6 rfl rfl (by decide) ?_
        conv => whnf
        refine ⟨_, rfl, ?_⟩
        conv => whnf
        exact ⟨(q_7, l_6, (w64 (i_3 + (1 : Int)))), [0, 4], [], [], hL1, Nat.lt_succ_self _, wk_mk [0, 4] [] [] rfl ⟨argP (id := 0) (by (conv => lhs; whnf); all_goals rfl) rfl, argO (id := 4) (by (conv => lhs; whnf); all_goals rfl) rfl, argE (by (conv => lhs; whnf); all_goals rfl) rfl, trivial⟩ ⟨boxL rfl rfl rfl ⟨(.ni _ rfl), (.ni _ rfl), (.ni _ rfl), trivial⟩, blkR (fun _ => ⟨rfl, rfl⟩) rfl rfl, trivial⟩⟩
      · replace hL1 := cond_f hb_12 hL1
        conv => whnf
        refine ⟨_, rfl, ?_⟩
        conv => whnf
        exact ⟨(q_7, a_2, (w64 (i_3 + (1 : Int)))), [0, 1], [], [], hL1, Nat.lt_succ_self _, wk_mk [0, 1] [] [] rfl ⟨argP (id := 0) (by (conv => lhs; whnf); all_goals rfl) rfl, argO (id := 1) (by (conv => lhs; whnf); all_goals rfl) rfl, argE (by (conv => lhs; whnf); all_goals rfl) rfl, trivial⟩ ⟨boxL rfl rfl rfl ⟨(.ni _ rfl), (.ni _ rfl), (.ni _ rfl), trivial⟩, blkR (fun _ => ⟨rfl, rfl⟩) rfl rfl, trivial⟩⟩
    · replace hL1 := cond_f hb_11 hL1
      conv => whnf
      obtain rfl := Option.some.inj hL1
      replace hF := fin_brk hF
      try dsimp only at hF
      obtain rfl := Option.some.inj hF
      exact ret_gz [] [] [1] rfl (argOL 1 (by (conv => lhs; whnf); all_goals rfl) rfl rfl (map_ni (fun _ => ⟨rfl, rfl⟩) _)) trivial

set_option maxRecDepth 100000 in
set_option maxHeartbeats 40000000 in
theorem inbox_Skip_ac (x_0 : Inbox) (x_1 : ByteArray) (r : Inbox × (List Message) × Int) (hF : inbox_Skip x_0 x_1 = some r) : AC Try.prog 26 [.agg (encInbox x_0), .str x_1] [] (.tup [.agg (encInbox r.1), .lst 30 (r.2.1.map encMessage), .int .i64 r.2.2]) [] := by
  refine ac_of tab_ok follows_ok Try.func26 rfl Try.ntmps26 rfl ?_
  unfold inbox_Skip at hF
  conv => whnf
  obtain ⟨r_1, h_r_1, hF⟩ := bind_some hF
  refine ⟨_, _, _, _, _, _, _, _, _, callX false [] [] 0 Try.func30 (by decide) rfl (inbox_find_ac x_0 x_1 r_1 h_r_1) rfl ⟨(argE (by (conv => lhs; whnf); all_goals rfl) rfl), (argE (by (conv => lhs; whnf); all_goals rfl) rfl), trivial⟩ rfl trivial rfl rfl rfl lend0 trivial rfl, ?_⟩
  conv => whnf
  refine ⟨fun hb_3 => ?_, fun hb_3 => ?_⟩
  · replace hF := cond_f hb_3 hF
    conv => whnf
    obtain ⟨e_2, h_e_2, hF⟩ := bind_some hF
    refine ix_q (enc := encSender) (l := x_0.L) h_e_2 rfl (fun m_e_2 hm_e_2 hx_e_2 => ?_)
    conv => whnf
    refine len_q (enc := encMessage) (l := e_2.Held) rfl ?_
    conv => whnf
    refine ⟨fun hb_4 => ?_, fun hb_4 => ?_⟩
    · replace hF := cond_t hb_4 hF
      conv => whnf
      obtain rfl := Option.some.inj hF
      exact ret_gz [] [] [] rfl (tupL rfl ⟨(argA (c := [.int .i64 (0 : Int), .nils]) (by (conv => lhs; whnf); all_goals rfl) rfl ⟨(.ni _ rfl), (.nils _), trivial⟩), (argN (by (conv => lhs; whnf); all_goals rfl)), (argE (by (conv => lhs; whnf); all_goals rfl) rfl), trivial⟩) trivial
    · replace hF := cond_f hb_4 hF
      conv => whnf
      obtain ⟨r_3, h_r_3, hF⟩ := bind_some hF
      refine ⟨_, _, _, _, _, _, _, _, _, callX false [] [] 1 Try.func34 (by decide) rfl (inbox_clone_ac x_0 r_3 h_r_3) rfl ⟨(argE (by (conv => lhs; whnf); all_goals rfl) rfl), trivial⟩ rfl trivial rfl rfl rfl lend0 ⟨renR (fun _ => ⟨rfl, rfl⟩), trivial⟩ rfl, ?_⟩
      conv => whnf
      obtain ⟨e_4, h_e_4, hF⟩ := bind_some hF
      refine ixo_q (enc := encSender) (l := r_3.L) h_e_4 rfl (fun m_e_4 hm_e_4 hx_e_4 => ?_)
      conv => whnf
      refine ⟨_, ix_map (enc := encSender) hx_e_4, ?_⟩
      conv => whnf
      obtain ⟨e_5, h_e_5, hF⟩ := bind_some hF
      refine ix_q (enc := encMessage) (l := e_4.Held) h_e_5 rfl (fun m_e_5 hm_e_5 hx_e_5 => ?_)
      conv => whnf
      refine st_q (enc := encSender) (l := r_3.L) (x' := (⟨e_4.Port, e_5.Number, e_4.Held⟩ : Sender)) (i := r_1.1) hm_e_4 hx_e_4 rfl (Nat.le_of_ble_eq_true rfl) rfl ?_
      conv => whnf
      obtain ⟨r_6, h_r_6, hF⟩ := bind_some hF
      refine ⟨_, _, _, _, _, _, _, _, _, callX false [3] [] 0 Try.func39 (by decide) rfl (inbox_release_ac (r_3.L.set r_1.1.toNat (⟨e_4.Port, e_5.Number, e_4.Held⟩ : Sender)) ((r_1.1).toNat) r_6 h_r_6) rfl ⟨(argEp (id := 3) (by (conv => lhs; whnf); rw [show (r_1.1).toNat = m_e_4 from toNat_of hm_e_4]) rfl), trivial⟩ rfl ⟨(grR (fun _ => ⟨rfl, rfl⟩) rfl), trivial⟩ rfl rfl rfl lend0 ⟨renR (fun _ => ⟨rfl, rfl⟩), trivial⟩ rfl, ?_⟩
      conv => whnf
      refine ⟨by kernel_rfl, ?_⟩
      conv => whnf
      obtain rfl := Option.some.inj hF
      exact ret_gz [] [] [3] rfl (tupL rfl ⟨(argA (c := [.int .i64 r_3.Window, .osl 3]) (by (conv => lhs; whnf); all_goals rfl) rfl ⟨(.ni _ rfl), (.osl 3 3 _ (by simp) rfl (map_ni (fun _ => ⟨rfl, rfl⟩) _)), trivial⟩), (argE (by (conv => lhs; whnf); all_goals rfl) rfl), (argE (by (conv => lhs; whnf); all_goals rfl) rfl), trivial⟩) trivial
  · replace hF := cond_t hb_3 hF
    conv => whnf
    obtain rfl := Option.some.inj hF
    exact ret_gz [] [] [] rfl (tupL rfl ⟨(argA (c := [.int .i64 (0 : Int), .nils]) (by (conv => lhs; whnf); all_goals rfl) rfl ⟨(.ni _ rfl), (.nils _), trivial⟩), (argN (by (conv => lhs; whnf); all_goals rfl)), (argE (by (conv => lhs; whnf); all_goals rfl) rfl), trivial⟩) trivial

set_option maxRecDepth 100000 in
set_option maxHeartbeats 40000000 in
theorem ref05_release_ac (x_0 : Sender) (r : Sender × (List Message)) (hF : ref05_release x_0 = some r) : AC Try.prog 48 [.agg (encSender x_0)] [] (.tup [.agg (encSender r.1), .lst 30 (r.2.map encMessage)]) [] := by
  refine ac_of tab_ok follows_ok Try.func48 rfl Try.ntmps48 rfl ?_
  unfold ref05_release at hF
  conv => whnf
  obtain ⟨c_1, hc_1, hF⟩ := fin_some hF
  refine sw_loop tab_ok follows_ok (fun y : Nat × Int × (List Message) × (List Message) => ref05_release_L1 x_0 y.1 y.2.1 y.2.2.1 y.2.2.2 = some c_1) (fun y => ⟨eL [(1, .ptr 0 0), (2, .ptr 1 0), (4, .osl 2)], hL [(0, .box [.str x_0.Port, .int .i64 y.2.1, .lst 30 (y.2.2.1.map encMessage)]), (1, .box [.str (⟨#[]⟩ : ByteArray), .int .i64 (0 : Int), .nils]), (2, .row 30 (y.2.2.2.map encMessage))], 3⟩) (fun y => y.1) (9223372036854775807, x_0.Next, x_0.Held, ([] : List Message)) hc_1 (wk_mk [0, 1] [2] [] rfl ⟨argP (id := 0) (by (conv => lhs; whnf); all_goals rfl) rfl, argP (id := 1) (by (conv => lhs; whnf); all_goals rfl) rfl, argZ (by (conv => lhs; whnf); all_goals rfl) rfl, trivial⟩ ⟨boxL rfl rfl rfl ⟨(.ni _ rfl), (.ni _ rfl), (.ni _ rfl), trivial⟩, boxL rfl rfl rfl ⟨(.ni _ rfl), (.ni _ rfl), (.ni _ rfl), trivial⟩, blkZ rfl, trivial⟩) ?_
  rintro ⟨q_12, i_1, a_2, a_3⟩ hL1
  try dsimp only at hL1
  rcases q_12 with _ | q_12
  · rw [ref05_release_L1.eq_1] at hL1
    cases hL1
  rw [ref05_release_L1.eq_2] at hL1
  show awp _ _ _ _ _ _ ⟨eL [(1, .ptr 0 0), (2, .ptr 1 0), (4, .osl 2)], hL [(0, .box [.str x_0.Port, .int .i64 i_1, .lst 30 (a_2.map encMessage)]), (1, .box [.str (⟨#[]⟩ : ByteArray), .int .i64 (0 : Int), .nils]), (2, .row 30 (a_3.map encMessage))], 3⟩
  conv => whnf
  obtain ⟨r_4, h_r_4, hL1⟩ := bind_some hL1
  refine ⟨_, _, _, _, _, _, _, _, _, callX false [] [] 0 Try.func47 (by decide) rfl (ref05_held_ac (⟨x_0.Port, i_1, a_2⟩ : Sender) i_1 r_4 h_r_4) rfl ⟨(argE (by (conv => lhs; whnf); all_goals rfl) rfl), (argE (by (conv => lhs; whnf); all_goals rfl) rfl), trivial⟩ rfl trivial rfl rfl rfl lend0 trivial rfl, ?_⟩
  conv => whnf
  refine ⟨fun hb_5 => ?_, fun hb_5 => ?_⟩
  · replace hL1 := cond_t hb_5 hL1
    conv => whnf
    obtain ⟨r_5, h_r_5, hL1⟩ := bind_some hL1
    refine ⟨_, _, _, _, _, _, _, _, _, callX false [] [] 0 Try.func47 (by decide) rfl (ref05_held_ac (⟨x_0.Port, i_1, a_2⟩ : Sender) i_1 r_5 h_r_5) rfl ⟨(argE (by (conv => lhs; whnf); all_goals rfl) rfl), (argE (by (conv => lhs; whnf); all_goals rfl) rfl), trivial⟩ rfl trivial rfl rfl rfl lend0 trivial rfl, ?_⟩
    conv => whnf
    obtain ⟨e_6, h_e_6, hL1⟩ := bind_some hL1
    refine ix_q (enc := encMessage) (l := a_2) h_e_6 rfl (fun m_e_6 hm_e_6 hx_e_6 => ?_)
    conv => whnf
    obtain ⟨l_7, h_l_7, hL1⟩ := bind_some hL1
    refine ap_q (enc := encMessage) (l := a_3) (y := ([e_6] : List Message)) h_l_7 rfl rfl (by decide) ?_
    conv => whnf
    obtain ⟨l_8, h_l_8, hL1⟩ := bind_some hL1
    refine sl_q0 (enc := encMessage) (l := a_2) h_l_8 rfl ?_
    conv => whnf
    obtain ⟨l_9, h_l_9, hL1⟩ := bind_some hL1
    refine ap_q (enc := encMessage) (l := ([] : List Message)) (y := l_8) h_l_9 rfl rfl (by decide) ?_
    conv => whnf
    refine ⟨_, rfl, ?_⟩
    conv => whnf
    obtain ⟨l_10, h_l_10, hL1⟩ := bind_some hL1
    refine sl_q1 (enc := encMessage) (l := a_2) h_l_10 rfl ?_
    conv => whnf
    obtain ⟨l_11, h_l_11, hL1⟩ := bind_some hL1
    refine ap_q (enc := encMessage) (l := l_9) (y := l_10) h_l_11 rfl rfl (by decide) ?_
    conv => whnf
    refine ⟨by kernel_rfl, ?_⟩
    conv => whnf
    refine ⟨_, rfl, ?_⟩
    conv => whnf
    exact ⟨(q_12, (w64 (i_1 + (1 : Int))), l_11, l_7), [0, 1, 6], [], [8], hL1, Nat.lt_succ_self _, wk_mk [0, 1, 6] [] [8] rfl ⟨argP (id := 0) (by (conv => lhs; whnf); all_goals rfl) rfl, argP (id := 1) (by (conv => lhs; whnf); all_goals rfl) rfl, argO (id := 6) (by (conv => lhs; whnf); all_goals rfl) rfl, trivial⟩ ⟨boxL rfl rfl rfl ⟨(.ni _ rfl), (.ni _ rfl), (.osl 8 30 _ (by simp) rfl (map_ni (fun _ => ⟨rfl, rfl⟩) _)), trivial⟩, boxL rfl rfl rfl ⟨(.ni _ rfl), (.ni _ rfl), (.ni _ rfl), trivial⟩, blkR (fun _ => ⟨rfl, rfl⟩) rfl rfl, trivial⟩⟩
  · replace hL1 := cond_f hb_5 hL1
    conv => whnf
    obtain rfl := Option.some.inj hL1
    replace hF := fin_brk hF
    try dsimp only at hF
    obtain rfl := Option.some.inj hF
    exact ret_gz [] [] [2] rfl (tupL rfl ⟨(argE (by (conv => lhs; whnf); all_goals rfl) rfl), (argOL 2 (by (conv => lhs; whnf); all_goals rfl) rfl rfl (map_ni (fun _ => ⟨rfl, rfl⟩) _)), trivial⟩) trivial

set_option maxRecDepth 100000 in
set_option maxHeartbeats 40000000 in
theorem ref05_set_ac (x_0 : Inbox) (x_1 : Sender) (r : Inbox) (hF : ref05_set x_0 x_1 = some r) : AC Try.prog 49 [.agg (encInbox x_0), .agg (encSender x_1)] [] (.agg (encInbox r)) [] := by
  refine ac_of tab_ok follows_ok Try.func49 rfl Try.ntmps49 rfl ?_
  unfold ref05_set at hF
  conv => whnf
  obtain ⟨c_1, hc_1, hF⟩ := fin_some hF
  refine sw_bv 0 (v := .agg [.int .i64 x_0.Window, .lst 3 (x_0.L.map encSender)]) (by (conv => lhs; whnf); all_goals rfl) (fun hb => ?_)
  have hbd_k_4 : x_0.L.length ≤ 9223372036854775807 := bnd_len (enc := encSender) ((bnd_at hb.cell 1 rfl))
  refine sw_loop tab_ok follows_ok (fun y : Nat × (List Sender) × Bool => y.1 ≤ x_0.L.length ∧ ref05_set_L1 x_1 (x_0.L.drop y.1) y.1 y.2.1 y.2.2 = some c_1) (fun y => ⟨eL [(2, .ptr 0 0), (3, .ptr 1 0), (4, .ptr 2 0), (5, .ptr 3 0), (6, .bool y.2.2), (7, .int .i64 (y.1 : Int))], hL [(0, .box [.int .i64 x_0.Window, .lst 3 (x_0.L.map encSender)]), (1, .box [.str x_1.Port, .int .i64 x_1.Next, .lst 30 (x_1.Held.map encMessage)]), (2, .box [.int .i64 (0 : Int), .nils]), (3, .box [.int .i64 x_0.Window, .osl 4]), (4, .row 3 (y.2.1.map encSender))], 5⟩) (fun y => x_0.L.length - y.1) (0, ([] : List Sender), false) ⟨Nat.zero_le _, hc_1⟩ (wk_mk [0, 1, 2, 3] [4] [] rfl ⟨argP (id := 0) (by (conv => lhs; whnf); all_goals rfl) rfl, argP (id := 1) (by (conv => lhs; whnf); all_goals rfl) rfl, argP (id := 2) (by (conv => lhs; whnf); all_goals rfl) rfl, argP (id := 3) (by (conv => lhs; whnf); all_goals rfl) rfl, argFl (by (conv => lhs; whnf); all_goals rfl), argE (by (conv => lhs; whnf); all_goals rfl) rfl, trivial⟩ ⟨boxL rfl rfl rfl ⟨(.ni _ rfl), (.ni _ rfl), trivial⟩, boxL rfl rfl rfl ⟨(.ni _ rfl), (.ni _ rfl), (.ni _ rfl), trivial⟩, boxL rfl rfl rfl ⟨(.ni _ rfl), (.ni _ rfl), trivial⟩, boxL rfl rfl rfl ⟨(.ni _ rfl), (.nilz 4 (by simp)), trivial⟩, blkZ rfl, trivial⟩) ?_
  rintro ⟨k_4, a_1, b_2⟩ ⟨hk_k_4, hL1⟩
  try dsimp only at hk_k_4 hL1
  show awp _ _ _ _ _ _ ⟨eL [(2, .ptr 0 0), (3, .ptr 1 0), (4, .ptr 2 0), (5, .ptr 3 0), (6, .bool b_2), (7, .int .i64 (k_4 : Int))], hL [(0, .box [.int .i64 x_0.Window, .lst 3 (x_0.L.map encSender)]), (1, .box [.str x_1.Port, .int .i64 x_1.Next, .lst 30 (x_1.Held.map encMessage)]), (2, .box [.int .i64 (0 : Int), .nils]), (3, .box [.int .i64 x_0.Window, .osl 4]), (4, .row 3 (a_1.map encSender))], 5⟩
  conv => whnf
  refine len_q (enc := encSender) (l := x_0.L) rfl ?_
  conv => whnf
  refine ⟨fun h => ?_, fun h => ?_⟩
  · have hlt_k_4 : k_4 < x_0.L.length := by have h := of_decide_eq_true h; omega
    obtain ⟨e_5, h_e_5⟩ : ∃ y, x_0.L[k_4]? = some y := ⟨_, List.getElem?_eq_getElem hlt_k_4⟩
    rw [drop_cons h_e_5, ref05_set_L1.eq_2] at hL1
    conv => whnf
    refine ⟨fun hb_22 => ?_, fun hb_22 => ?_⟩
    · replace hL1 := cond_t hb_22 hL1
      conv => whnf
      refine ⟨k_4, _, rfl, ix_map h_e_5, ?_⟩
      conv => whnf
      refine ⟨by kernel_rfl, ?_⟩
      conv => whnf
      refine ⟨fun hb_23 => ?_, fun hb_23 => ?_⟩
      · replace hL1 := cond_t hb_23 hL1
        conv => whnf
        obtain ⟨l_6, h_l_6, hL1⟩ := bind_some hL1
        refine ap_q (enc := encSender) (l := a_1) (y := ([x_1] : List Sender)) h_l_6 rfl rfl (by decide) ?_
        conv => whnf
        refine ⟨k_4, _, rfl, ix_map h_e_5, ?_⟩
        conv => whnf
        refine ⟨by kernel_rfl, ?_⟩
        conv => whnf
        refine ⟨fun hb_24 => ?_, fun hb_24 => ?_⟩
        · replace hL1 := cond_t hb_24 hL1
          conv => whnf
          refine ⟨k_4, _, rfl, ix_map h_e_5, ?_⟩
          conv => whnf
          obtain ⟨l_7, h_l_7, hL1⟩ := bind_some hL1
          refine ap_q (enc := encSender) (l := l_6) (y := ([e_5] : List Sender)) h_l_7 rfl rfl (by decide) ?_
          conv => whnf
          refine ⟨by kernel_rfl, ?_⟩
          conv => whnf
          refine ⟨((k_4 + 1 : Nat) : Int), wrapE (by omega) (by omega) (by omega), ?_⟩
          conv => whnf
          exact ⟨(k_4 + 1, l_7, true), [0, 1, 2, 3, 8], [], [], ⟨hlt_k_4, hL1⟩, by show x_0.L.length - (k_4 + 1) < x_0.L.length - k_4; omega, wk_mk [0, 1, 2, 3, 8] [] [] rfl ⟨argP (id := 0) (by (conv => lhs; whnf); all_goals rfl) rfl, argP (id := 1) (by (conv => lhs; whnf); all_goals rfl) rfl, argP (id := 2) (by (conv => lhs; whnf); all_goals rfl) rfl, argP (id := 3) (by (conv => lhs; whnf); all_goals rfl) rfl, argT (by (conv => lhs; whnf); all_goals rfl), argE (by (conv => lhs; whnf); all_goals rfl) rfl, trivial⟩ ⟨boxL rfl rfl rfl ⟨(.ni _ rfl), (.ni _ rfl), trivial⟩, boxL rfl rfl rfl ⟨(.ni _ rfl), (.ni _ rfl), (.ni _ rfl), trivial⟩, boxL rfl rfl rfl ⟨(.ni _ rfl), (.ni _ rfl), trivial⟩, boxL rfl rfl rfl ⟨(.ni _ rfl), (.oslg 8 4 rfl), trivial⟩, blkR (fun _ => ⟨rfl, rfl⟩) rfl rfl, trivial⟩⟩
        · replace hL1 := cond_f hb_24 hL1
          conv => whnf
          refine ⟨((k_4 + 1 : Nat) : Int), wrapE (by omega) (by omega) (by omega), ?_⟩
          conv => whnf
          exact ⟨(k_4 + 1, l_6, true), [0, 1, 2, 3, 6], [], [], ⟨hlt_k_4, hL1⟩, by show x_0.L.length - (k_4 + 1) < x_0.L.length - k_4; omega, wk_mk [0, 1, 2, 3, 6] [] [] rfl ⟨argP (id := 0) (by (conv => lhs; whnf); all_goals rfl) rfl, argP (id := 1) (by (conv => lhs; whnf); all_goals rfl) rfl, argP (id := 2) (by (conv => lhs; whnf); all_goals rfl) rfl, argP (id := 3) (by (conv => lhs; whnf); all_goals rfl) rfl, argT (by (conv => lhs; whnf); all_goals rfl), argE (by (conv => lhs; whnf); all_goals rfl) rfl, trivial⟩ ⟨boxL rfl rfl rfl ⟨(.ni _ rfl), (.ni _ rfl), trivial⟩, boxL rfl rfl rfl ⟨(.ni _ rfl), (.ni _ rfl), (.ni _ rfl), trivial⟩, boxL rfl rfl rfl ⟨(.ni _ rfl), (.ni _ rfl), trivial⟩, boxL rfl rfl rfl ⟨(.ni _ rfl), (.oslg 6 4 rfl), trivial⟩, blkR (fun _ => ⟨rfl, rfl⟩) rfl rfl, trivial⟩⟩
      · replace hL1 := cond_f hb_23 hL1
        conv => whnf
        refine ⟨k_4, _, rfl, ix_map h_e_5, ?_⟩
        conv => whnf
        refine ⟨by kernel_rfl, ?_⟩
        conv => whnf
        refine ⟨fun hb_25 => ?_, fun hb_25 => ?_⟩
        · replace hL1 := cond_t hb_25 hL1
          conv => whnf
          refine ⟨k_4, _, rfl, ix_map h_e_5, ?_⟩
          conv => whnf
          obtain ⟨l_8, h_l_8, hL1⟩ := bind_some hL1
          refine ap_q (enc := encSender) (l := a_1) (y := ([e_5] : List Sender)) h_l_8 rfl rfl (by decide) ?_
          conv => whnf
          refine ⟨by kernel_rfl, ?_⟩
          conv => whnf
          refine ⟨((k_4 + 1 : Nat) : Int), wrapE (by omega) (by omega) (by omega), ?_⟩
          conv => whnf
          exact ⟨(k_4 + 1, l_8, b_2), [0, 1, 2, 3, 6], [], [], ⟨hlt_k_4, hL1⟩, by show x_0.L.length - (k_4 + 1) < x_0.L.length - k_4; omega, wk_mk [0, 1, 2, 3, 6] [] [] rfl ⟨argP (id := 0) (by (conv => lhs; whnf); all_goals rfl) rfl, argP (id := 1) (by (conv => lhs; whnf); all_goals rfl) rfl, argP (id := 2) (by (conv => lhs; whnf); all_goals rfl) rfl, argP (id := 3) (by (conv => lhs; whnf); all_goals rfl) rfl, argE (by (conv => lhs; whnf); all_goals rfl) rfl, argE (by (conv => lhs; whnf); all_goals rfl) rfl, trivial⟩ ⟨boxL rfl rfl rfl ⟨(.ni _ rfl), (.ni _ rfl), trivial⟩, boxL rfl rfl rfl ⟨(.ni _ rfl), (.ni _ rfl), (.ni _ rfl), trivial⟩, boxL rfl rfl rfl ⟨(.ni _ rfl), (.ni _ rfl), trivial⟩, boxL rfl rfl rfl ⟨(.ni _ rfl), (.oslg 6 4 rfl), trivial⟩, blkR (fun _ => ⟨rfl, rfl⟩) rfl rfl, trivial⟩⟩
        · replace hL1 := cond_f hb_25 hL1
          conv => whnf
          refine ⟨((k_4 + 1 : Nat) : Int), wrapE (by omega) (by omega) (by omega), ?_⟩
          conv => whnf
          exact ⟨(k_4 + 1, a_1, b_2), [0, 1, 2, 3, 4], [], [], ⟨hlt_k_4, hL1⟩, by show x_0.L.length - (k_4 + 1) < x_0.L.length - k_4; omega, wk_mk [0, 1, 2, 3, 4] [] [] rfl ⟨argP (id := 0) (by (conv => lhs; whnf); all_goals rfl) rfl, argP (id := 1) (by (conv => lhs; whnf); all_goals rfl) rfl, argP (id := 2) (by (conv => lhs; whnf); all_goals rfl) rfl, argP (id := 3) (by (conv => lhs; whnf); all_goals rfl) rfl, argE (by (conv => lhs; whnf); all_goals rfl) rfl, argE (by (conv => lhs; whnf); all_goals rfl) rfl, trivial⟩ ⟨boxL rfl rfl rfl ⟨(.ni _ rfl), (.ni _ rfl), trivial⟩, boxL rfl rfl rfl ⟨(.ni _ rfl), (.ni _ rfl), (.ni _ rfl), trivial⟩, boxL rfl rfl rfl ⟨(.ni _ rfl), (.ni _ rfl), trivial⟩, boxL rfl rfl rfl ⟨(.ni _ rfl), (.oslg 4 4 rfl), trivial⟩, blkR (fun _ => ⟨rfl, rfl⟩) rfl rfl, trivial⟩⟩
    · replace hL1 := cond_f hb_22 hL1
      conv => whnf
      refine ⟨by kernel_rfl, ?_⟩
      conv => whnf
      refine ⟨k_4, _, rfl, ix_map h_e_5, ?_⟩
      conv => whnf
      refine ⟨by kernel_rfl, ?_⟩
      conv => whnf
      refine ⟨fun hb_26 => ?_, fun hb_26 => ?_⟩
      · replace hL1 := cond_t hb_26 hL1
        conv => whnf
        refine ⟨k_4, _, rfl, ix_map h_e_5, ?_⟩
        conv => whnf
        obtain ⟨l_9, h_l_9, hL1⟩ := bind_some hL1
        refine ap_q (enc := encSender) (l := a_1) (y := ([e_5] : List Sender)) h_l_9 rfl rfl (by decide) ?_
        conv => whnf
        refine ⟨by kernel_rfl, ?_⟩
        conv => whnf
        refine ⟨((k_4 + 1 : Nat) : Int), wrapE (by omega) (by omega) (by omega), ?_⟩
        conv => whnf
        exact ⟨(k_4 + 1, l_9, b_2), [0, 1, 2, 3, 6], [], [], ⟨hlt_k_4, hL1⟩, by show x_0.L.length - (k_4 + 1) < x_0.L.length - k_4; omega, wk_mk [0, 1, 2, 3, 6] [] [] rfl ⟨argP (id := 0) (by (conv => lhs; whnf); all_goals rfl) rfl, argP (id := 1) (by (conv => lhs; whnf); all_goals rfl) rfl, argP (id := 2) (by (conv => lhs; whnf); all_goals rfl) rfl, argP (id := 3) (by (conv => lhs; whnf); all_goals rfl) rfl, argE (by (conv => lhs; whnf); all_goals rfl) rfl, argE (by (conv => lhs; whnf); all_goals rfl) rfl, trivial⟩ ⟨boxL rfl rfl rfl ⟨(.ni _ rfl), (.ni _ rfl), trivial⟩, boxL rfl rfl rfl ⟨(.ni _ rfl), (.ni _ rfl), (.ni _ rfl), trivial⟩, boxL rfl rfl rfl ⟨(.ni _ rfl), (.ni _ rfl), trivial⟩, boxL rfl rfl rfl ⟨(.ni _ rfl), (.oslg 6 4 rfl), trivial⟩, blkR (fun _ => ⟨rfl, rfl⟩) rfl rfl, trivial⟩⟩
      · replace hL1 := cond_f hb_26 hL1
        conv => whnf
        refine ⟨((k_4 + 1 : Nat) : Int), wrapE (by omega) (by omega) (by omega), ?_⟩
        conv => whnf
        exact ⟨(k_4 + 1, a_1, b_2), [0, 1, 2, 3, 4], [], [], ⟨hlt_k_4, hL1⟩, by show x_0.L.length - (k_4 + 1) < x_0.L.length - k_4; omega, wk_mk [0, 1, 2, 3, 4] [] [] rfl ⟨argP (id := 0) (by (conv => lhs; whnf); all_goals rfl) rfl, argP (id := 1) (by (conv => lhs; whnf); all_goals rfl) rfl, argP (id := 2) (by (conv => lhs; whnf); all_goals rfl) rfl, argP (id := 3) (by (conv => lhs; whnf); all_goals rfl) rfl, argE (by (conv => lhs; whnf); all_goals rfl) rfl, argE (by (conv => lhs; whnf); all_goals rfl) rfl, trivial⟩ ⟨boxL rfl rfl rfl ⟨(.ni _ rfl), (.ni _ rfl), trivial⟩, boxL rfl rfl rfl ⟨(.ni _ rfl), (.ni _ rfl), (.ni _ rfl), trivial⟩, boxL rfl rfl rfl ⟨(.ni _ rfl), (.ni _ rfl), trivial⟩, boxL rfl rfl rfl ⟨(.ni _ rfl), (.oslg 4 4 rfl), trivial⟩, blkR (fun _ => ⟨rfl, rfl⟩) rfl rfl, trivial⟩⟩
  · rw [drop_nil (show x_0.L.length ≤ k_4 by have h := of_decide_eq_false h; omega), ref05_set_L1.eq_1] at hL1
    conv => whnf
    obtain rfl := Option.some.inj hL1
    replace hF := fin_brk hF
    try dsimp only at hF
    refine ⟨fun hb_27 => ?_, fun hb_27 => ?_⟩
    · replace hF := cond_t hb_27 hF
      conv => whnf
      obtain ⟨l_12, h_l_12, hF⟩ := bind_some hF
      refine ap_q (enc := encSender) (l := a_1) (y := ([x_1] : List Sender)) h_l_12 rfl rfl (by decide) ?_
      conv => whnf
      obtain rfl := Option.some.inj hF
      exact ret_gz [] [] [6] rfl (argA (c := [.int .i64 x_0.Window, .osl 6]) (by (conv => lhs; whnf); all_goals rfl) rfl ⟨(.ni _ rfl), (.osl 6 3 _ (by simp) rfl (map_ni (fun _ => ⟨rfl, rfl⟩) _)), trivial⟩) trivial
    · replace hF := cond_f hb_27 hF
      conv => whnf
      obtain rfl := Option.some.inj hF
      exact ret_gz [] [] [4] rfl (argA (c := [.int .i64 x_0.Window, .osl 4]) (by (conv => lhs; whnf); all_goals rfl) rfl ⟨(.ni _ rfl), (.osl 4 3 _ (by simp) rfl (map_ni (fun _ => ⟨rfl, rfl⟩) _)), trivial⟩) trivial

set_option maxRecDepth 100000 in
set_option maxHeartbeats 40000000 in
theorem ref05_Skip_ac (x_0 : Inbox) (x_1 : ByteArray) (r : Inbox × (List Message) × Int) (hF : ref05_Skip x_0 x_1 = some r) : AC Try.prog 27 [.agg (encInbox x_0), .str x_1] [] (.tup [.agg (encInbox r.1), .lst 30 (r.2.1.map encMessage), .int .i64 r.2.2]) [] := by
  refine ac_of tab_ok follows_ok Try.func27 rfl Try.ntmps27 rfl ?_
  unfold ref05_Skip at hF
  conv => whnf
  obtain ⟨r_1, h_r_1, hF⟩ := bind_some hF
  refine ⟨_, _, _, _, _, _, _, _, _, callX false [] [] 0 Try.func46 (by decide) rfl (ref05_Sender_ac x_0 x_1 r_1 h_r_1) rfl ⟨(argE (by (conv => lhs; whnf); all_goals rfl) rfl), (argE (by (conv => lhs; whnf); all_goals rfl) rfl), trivial⟩ rfl trivial rfl rfl rfl lend0 trivial rfl, ?_⟩
  conv => whnf
  refine len_q (enc := encMessage) (l := r_1.1.Held) rfl ?_
  conv => whnf
  refine ⟨fun hb_2 => ?_, fun hb_2 => ?_⟩
  · replace hF := cond_t hb_2 hF
    conv => whnf
    obtain rfl := Option.some.inj hF
    exact ret_gz [] [] [] rfl (tupL rfl ⟨(argA (c := [.int .i64 (0 : Int), .nils]) (by (conv => lhs; whnf); all_goals rfl) rfl ⟨(.ni _ rfl), (.nils _), trivial⟩), (argN (by (conv => lhs; whnf); all_goals rfl)), (argE (by (conv => lhs; whnf); all_goals rfl) rfl), trivial⟩) trivial
  · replace hF := cond_f hb_2 hF
    conv => whnf
    obtain ⟨e_2, h_e_2, hF⟩ := bind_some hF
    refine ix_q (enc := encMessage) (l := r_1.1.Held) h_e_2 rfl (fun m_e_2 hm_e_2 hx_e_2 => ?_)
    conv => whnf
    obtain ⟨r_3, h_r_3, hF⟩ := bind_some hF
    refine ⟨_, _, _, _, _, _, _, _, _, callX false [] [] 0 Try.func48 (by decide) rfl (ref05_release_ac (⟨r_1.1.Port, e_2.Number, r_1.1.Held⟩ : Sender) r_3 h_r_3) rfl ⟨(argE (by (conv => lhs; whnf); all_goals rfl) rfl), trivial⟩ rfl trivial rfl rfl rfl lend0 trivial rfl, ?_⟩
    conv => whnf
    obtain ⟨r_4, h_r_4, hF⟩ := bind_some hF
    refine ⟨_, _, _, _, _, _, _, _, _, callX false [] [] 0 Try.func49 (by decide) rfl (ref05_set_ac x_0 r_3.1 r_4 h_r_4) rfl ⟨(argE (by (conv => lhs; whnf); all_goals rfl) rfl), (argE (by (conv => lhs; whnf); all_goals rfl) rfl), trivial⟩ rfl trivial rfl rfl rfl lend0 trivial rfl, ?_⟩
    conv => whnf
    obtain rfl := Option.some.inj hF
    exact ret_gz [] [] [] rfl (tupL rfl ⟨(argE (by (conv => lhs; whnf); all_goals rfl) rfl), (argE (by (conv => lhs; whnf); all_goals rfl) rfl), (argE (by (conv => lhs; whnf); all_goals rfl) rfl), trivial⟩) trivial

set_option maxRecDepth 100000 in
set_option maxHeartbeats 40000000 in
theorem ref04_in_ac (x_0 : Int) (x_1 : Int) (x_2 : Int) (r : Bool) (hF : ref04_in x_0 x_1 x_2 = some r) : AC Try.prog 70 [.int .i64 x_0, .int .i64 x_1, .int .i64 x_2] [] (.bool r) [] := by
  refine ac_of tab_ok follows_ok Try.func70 rfl Try.ntmps70 rfl ?_
  unfold ref04_in at hF
  conv => whnf
  refine ⟨fun hb_2 => ?_, fun hb_2 => ?_⟩
  · replace hF := cond_t hb_2 hF
    conv => whnf
    obtain rfl := Option.some.inj hF
    exact ret_gz [] [] [] rfl (argE (by (conv => lhs; whnf); all_goals rfl) rfl) trivial
  · replace hF := cond_f hb_2 hF
    conv => whnf
    obtain rfl := Option.some.inj hF
    exact ret_gz [] [] [] rfl (argFl (by (conv => lhs; whnf); all_goals rfl)) trivial

set_option maxRecDepth 100000 in
set_option maxHeartbeats 40000000 in
theorem ref04_Bag_ac (x_0 : Int) (r : Bool) (hF : ref04_Bag x_0 = some r) : AC Try.prog 85 [.int .i64 x_0] [] (.bool r) [] := by
  refine ac_of tab_ok follows_ok Try.func85 rfl Try.ntmps85 rfl ?_
  unfold ref04_Bag at hF
  conv => whnf
  refine ⟨fun hb_2 => ?_, fun hb_2 => ?_⟩
  · replace hF := cond_f hb_2 hF
    conv => whnf
    obtain rfl := Option.some.inj hF
    exact ret_gz [] [] [] rfl (argE (by (conv => lhs; whnf); all_goals rfl) rfl) trivial
  · replace hF := cond_t hb_2 hF
    conv => whnf
    obtain rfl := Option.some.inj hF
    exact ret_gz [] [] [] rfl (argT (by (conv => lhs; whnf); all_goals rfl)) trivial

set_option maxRecDepth 100000 in
set_option maxHeartbeats 40000000 in
theorem ref04_own_ac (x_0 : Message) (r : Message) (hF : ref04_own x_0 = some r) : AC Try.prog 71 [.agg (encMessage x_0)] [] (.agg (encMessage r)) [] := by
  refine ac_of tab_ok follows_ok Try.func71 rfl Try.ntmps71 rfl ?_
  unfold ref04_own at hF
  conv => whnf
  obtain ⟨r_1, h_r_1, hF⟩ := bind_some hF
  refine ⟨_, _, _, _, _, _, _, _, _, callX false [] [] 0 Try.func85 (by decide) rfl (ref04_Bag_ac x_0.Kind r_1 h_r_1) rfl ⟨(argE (by (conv => lhs; whnf); all_goals rfl) rfl), trivial⟩ rfl trivial rfl rfl rfl lend0 trivial rfl, ?_⟩
  conv => whnf
  refine ⟨fun hb_8 => ?_, fun hb_8 => ?_⟩
  · replace hF := cond_t hb_8 hF
    conv => whnf
    refine ⟨fun hb_9 => ?_, fun hb_9 => ?_⟩
    · replace hF := cond_t hb_9 hF
      conv => whnf
      obtain rfl := Option.some.inj hF
      exact ret_gz [] [] [] rfl (argA (c := [.int .i64 x_0.Kind, .int .i64 x_0.Do, .str x_0.Port, .int .i64 x_0.Number, .str (⟨#[]⟩ : ByteArray), .int .i64 (0 : Int), .str (⟨#[]⟩ : ByteArray), .int .i64 (0 : Int), .str (⟨#[]⟩ : ByteArray), .str (⟨#[]⟩ : ByteArray), .str x_0.Out.Flight.Carrier, .int .i64 x_0.Out.Flight.Number, .str x_0.Out.Flight.Suffix, .int .i64 x_0.Out.Flight.Day, .str x_0.Out.Port, .str x_0.Out.Class, .lst 6 (x_0.Onward.map encLeg), .int .i64 x_0.First.Lead, .int .i64 x_0.First.Airline, .int .i64 x_0.First.Serial, .int .i64 x_0.Count, .bool x_0.Load, .int .i64 x_0.Status, .int .i64 x_0.Sequence, .int .i64 x_0.Weight, .str x_0.Surname, .str x_0.Given, .int .i64 x_0.Exception, .str (⟨#[]⟩ : ByteArray), .nils]) (by (conv => lhs; whnf); all_goals rfl) rfl ⟨(.ni _ rfl), (.ni _ rfl), (.ni _ rfl), (.ni _ rfl), (.ni _ rfl), (.ni _ rfl), (.ni _ rfl), (.ni _ rfl), (.ni _ rfl), (.ni _ rfl), (.ni _ rfl), (.ni _ rfl), (.ni _ rfl), (.ni _ rfl), (.ni _ rfl), (.ni _ rfl), (.ni _ rfl), (.ni _ rfl), (.ni _ rfl), (.ni _ rfl), (.ni _ rfl), (.ni _ rfl), (.ni _ rfl), (.ni _ rfl), (.ni _ rfl), (.ni _ rfl), (.ni _ rfl), (.ni _ rfl), (.ni _ rfl), (.nils _), trivial⟩) trivial
    · replace hF := cond_f hb_9 hF
      conv => whnf
      obtain rfl := Option.some.inj hF
      exact ret_gz [] [] [] rfl (argA (c := [.int .i64 x_0.Kind, .int .i64 x_0.Do, .str x_0.Port, .int .i64 x_0.Number, .str x_0.In.Flight.Carrier, .int .i64 x_0.In.Flight.Number, .str x_0.In.Flight.Suffix, .int .i64 x_0.In.Flight.Day, .str x_0.In.Port, .str x_0.In.Class, .str x_0.Out.Flight.Carrier, .int .i64 x_0.Out.Flight.Number, .str x_0.Out.Flight.Suffix, .int .i64 x_0.Out.Flight.Day, .str x_0.Out.Port, .str x_0.Out.Class, .lst 6 (x_0.Onward.map encLeg), .int .i64 x_0.First.Lead, .int .i64 x_0.First.Airline, .int .i64 x_0.First.Serial, .int .i64 x_0.Count, .bool x_0.Load, .int .i64 x_0.Status, .int .i64 x_0.Sequence, .int .i64 x_0.Weight, .str x_0.Surname, .str x_0.Given, .int .i64 x_0.Exception, .str (⟨#[]⟩ : ByteArray), .nils]) (by (conv => lhs; whnf); all_goals rfl) rfl ⟨(.ni _ rfl), (.ni _ rfl), (.ni _ rfl), (.ni _ rfl), (.ni _ rfl), (.ni _ rfl), (.ni _ rfl), (.ni _ rfl), (.ni _ rfl), (.ni _ rfl), (.ni _ rfl), (.ni _ rfl), (.ni _ rfl), (.ni _ rfl), (.ni _ rfl), (.ni _ rfl), (.ni _ rfl), (.ni _ rfl), (.ni _ rfl), (.ni _ rfl), (.ni _ rfl), (.ni _ rfl), (.ni _ rfl), (.ni _ rfl), (.ni _ rfl), (.ni _ rfl), (.ni _ rfl), (.ni _ rfl), (.ni _ rfl), (.nils _), trivial⟩) trivial
  · replace hF := cond_f hb_8 hF
    conv => whnf
    refine ⟨fun hb_10 => ?_, fun hb_10 => ?_⟩
    · replace hF := cond_t hb_10 hF
      conv => whnf
      refine ⟨by kernel_rfl, ?_⟩
      conv => whnf
      refine ⟨fun hb_11 => ?_, fun hb_11 => ?_⟩
      · replace hF := cond_t hb_11 hF
        conv => whnf
        obtain rfl := Option.some.inj hF
        exact ret_gz [] [] [] rfl (argA (c := [.int .i64 x_0.Kind, .int .i64 (0 : Int), .str x_0.Port, .int .i64 x_0.Number, .str (⟨#[]⟩ : ByteArray), .int .i64 (0 : Int), .str (⟨#[]⟩ : ByteArray), .int .i64 (0 : Int), .str (⟨#[]⟩ : ByteArray), .str (⟨#[]⟩ : ByteArray), .str (⟨#[]⟩ : ByteArray), .int .i64 (0 : Int), .str (⟨#[]⟩ : ByteArray), .int .i64 (0 : Int), .str (⟨#[]⟩ : ByteArray), .str (⟨#[]⟩ : ByteArray), .nils, .int .i64 x_0.First.Lead, .int .i64 x_0.First.Airline, .int .i64 x_0.First.Serial, .int .i64 x_0.Count, .fls, .int .i64 (0 : Int), .int .i64 (0 : Int), .int .i64 (0 : Int), .str (⟨#[]⟩ : ByteArray), .str (⟨#[]⟩ : ByteArray), .int .i64 (0 : Int), .str x_0.Node, .nils]) (by (conv => lhs; whnf); all_goals rfl) rfl ⟨(.ni _ rfl), (.ni _ rfl), (.ni _ rfl), (.ni _ rfl), (.ni _ rfl), (.ni _ rfl), (.ni _ rfl), (.ni _ rfl), (.ni _ rfl), (.ni _ rfl), (.ni _ rfl), (.ni _ rfl), (.ni _ rfl), (.ni _ rfl), (.ni _ rfl), (.ni _ rfl), (.nils _), (.ni _ rfl), (.ni _ rfl), (.ni _ rfl), (.ni _ rfl), .fls, (.ni _ rfl), (.ni _ rfl), (.ni _ rfl), (.ni _ rfl), (.ni _ rfl), (.ni _ rfl), (.ni _ rfl), (.nils _), trivial⟩) trivial
      · replace hF := cond_f hb_11 hF
        conv => whnf
        refine ⟨fun hb_12 => ?_, fun hb_12 => ?_⟩
        · replace hF := cond_t hb_12 hF
          conv => whnf
          obtain rfl := Option.some.inj hF
          exact ret_gz [] [] [] rfl (argA (c := [.int .i64 x_0.Kind, .int .i64 (0 : Int), .str x_0.Port, .int .i64 x_0.Number, .str (⟨#[]⟩ : ByteArray), .int .i64 (0 : Int), .str (⟨#[]⟩ : ByteArray), .int .i64 (0 : Int), .str (⟨#[]⟩ : ByteArray), .str (⟨#[]⟩ : ByteArray), .str x_0.Out.Flight.Carrier, .int .i64 x_0.Out.Flight.Number, .str x_0.Out.Flight.Suffix, .int .i64 x_0.Out.Flight.Day, .str x_0.Out.Port, .str x_0.Out.Class, .nils, .int .i64 x_0.First.Lead, .int .i64 x_0.First.Airline, .int .i64 x_0.First.Serial, .int .i64 x_0.Count, .fls, .int .i64 (0 : Int), .int .i64 (0 : Int), .int .i64 (0 : Int), .str (⟨#[]⟩ : ByteArray), .str (⟨#[]⟩ : ByteArray), .int .i64 (0 : Int), .str (⟨#[]⟩ : ByteArray), .nils]) (by (conv => lhs; whnf); all_goals rfl) rfl ⟨(.ni _ rfl), (.ni _ rfl), (.ni _ rfl), (.ni _ rfl), (.ni _ rfl), (.ni _ rfl), (.ni _ rfl), (.ni _ rfl), (.ni _ rfl), (.ni _ rfl), (.ni _ rfl), (.ni _ rfl), (.ni _ rfl), (.ni _ rfl), (.ni _ rfl), (.ni _ rfl), (.nils _), (.ni _ rfl), (.ni _ rfl), (.ni _ rfl), (.ni _ rfl), .fls, (.ni _ rfl), (.ni _ rfl), (.ni _ rfl), (.ni _ rfl), (.ni _ rfl), (.ni _ rfl), (.ni _ rfl), (.nils _), trivial⟩) trivial
        · replace hF := cond_f hb_12 hF
          conv => whnf
          refine ⟨by kernel_rfl, ?_⟩
          conv => whnf
          obtain rfl := Option.some.inj hF
          exact ret_gz [] [] [] rfl (argA (c := [.int .i64 x_0.Kind, .int .i64 (0 : Int), .str x_0.Port, .int .i64 x_0.Number, .str (⟨#[]⟩ : ByteArray), .int .i64 (0 : Int), .str (⟨#[]⟩ : ByteArray), .int .i64 (0 : Int), .str (⟨#[]⟩ : ByteArray), .str (⟨#[]⟩ : ByteArray), .str x_0.Out.Flight.Carrier, .int .i64 x_0.Out.Flight.Number, .str x_0.Out.Flight.Suffix, .int .i64 x_0.Out.Flight.Day, .str x_0.Out.Port, .str x_0.Out.Class, .nils, .int .i64 x_0.First.Lead, .int .i64 x_0.First.Airline, .int .i64 x_0.First.Serial, .int .i64 x_0.Count, .fls, .int .i64 (0 : Int), .int .i64 (0 : Int), .int .i64 (0 : Int), .str (⟨#[]⟩ : ByteArray), .str (⟨#[]⟩ : ByteArray), .int .i64 (0 : Int), .str (⟨#[]⟩ : ByteArray), .lst 1 (x_0.List.map iA)]) (by (conv => lhs; whnf); all_goals rfl) rfl ⟨(.ni _ rfl), (.ni _ rfl), (.ni _ rfl), (.ni _ rfl), (.ni _ rfl), (.ni _ rfl), (.ni _ rfl), (.ni _ rfl), (.ni _ rfl), (.ni _ rfl), (.ni _ rfl), (.ni _ rfl), (.ni _ rfl), (.ni _ rfl), (.ni _ rfl), (.ni _ rfl), (.nils _), (.ni _ rfl), (.ni _ rfl), (.ni _ rfl), (.ni _ rfl), .fls, (.ni _ rfl), (.ni _ rfl), (.ni _ rfl), (.ni _ rfl), (.ni _ rfl), (.ni _ rfl), (.ni _ rfl), (.ni _ rfl), trivial⟩) trivial
    · replace hF := cond_f hb_10 hF
      conv => whnf
      refine ⟨fun hb_13 => ?_, fun hb_13 => ?_⟩
      · replace hF := cond_t hb_13 hF
        conv => whnf
        obtain rfl := Option.some.inj hF
        exact ret_gz [] [] [] rfl (argA (c := [.int .i64 x_0.Kind, .int .i64 (0 : Int), .str x_0.Port, .int .i64 x_0.Number, .str (⟨#[]⟩ : ByteArray), .int .i64 (0 : Int), .str (⟨#[]⟩ : ByteArray), .int .i64 (0 : Int), .str (⟨#[]⟩ : ByteArray), .str (⟨#[]⟩ : ByteArray), .str (⟨#[]⟩ : ByteArray), .int .i64 (0 : Int), .str (⟨#[]⟩ : ByteArray), .int .i64 (0 : Int), .str (⟨#[]⟩ : ByteArray), .str (⟨#[]⟩ : ByteArray), .nils, .int .i64 (0 : Int), .int .i64 (0 : Int), .int .i64 (0 : Int), .int .i64 (0 : Int), .fls, .int .i64 (0 : Int), .int .i64 (0 : Int), .int .i64 (0 : Int), .str (⟨#[]⟩ : ByteArray), .str (⟨#[]⟩ : ByteArray), .int .i64 (0 : Int), .str x_0.Node, .nils]) (by (conv => lhs; whnf); all_goals rfl) rfl ⟨(.ni _ rfl), (.ni _ rfl), (.ni _ rfl), (.ni _ rfl), (.ni _ rfl), (.ni _ rfl), (.ni _ rfl), (.ni _ rfl), (.ni _ rfl), (.ni _ rfl), (.ni _ rfl), (.ni _ rfl), (.ni _ rfl), (.ni _ rfl), (.ni _ rfl), (.ni _ rfl), (.nils _), (.ni _ rfl), (.ni _ rfl), (.ni _ rfl), (.ni _ rfl), .fls, (.ni _ rfl), (.ni _ rfl), (.ni _ rfl), (.ni _ rfl), (.ni _ rfl), (.ni _ rfl), (.ni _ rfl), (.nils _), trivial⟩) trivial
      · replace hF := cond_f hb_13 hF
        conv => whnf
        refine ⟨fun hb_14 => ?_, fun hb_14 => ?_⟩
        · replace hF := cond_t hb_14 hF
          conv => whnf
          obtain rfl := Option.some.inj hF
          exact ret_gz [] [] [] rfl (argA (c := [.int .i64 x_0.Kind, .int .i64 (0 : Int), .str x_0.Port, .int .i64 x_0.Number, .str (⟨#[]⟩ : ByteArray), .int .i64 (0 : Int), .str (⟨#[]⟩ : ByteArray), .int .i64 (0 : Int), .str (⟨#[]⟩ : ByteArray), .str (⟨#[]⟩ : ByteArray), .str x_0.Out.Flight.Carrier, .int .i64 x_0.Out.Flight.Number, .str x_0.Out.Flight.Suffix, .int .i64 x_0.Out.Flight.Day, .str x_0.Out.Port, .str x_0.Out.Class, .nils, .int .i64 (0 : Int), .int .i64 (0 : Int), .int .i64 (0 : Int), .int .i64 (0 : Int), .fls, .int .i64 (0 : Int), .int .i64 (0 : Int), .int .i64 (0 : Int), .str (⟨#[]⟩ : ByteArray), .str (⟨#[]⟩ : ByteArray), .int .i64 (0 : Int), .str (⟨#[]⟩ : ByteArray), .nils]) (by (conv => lhs; whnf); all_goals rfl) rfl ⟨(.ni _ rfl), (.ni _ rfl), (.ni _ rfl), (.ni _ rfl), (.ni _ rfl), (.ni _ rfl), (.ni _ rfl), (.ni _ rfl), (.ni _ rfl), (.ni _ rfl), (.ni _ rfl), (.ni _ rfl), (.ni _ rfl), (.ni _ rfl), (.ni _ rfl), (.ni _ rfl), (.nils _), (.ni _ rfl), (.ni _ rfl), (.ni _ rfl), (.ni _ rfl), .fls, (.ni _ rfl), (.ni _ rfl), (.ni _ rfl), (.ni _ rfl), (.ni _ rfl), (.ni _ rfl), (.ni _ rfl), (.nils _), trivial⟩) trivial
        · replace hF := cond_f hb_14 hF
          conv => whnf
          refine ⟨by kernel_rfl, ?_⟩
          conv => whnf
          obtain rfl := Option.some.inj hF
          exact ret_gz [] [] [] rfl (argA (c := [.int .i64 x_0.Kind, .int .i64 (0 : Int), .str x_0.Port, .int .i64 x_0.Number, .str (⟨#[]⟩ : ByteArray), .int .i64 (0 : Int), .str (⟨#[]⟩ : ByteArray), .int .i64 (0 : Int), .str (⟨#[]⟩ : ByteArray), .str (⟨#[]⟩ : ByteArray), .str x_0.Out.Flight.Carrier, .int .i64 x_0.Out.Flight.Number, .str x_0.Out.Flight.Suffix, .int .i64 x_0.Out.Flight.Day, .str x_0.Out.Port, .str x_0.Out.Class, .nils, .int .i64 (0 : Int), .int .i64 (0 : Int), .int .i64 (0 : Int), .int .i64 (0 : Int), .fls, .int .i64 (0 : Int), .int .i64 (0 : Int), .int .i64 (0 : Int), .str (⟨#[]⟩ : ByteArray), .str (⟨#[]⟩ : ByteArray), .int .i64 (0 : Int), .str (⟨#[]⟩ : ByteArray), .lst 1 (x_0.List.map iA)]) (by (conv => lhs; whnf); all_goals rfl) rfl ⟨(.ni _ rfl), (.ni _ rfl), (.ni _ rfl), (.ni _ rfl), (.ni _ rfl), (.ni _ rfl), (.ni _ rfl), (.ni _ rfl), (.ni _ rfl), (.ni _ rfl), (.ni _ rfl), (.ni _ rfl), (.ni _ rfl), (.ni _ rfl), (.ni _ rfl), (.ni _ rfl), (.nils _), (.ni _ rfl), (.ni _ rfl), (.ni _ rfl), (.ni _ rfl), .fls, (.ni _ rfl), (.ni _ rfl), (.ni _ rfl), (.ni _ rfl), (.ni _ rfl), (.ni _ rfl), (.ni _ rfl), (.ni _ rfl), trivial⟩) trivial

set_option maxRecDepth 100000 in
set_option maxHeartbeats 40000000 in
theorem ref02_Letter_ac (x_0 : Int) (r : Bool) (hF : ref02_Letter x_0 = some r) : AC Try.prog 100 [.int .u8 x_0] [] (.bool r) [] := by
  refine ac_of tab_ok follows_ok Try.func100 rfl Try.ntmps100 rfl ?_
  unfold ref02_Letter at hF
  conv => whnf
  refine ⟨fun hb_2 => ?_, fun hb_2 => ?_⟩
  · replace hF := cond_t hb_2 hF
    conv => whnf
    obtain rfl := Option.some.inj hF
    exact ret_gz [] [] [] rfl (argE (by (conv => lhs; whnf); all_goals rfl) rfl) trivial
  · replace hF := cond_f hb_2 hF
    conv => whnf
    obtain rfl := Option.some.inj hF
    exact ret_gz [] [] [] rfl (argFl (by (conv => lhs; whnf); all_goals rfl)) trivial

set_option maxRecDepth 100000 in
set_option maxHeartbeats 40000000 in
theorem ref02_ValidPort_ac (x_0 : ByteArray) (r : Bool) (hF : ref02_ValidPort x_0 = some r) : AC Try.prog 86 [.str x_0] [] (.bool r) [] := by
  refine ac_of tab_ok follows_ok Try.func86 rfl Try.ntmps86 rfl ?_
  unfold ref02_ValidPort at hF
  conv => whnf
  refine ⟨fun hb_4 => ?_, fun hb_4 => ?_⟩
  · replace hF := cond_t hb_4 hF
    conv => whnf
    obtain ⟨b_1, h_b_1, hF⟩ := bind_some hF
    refine ixs_q h_b_1 (fun m_b_1 u_b_1 hm_b_1 hb_b_1 hz_b_1 => ?_)
    subst hz_b_1
    conv => whnf
    obtain ⟨r_2, h_r_2, hF⟩ := bind_some hF
    refine ⟨_, _, _, _, _, _, _, _, _, callX false [] [] 0 Try.func100 (by decide) rfl (ref02_Letter_ac ((u_b_1.toNat : Nat) : Int) r_2 h_r_2) rfl ⟨(argE (by (conv => lhs; whnf); all_goals rfl) rfl), trivial⟩ rfl trivial rfl rfl rfl lend0 trivial rfl, ?_⟩
    conv => whnf
    refine ⟨fun hb_5 => ?_, fun hb_5 => ?_⟩
    · replace hF := cond_t hb_5 hF
      conv => whnf
      obtain ⟨b_3, h_b_3, hF⟩ := bind_some hF
      refine ixs_q h_b_3 (fun m_b_3 u_b_3 hm_b_3 hb_b_3 hz_b_3 => ?_)
      subst hz_b_3
      conv => whnf
      obtain ⟨r_4, h_r_4, hF⟩ := bind_some hF
      refine ⟨_, _, _, _, _, _, _, _, _, callX false [] [] 0 Try.func100 (by decide) rfl (ref02_Letter_ac ((u_b_3.toNat : Nat) : Int) r_4 h_r_4) rfl ⟨(argE (by (conv => lhs; whnf); all_goals rfl) rfl), trivial⟩ rfl trivial rfl rfl rfl lend0 trivial rfl, ?_⟩
      conv => whnf
      refine ⟨fun hb_6 => ?_, fun hb_6 => ?_⟩
      · replace hF := cond_t hb_6 hF
        conv => whnf
        obtain ⟨b_5, h_b_5, hF⟩ := bind_some hF
        refine ixs_q h_b_5 (fun m_b_5 u_b_5 hm_b_5 hb_b_5 hz_b_5 => ?_)
        subst hz_b_5
        conv => whnf
        obtain ⟨r_6, h_r_6, hF⟩ := bind_some hF
        refine ⟨_, _, _, _, _, _, _, _, _, callX false [] [] 0 Try.func100 (by decide) rfl (ref02_Letter_ac ((u_b_5.toNat : Nat) : Int) r_6 h_r_6) rfl ⟨(argE (by (conv => lhs; whnf); all_goals rfl) rfl), trivial⟩ rfl trivial rfl rfl rfl lend0 trivial rfl, ?_⟩
        conv => whnf
        obtain rfl := Option.some.inj hF
        exact ret_gz [] [] [] rfl (argE (by (conv => lhs; whnf); all_goals rfl) rfl) trivial
      · replace hF := cond_f hb_6 hF
        conv => whnf
        obtain rfl := Option.some.inj hF
        exact ret_gz [] [] [] rfl (argFl (by (conv => lhs; whnf); all_goals rfl)) trivial
    · replace hF := cond_f hb_5 hF
      conv => whnf
      obtain rfl := Option.some.inj hF
      exact ret_gz [] [] [] rfl (argFl (by (conv => lhs; whnf); all_goals rfl)) trivial
  · replace hF := cond_f hb_4 hF
    conv => whnf
    obtain rfl := Option.some.inj hF
    exact ret_gz [] [] [] rfl (argFl (by (conv => lhs; whnf); all_goals rfl)) trivial

set_option maxRecDepth 100000 in
set_option maxHeartbeats 40000000 in
theorem ref02_Digit_ac (x_0 : Int) (r : Bool) (hF : ref02_Digit x_0 = some r) : AC Try.prog 103 [.int .u8 x_0] [] (.bool r) [] := by
  refine ac_of tab_ok follows_ok Try.func103 rfl Try.ntmps103 rfl ?_
  unfold ref02_Digit at hF
  conv => whnf
  refine ⟨fun hb_2 => ?_, fun hb_2 => ?_⟩
  · replace hF := cond_t hb_2 hF
    conv => whnf
    obtain rfl := Option.some.inj hF
    exact ret_gz [] [] [] rfl (argE (by (conv => lhs; whnf); all_goals rfl) rfl) trivial
  · replace hF := cond_f hb_2 hF
    conv => whnf
    obtain rfl := Option.some.inj hF
    exact ret_gz [] [] [] rfl (argFl (by (conv => lhs; whnf); all_goals rfl)) trivial

set_option maxRecDepth 100000 in
set_option maxHeartbeats 40000000 in
theorem ref02_Carrier_ac (x_0 : ByteArray) (r : Bool) (hF : ref02_Carrier x_0 = some r) : AC Try.prog 105 [.str x_0] [] (.bool r) [] := by
  refine ac_of tab_ok follows_ok Try.func105 rfl Try.ntmps105 rfl ?_
  unfold ref02_Carrier at hF
  conv => whnf
  refine ⟨fun hb_8 => ?_, fun hb_8 => ?_⟩
  · replace hF := cond_t hb_8 hF
    conv => whnf
    obtain rfl := Option.some.inj hF
    exact ret_gz [] [] [] rfl (argFl (by (conv => lhs; whnf); all_goals rfl)) trivial
  · replace hF := cond_f hb_8 hF
    conv => whnf
    obtain ⟨b_1, h_b_1, hF⟩ := bind_some hF
    refine ixs_q h_b_1 (fun m_b_1 u_b_1 hm_b_1 hb_b_1 hz_b_1 => ?_)
    subst hz_b_1
    conv => whnf
    obtain ⟨r_2, h_r_2, hF⟩ := bind_some hF
    refine ⟨_, _, _, _, _, _, _, _, _, callX false [] [] 0 Try.func100 (by decide) rfl (ref02_Letter_ac ((u_b_1.toNat : Nat) : Int) r_2 h_r_2) rfl ⟨(argE (by (conv => lhs; whnf); all_goals rfl) rfl), trivial⟩ rfl trivial rfl rfl rfl lend0 trivial rfl, ?_⟩
    conv => whnf
    obtain ⟨b_3, h_b_3, hF⟩ := bind_some hF
    refine ixs_q h_b_3 (fun m_b_3 u_b_3 hm_b_3 hb_b_3 hz_b_3 => ?_)
    subst hz_b_3
    conv => whnf
    obtain ⟨r_4, h_r_4, hF⟩ := bind_some hF
    refine ⟨_, _, _, _, _, _, _, _, _, callX false [] [] 0 Try.func100 (by decide) rfl (ref02_Letter_ac ((u_b_3.toNat : Nat) : Int) r_4 h_r_4) rfl ⟨(argE (by (conv => lhs; whnf); all_goals rfl) rfl), trivial⟩ rfl trivial rfl rfl rfl lend0 trivial rfl, ?_⟩
    conv => whnf
    refine ⟨by kernel_rfl, ?_⟩
    conv => whnf
    refine ⟨fun hb_9 => ?_, fun hb_9 => ?_⟩
    · replace hF := cond_f hb_9 hF
      conv => whnf
      obtain ⟨b_7, h_b_7, hF⟩ := bind_some hF
      refine ixs_q h_b_7 (fun m_b_7 u_b_7 hm_b_7 hb_b_7 hz_b_7 => ?_)
      subst hz_b_7
      conv => whnf
      obtain ⟨r_8, h_r_8, hF⟩ := bind_some hF
      refine ⟨_, _, _, _, _, _, _, _, _, callX false [] [] 0 Try.func103 (by decide) rfl (ref02_Digit_ac ((u_b_7.toNat : Nat) : Int) r_8 h_r_8) rfl ⟨(argE (by (conv => lhs; whnf); all_goals rfl) rfl), trivial⟩ rfl trivial rfl rfl rfl lend0 trivial rfl, ?_⟩
      conv => whnf
      refine ⟨fun hb_12 => ?_, fun hb_12 => ?_⟩
      · replace hF := cond_t hb_12 hF
        conv => whnf
        refine ⟨fun hb_13 => ?_, fun hb_13 => ?_⟩
        · replace hF := cond_f hb_13 hF
          conv => whnf
          obtain ⟨b_9, h_b_9, hF⟩ := bind_some hF
          refine ixs_q h_b_9 (fun m_b_9 u_b_9 hm_b_9 hb_b_9 hz_b_9 => ?_)
          subst hz_b_9
          conv => whnf
          obtain ⟨r_10, h_r_10, hF⟩ := bind_some hF
          refine ⟨_, _, _, _, _, _, _, _, _, callX false [] [] 0 Try.func103 (by decide) rfl (ref02_Digit_ac ((u_b_9.toNat : Nat) : Int) r_10 h_r_10) rfl ⟨(argE (by (conv => lhs; whnf); all_goals rfl) rfl), trivial⟩ rfl trivial rfl rfl rfl lend0 trivial rfl, ?_⟩
          conv => whnf
          refine ⟨fun hb_14 => ?_, fun hb_14 => ?_⟩
          · replace hF := cond_t hb_14 hF
            conv => whnf
            refine ⟨fun h => ?_, fun h => ?_⟩
            · conv => whnf
              obtain rfl := Option.some.inj hF
              exact ret_gz [] [] [] rfl (argE (by (conv => lhs; whnf); all_goals rfl) rfl) trivial
            · cases (hb_9).symm.trans h
          · replace hF := cond_f hb_14 hF
            conv => whnf
            obtain rfl := Option.some.inj hF
            exact ret_gz [] [] [] rfl (argFl (by (conv => lhs; whnf); all_goals rfl)) trivial
        · replace hF := cond_t hb_13 hF
          conv => whnf
          refine ⟨fun h => ?_, fun h => ?_⟩
          · conv => whnf
            obtain rfl := Option.some.inj hF
            exact ret_gz [] [] [] rfl (argE (by (conv => lhs; whnf); all_goals rfl) rfl) trivial
          · cases (hb_9).symm.trans h
      · replace hF := cond_f hb_12 hF
        conv => whnf
        obtain rfl := Option.some.inj hF
        exact ret_gz [] [] [] rfl (argFl (by (conv => lhs; whnf); all_goals rfl)) trivial
    · replace hF := cond_t hb_9 hF
      conv => whnf
      refine ⟨fun hb_10 => ?_, fun hb_10 => ?_⟩
      · replace hF := cond_f hb_10 hF
        conv => whnf
        obtain ⟨b_5, h_b_5, hF⟩ := bind_some hF
        refine ixs_q h_b_5 (fun m_b_5 u_b_5 hm_b_5 hb_b_5 hz_b_5 => ?_)
        subst hz_b_5
        conv => whnf
        obtain ⟨r_6, h_r_6, hF⟩ := bind_some hF
        refine ⟨_, _, _, _, _, _, _, _, _, callX false [] [] 0 Try.func103 (by decide) rfl (ref02_Digit_ac ((u_b_5.toNat : Nat) : Int) r_6 h_r_6) rfl ⟨(argE (by (conv => lhs; whnf); all_goals rfl) rfl), trivial⟩ rfl trivial rfl rfl rfl lend0 trivial rfl, ?_⟩
        conv => whnf
        refine ⟨fun hb_11 => ?_, fun hb_11 => ?_⟩
        · replace hF := cond_t hb_11 hF
          conv => whnf
          refine ⟨fun h => ?_, fun h => ?_⟩
          · cases (hb_9).symm.trans h
          · conv => whnf
            obtain rfl := Option.some.inj hF
            exact ret_gz [] [] [] rfl (argT (by (conv => lhs; whnf); all_goals rfl)) trivial
        · replace hF := cond_f hb_11 hF
          conv => whnf
          obtain rfl := Option.some.inj hF
          exact ret_gz [] [] [] rfl (argFl (by (conv => lhs; whnf); all_goals rfl)) trivial
      · replace hF := cond_t hb_10 hF
        conv => whnf
        refine ⟨fun h => ?_, fun h => ?_⟩
        · cases (hb_9).symm.trans h
        · conv => whnf
          obtain rfl := Option.some.inj hF
          exact ret_gz [] [] [] rfl (argT (by (conv => lhs; whnf); all_goals rfl)) trivial

set_option maxRecDepth 100000 in
set_option maxHeartbeats 40000000 in
theorem ref02_Suffix_ac (x_0 : ByteArray) (r : Bool) (hF : ref02_Suffix x_0 = some r) : AC Try.prog 106 [.str x_0] [] (.bool r) [] := by
  refine ac_of tab_ok follows_ok Try.func106 rfl Try.ntmps106 rfl ?_
  unfold ref02_Suffix at hF
  conv => whnf
  refine ⟨fun hb_3 => ?_, fun hb_3 => ?_⟩
  · replace hF := cond_f hb_3 hF
    conv => whnf
    refine ⟨fun hb_4 => ?_, fun hb_4 => ?_⟩
    · replace hF := cond_t hb_4 hF
      conv => whnf
      obtain ⟨b_1, h_b_1, hF⟩ := bind_some hF
      refine ixs_q h_b_1 (fun m_b_1 u_b_1 hm_b_1 hb_b_1 hz_b_1 => ?_)
      subst hz_b_1
      conv => whnf
      obtain ⟨r_2, h_r_2, hF⟩ := bind_some hF
      refine ⟨_, _, _, _, _, _, _, _, _, callX false [] [] 0 Try.func100 (by decide) rfl (ref02_Letter_ac ((u_b_1.toNat : Nat) : Int) r_2 h_r_2) rfl ⟨(argE (by (conv => lhs; whnf); all_goals rfl) rfl), trivial⟩ rfl trivial rfl rfl rfl lend0 trivial rfl, ?_⟩
      conv => whnf
      obtain rfl := Option.some.inj hF
      exact ret_gz [] [] [] rfl (argE (by (conv => lhs; whnf); all_goals rfl) rfl) trivial
    · replace hF := cond_f hb_4 hF
      conv => whnf
      obtain rfl := Option.some.inj hF
      exact ret_gz [] [] [] rfl (argFl (by (conv => lhs; whnf); all_goals rfl)) trivial
  · replace hF := cond_t hb_3 hF
    conv => whnf
    obtain rfl := Option.some.inj hF
    exact ret_gz [] [] [] rfl (argT (by (conv => lhs; whnf); all_goals rfl)) trivial

set_option maxRecDepth 100000 in
set_option maxHeartbeats 40000000 in
theorem ref02_Valid_ac (x_0 : Flight) (r : Bool) (hF : ref02_Valid x_0 = some r) : AC Try.prog 101 [.agg (encFlight x_0)] [] (.bool r) [] := by
  refine ac_of tab_ok follows_ok Try.func101 rfl Try.ntmps101 rfl ?_
  unfold ref02_Valid at hF
  conv => whnf
  obtain ⟨r_1, h_r_1, hF⟩ := bind_some hF
  refine ⟨_, _, _, _, _, _, _, _, _, callX false [] [] 0 Try.func105 (by decide) rfl (ref02_Carrier_ac x_0.Carrier r_1 h_r_1) rfl ⟨(argE (by (conv => lhs; whnf); all_goals rfl) rfl), trivial⟩ rfl trivial rfl rfl rfl lend0 trivial rfl, ?_⟩
  conv => whnf
  refine ⟨fun hb_6 => ?_, fun hb_6 => ?_⟩
  · replace hF := cond_t hb_6 hF
    conv => whnf
    refine ⟨fun hb_7 => ?_, fun hb_7 => ?_⟩
    · replace hF := cond_t hb_7 hF
      conv => whnf
      refine ⟨fun hb_8 => ?_, fun hb_8 => ?_⟩
      · replace hF := cond_t hb_8 hF
        conv => whnf
        obtain ⟨r_2, h_r_2, hF⟩ := bind_some hF
        refine ⟨_, _, _, _, _, _, _, _, _, callX false [] [] 0 Try.func106 (by decide) rfl (ref02_Suffix_ac x_0.Suffix r_2 h_r_2) rfl ⟨(argE (by (conv => lhs; whnf); all_goals rfl) rfl), trivial⟩ rfl trivial rfl rfl rfl lend0 trivial rfl, ?_⟩
        conv => whnf
        refine ⟨fun hb_9 => ?_, fun hb_9 => ?_⟩
        · replace hF := cond_t hb_9 hF
          conv => whnf
          refine ⟨fun hb_10 => ?_, fun hb_10 => ?_⟩
          · replace hF := cond_t hb_10 hF
            conv => whnf
            obtain rfl := Option.some.inj hF
            exact ret_gz [] [] [] rfl (argE (by (conv => lhs; whnf); all_goals rfl) rfl) trivial
          · replace hF := cond_f hb_10 hF
            conv => whnf
            obtain rfl := Option.some.inj hF
            exact ret_gz [] [] [] rfl (argFl (by (conv => lhs; whnf); all_goals rfl)) trivial
        · replace hF := cond_f hb_9 hF
          conv => whnf
          obtain rfl := Option.some.inj hF
          exact ret_gz [] [] [] rfl (argFl (by (conv => lhs; whnf); all_goals rfl)) trivial
      · replace hF := cond_f hb_8 hF
        conv => whnf
        obtain rfl := Option.some.inj hF
        exact ret_gz [] [] [] rfl (argFl (by (conv => lhs; whnf); all_goals rfl)) trivial
    · replace hF := cond_f hb_7 hF
      conv => whnf
      obtain rfl := Option.some.inj hF
      exact ret_gz [] [] [] rfl (argFl (by (conv => lhs; whnf); all_goals rfl)) trivial
  · replace hF := cond_f hb_6 hF
    conv => whnf
    obtain rfl := Option.some.inj hF
    exact ret_gz [] [] [] rfl (argFl (by (conv => lhs; whnf); all_goals rfl)) trivial

set_option maxRecDepth 100000 in
set_option maxHeartbeats 40000000 in
theorem ref02_ValidClass_ac (x_0 : ByteArray) (r : Bool) (hF : ref02_ValidClass x_0 = some r) : AC Try.prog 102 [.str x_0] [] (.bool r) [] := by
  refine ac_of tab_ok follows_ok Try.func102 rfl Try.ntmps102 rfl ?_
  unfold ref02_ValidClass at hF
  conv => whnf
  refine ⟨fun hb_3 => ?_, fun hb_3 => ?_⟩
  · replace hF := cond_f hb_3 hF
    conv => whnf
    refine ⟨fun hb_4 => ?_, fun hb_4 => ?_⟩
    · replace hF := cond_f hb_4 hF
      conv => whnf
      obtain rfl := Option.some.inj hF
      exact ret_gz [] [] [] rfl (argE (by (conv => lhs; whnf); all_goals rfl) rfl) trivial
    · replace hF := cond_t hb_4 hF
      conv => whnf
      obtain rfl := Option.some.inj hF
      exact ret_gz [] [] [] rfl (argT (by (conv => lhs; whnf); all_goals rfl)) trivial
  · replace hF := cond_t hb_3 hF
    conv => whnf
    obtain rfl := Option.some.inj hF
    exact ret_gz [] [] [] rfl (argT (by (conv => lhs; whnf); all_goals rfl)) trivial

set_option maxRecDepth 100000 in
set_option maxHeartbeats 40000000 in
theorem ref02_ValidLeg_ac (x_0 : Leg) (r : Bool) (hF : ref02_ValidLeg x_0 = some r) : AC Try.prog 87 [.agg (encLeg x_0)] [] (.bool r) [] := by
  refine ac_of tab_ok follows_ok Try.func87 rfl Try.ntmps87 rfl ?_
  unfold ref02_ValidLeg at hF
  conv => whnf
  obtain ⟨r_1, h_r_1, hF⟩ := bind_some hF
  refine ⟨_, _, _, _, _, _, _, _, _, callX false [] [] 0 Try.func101 (by decide) rfl (ref02_Valid_ac x_0.Flight r_1 h_r_1) rfl ⟨(argE (by (conv => lhs; whnf); all_goals rfl) rfl), trivial⟩ rfl trivial rfl rfl rfl lend0 trivial rfl, ?_⟩
  conv => whnf
  refine ⟨fun hb_3 => ?_, fun hb_3 => ?_⟩
  · replace hF := cond_t hb_3 hF
    conv => whnf
    obtain ⟨r_2, h_r_2, hF⟩ := bind_some hF
    refine ⟨_, _, _, _, _, _, _, _, _, callX false [] [] 0 Try.func86 (by decide) rfl (ref02_ValidPort_ac x_0.Port r_2 h_r_2) rfl ⟨(argE (by (conv => lhs; whnf); all_goals rfl) rfl), trivial⟩ rfl trivial rfl rfl rfl lend0 trivial rfl, ?_⟩
    conv => whnf
    refine ⟨fun hb_4 => ?_, fun hb_4 => ?_⟩
    · replace hF := cond_t hb_4 hF
      conv => whnf
      obtain ⟨r_3, h_r_3, hF⟩ := bind_some hF
      refine ⟨_, _, _, _, _, _, _, _, _, callX false [] [] 0 Try.func102 (by decide) rfl (ref02_ValidClass_ac x_0.Class r_3 h_r_3) rfl ⟨(argE (by (conv => lhs; whnf); all_goals rfl) rfl), trivial⟩ rfl trivial rfl rfl rfl lend0 trivial rfl, ?_⟩
      conv => whnf
      obtain rfl := Option.some.inj hF
      exact ret_gz [] [] [] rfl (argE (by (conv => lhs; whnf); all_goals rfl) rfl) trivial
    · replace hF := cond_f hb_4 hF
      conv => whnf
      obtain rfl := Option.some.inj hF
      exact ret_gz [] [] [] rfl (argFl (by (conv => lhs; whnf); all_goals rfl)) trivial
  · replace hF := cond_f hb_3 hF
    conv => whnf
    obtain rfl := Option.some.inj hF
    exact ret_gz [] [] [] rfl (argFl (by (conv => lhs; whnf); all_goals rfl)) trivial
end Go.Proofs.Ytpipggnfbgjefaa.Ex
