/- The functions of the program compute what was printed; walks printed by a program. -/
import Derived.Test.YtidhgcgbdjjdlaaExF
import Derived.Test.YtidhgcgbdjjdlaaInsCheck
namespace Go.Proofs.Ytidhgcgbdjjdlaa.Ex
open Go.RowKit Go.Proofs.Ytidhgcgbdjjdlaa.Ax
set_option linter.unusedVariables false
set_option linter.unusedSimpArgs false
set_option maxRecDepth 100000 in
set_option maxHeartbeats 40000000 in
theorem keep_New_ac (x_0 : (List Int)) (r : Src) (hF : keep_New x_0 = some r) : AC Try.prog 7 [.lst 1 (x_0.map iA)] [] (.ptr 0 0) [.box (encSrc r)] := by
  refine ac_of tab_ok follows_ok Try.func7 rfl Try.ntmps7 rfl ?_
  unfold keep_New at hF
  conv => whnf
  refine len_q (enc := iA) (l := x_0) rfl ?_
  conv => whnf
  refine ⟨fun hb_2 => ?_, fun hb_2 => ?_⟩
  · replace hF := cond_t hb_2 hF
    conv => whnf
    obtain ⟨l_1, h_l_1, hF⟩ := bind_some hF
    refine sl_q0 (enc := iA) (l := x_0) h_l_1 rfl ?_
    conv => whnf
    obtain rfl := Option.some.inj hF
    exact ret_gz [0] [] [] rfl (argP (id := 0) (by (conv => lhs; whnf); all_goals rfl) rfl) ⟨boxL rfl rfl rfl ⟨(.ni _ rfl), (.ni _ rfl), trivial⟩, trivial⟩
  · replace hF := cond_f hb_2 hF
    conv => whnf
    obtain rfl := Option.some.inj hF
    exact ret_gz [0] [] [] rfl (argP (id := 0) (by (conv => lhs; whnf); all_goals rfl) rfl) ⟨boxL rfl rfl rfl ⟨(.ni _ rfl), (.ni _ rfl), trivial⟩, trivial⟩

set_option maxRecDepth 100000 in
set_option maxHeartbeats 40000000 in
theorem screen_New_ac (x_0 : A4_Int) (r : Screening × Int) (hF : screen_New x_0 = some r) : AC Try.prog 8 [.agg (encA4_Int x_0)] [] (.tup [.agg (encScreening r.1), .int .i64 r.2]) [] := by
  refine ac_of tab_ok follows_ok Try.func8 rfl Try.ntmps8 rfl ?_
  unfold screen_New at hF
  conv => whnf
  obtain ⟨c_1, hc_1, hF⟩ := fin_some hF
  refine sw_loop tab_ok follows_ok (fun y : Nat × Int => screen_New_L1 x_0 y.1 y.2 = some c_1) (fun y => ⟨eL [(1, .ptr 0 0), (2, .ptr 1 0), (6, .agg [.int .i64 x_0.e0, .int .i64 x_0.e1, .int .i64 x_0.e2, .int .i64 x_0.e3]), (7, .int .i64 y.2)], hL [(0, .box [.int .i64 x_0.e0, .int .i64 x_0.e1, .int .i64 x_0.e2, .int .i64 x_0.e3]), (1, .box [.int .i64 (0 : Int), .int .i64 (0 : Int), .int .i64 (0 : Int), .int .i64 (0 : Int), .int .i64 (0 : Int), .nils])], 2⟩) (fun y => y.1) (9223372036854775807, (0 : Int)) hc_1 (wk_mk [0, 1] [] [] rfl ⟨argP (id := 0) (by (conv => lhs; whnf); all_goals rfl) rfl, argP (id := 1) (by (conv => lhs; whnf); all_goals rfl) rfl, argE (by (conv => lhs; whnf); all_goals rfl) rfl, argE (by (conv => lhs; whnf); all_goals rfl) rfl, trivial⟩ ⟨boxL rfl rfl rfl ⟨(.ni _ rfl), (.ni _ rfl), (.ni _ rfl), (.ni _ rfl), trivial⟩, boxL rfl rfl rfl ⟨(.ni _ rfl), (.ni _ rfl), (.ni _ rfl), (.ni _ rfl), (.ni _ rfl), (.ni _ rfl), trivial⟩, trivial⟩) ?_
  rintro ⟨q_2, i_1⟩ hL1
  try dsimp only at hL1
  rcases q_2 with _ | q_2
  · rw [screen_New_L1.eq_1] at hL1
    cases hL1
  rw [screen_New_L1.eq_2] at hL1
  show awp _ _ _ _ _ _ ⟨eL [(1, .ptr 0 0), (2, .ptr 1 0), (6, .agg [.int .i64 x_0.e0, .int .i64 x_0.e1, .int .i64 x_0.e2, .int .i64 x_0.e3]), (7, .int .i64 i_1)], hL [(0, .box [.int .i64 x_0.e0, .int .i64 x_0.e1, .int .i64 x_0.e2, .int .i64 x_0.e3]), (1, .box [.int .i64 (0 : Int), .int .i64 (0 : Int), .int .i64 (0 : Int), .int .i64 (0 : Int), .int .i64 (0 : Int), .nils])], 2⟩
  conv => whnf
  refine ⟨fun hb_42 => ?_, fun hb_42 => ?_⟩
  · replace hL1 := cond_t hb_42 hL1
    conv => whnf
    refine (Bool.eq_false_or_eq_true (i_1 == (0 : Int))).elim (fun hi_43 => ?_) (fun hi_43 => ?_)
    · replace hL1 := cond_t hi_43 hL1
      refine ⟨0, eq_of_beq hi_43, by decide, ?_⟩
      conv => whnf
      refine ⟨fun hb_44 => ?_, fun hb_44 => ?_⟩
      · replace hL1 := cond_f hb_44 hL1
        conv => whnf
        refine ⟨fun hb_45 => ?_, fun hb_45 => ?_⟩
        · replace hL1 := cond_t hb_45 hL1
          conv => whnf
          obtain rfl := Option.some.inj hL1
          replace hF := fin_ret hF
          obtain rfl := Option.some.inj hF
          exact ret_gz [] [] [] rfl (tupL rfl ⟨(argA (c := [.int .i64 (0 : Int), .int .i64 (0 : Int), .int .i64 (0 : Int), .int .i64 (0 : Int), .int .i64 (0 : Int), .nils]) (by (conv => lhs; whnf); all_goals rfl) rfl ⟨(.ni _ rfl), (.ni _ rfl), (.ni _ rfl), (.ni _ rfl), (.ni _ rfl), (.nils _), trivial⟩), (argE (by (conv => lhs; whnf); all_goals rfl) rfl), trivial⟩) trivial
        · replace hL1 := cond_f hb_45 hL1
          conv => whnf
          refine ⟨_, rfl, ?_⟩
          conv => whnf
          exact ⟨(q_2, (w64 (i_1 + (1 : Int)))), [0, 1], [], [], hL1, Nat.lt_succ_self _, wk_mk [0, 1] [] [] rfl ⟨argP (id := 0) (by (conv => lhs; whnf); all_goals rfl) rfl, argP (id := 1) (by (conv => lhs; whnf); all_goals rfl) rfl, argE (by (conv => lhs; whnf); all_goals rfl) rfl, argE (by (conv => lhs; whnf); all_goals rfl) rfl, trivial⟩ ⟨boxL rfl rfl rfl ⟨(.ni _ rfl), (.ni _ rfl), (.ni _ rfl), (.ni _ rfl), trivial⟩, boxL rfl rfl rfl ⟨(.ni _ rfl), (.ni _ rfl), (.ni _ rfl), (.ni _ rfl), (.ni _ rfl), (.ni _ rfl), trivial⟩, trivial⟩⟩
      · replace hL1 := cond_t hb_44 hL1
        conv => whnf
        obtain rfl := Option.some.inj hL1
        replace hF := fin_ret hF
        obtain rfl := Option.some.inj hF
        exact ret_gz [] [] [] rfl (tupL rfl ⟨(argA (c := [.int .i64 (0 : Int), .int .i64 (0 : Int), .int .i64 (0 : Int), .int .i64 (0 : Int), .int .i64 (0 : Int), .nils]) (by (conv => lhs; whnf); all_goals rfl) rfl ⟨(.ni _ rfl), (.ni _ rfl), (.ni _ rfl), (.ni _ rfl), (.ni _ rfl), (.nils _), trivial⟩), (argE (by (conv => lhs; whnf); all_goals rfl) rfl), trivial⟩) trivial
    · replace hL1 := cond_f hi_43 hL1
      refine (Bool.eq_false_or_eq_true (i_1 == (1 : Int))).elim (fun hi_46 => ?_) (fun hi_46 => ?_)
      · replace hL1 := cond_t hi_46 hL1
        refine ⟨1, eq_of_beq hi_46, by decide, ?_⟩
        conv => whnf
        refine ⟨fun hb_47 => ?_, fun hb_47 => ?_⟩
        · replace hL1 := cond_f hb_47 hL1
          conv => whnf
          refine ⟨fun hb_48 => ?_, fun hb_48 => ?_⟩
          · replace hL1 := cond_t hb_48 hL1
            conv => whnf
            obtain rfl := Option.some.inj hL1
            replace hF := fin_ret hF
            obtain rfl := Option.some.inj hF
            exact ret_gz [] [] [] rfl (tupL rfl ⟨(argA (c := [.int .i64 (0 : Int), .int .i64 (0 : Int), .int .i64 (0 : Int), .int .i64 (0 : Int), .int .i64 (0 : Int), .nils]) (by (conv => lhs; whnf); all_goals rfl) rfl ⟨(.ni _ rfl), (.ni _ rfl), (.ni _ rfl), (.ni _ rfl), (.ni _ rfl), (.nils _), trivial⟩), (argE (by (conv => lhs; whnf); all_goals rfl) rfl), trivial⟩) trivial
          · replace hL1 := cond_f hb_48 hL1
            conv => whnf
            refine ⟨_, rfl, ?_⟩
            conv => whnf
            exact ⟨(q_2, (w64 (i_1 + (1 : Int)))), [0, 1], [], [], hL1, Nat.lt_succ_self _, wk_mk [0, 1] [] [] rfl ⟨argP (id := 0) (by (conv => lhs; whnf); all_goals rfl) rfl, argP (id := 1) (by (conv => lhs; whnf); all_goals rfl) rfl, argE (by (conv => lhs; whnf); all_goals rfl) rfl, argE (by (conv => lhs; whnf); all_goals rfl) rfl, trivial⟩ ⟨boxL rfl rfl rfl ⟨(.ni _ rfl), (.ni _ rfl), (.ni _ rfl), (.ni _ rfl), trivial⟩, boxL rfl rfl rfl ⟨(.ni _ rfl), (.ni _ rfl), (.ni _ rfl), (.ni _ rfl), (.ni _ rfl), (.ni _ rfl), trivial⟩, trivial⟩⟩
        · replace hL1 := cond_t hb_47 hL1
          conv => whnf
          obtain rfl := Option.some.inj hL1
          replace hF := fin_ret hF
          obtain rfl := Option.some.inj hF
          exact ret_gz [] [] [] rfl (tupL rfl ⟨(argA (c := [.int .i64 (0 : Int), .int .i64 (0 : Int), .int .i64 (0 : Int), .int .i64 (0 : Int), .int .i64 (0 : Int), .nils]) (by (conv => lhs; whnf); all_goals rfl) rfl ⟨(.ni _ rfl), (.ni _ rfl), (.ni _ rfl), (.ni _ rfl), (.ni _ rfl), (.nils _), trivial⟩), (argE (by (conv => lhs; whnf); all_goals rfl) rfl), trivial⟩) trivial
      · replace hL1 := cond_f hi_46 hL1
        refine (Bool.eq_false_or_eq_true (i_1 == (2 : Int))).elim (fun hi_49 => ?_) (fun hi_49 => ?_)
        · replace hL1 := cond_t hi_49 hL1
          refine ⟨2, eq_of_beq hi_49, by decide, ?_⟩
          conv => whnf
          refine ⟨fun hb_50 => ?_, fun hb_50 => ?_⟩
          · replace hL1 := cond_f hb_50 hL1
            conv => whnf
            refine ⟨fun hb_51 => ?_, fun hb_51 => ?_⟩
            · replace hL1 := cond_t hb_51 hL1
              conv => whnf
              obtain rfl := Option.some.inj hL1
              replace hF := fin_ret hF
              obtain rfl := Option.some.inj hF
              exact ret_gz [] [] [] rfl (tupL rfl ⟨(argA (c := [.int .i64 (0 : Int), .int .i64 (0 : Int), .int .i64 (0 : Int), .int .i64 (0 : Int), .int .i64 (0 : Int), .nils]) (by (conv => lhs; whnf); all_goals rfl) rfl ⟨(.ni _ rfl), (.ni _ rfl), (.ni _ rfl), (.ni _ rfl), (.ni _ rfl), (.nils _), trivial⟩), (argE (by (conv => lhs; whnf); all_goals rfl) rfl), trivial⟩) trivial
            · replace hL1 := cond_f hb_51 hL1
              conv => whnf
              refine ⟨_, rfl, ?_⟩
              conv => whnf
              exact ⟨(q_2, (w64 (i_1 + (1 : Int)))), [0, 1], [], [], hL1, Nat.lt_succ_self _, wk_mk [0, 1] [] [] rfl ⟨argP (id := 0) (by (conv => lhs; whnf); all_goals rfl) rfl, argP (id := 1) (by (conv => lhs; whnf); all_goals rfl) rfl, argE (by (conv => lhs; whnf); all_goals rfl) rfl, argE (by (conv => lhs; whnf); all_goals rfl) rfl, trivial⟩ ⟨boxL rfl rfl rfl ⟨(.ni _ rfl), (.ni _ rfl), (.ni _ rfl), (.ni _ rfl), trivial⟩, boxL rfl rfl rfl ⟨(.ni _ rfl), (.ni _ rfl), (.ni _ rfl), (.ni _ rfl), (.ni _ rfl), (.ni _ rfl), trivial⟩, trivial⟩⟩
          · replace hL1 := cond_t hb_50 hL1
            conv => whnf
            obtain rfl := Option.some.inj hL1
            replace hF := fin_ret hF
            obtain rfl := Option.some.inj hF
            exact ret_gz [] [] [] rfl (tupL rfl ⟨(argA (c := [.int .i64 (0 : Int), .int .i64 (0 : Int), .int .i64 (0 : Int), .int .i64 (0 : Int), .int .i64 (0 : Int), .nils]) (by (conv => lhs; whnf); all_goals rfl) rfl ⟨(.ni _ rfl), (.ni _ rfl), (.ni _ rfl), (.ni _ rfl), (.ni _ rfl), (.nils _), trivial⟩), (argE (by (conv => lhs; whnf); all_goals rfl) rfl), trivial⟩) trivial
        · replace hL1 := cond_f hi_49 hL1
          refine (Bool.eq_false_or_eq_true (i_1 == (3 : Int))).elim (fun hi_52 => ?_) (fun hi_52 => ?_)
          · replace hL1 := cond_t hi_52 hL1
            refine ⟨3, eq_of_beq hi_52, by decide, ?_⟩
            conv => whnf
            refine ⟨fun hb_53 => ?_, fun hb_53 => ?_⟩
            · replace hL1 := cond_f hb_53 hL1
              conv => whnf
              refine ⟨fun hb_54 => ?_, fun hb_54 => ?_⟩
              · replace hL1 := cond_t hb_54 hL1
                conv => whnf
                obtain rfl := Option.some.inj hL1
                replace hF := fin_ret hF
                obtain rfl := Option.some.inj hF
                exact ret_gz [] [] [] rfl (tupL rfl ⟨(argA (c := [.int .i64 (0 : Int), .int .i64 (0 : Int), .int .i64 (0 : Int), .int .i64 (0 : Int), .int .i64 (0 : Int), .nils]) (by (conv => lhs; whnf); all_goals rfl) rfl ⟨(.ni _ rfl), (.ni _ rfl), (.ni _ rfl), (.ni _ rfl), (.ni _ rfl), (.nils _), trivial⟩), (argE (by (conv => lhs; whnf); all_goals rfl) rfl), trivial⟩) trivial
              · replace hL1 := cond_f hb_54 hL1
                conv => whnf
                refine ⟨_, rfl, ?_⟩
                conv => whnf
                exact ⟨(q_2, (w64 (i_1 + (1 : Int)))), [0, 1], [], [], hL1, Nat.lt_succ_self _, wk_mk [0, 1] [] [] rfl ⟨argP (id := 0) (by (conv => lhs; whnf); all_goals rfl) rfl, argP (id := 1) (by (conv => lhs; whnf); all_goals rfl) rfl, argE (by (conv => lhs; whnf); all_goals rfl) rfl, argE (by (conv => lhs; whnf); all_goals rfl) rfl, trivial⟩ ⟨boxL rfl rfl rfl ⟨(.ni _ rfl), (.ni _ rfl), (.ni _ rfl), (.ni _ rfl), trivial⟩, boxL rfl rfl rfl ⟨(.ni _ rfl), (.ni _ rfl), (.ni _ rfl), (.ni _ rfl), (.ni _ rfl), (.ni _ rfl), trivial⟩, trivial⟩⟩
            · replace hL1 := cond_t hb_53 hL1
              conv => whnf
              obtain rfl := Option.some.inj hL1
              replace hF := fin_ret hF
              obtain rfl := Option.some.inj hF
              exact ret_gz [] [] [] rfl (tupL rfl ⟨(argA (c := [.int .i64 (0 : Int), .int .i64 (0 : Int), .int .i64 (0 : Int), .int .i64 (0 : Int), .int .i64 (0 : Int), .nils]) (by (conv => lhs; whnf); all_goals rfl) rfl ⟨(.ni _ rfl), (.ni _ rfl), (.ni _ rfl), (.ni _ rfl), (.ni _ rfl), (.nils _), trivial⟩), (argE (by (conv => lhs; whnf); all_goals rfl) rfl), trivial⟩) trivial
          · replace hL1 := cond_f hi_52 hL1
            cases hL1
  · replace hL1 := cond_f hb_42 hL1
    conv => whnf
    obtain rfl := Option.some.inj hL1
    replace hF := fin_brk hF
    try dsimp only at hF
    obtain rfl := Option.some.inj hF
    exact ret_gz [] [] [] rfl (tupL rfl ⟨(argA (c := [.int .i64 x_0.e0, .int .i64 x_0.e1, .int .i64 x_0.e2, .int .i64 x_0.e3, .int .i64 (1 : Int), .nils]) (by (conv => lhs; whnf); all_goals rfl) rfl ⟨(.ni _ rfl), (.ni _ rfl), (.ni _ rfl), (.ni _ rfl), (.ni _ rfl), (.nils _), trivial⟩), (argE (by (conv => lhs; whnf); all_goals rfl) rfl), trivial⟩) trivial

set_option maxRecDepth 100000 in
set_option maxHeartbeats 40000000 in
theorem ref15_New_ac (x_0 : A4_Int) (r : Screening × Int) (hF : ref15_New x_0 = some r) : AC Try.prog 21 [.agg (encA4_Int x_0)] [] (.tup [.agg (encScreening r.1), .int .i64 r.2]) [] := by
  refine ac_of tab_ok follows_ok Try.func21 rfl Try.ntmps21 rfl ?_
  unfold ref15_New at hF
  conv => whnf
  obtain ⟨c_1, hc_1, hF⟩ := fin_some hF
  refine sw_loop tab_ok follows_ok (fun y : Nat × Int => ref15_New_L1 x_0 y.1 y.2 = some c_1) (fun y => ⟨eL [(1, .ptr 0 0), (2, .ptr 1 0), (4, .int .i64 y.2)], hL [(0, .box [.int .i64 x_0.e0, .int .i64 x_0.e1, .int .i64 x_0.e2, .int .i64 x_0.e3]), (1, .box [.int .i64 (0 : Int), .int .i64 (0 : Int), .int .i64 (0 : Int), .int .i64 (0 : Int), .int .i64 (0 : Int), .nils])], 2⟩) (fun y => y.1) (9223372036854775807, (0 : Int)) hc_1 (wk_mk [0, 1] [] [] rfl ⟨argP (id := 0) (by (conv => lhs; whnf); all_goals rfl) rfl, argP (id := 1) (by (conv => lhs; whnf); all_goals rfl) rfl, argE (by (conv => lhs; whnf); all_goals rfl) rfl, trivial⟩ ⟨boxL rfl rfl rfl ⟨(.ni _ rfl), (.ni _ rfl), (.ni _ rfl), (.ni _ rfl), trivial⟩, boxL rfl rfl rfl ⟨(.ni _ rfl), (.ni _ rfl), (.ni _ rfl), (.ni _ rfl), (.ni _ rfl), (.ni _ rfl), trivial⟩, trivial⟩) ?_
  rintro ⟨q_2, i_1⟩ hL1
  try dsimp only at hL1
  rcases q_2 with _ | q_2
  · rw [ref15_New_L1.eq_1] at hL1
    cases hL1
  rw [ref15_New_L1.eq_2] at hL1
  show awp _ _ _ _ _ _ ⟨eL [(1, .ptr 0 0), (2, .ptr 1 0), (4, .int .i64 i_1)], hL [(0, .box [.int .i64 x_0.e0, .int .i64 x_0.e1, .int .i64 x_0.e2, .int .i64 x_0.e3]), (1, .box [.int .i64 (0 : Int), .int .i64 (0 : Int), .int .i64 (0 : Int), .int .i64 (0 : Int), .int .i64 (0 : Int), .nils])], 2⟩
  conv => whnf
  refine ⟨fun hb_126 => ?_, fun hb_126 => ?_⟩
  · replace hL1 := cond_t hb_126 hL1
    conv => whnf
    refine (Bool.eq_false_or_eq_true (i_1 == (0 : Int))).elim (fun hi_127 => ?_) (fun hi_127 => ?_)
    · replace hL1 := cond_t hi_127 hL1
      refine ⟨0, eq_of_beq hi_127, by decide, ?_⟩
      conv => whnf
      refine ⟨fun hb_128 => ?_, fun hb_128 => ?_⟩
      · replace hL1 := cond_f hb_128 hL1
        conv => whnf
        refine (Bool.eq_false_or_eq_true (i_1 == (0 : Int))).elim (fun hi_129 => ?_) (fun hi_129 => ?_)
        · replace hL1 := cond_t hi_129 hL1
          refine ⟨0, eq_of_beq hi_129, by decide, ?_⟩
          conv => whnf
          refine ⟨fun hb_130 => ?_, fun hb_130 => ?_⟩
          · replace hL1 := cond_t hb_130 hL1
            conv => whnf
            obtain rfl := Option.some.inj hL1
            replace hF := fin_ret hF
            obtain rfl := Option.some.inj hF
            exact ret_gz [] [] [] rfl (tupL rfl ⟨(argA (c := [.int .i64 (0 : Int), .int .i64 (0 : Int), .int .i64 (0 : Int), .int .i64 (0 : Int), .int .i64 (0 : Int), .nils]) (by (conv => lhs; whnf); all_goals rfl) rfl ⟨(.ni _ rfl), (.ni _ rfl), (.ni _ rfl), (.ni _ rfl), (.ni _ rfl), (.nils _), trivial⟩), (argE (by (conv => lhs; whnf); all_goals rfl) rfl), trivial⟩) trivial
          · replace hL1 := cond_f hb_130 hL1
            conv => whnf
            refine ⟨_, rfl, ?_⟩
            conv => whnf
            exact ⟨(q_2, (w64 (i_1 + (1 : Int)))), [0, 1], [], [], hL1, Nat.lt_succ_self _, wk_mk [0, 1] [] [] rfl ⟨argP (id := 0) (by (conv => lhs; whnf); all_goals rfl) rfl, argP (id := 1) (by (conv => lhs; whnf); all_goals rfl) rfl, argE (by (conv => lhs; whnf); all_goals rfl) rfl, trivial⟩ ⟨boxL rfl rfl rfl ⟨(.ni _ rfl), (.ni _ rfl), (.ni _ rfl), (.ni _ rfl), trivial⟩, boxL rfl rfl rfl ⟨(.ni _ rfl), (.ni _ rfl), (.ni _ rfl), (.ni _ rfl), (.ni _ rfl), (.ni _ rfl), trivial⟩, trivial⟩⟩
        · replace hL1 := cond_f hi_129 hL1
          refine (Bool.eq_false_or_eq_true (i_1 == (1 : Int))).elim (fun hi_131 => ?_) (fun hi_131 => ?_)
          · replace hL1 := cond_t hi_131 hL1
            refine ⟨1, eq_of_beq hi_131, by decide, ?_⟩
            conv => whnf
            refine ⟨fun hb_132 => ?_, fun hb_132 => ?_⟩
            · replace hL1 := cond_t hb_132 hL1
              conv => whnf
              obtain rfl := Option.some.inj hL1
              replace hF := fin_ret hF
              obtain rfl := Option.some.inj hF
              exact ret_gz [] [] [] rfl (tupL rfl ⟨(argA (c := [.int .i64 (0 : Int), .int .i64 (0 : Int), .int .i64 (0 : Int), .int .i64 (0 : Int), .int .i64 (0 : Int), .nils]) (by (conv => lhs; whnf); all_goals rfl) rfl ⟨(.ni _ rfl), (.ni _ rfl), (.ni _ rfl), (.ni _ rfl), (.ni _ rfl), (.nils _), trivial⟩), (argE (by (conv => lhs; whnf); all_goals rfl) rfl), trivial⟩) trivial
            · replace hL1 := cond_f hb_132 hL1
              conv => whnf
              refine ⟨_, rfl, ?_⟩
              conv => whnf
              exact ⟨(q_2, (w64 (i_1 + (1 : Int)))), [0, 1], [], [], hL1, Nat.lt_succ_self _, wk_mk [0, 1] [] [] rfl ⟨argP (id := 0) (by (conv => lhs; whnf); all_goals rfl) rfl, argP (id := 1) (by (conv => lhs; whnf); all_goals rfl) rfl, argE (by (conv => lhs; whnf); all_goals rfl) rfl, trivial⟩ ⟨boxL rfl rfl rfl ⟨(.ni _ rfl), (.ni _ rfl), (.ni _ rfl), (.ni _ rfl), trivial⟩, boxL rfl rfl rfl ⟨(.ni _ rfl), (.ni _ rfl), (.ni _ rfl), (.ni _ rfl), (.ni _ rfl), (.ni _ rfl), trivial⟩, trivial⟩⟩
          · replace hL1 := cond_f hi_131 hL1
            refine (Bool.eq_false_or_eq_true (i_1 == (2 : Int))).elim (fun hi_133 => ?_) (fun hi_133 => ?_)
            · replace hL1 := cond_t hi_133 hL1
              refine ⟨2, eq_of_beq hi_133, by decide, ?_⟩
              conv => whnf
              refine ⟨fun hb_134 => ?_, fun hb_134 => ?_⟩
              · replace hL1 := cond_t hb_134 hL1
                conv => whnf
                obtain rfl := Option.some.inj hL1
                replace hF := fin_ret hF
                obtain rfl := Option.some.inj hF
                exact ret_gz [] [] [] rfl (tupL rfl ⟨(argA (c := [.int .i64 (0 : Int), .int .i64 (0 : Int), .int .i64 (0 : Int), .int .i64 (0 : Int), .int .i64 (0 : Int), .nils]) (by (conv => lhs; whnf); all_goals rfl) rfl ⟨(.ni _ rfl), (.ni _ rfl), (.ni _ rfl), (.ni _ rfl), (.ni _ rfl), (.nils _), trivial⟩), (argE (by (conv => lhs; whnf); all_goals rfl) rfl), trivial⟩) trivial
              · replace hL1 := cond_f hb_134 hL1
                conv => whnf
                refine ⟨_, rfl, ?_⟩
                conv => whnf
                exact ⟨(q_2, (w64 (i_1 + (1 : Int)))), [0, 1], [], [], hL1, Nat.lt_succ_self _, wk_mk [0, 1] [] [] rfl ⟨argP (id := 0) (by (conv => lhs; whnf); all_goals rfl) rfl, argP (id := 1) (by (conv => lhs; whnf); all_goals rfl) rfl, argE (by (conv => lhs; whnf); all_goals rfl) rfl, trivial⟩ ⟨boxL rfl rfl rfl ⟨(.ni _ rfl), (.ni _ rfl), (.ni _ rfl), (.ni _ rfl), trivial⟩, boxL rfl rfl rfl ⟨(.ni _ rfl), (.ni _ rfl), (.ni _ rfl), (.ni _ rfl), (.ni _ rfl), (.ni _ rfl), trivial⟩, trivial⟩⟩
            · replace hL1 := cond_f hi_133 hL1
              refine (Bool.eq_false_or_eq_true (i_1 == (3 : Int))).elim (fun hi_135 => ?_) (fun hi_135 => ?_)
              · replace hL1 := cond_t hi_135 hL1
                refine ⟨3, eq_of_beq hi_135, by decide, ?_⟩
                conv => whnf
                refine ⟨fun hb_136 => ?_, fun hb_136 => ?_⟩
                · replace hL1 := cond_t hb_136 hL1
                  conv => whnf
                  obtain rfl := Option.some.inj hL1
                  replace hF := fin_ret hF
                  obtain rfl := Option.some.inj hF
                  exact ret_gz [] [] [] rfl (tupL rfl ⟨(argA (c := [.int .i64 (0 : Int), .int .i64 (0 : Int), .int .i64 (0 : Int), .int .i64 (0 : Int), .int .i64 (0 : Int), .nils]) (by (conv => lhs; whnf); all_goals rfl) rfl ⟨(.ni _ rfl), (.ni _ rfl), (.ni _ rfl), (.ni _ rfl), (.ni _ rfl), (.nils _), trivial⟩), (argE (by (conv => lhs; whnf); all_goals rfl) rfl), trivial⟩) trivial
                · replace hL1 := cond_f hb_136 hL1
                  conv => whnf
                  refine ⟨_, rfl, ?_⟩
                  conv => whnf
                  exact ⟨(q_2, (w64 (i_1 + (1 : Int)))), [0, 1], [], [], hL1, Nat.lt_succ_self _, wk_mk [0, 1] [] [] rfl ⟨argP (id := 0) (by (conv => lhs; whnf); all_goals rfl) rfl, argP (id := 1) (by (conv => lhs; whnf); all_goals rfl) rfl, argE (by (conv => lhs; whnf); all_goals rfl) rfl, trivial⟩ ⟨boxL rfl rfl rfl ⟨(.ni _ rfl), (.ni _ rfl), (.ni _ rfl), (.ni _ rfl), trivial⟩, boxL rfl rfl rfl ⟨(.ni _ rfl), (.ni _ rfl), (.ni _ rfl), (.ni _ rfl), (.ni _ rfl), (.ni _ rfl), trivial⟩, trivial⟩⟩
              · replace hL1 := cond_f hi_135 hL1
                cases hL1
      · replace hL1 := cond_t hb_128 hL1
        conv => whnf
        obtain rfl := Option.some.inj hL1
        replace hF := fin_ret hF
        obtain rfl := Option.some.inj hF
        exact ret_gz [] [] [] rfl (tupL rfl ⟨(argA (c := [.int .i64 (0 : Int), .int .i64 (0 : Int), .int .i64 (0 : Int), .int .i64 (0 : Int), .int .i64 (0 : Int), .nils]) (by (conv => lhs; whnf); all_goals rfl) rfl ⟨(.ni _ rfl), (.ni _ rfl), (.ni _ rfl), (.ni _ rfl), (.ni _ rfl), (.nils _), trivial⟩), (argE (by (conv => lhs; whnf); all_goals rfl) rfl), trivial⟩) trivial
    · replace hL1 := cond_f hi_127 hL1
      refine (Bool.eq_false_or_eq_true (i_1 == (1 : Int))).elim (fun hi_137 => ?_) (fun hi_137 => ?_)
      · replace hL1 := cond_t hi_137 hL1
        refine ⟨1, eq_of_beq hi_137, by decide, ?_⟩
        conv => whnf
        refine ⟨fun hb_138 => ?_, fun hb_138 => ?_⟩
        · replace hL1 := cond_f hb_138 hL1
          conv => whnf
          refine (Bool.eq_false_or_eq_true (i_1 == (0 : Int))).elim (fun hi_139 => ?_) (fun hi_139 => ?_)
          · replace hL1 := cond_t hi_139 hL1
            refine ⟨0, eq_of_beq hi_139, by decide, ?_⟩
            conv => whnf
            refine ⟨fun hb_140 => ?_, fun hb_140 => ?_⟩
            · replace hL1 := cond_t hb_140 hL1
              conv => whnf
              obtain rfl := Option.some.inj hL1
              replace hF := fin_ret hF
              obtain rfl := Option.some.inj hF
              exact ret_gz [] [] [] rfl (tupL rfl ⟨(argA (c := [.int .i64 (0 : Int), .int .i64 (0 : Int), .int .i64 (0 : Int), .int .i64 (0 : Int), .int .i64 (0 : Int), .nils]) (by (conv => lhs; whnf); all_goals rfl) rfl ⟨(.ni _ rfl), (.ni _ rfl), (.ni _ rfl), (.ni _ rfl), (.ni _ rfl), (.nils _), trivial⟩), (argE (by (conv => lhs; whnf); all_goals rfl) rfl), trivial⟩) trivial
            · replace hL1 := cond_f hb_140 hL1
              conv => whnf
              refine ⟨_, rfl, ?_⟩
              conv => whnf
              exact ⟨(q_2, (w64 (i_1 + (1 : Int)))), [0, 1], [], [], hL1, Nat.lt_succ_self _, wk_mk [0, 1] [] [] rfl ⟨argP (id := 0) (by (conv => lhs; whnf); all_goals rfl) rfl, argP (id := 1) (by (conv => lhs; whnf); all_goals rfl) rfl, argE (by (conv => lhs; whnf); all_goals rfl) rfl, trivial⟩ ⟨boxL rfl rfl rfl ⟨(.ni _ rfl), (.ni _ rfl), (.ni _ rfl), (.ni _ rfl), trivial⟩, boxL rfl rfl rfl ⟨(.ni _ rfl), (.ni _ rfl), (.ni _ rfl), (.ni _ rfl), (.ni _ rfl), (.ni _ rfl), trivial⟩, trivial⟩⟩
          · replace hL1 := cond_f hi_139 hL1
            refine (Bool.eq_false_or_eq_true (i_1 == (1 : Int))).elim (fun hi_141 => ?_) (fun hi_141 => ?_)
            · replace hL1 := cond_t hi_141 hL1
              refine ⟨1, eq_of_beq hi_141, by decide, ?_⟩
              conv => whnf
              refine ⟨fun hb_142 => ?_, fun hb_142 => ?_⟩
              · replace hL1 := cond_t hb_142 hL1
                conv => whnf
                obtain rfl := Option.some.inj hL1
                replace hF := fin_ret hF
                obtain rfl := Option.some.inj hF
                exact ret_gz [] [] [] rfl (tupL rfl ⟨(argA (c := [.int .i64 (0 : Int), .int .i64 (0 : Int), .int .i64 (0 : Int), .int .i64 (0 : Int), .int .i64 (0 : Int), .nils]) (by (conv => lhs; whnf); all_goals rfl) rfl ⟨(.ni _ rfl), (.ni _ rfl), (.ni _ rfl), (.ni _ rfl), (.ni _ rfl), (.nils _), trivial⟩), (argE (by (conv => lhs; whnf); all_goals rfl) rfl), trivial⟩) trivial
              · replace hL1 := cond_f hb_142 hL1
                conv => whnf
                refine ⟨_, rfl, ?_⟩
                conv => whnf
                exact ⟨(q_2, (w64 (i_1 + (1 : Int)))), [0, 1], [], [], hL1, Nat.lt_succ_self _, wk_mk [0, 1] [] [] rfl ⟨argP (id := 0) (by (conv => lhs; whnf); all_goals rfl) rfl, argP (id := 1) (by (conv => lhs; whnf); all_goals rfl) rfl, argE (by (conv => lhs; whnf); all_goals rfl) rfl, trivial⟩ ⟨boxL rfl rfl rfl ⟨(.ni _ rfl), (.ni _ rfl), (.ni _ rfl), (.ni _ rfl), trivial⟩, boxL rfl rfl rfl ⟨(.ni _ rfl), (.ni _ rfl), (.ni _ rfl), (.ni _ rfl), (.ni _ rfl), (.ni _ rfl), trivial⟩, trivial⟩⟩
            · replace hL1 := cond_f hi_141 hL1
              refine (Bool.eq_false_or_eq_true (i_1 == (2 : Int))).elim (fun hi_143 => ?_) (fun hi_143 => ?_)
              · replace hL1 := cond_t hi_143 hL1
                refine ⟨2, eq_of_beq hi_143, by decide, ?_⟩
                conv => whnf
                refine ⟨fun hb_144 => ?_, fun hb_144 => ?_⟩
                · replace hL1 := cond_t hb_144 hL1
                  conv => whnf
                  obtain rfl := Option.some.inj hL1
                  replace hF := fin_ret hF
                  obtain rfl := Option.some.inj hF
                  exact ret_gz [] [] [] rfl (tupL rfl ⟨(argA (c := [.int .i64 (0 : Int), .int .i64 (0 : Int), .int .i64 (0 : Int), .int .i64 (0 : Int), .int .i64 (0 : Int), .nils]) (by (conv => lhs; whnf); all_goals rfl) rfl ⟨(.ni _ rfl), (.ni _ rfl), (.ni _ rfl), (.ni _ rfl), (.ni _ rfl), (.nils _), trivial⟩), (argE (by (conv => lhs; whnf); all_goals rfl) rfl), trivial⟩) trivial
                · replace hL1 := cond_f hb_144 hL1
                  conv => whnf
                  refine ⟨_, rfl, ?_⟩
                  conv => whnf
                  exact ⟨(q_2, (w64 (i_1 + (1 : Int)))), [0, 1], [], [], hL1, Nat.lt_succ_self _, wk_mk [0, 1] [] [] rfl ⟨argP (id := 0) (by (conv => lhs; whnf); all_goals rfl) rfl, argP (id := 1) (by (conv => lhs; whnf); all_goals rfl) rfl, argE (by (conv => lhs; whnf); all_goals rfl) rfl, trivial⟩ ⟨boxL rfl rfl rfl ⟨(.ni _ rfl), (.ni _ rfl), (.ni _ rfl), (.ni _ rfl), trivial⟩, boxL rfl rfl rfl ⟨(.ni _ rfl), (.ni _ rfl), (.ni _ rfl), (.ni _ rfl), (.ni _ rfl), (.ni _ rfl), trivial⟩, trivial⟩⟩
              · replace hL1 := cond_f hi_143 hL1
                refine (Bool.eq_false_or_eq_true (i_1 == (3 : Int))).elim (fun hi_145 => ?_) (fun hi_145 => ?_)
                · replace hL1 := cond_t hi_145 hL1
                  refine ⟨3, eq_of_beq hi_145, by decide, ?_⟩
                  conv => whnf
                  refine ⟨fun hb_146 => ?_, fun hb_146 => ?_⟩
                  · replace hL1 := cond_t hb_146 hL1
                    conv => whnf
                    obtain rfl := Option.some.inj hL1
                    replace hF := fin_ret hF
                    obtain rfl := Option.some.inj hF
                    exact ret_gz [] [] [] rfl (tupL rfl ⟨(argA (c := [.int .i64 (0 : Int), .int .i64 (0 : Int), .int .i64 (0 : Int), .int .i64 (0 : Int), .int .i64 (0 : Int), .nils]) (by (conv => lhs; whnf); all_goals rfl) rfl ⟨(.ni _ rfl), (.ni _ rfl), (.ni _ rfl), (.ni _ rfl), (.ni _ rfl), (.nils _), trivial⟩), (argE (by (conv => lhs; whnf); all_goals rfl) rfl), trivial⟩) trivial
                  · replace hL1 := cond_f hb_146 hL1
                    conv => whnf
                    refine ⟨_, rfl, ?_⟩
                    conv => whnf
                    exact ⟨(q_2, (w64 (i_1 + (1 : Int)))), [0, 1], [], [], hL1, Nat.lt_succ_self _, wk_mk [0, 1] [] [] rfl ⟨argP (id := 0) (by (conv => lhs; whnf); all_goals rfl) rfl, argP (id := 1) (by (conv => lhs; whnf); all_goals rfl) rfl, argE (by (conv => lhs; whnf); all_goals rfl) rfl, trivial⟩ ⟨boxL rfl rfl rfl ⟨(.ni _ rfl), (.ni _ rfl), (.ni _ rfl), (.ni _ rfl), trivial⟩, boxL rfl rfl rfl ⟨(.ni _ rfl), (.ni _ rfl), (.ni _ rfl), (.ni _ rfl), (.ni _ rfl), (.ni _ rfl), trivial⟩, trivial⟩⟩
                · replace hL1 := cond_f hi_145 hL1
                  cases hL1
        · replace hL1 := cond_t hb_138 hL1
          conv => whnf
          obtain rfl := Option.some.inj hL1
          replace hF := fin_ret hF
          obtain rfl := Option.some.inj hF
          exact ret_gz [] [] [] rfl (tupL rfl ⟨(argA (c := [.int .i64 (0 : Int), .int .i64 (0 : Int), .int .i64 (0 : Int), .int .i64 (0 : Int), .int .i64 (0 : Int), .nils]) (by (conv => lhs; whnf); all_goals rfl) rfl ⟨(.ni _ rfl), (.ni _ rfl), (.ni _ rfl), (.ni _ rfl), (.ni _ rfl), (.nils _), trivial⟩), (argE (by (conv => lhs; whnf); all_goals rfl) rfl), trivial⟩) trivial
      · replace hL1 := cond_f hi_137 hL1
        refine (Bool.eq_false_or_eq_true (i_1 == (2 : Int))).elim (fun hi_147 => ?_) (fun hi_147 => ?_)
        · replace hL1 := cond_t hi_147 hL1
          refine ⟨2, eq_of_beq hi_147, by decide, ?_⟩
          conv => whnf
          refine ⟨fun hb_148 => ?_, fun hb_148 => ?_⟩
          · replace hL1 := cond_f hb_148 hL1
            conv => whnf
            refine (Bool.eq_false_or_eq_true (i_1 == (0 : Int))).elim (fun hi_149 => ?_) (fun hi_149 => ?_)
            · replace hL1 := cond_t hi_149 hL1
              refine ⟨0, eq_of_beq hi_149, by decide, ?_⟩
              conv => whnf
              refine ⟨fun hb_150 => ?_, fun hb_150 => ?_⟩
              · replace hL1 := cond_t hb_150 hL1
                conv => whnf
                obtain rfl := Option.some.inj hL1
                replace hF := fin_ret hF
                obtain rfl := Option.some.inj hF
                exact ret_gz [] [] [] rfl (tupL rfl ⟨(argA (c := [.int .i64 (0 : Int), .int .i64 (0 : Int), .int .i64 (0 : Int), .int .i64 (0 : Int), .int .i64 (0 : Int), .nils]) (by (conv => lhs; whnf); all_goals rfl) rfl ⟨(.ni _ rfl), (.ni _ rfl), (.ni _ rfl), (.ni _ rfl), (.ni _ rfl), (.nils _), trivial⟩), (argE (by (conv => lhs; whnf); all_goals rfl) rfl), trivial⟩) trivial
              · replace hL1 := cond_f hb_150 hL1
                conv => whnf
                refine ⟨_, rfl, ?_⟩
                conv => whnf
                exact ⟨(q_2, (w64 (i_1 + (1 : Int)))), [0, 1], [], [], hL1, Nat.lt_succ_self _, wk_mk [0, 1] [] [] rfl ⟨argP (id := 0) (by (conv => lhs; whnf); all_goals rfl) rfl, argP (id := 1) (by (conv => lhs; whnf); all_goals rfl) rfl, argE (by (conv => lhs; whnf); all_goals rfl) rfl, trivial⟩ ⟨boxL rfl rfl rfl ⟨(.ni _ rfl), (.ni _ rfl), (.ni _ rfl), (.ni _ rfl), trivial⟩, boxL rfl rfl rfl ⟨(.ni _ rfl), (.ni _ rfl), (.ni _ rfl), (.ni _ rfl), (.ni _ rfl), (.ni _ rfl), trivial⟩, trivial⟩⟩
            · replace hL1 := cond_f hi_149 hL1
              refine (Bool.eq_false_or_eq_true (i_1 == (1 : Int))).elim (fun hi_151 => ?_) (fun hi_151 => ?_)
              · replace hL1 := cond_t hi_151 hL1
                refine ⟨1, eq_of_beq hi_151, by decide, ?_⟩
                conv => whnf
                refine ⟨fun hb_152 => ?_, fun hb_152 => ?_⟩
                · replace hL1 := cond_t hb_152 hL1
                  conv => whnf
                  obtain rfl := Option.some.inj hL1
                  replace hF := fin_ret hF
                  obtain rfl := Option.some.inj hF
                  exact ret_gz [] [] [] rfl (tupL rfl ⟨(argA (c := [.int .i64 (0 : Int), .int .i64 (0 : Int), .int .i64 (0 : Int), .int .i64 (0 : Int), .int .i64 (0 : Int), .nils]) (by (conv => lhs; whnf); all_goals rfl) rfl ⟨(.ni _ rfl), (.ni _ rfl), (.ni _ rfl), (.ni _ rfl), (.ni _ rfl), (.nils _), trivial⟩), (argE (by (conv => lhs; whnf); all_goals rfl) rfl), trivial⟩) trivial
                · replace hL1 := cond_f hb_152 hL1
                  conv => whnf
                  refine ⟨_, rfl, ?_⟩
                  conv => whnf
                  exact ⟨(q_2, (w64 (i_1 + (1 : Int)))), [0, 1], [], [], hL1, Nat.lt_succ_self _, wk_mk [0, 1] [] [] rfl ⟨argP (id := 0) (by (conv => lhs; whnf); all_goals rfl) rfl, argP (id := 1) (by (conv => lhs; whnf); all_goals rfl) rfl, argE (by (conv => lhs; whnf); all_goals rfl) rfl, trivial⟩ ⟨boxL rfl rfl rfl ⟨(.ni _ rfl), (.ni _ rfl), (.ni _ rfl), (.ni _ rfl), trivial⟩, boxL rfl rfl rfl ⟨(.ni _ rfl), (.ni _ rfl), (.ni _ rfl), (.ni _ rfl), (.ni _ rfl), (.ni _ rfl), trivial⟩, trivial⟩⟩
              · replace hL1 := cond_f hi_151 hL1
                refine (Bool.eq_false_or_eq_true (i_1 == (2 : Int))).elim (fun hi_153 => ?_) (fun hi_153 => ?_)
                · replace hL1 := cond_t hi_153 hL1
                  refine ⟨2, eq_of_beq hi_153, by decide, ?_⟩
                  conv => whnf
                  refine ⟨fun hb_154 => ?_, fun hb_154 => ?_⟩
                  · replace hL1 := cond_t hb_154 hL1
                    conv => whnf
                    obtain rfl := Option.some.inj hL1
                    replace hF := fin_ret hF
                    obtain rfl := Option.some.inj hF
                    exact ret_gz [] [] [] rfl (tupL rfl ⟨(argA (c := [.int .i64 (0 : Int), .int .i64 (0 : Int), .int .i64 (0 : Int), .int .i64 (0 : Int), .int .i64 (0 : Int), .nils]) (by (conv => lhs; whnf); all_goals rfl) rfl ⟨(.ni _ rfl), (.ni _ rfl), (.ni _ rfl), (.ni _ rfl), (.ni _ rfl), (.nils _), trivial⟩), (argE (by (conv => lhs; whnf); all_goals rfl) rfl), trivial⟩) trivial
                  · replace hL1 := cond_f hb_154 hL1
                    conv => whnf
                    refine ⟨_, rfl, ?_⟩
                    conv => whnf
                    exact ⟨(q_2, (w64 (i_1 + (1 : Int)))), [0, 1], [], [], hL1, Nat.lt_succ_self _, wk_mk [0, 1] [] [] rfl ⟨argP (id := 0) (by (conv => lhs; whnf); all_goals rfl) rfl, argP (id := 1) (by (conv => lhs; whnf); all_goals rfl) rfl, argE (by (conv => lhs; whnf); all_goals rfl) rfl, trivial⟩ ⟨boxL rfl rfl rfl ⟨(.ni _ rfl), (.ni _ rfl), (.ni _ rfl), (.ni _ rfl), trivial⟩, boxL rfl rfl rfl ⟨(.ni _ rfl), (.ni _ rfl), (.ni _ rfl), (.ni _ rfl), (.ni _ rfl), (.ni _ rfl), trivial⟩, trivial⟩⟩
                · replace hL1 := cond_f hi_153 hL1
                  refine (Bool.eq_false_or_eq_true (i_1 == (3 : Int))).elim (fun hi_155 => ?_) (fun hi_155 => ?_)
                  · replace hL1 := cond_t hi_155 hL1
                    refine ⟨3, eq_of_beq hi_155, by decide, ?_⟩
                    conv => whnf
                    refine ⟨fun hb_156 => ?_, fun hb_156 => ?_⟩
                    · replace hL1 := cond_t hb_156 hL1
                      conv => whnf
                      obtain rfl := Option.some.inj hL1
                      replace hF := fin_ret hF
                      obtain rfl := Option.some.inj hF
                      exact ret_gz [] [] [] rfl (tupL rfl ⟨(argA (c := [.int .i64 (0 : Int), .int .i64 (0 : Int), .int .i64 (0 : Int), .int .i64 (0 : Int), .int .i64 (0 : Int), .nils]) (by (conv => lhs; whnf); all_goals rfl) rfl ⟨(.ni _ rfl), (.ni _ rfl), (.ni _ rfl), (.ni _ rfl), (.ni _ rfl), (.nils _), trivial⟩), (argE (by (conv => lhs; whnf); all_goals rfl) rfl), trivial⟩) trivial
                    · replace hL1 := cond_f hb_156 hL1
                      conv => whnf
                      refine ⟨_, rfl, ?_⟩
                      conv => whnf
                      exact ⟨(q_2, (w64 (i_1 + (1 : Int)))), [0, 1], [], [], hL1, Nat.lt_succ_self _, wk_mk [0, 1] [] [] rfl ⟨argP (id := 0) (by (conv => lhs; whnf); all_goals rfl) rfl, argP (id := 1) (by (conv => lhs; whnf); all_goals rfl) rfl, argE (by (conv => lhs; whnf); all_goals rfl) rfl, trivial⟩ ⟨boxL rfl rfl rfl ⟨(.ni _ rfl), (.ni _ rfl), (.ni _ rfl), (.ni _ rfl), trivial⟩, boxL rfl rfl rfl ⟨(.ni _ rfl), (.ni _ rfl), (.ni _ rfl), (.ni _ rfl), (.ni _ rfl), (.ni _ rfl), trivial⟩, trivial⟩⟩
                  · replace hL1 := cond_f hi_155 hL1
                    cases hL1
          · replace hL1 := cond_t hb_148 hL1
            conv => whnf
            obtain rfl := Option.some.inj hL1
            replace hF := fin_ret hF
            obtain rfl := Option.some.inj hF
            exact ret_gz [] [] [] rfl (tupL rfl ⟨(argA (c := [.int .i64 (0 : Int), .int .i64 (0 : Int), .int .i64 (0 : Int), .int .i64 (0 : Int), .int .i64 (0 : Int), .nils]) (by (conv => lhs; whnf); all_goals rfl) rfl ⟨(.ni _ rfl), (.ni _ rfl), (.ni _ rfl), (.ni _ rfl), (.ni _ rfl), (.nils _), trivial⟩), (argE (by (conv => lhs; whnf); all_goals rfl) rfl), trivial⟩) trivial
        · replace hL1 := cond_f hi_147 hL1
          refine (Bool.eq_false_or_eq_true (i_1 == (3 : Int))).elim (fun hi_157 => ?_) (fun hi_157 => ?_)
          · replace hL1 := cond_t hi_157 hL1
            refine ⟨3, eq_of_beq hi_157, by decide, ?_⟩
            conv => whnf
            refine ⟨fun hb_158 => ?_, fun hb_158 => ?_⟩
            · replace hL1 := cond_f hb_158 hL1
              conv => whnf
              refine (Bool.eq_false_or_eq_true (i_1 == (0 : Int))).elim (fun hi_159 => ?_) (fun hi_159 => ?_)
              · replace hL1 := cond_t hi_159 hL1
                refine ⟨0, eq_of_beq hi_159, by decide, ?_⟩
                conv => whnf
                refine ⟨fun hb_160 => ?_, fun hb_160 => ?_⟩
                · replace hL1 := cond_t hb_160 hL1
                  conv => whnf
                  obtain rfl := Option.some.inj hL1
                  replace hF := fin_ret hF
                  obtain rfl := Option.some.inj hF
                  exact ret_gz [] [] [] rfl (tupL rfl ⟨(argA (c := [.int .i64 (0 : Int), .int .i64 (0 : Int), .int .i64 (0 : Int), .int .i64 (0 : Int), .int .i64 (0 : Int), .nils]) (by (conv => lhs; whnf); all_goals rfl) rfl ⟨(.ni _ rfl), (.ni _ rfl), (.ni _ rfl), (.ni _ rfl), (.ni _ rfl), (.nils _), trivial⟩), (argE (by (conv => lhs; whnf); all_goals rfl) rfl), trivial⟩) trivial
                · replace hL1 := cond_f hb_160 hL1
                  conv => whnf
                  refine ⟨_, rfl, ?_⟩
                  conv => whnf
                  exact ⟨(q_2, (w64 (i_1 + (1 : Int)))), [0, 1], [], [], hL1, Nat.lt_succ_self _, wk_mk [0, 1] [] [] rfl ⟨argP (id := 0) (by (conv => lhs; whnf); all_goals rfl) rfl, argP (id := 1) (by (conv => lhs; whnf); all_goals rfl) rfl, argE (by (conv => lhs; whnf); all_goals rfl) rfl, trivial⟩ ⟨boxL rfl rfl rfl ⟨(.ni _ rfl), (.ni _ rfl), (.ni _ rfl), (.ni _ rfl), trivial⟩, boxL rfl rfl rfl ⟨(.ni _ rfl), (.ni _ rfl), (.ni _ rfl), (.ni _ rfl), (.ni _ rfl), (.ni _ rfl), trivial⟩, trivial⟩⟩
              · replace hL1 := cond_f hi_159 hL1
                refine (Bool.eq_false_or_eq_true (i_1 == (1 : Int))).elim (fun hi_161 => ?_) (fun hi_161 => ?_)
                · replace hL1 := cond_t hi_161 hL1
                  refine ⟨1, eq_of_beq hi_161, by decide, ?_⟩
                  conv => whnf
                  refine ⟨fun hb_162 => ?_, fun hb_162 => ?_⟩
                  · replace hL1 := cond_t hb_162 hL1
                    conv => whnf
                    obtain rfl := Option.some.inj hL1
                    replace hF := fin_ret hF
                    obtain rfl := Option.some.inj hF
                    exact ret_gz [] [] [] rfl (tupL rfl ⟨(argA (c := [.int .i64 (0 : Int), .int .i64 (0 : Int), .int .i64 (0 : Int), .int .i64 (0 : Int), .int .i64 (0 : Int), .nils]) (by (conv => lhs; whnf); all_goals rfl) rfl ⟨(.ni _ rfl), (.ni _ rfl), (.ni _ rfl), (.ni _ rfl), (.ni _ rfl), (.nils _), trivial⟩), (argE (by (conv => lhs; whnf); all_goals rfl) rfl), trivial⟩) trivial
                  · replace hL1 := cond_f hb_162 hL1
                    conv => whnf
                    refine ⟨_, rfl, ?_⟩
                    conv => whnf
                    exact ⟨(q_2, (w64 (i_1 + (1 : Int)))), [0, 1], [], [], hL1, Nat.lt_succ_self _, wk_mk [0, 1] [] [] rfl ⟨argP (id := 0) (by (conv => lhs; whnf); all_goals rfl) rfl, argP (id := 1) (by (conv => lhs; whnf); all_goals rfl) rfl, argE (by (conv => lhs; whnf); all_goals rfl) rfl, trivial⟩ ⟨boxL rfl rfl rfl ⟨(.ni _ rfl), (.ni _ rfl), (.ni _ rfl), (.ni _ rfl), trivial⟩, boxL rfl rfl rfl ⟨(.ni _ rfl), (.ni _ rfl), (.ni _ rfl), (.ni _ rfl), (.ni _ rfl), (.ni _ rfl), trivial⟩, trivial⟩⟩
                · replace hL1 := cond_f hi_161 hL1
                  refine (Bool.eq_false_or_eq_true (i_1 == (2 : Int))).elim (fun hi_163 => ?_) (fun hi_163 => ?_)
                  · replace hL1 := cond_t hi_163 hL1
                    refine ⟨2, eq_of_beq hi_163, by decide, ?_⟩
                    conv => whnf
                    refine ⟨fun hb_164 => ?_, fun hb_164 => ?_⟩
                    · replace hL1 := cond_t hb_164 hL1
                      conv => whnf
                      obtain rfl := Option.some.inj hL1
                      replace hF := fin_ret hF
                      obtain rfl := Option.some.inj hF
                      exact ret_gz [] [] [] rfl (tupL rfl ⟨(argA (c := [.int .i64 (0 : Int), .int .i64 (0 : Int), .int .i64 (0 : Int), .int .i64 (0 : Int), .int .i64 (0 : Int), .nils]) (by (conv => lhs; whnf); all_goals rfl) rfl ⟨(.ni _ rfl), (.ni _ rfl), (.ni _ rfl), (.ni _ rfl), (.ni _ rfl), (.nils _), trivial⟩), (argE (by (conv => lhs; whnf); all_goals rfl) rfl), trivial⟩) trivial
                    · replace hL1 := cond_f hb_164 hL1
                      conv => whnf
                      refine ⟨_, rfl, ?_⟩
                      conv => whnf
                      exact ⟨(q_2, (w64 (i_1 + (1 : Int)))), [0, 1], [], [], hL1, Nat.lt_succ_self _, wk_mk [0, 1] [] [] rfl ⟨argP (id := 0) (by (conv => lhs; whnf); all_goals rfl) rfl, argP (id := 1) (by (conv => lhs; whnf); all_goals rfl) rfl, argE (by (conv => lhs; whnf); all_goals rfl) rfl, trivial⟩ ⟨boxL rfl rfl rfl ⟨(.ni _ rfl), (.ni _ rfl), (.ni _ rfl), (.ni _ rfl), trivial⟩, boxL rfl rfl rfl ⟨(.ni _ rfl), (.ni _ rfl), (.ni _ rfl), (.ni _ rfl), (.ni _ rfl), (.ni _ rfl), trivial⟩, trivial⟩⟩
                  · replace hL1 := cond_f hi_163 hL1
                    refine (Bool.eq_false_or_eq_true (i_1 == (3 : Int))).elim (fun hi_165 => ?_) (fun hi_165 => ?_)
                    · replace hL1 := cond_t hi_165 hL1
                      refine ⟨3, eq_of_beq hi_165, by decide, ?_⟩
                      conv => whnf
                      refine ⟨fun hb_166 => ?_, fun hb_166 => ?_⟩
                      · replace hL1 := cond_t hb_166 hL1
                        conv => whnf
                        obtain rfl := Option.some.inj hL1
                        replace hF := fin_ret hF
                        obtain rfl := Option.some.inj hF
                        exact ret_gz [] [] [] rfl (tupL rfl ⟨(argA (c := [.int .i64 (0 : Int), .int .i64 (0 : Int), .int .i64 (0 : Int), .int .i64 (0 : Int), .int .i64 (0 : Int), .nils]) (by (conv => lhs; whnf); all_goals rfl) rfl ⟨(.ni _ rfl), (.ni _ rfl), (.ni _ rfl), (.ni _ rfl), (.ni _ rfl), (.nils _), trivial⟩), (argE (by (conv => lhs; whnf); all_goals rfl) rfl), trivial⟩) trivial
                      · replace hL1 := cond_f hb_166 hL1
                        conv => whnf
                        refine ⟨_, rfl, ?_⟩
                        conv => whnf
                        exact ⟨(q_2, (w64 (i_1 + (1 : Int)))), [0, 1], [], [], hL1, Nat.lt_succ_self _, wk_mk [0, 1] [] [] rfl ⟨argP (id := 0) (by (conv => lhs; whnf); all_goals rfl) rfl, argP (id := 1) (by (conv => lhs; whnf); all_goals rfl) rfl, argE (by (conv => lhs; whnf); all_goals rfl) rfl, trivial⟩ ⟨boxL rfl rfl rfl ⟨(.ni _ rfl), (.ni _ rfl), (.ni _ rfl), (.ni _ rfl), trivial⟩, boxL rfl rfl rfl ⟨(.ni _ rfl), (.ni _ rfl), (.ni _ rfl), (.ni _ rfl), (.ni _ rfl), (.ni _ rfl), trivial⟩, trivial⟩⟩
                    · replace hL1 := cond_f hi_165 hL1
                      cases hL1
            · replace hL1 := cond_t hb_158 hL1
              conv => whnf
              obtain rfl := Option.some.inj hL1
              replace hF := fin_ret hF
              obtain rfl := Option.some.inj hF
              exact ret_gz [] [] [] rfl (tupL rfl ⟨(argA (c := [.int .i64 (0 : Int), .int .i64 (0 : Int), .int .i64 (0 : Int), .int .i64 (0 : Int), .int .i64 (0 : Int), .nils]) (by (conv => lhs; whnf); all_goals rfl) rfl ⟨(.ni _ rfl), (.ni _ rfl), (.ni _ rfl), (.ni _ rfl), (.ni _ rfl), (.nils _), trivial⟩), (argE (by (conv => lhs; whnf); all_goals rfl) rfl), trivial⟩) trivial
          · replace hL1 := cond_f hi_157 hL1
            cases hL1
  · replace hL1 := cond_f hb_126 hL1
    conv => whnf
    obtain rfl := Option.some.inj hL1
    replace hF := fin_brk hF
    try dsimp only at hF
    obtain rfl := Option.some.inj hF
    exact ret_gz [] [] [] rfl (tupL rfl ⟨(argA (c := [.int .i64 x_0.e0, .int .i64 x_0.e1, .int .i64 x_0.e2, .int .i64 x_0.e3, .int .i64 (1 : Int), .nils]) (by (conv => lhs; whnf); all_goals rfl) rfl ⟨(.ni _ rfl), (.ni _ rfl), (.ni _ rfl), (.ni _ rfl), (.ni _ rfl), (.nils _), trivial⟩), (argE (by (conv => lhs; whnf); all_goals rfl) rfl), trivial⟩) trivial

set_option maxRecDepth 100000 in
set_option maxHeartbeats 40000000 in
theorem ref15_Same_ac (x_0 : Screening) (x_1 : Screening) (r : Bool) (hF : ref15_Same x_0 x_1 = some r) : AC Try.prog 22 [.agg (encScreening x_0), .agg (encScreening x_1)] [] (.bool r) [] := by
  refine ac_of tab_ok follows_ok Try.func22 rfl Try.ntmps22 rfl ?_
  unfold ref15_Same at hF
  conv => whnf
  refine ⟨fun hb_10 => ?_, fun hb_10 => ?_⟩
  · replace hF := cond_f hb_10 hF
    conv => whnf
    refine ⟨fun hb_11 => ?_, fun hb_11 => ?_⟩
    · replace hF := cond_f hb_11 hF
      conv => whnf
      refine len_q (enc := encCheck) (l := x_0.L) rfl ?_
      conv => whnf
      refine len_q (enc := encCheck) (l := x_1.L) rfl ?_
      conv => whnf
      refine ⟨fun hb_12 => ?_, fun hb_12 => ?_⟩
      · replace hF := cond_t hb_12 hF
        conv => whnf
        obtain rfl := Option.some.inj hF
        exact ret_gz [] [] [] rfl (argFl (by (conv => lhs; whnf); all_goals rfl)) trivial
      · replace hF := cond_f hb_12 hF
        conv => whnf
        obtain ⟨c_1, hc_1, hF⟩ := fin_some hF
        refine sw_bv 0 (v := .agg [.int .i64 x_0.Limits.e0, .int .i64 x_0.Limits.e1, .int .i64 x_0.Limits.e2, .int .i64 x_0.Limits.e3, .int .i64 x_0.Next, .lst 5 (x_0.L.map encCheck)]) (by (conv => lhs; whnf); all_goals rfl) (fun hb => ?_)
        have hbd_k_2 : x_0.L.length ≤ 9223372036854775807 := bnd_len (enc := encCheck) ((bnd_at hb.cell 5 rfl))
        refine sw_loop tab_ok follows_ok (fun y : Nat => y ≤ x_0.L.length ∧ ref15_Same_L1 x_1 (x_0.L.drop y) y = some c_1) (fun y => ⟨eL [(2, .ptr 0 0), (3, .ptr 1 0), (5, .int .i64 (y : Int))], hL [(0, .box [.int .i64 x_0.Limits.e0, .int .i64 x_0.Limits.e1, .int .i64 x_0.Limits.e2, .int .i64 x_0.Limits.e3, .int .i64 x_0.Next, .lst 5 (x_0.L.map encCheck)]), (1, .box [.int .i64 x_1.Limits.e0, .int .i64 x_1.Limits.e1, .int .i64 x_1.Limits.e2, .int .i64 x_1.Limits.e3, .int .i64 x_1.Next, .lst 5 (x_1.L.map encCheck)])], 2⟩) (fun y => x_0.L.length - y) 0 ⟨Nat.zero_le _, hc_1⟩ (wk_mk [0, 1] [] [] rfl ⟨argP (id := 0) (by (conv => lhs; whnf); all_goals rfl) rfl, argP (id := 1) (by (conv => lhs; whnf); all_goals rfl) rfl, argE (by (conv => lhs; whnf); all_goals rfl) rfl, trivial⟩ ⟨boxL rfl rfl rfl ⟨(.ni _ rfl), (.ni _ rfl), (.ni _ rfl), (.ni _ rfl), (.ni _ rfl), (.ni _ rfl), trivial⟩, boxL rfl rfl rfl ⟨(.ni _ rfl), (.ni _ rfl), (.ni _ rfl), (.ni _ rfl), (.ni _ rfl), (.ni _ rfl), trivial⟩, trivial⟩) ?_
        rintro k_2 ⟨hk_k_2, hL1⟩
        try dsimp only at hk_k_2 hL1
        show awp _ _ _ _ _ _ ⟨eL [(2, .ptr 0 0), (3, .ptr 1 0), (5, .int .i64 (k_2 : Int))], hL [(0, .box [.int .i64 x_0.Limits.e0, .int .i64 x_0.Limits.e1, .int .i64 x_0.Limits.e2, .int .i64 x_0.Limits.e3, .int .i64 x_0.Next, .lst 5 (x_0.L.map encCheck)]), (1, .box [.int .i64 x_1.Limits.e0, .int .i64 x_1.Limits.e1, .int .i64 x_1.Limits.e2, .int .i64 x_1.Limits.e3, .int .i64 x_1.Next, .lst 5 (x_1.L.map encCheck)])], 2⟩
        conv => whnf
        refine len_q (enc := encCheck) (l := x_0.L) rfl ?_
        conv => whnf
        refine ⟨fun h => ?_, fun h => ?_⟩
        · have hlt_k_2 : k_2 < x_0.L.length := by have h := of_decide_eq_true h; omega
          obtain ⟨e_3, h_e_3⟩ : ∃ y, x_0.L[k_2]? = some y := ⟨_, List.getElem?_eq_getElem hlt_k_2⟩
          rw [drop_cons h_e_3, ref15_Same_L1.eq_2] at hL1
          conv => whnf
          refine ⟨k_2, _, rfl, ix_map h_e_3, ?_⟩
          conv => whnf
          obtain ⟨e_4, h_e_4, hL1⟩ := bind_some hL1
          refine ix_q (enc := encCheck) (l := x_1.L) h_e_4 rfl (fun m_e_4 hm_e_4 hx_e_4 => ?_)
          conv => whnf
          refine ⟨by kernel_rfl, ?_⟩
          conv => whnf
          refine ⟨fun hb_13 => ?_, fun hb_13 => ?_⟩
          · replace hL1 := cond_t hb_13 hL1
            conv => whnf
            obtain rfl := Option.some.inj hL1
            replace hF := fin_ret hF
            obtain rfl := Option.some.inj hF
            exact ret_gz [] [] [] rfl (argFl (by (conv => lhs; whnf); all_goals rfl)) trivial
          · replace hL1 := cond_f hb_13 hL1
            conv => whnf
            refine ⟨((k_2 + 1 : Nat) : Int), wrapE (by omega) (by omega) (by omega), ?_⟩
            conv => whnf
            exact ⟨k_2 + 1, [0, 1], [], [], ⟨hlt_k_2, hL1⟩, by show x_0.L.length - (k_2 + 1) < x_0.L.length - k_2; omega, wk_mk [0, 1] [] [] rfl ⟨argP (id := 0) (by (conv => lhs; whnf); all_goals rfl) rfl, argP (id := 1) (by (conv => lhs; whnf); all_goals rfl) rfl, argE (by (conv => lhs; whnf); all_goals rfl) rfl, trivial⟩ ⟨boxL rfl rfl rfl ⟨(.ni _ rfl), (.ni _ rfl), (.ni _ rfl), (.ni _ rfl), (.ni _ rfl), (.ni _ rfl), trivial⟩, boxL rfl rfl rfl ⟨(.ni _ rfl), (.ni _ rfl), (.ni _ rfl), (.ni _ rfl), (.ni _ rfl), (.ni _ rfl), trivial⟩, trivial⟩⟩
        · rw [drop_nil (show x_0.L.length ≤ k_2 by have h := of_decide_eq_false h; omega), ref15_Same_L1.eq_1] at hL1
          conv => whnf
          obtain rfl := Option.some.inj hL1
          replace hF := fin_brk hF
          try dsimp only at hF
          obtain rfl := Option.some.inj hF
          exact ret_gz [] [] [] rfl (argT (by (conv => lhs; whnf); all_goals rfl)) trivial
    · replace hF := cond_t hb_11 hF
      conv => whnf
      obtain rfl := Option.some.inj hF
      exact ret_gz [] [] [] rfl (argFl (by (conv => lhs; whnf); all_goals rfl)) trivial
  · replace hF := cond_t hb_10 hF
    conv => whnf
    obtain rfl := Option.some.inj hF
    exact ret_gz [] [] [] rfl (argFl (by (conv => lhs; whnf); all_goals rfl)) trivial

set_option maxRecDepth 100000 in
set_option maxHeartbeats 40000000 in
theorem keep_Src_Raw_ac (x_0 : Src) (r : Int × Src) (hF : keep_Src_Raw x_0 = some r) : AC Try.prog 32 [.ptr 0 0] [.box (encSrc x_0)] (.int .i64 r.1) [.box (encSrc r.2)] := by
  refine ac_of tab_ok follows_ok Try.func32 rfl Try.ntmps32 rfl ?_
  unfold keep_Src_Raw at hF
  conv => whnf
  refine len_q (enc := iA) (l := x_0.L) rfl ?_
  conv => whnf
  refine ⟨by kernel_rfl, ?_⟩
  conv => whnf
  refine ⟨fun hb_2 => ?_, fun hb_2 => ?_⟩
  · replace hF := cond_t hb_2 hF
    conv => whnf
    obtain rfl := Option.some.inj hF
    exact ret_gz [0] [] [] rfl (argE (by (conv => lhs; whnf); all_goals rfl) rfl) ⟨boxL rfl rfl rfl ⟨(.ni _ rfl), (.ni _ rfl), trivial⟩, trivial⟩
  · replace hF := cond_f hb_2 hF
    conv => whnf
    refine ⟨_, rfl, ?_⟩
    conv => whnf
    refine ⟨_, rfl, ?_⟩
    conv => whnf
    obtain ⟨e_1, h_e_1, hF⟩ := bind_some hF
    refine ix_q (enc := iA) (l := x_0.L) h_e_1 rfl (fun m_e_1 hm_e_1 hx_e_1 => ?_)
    conv => whnf
    refine ⟨by kernel_rfl, ?_⟩
    conv => whnf
    obtain rfl := Option.some.inj hF
    exact ret_gz [0] [] [] rfl (argE (by (conv => lhs; whnf); all_goals rfl) rfl) ⟨boxL rfl rfl rfl ⟨(.ni _ rfl), (.ni _ rfl), trivial⟩, trivial⟩

set_option maxRecDepth 100000 in
set_option maxHeartbeats 40000000 in
theorem keep_Mod_ac (x_0 : Int) (x_1 : Int) (r : Int) (hF : keep_Mod x_0 x_1 = some r) : AC Try.prog 19 [.int .i64 x_0, .int .i64 x_1] [] (.int .i64 r) [] := by
  refine ac_of tab_ok follows_ok Try.func19 rfl Try.ntmps19 rfl ?_
  unfold keep_Mod at hF
  conv => whnf
  refine ⟨fun hb_3 => ?_, fun hb_3 => ?_⟩
  · replace hF := cond_t hb_3 hF
    conv => whnf
    obtain rfl := Option.some.inj hF
    exact ret_gz [] [] [] rfl (argE (by (conv => lhs; whnf); all_goals rfl) rfl) trivial
  · replace hF := cond_f hb_3 hF
    conv => whnf
    obtain ⟨u_1, h_u_1, hF⟩ := bind_some hF
    refine ⟨nz_some h_u_1, _, rfl, ?_⟩
    conv => whnf
    refine ⟨fun hb_4 => ?_, fun hb_4 => ?_⟩
    · replace hF := cond_t hb_4 hF
      conv => whnf
      refine ⟨_, rfl, ?_⟩
      conv => whnf
      obtain rfl := Option.some.inj hF
      exact ret_gz [] [] [] rfl (argE (by (conv => lhs; whnf); all_goals rfl) rfl) trivial
    · replace hF := cond_f hb_4 hF
      conv => whnf
      obtain rfl := Option.some.inj hF
      exact ret_gz [] [] [] rfl (argE (by (conv => lhs; whnf); all_goals rfl) rfl) trivial

set_option maxRecDepth 100000 in
set_option maxHeartbeats 40000000 in
theorem keep_Src_N_ac (x_0 : Src) (x_1 : Int) (r : Int × Src) (hF : keep_Src_N x_0 x_1 = some r) : AC Try.prog 10 [.ptr 0 0, .int .i64 x_1] [.box (encSrc x_0)] (.int .i64 r.1) [.box (encSrc r.2)] := by
  refine ac_of tab_ok follows_ok Try.func10 rfl Try.ntmps10 rfl ?_
  unfold keep_Src_N at hF
  conv => whnf
  obtain ⟨r_1, h_r_1, hF⟩ := bind_some hF
  refine ⟨_, _, _, _, _, _, _, _, _, callX false [0] [] 0 Try.func32 (by decide) rfl (keep_Src_Raw_ac x_0 r_1 h_r_1) rfl ⟨(argP (id := 0) (by (conv => lhs; whnf); all_goals rfl) rfl), trivial⟩ rfl ⟨rfl, trivial⟩ rfl rfl rfl lend0 ⟨rfl, trivial⟩ rfl, ?_⟩
  conv => whnf
  obtain ⟨r_2, h_r_2, hF⟩ := bind_some hF
  refine ⟨_, _, _, _, _, _, _, _, _, callX false [] [] 0 Try.func19 (by decide) rfl (keep_Mod_ac r_1.1 x_1 r_2 h_r_2) rfl ⟨(argE (by (conv => lhs; whnf); all_goals rfl) rfl), (argE (by (conv => lhs; whnf); all_goals rfl) rfl), trivial⟩ rfl trivial rfl rfl rfl lend0 trivial rfl, ?_⟩
  conv => whnf
  obtain rfl := Option.some.inj hF
  exact ret_gz [0] [] [] rfl (argE (by (conv => lhs; whnf); all_goals rfl) rfl) ⟨boxL rfl rfl rfl ⟨(.ni _ rfl), (.ni _ rfl), trivial⟩, trivial⟩

set_option maxRecDepth 100000 in
set_option maxHeartbeats 40000000 in
theorem keep_Src_Pick_ac (x_0 : Src) (x_1 : (List Int)) (r : Int × Src) (hF : keep_Src_Pick x_0 x_1 = some r) : AC Try.prog 23 [.ptr 0 0, .lst 1 (x_1.map iA)] [.box (encSrc x_0)] (.int .i64 r.1) [.box (encSrc r.2)] := by
  refine ac_of tab_ok follows_ok Try.func23 rfl Try.ntmps23 rfl ?_
  unfold keep_Src_Pick at hF
  conv => whnf
  refine len_q (enc := iA) (l := x_1) rfl ?_
  conv => whnf
  obtain ⟨r_1, h_r_1, hF⟩ := bind_some hF
  refine ⟨_, _, _, _, _, _, _, _, _, callX false [0] [] 0 Try.func10 (by decide) rfl (keep_Src_N_ac x_0 (x_1.length : Int) r_1 h_r_1) rfl ⟨(argP (id := 0) (by (conv => lhs; whnf); all_goals rfl) rfl), (argE (by (conv => lhs; whnf); all_goals rfl) rfl), trivial⟩ rfl ⟨rfl, trivial⟩ rfl rfl rfl lend0 ⟨rfl, trivial⟩ rfl, ?_⟩
  conv => whnf
  obtain ⟨e_2, h_e_2, hF⟩ := bind_some hF
  refine ix_q (enc := iA) (l := x_1) h_e_2 rfl (fun m_e_2 hm_e_2 hx_e_2 => ?_)
  conv => whnf
  obtain rfl := Option.some.inj hF
  exact ret_gz [0] [] [] rfl (argE (by (conv => lhs; whnf); all_goals rfl) rfl) ⟨boxL rfl rfl rfl ⟨(.ni _ rfl), (.ni _ rfl), trivial⟩, trivial⟩

set_option maxRecDepth 100000 in
set_option maxHeartbeats 40000000 in
theorem keep_Src_Range_ac (x_0 : Src) (x_1 : Int) (x_2 : Int) (r : Int × Src) (hF : keep_Src_Range x_0 x_1 x_2 = some r) : AC Try.prog 12 [.ptr 0 0, .int .i64 x_1, .int .i64 x_2] [.box (encSrc x_0)] (.int .i64 r.1) [.box (encSrc r.2)] := by
  refine ac_of tab_ok follows_ok Try.func12 rfl Try.ntmps12 rfl ?_
  unfold keep_Src_Range at hF
  conv => whnf
  refine ⟨_, rfl, ?_⟩
  conv => whnf
  refine ⟨_, rfl, ?_⟩
  conv => whnf
  obtain ⟨r_1, h_r_1, hF⟩ := bind_some hF
  refine ⟨_, _, _, _, _, _, _, _, _, callX false [0] [] 0 Try.func10 (by decide) rfl (keep_Src_N_ac x_0 (w64 ((w64 (x_2 - x_1)) + (1 : Int))) r_1 h_r_1) rfl ⟨(argP (id := 0) (by (conv => lhs; whnf); all_goals rfl) rfl), (argE (by (conv => lhs; whnf); all_goals rfl) rfl), trivial⟩ rfl ⟨rfl, trivial⟩ rfl rfl rfl lend0 ⟨rfl, trivial⟩ rfl, ?_⟩
  conv => whnf
  refine ⟨_, rfl, ?_⟩
  conv => whnf
  obtain rfl := Option.some.inj hF
  exact ret_gz [0] [] [] rfl (argE (by (conv => lhs; whnf); all_goals rfl) rfl) ⟨boxL rfl rfl rfl ⟨(.ni _ rfl), (.ni _ rfl), trivial⟩, trivial⟩

set_option maxRecDepth 100000 in
set_option maxHeartbeats 40000000 in
theorem screen_timed_ac (x_0 : Int) (r : Bool) (hF : screen_timed x_0 = some r) : AC Try.prog 33 [.int .i64 x_0] [] (.bool r) [] := by
  refine ac_of tab_ok follows_ok Try.func33 rfl Try.ntmps33 rfl ?_
  unfold screen_timed at hF
  conv => whnf
  refine ⟨fun hb_2 => ?_, fun hb_2 => ?_⟩
  · replace hF := cond_t hb_2 hF
    conv => whnf
    obtain rfl := Option.some.inj hF
    exact ret_gz [] [] [] rfl (argE (by (conv => lhs; whnf); all_goals rfl) rfl) trivial
  · replace hF := cond_f hb_2 hF
    conv => whnf
    obtain rfl := Option.some.inj hF
    exact ret_gz [] [] [] rfl (argFl (by (conv => lhs; whnf); all_goals rfl)) trivial

set_option maxRecDepth 100000 in
set_option maxHeartbeats 40000000 in
theorem cmp_isNaN_int_ac (x_0 : Int) (r : Bool) (hF : cmp_isNaN_int x_0 = some r) : AC Try.prog 54 [.int .i64 x_0] [] (.bool r) [] := by
  refine ac_of tab_ok follows_ok Try.func54 rfl Try.ntmps54 rfl ?_
  unfold cmp_isNaN_int at hF
  conv => whnf
  obtain rfl := Option.some.inj hF
  exact ret_gz [] [] [] rfl (argE (by (conv => lhs; whnf); all_goals rfl) rfl) trivial

set_option maxRecDepth 100000 in
set_option maxHeartbeats 40000000 in
theorem cmp_Compare_int_ac (x_0 : Int) (x_1 : Int) (r : Int) (hF : cmp_Compare_int x_0 x_1 = some r) : AC Try.prog 44 [.int .i64 x_0, .int .i64 x_1] [] (.int .i64 r) [] := by
  refine ac_of tab_ok follows_ok Try.func44 rfl Try.ntmps44 rfl ?_
  unfold cmp_Compare_int at hF
  conv => whnf
  obtain ⟨r_1, h_r_1, hF⟩ := bind_some hF
  refine ⟨_, _, _, _, _, _, _, _, _, callX false [] [] 0 Try.func54 (by decide) rfl (cmp_isNaN_int_ac x_0 r_1 h_r_1) rfl ⟨(argE (by (conv => lhs; whnf); all_goals rfl) rfl), trivial⟩ rfl trivial rfl rfl rfl lend0 trivial rfl, ?_⟩
  conv => whnf
  obtain ⟨r_2, h_r_2, hF⟩ := bind_some hF
  refine ⟨_, _, _, _, _, _, _, _, _, callX false [] [] 0 Try.func54 (by decide) rfl (cmp_isNaN_int_ac x_1 r_2 h_r_2) rfl ⟨(argE (by (conv => lhs; whnf); all_goals rfl) rfl), trivial⟩ rfl trivial rfl rfl rfl lend0 trivial rfl, ?_⟩
  conv => whnf
  refine ⟨fun hb_6 => ?_, fun hb_6 => ?_⟩
  · replace hF := cond_t hb_6 hF
    conv => whnf
    refine ⟨fun hb_7 => ?_, fun hb_7 => ?_⟩
    · replace hF := cond_t hb_7 hF
      conv => whnf
      obtain rfl := Option.some.inj hF
      exact ret_gz [] [] [] rfl (argE (by (conv => lhs; whnf); all_goals rfl) rfl) trivial
    · replace hF := cond_f hb_7 hF
      conv => whnf
      obtain rfl := Option.some.inj hF
      exact ret_gz [] [] [] rfl (argE (by (conv => lhs; whnf); all_goals rfl) rfl) trivial
  · replace hF := cond_f hb_6 hF
    conv => whnf
    refine ⟨fun hb_8 => ?_, fun hb_8 => ?_⟩
    · replace hF := cond_t hb_8 hF
      conv => whnf
      obtain rfl := Option.some.inj hF
      exact ret_gz [] [] [] rfl (argE (by (conv => lhs; whnf); all_goals rfl) rfl) trivial
    · replace hF := cond_f hb_8 hF
      conv => whnf
      refine ⟨fun hb_9 => ?_, fun hb_9 => ?_⟩
      · replace hF := cond_t hb_9 hF
        conv => whnf
        obtain rfl := Option.some.inj hF
        exact ret_gz [] [] [] rfl (argE (by (conv => lhs; whnf); all_goals rfl) rfl) trivial
      · replace hF := cond_f hb_9 hF
        conv => whnf
        refine ⟨fun hb_10 => ?_, fun hb_10 => ?_⟩
        · replace hF := cond_t hb_10 hF
          conv => whnf
          obtain rfl := Option.some.inj hF
          exact ret_gz [] [] [] rfl (argE (by (conv => lhs; whnf); all_goals rfl) rfl) trivial
        · replace hF := cond_f hb_10 hF
          conv => whnf
          obtain rfl := Option.some.inj hF
          exact ret_gz [] [] [] rfl (argE (by (conv => lhs; whnf); all_goals rfl) rfl) trivial

set_option maxRecDepth 100000 in
set_option maxHeartbeats 40000000 in
theorem screen_at_f1_ac (x_0 : Check) (x_1 : Int) (r : Int) (hF : screen_at_f1 x_0 x_1 = some r) : AC Try.prog 48 [.agg (encCheck x_0), .int .i64 x_1] [] (.int .i64 r) [] := by
  refine ac_of tab_ok follows_ok Try.func48 rfl Try.ntmps48 rfl ?_
  unfold screen_at_f1 at hF
  conv => whnf
  obtain ⟨r_1, h_r_1, hF⟩ := bind_some hF
  refine ⟨_, _, _, _, _, _, _, _, _, callX false [] [] 0 Try.func44 (by decide) rfl (cmp_Compare_int_ac x_0.Bag x_1 r_1 h_r_1) rfl ⟨(argE (by (conv => lhs; whnf); all_goals rfl) rfl), (argE (by (conv => lhs; whnf); all_goals rfl) rfl), trivial⟩ rfl trivial rfl rfl rfl lend0 trivial rfl, ?_⟩
  conv => whnf
  obtain rfl := Option.some.inj hF
  exact ret_gz [] [] [] rfl (argE (by (conv => lhs; whnf); all_goals rfl) rfl) trivial

set_option maxRecDepth 100000 in
set_option maxHeartbeats 40000000 in
theorem slices_BinarySearchFunc_int_ac (x_0 : (List Check)) (x_1 : Int) (r : Int × Bool) (hF : slices_BinarySearchFunc_int x_0 x_1 = some r) : AC Try.prog 47 [.lst 5 (x_0.map encCheck), .int .i64 x_1, .fn 48 []] [] (.tup [.int .i64 r.1, .bool r.2]) [] := by
  refine ac_of tab_ok follows_ok Try.func47 rfl Try.ntmps47 rfl ?_
  unfold slices_BinarySearchFunc_int at hF
  conv => whnf
  refine len_q (enc := encCheck) (l := x_0) rfl ?_
  conv => whnf
  obtain ⟨c_1, hc_1, hF⟩ := fin_some hF
  refine sw_loop tab_ok follows_ok (fun y : Nat × Int × Int => slices_BinarySearchFunc_int_L1 x_0 x_1 y.1 y.2.1 y.2.2 = some c_1) (fun y => ⟨eL [(0, .lst 5 (x_0.map encCheck)), (1, .int .i64 x_1), (2, .fn 48 []), (8, .int .i64 (x_0.length : Int)), (9, .int .i64 y.2.1), (10, .int .i64 y.2.2)], hL [], 0⟩) (fun y => y.1) (9223372036854775807, (0 : Int), (x_0.length : Int)) hc_1 (wk_mk [] [] [] rfl ⟨argE (by (conv => lhs; whnf); all_goals rfl) rfl, argE (by (conv => lhs; whnf); all_goals rfl) rfl, argE (by (conv => lhs; whnf); all_goals rfl) rfl, argE (by (conv => lhs; whnf); all_goals rfl) rfl, argE (by (conv => lhs; whnf); all_goals rfl) rfl, argE (by (conv => lhs; whnf); all_goals rfl) rfl, trivial⟩ trivial) ?_
  rintro ⟨q_5, i_1, i_2⟩ hL1
  try dsimp only at hL1
  rcases q_5 with _ | q_5
  · rw [slices_BinarySearchFunc_int_L1.eq_1] at hL1
    cases hL1
  rw [slices_BinarySearchFunc_int_L1.eq_2] at hL1
  show awp _ _ _ _ _ _ ⟨eL [(0, .lst 5 (x_0.map encCheck)), (1, .int .i64 x_1), (2, .fn 48 []), (8, .int .i64 (x_0.length : Int)), (9, .int .i64 i_1), (10, .int .i64 i_2)], hL [], 0⟩
  conv => whnf
  refine ⟨fun hb_10 => ?_, fun hb_10 => ?_⟩
  · replace hL1 := cond_t hb_10 hL1
    conv => whnf
    refine ⟨_, rfl, ?_⟩
    conv => whnf
    refine ⟨_, rfl, ?_⟩
    conv => whnf
    refine ⟨_, shr_q (by decide), ?_⟩
    conv => whnf
    refine ⟨_, rfl, ?_⟩
    conv => whnf
    obtain ⟨e_3, h_e_3, hL1⟩ := bind_some hL1
    refine ix_q (enc := encCheck) (l := x_0) h_e_3 rfl (fun m_e_3 hm_e_3 hx_e_3 => ?_)
    conv => whnf
    obtain ⟨r_4, h_r_4, hL1⟩ := bind_some hL1
    refine ⟨_, _, _, _, _, _, _, _, _, callX false [] [] 0 Try.func48 (by decide) rfl (screen_at_f1_ac e_3 x_1 r_4 h_r_4) rfl ⟨(argE (by (conv => lhs; whnf); all_goals rfl) rfl), (argE (by (conv => lhs; whnf); all_goals rfl) rfl), trivial⟩ rfl trivial rfl rfl rfl lend0 trivial rfl, ?_⟩
    conv => whnf
    refine ⟨fun hb_11 => ?_, fun hb_11 => ?_⟩
    · replace hL1 := cond_t hb_11 hL1
      conv => whnf
      refine ⟨_, rfl, ?_⟩
      conv => whnf
      exact ⟨(q_5, (w64 ((IntKind.i64.wrap (shrF .u64 (IntKind.u64.wrap (w64 (i_1 + i_2))) (1 : Int))) + (1 : Int))), i_2), [], [], [], hL1, Nat.lt_succ_self _, wk_mk [] [] [] rfl ⟨argE (by (conv => lhs; whnf); all_goals rfl) rfl, argE (by (conv => lhs; whnf); all_goals rfl) rfl, argE (by (conv => lhs; whnf); all_goals rfl) rfl, argE (by (conv => lhs; whnf); all_goals rfl) rfl, argE (by (conv => lhs; whnf); all_goals rfl) rfl, argE (by (conv => lhs; whnf); all_goals rfl) rfl, trivial⟩ trivial⟩
    · replace hL1 := cond_f hb_11 hL1
      conv => whnf
      exact ⟨(q_5, i_1, (IntKind.i64.wrap (shrF .u64 (IntKind.u64.wrap (w64 (i_1 + i_2))) (1 : Int)))), [], [], [], hL1, Nat.lt_succ_self _, wk_mk [] [] [] rfl ⟨argE (by (conv => lhs; whnf); all_goals rfl) rfl, argE (by (conv => lhs; whnf); all_goals rfl) rfl, argE (by (conv => lhs; whnf); all_goals rfl) rfl, argE (by (conv => lhs; whnf); all_goals rfl) rfl, argE (by (conv => lhs; whnf); all_goals rfl) rfl, argE (by (conv => lhs; whnf); all_goals rfl) rfl, trivial⟩ trivial⟩
  · replace hL1 := cond_f hb_10 hL1
    conv => whnf
    obtain rfl := Option.some.inj hL1
    replace hF := fin_brk hF
    try dsimp only at hF
    refine ⟨fun hb_12 => ?_, fun hb_12 => ?_⟩
    · replace hF := cond_t hb_12 hF
      conv => whnf
      obtain ⟨e_7, h_e_7, hF⟩ := bind_some hF
      refine ix_q (enc := encCheck) (l := x_0) h_e_7 rfl (fun m_e_7 hm_e_7 hx_e_7 => ?_)
      conv => whnf
      obtain ⟨r_8, h_r_8, hF⟩ := bind_some hF
      refine ⟨_, _, _, _, _, _, _, _, _, callX false [] [] 0 Try.func48 (by decide) rfl (screen_at_f1_ac e_7 x_1 r_8 h_r_8) rfl ⟨(argE (by (conv => lhs; whnf); all_goals rfl) rfl), (argE (by (conv => lhs; whnf); all_goals rfl) rfl), trivial⟩ rfl trivial rfl rfl rfl lend0 trivial rfl, ?_⟩
      conv => whnf
      obtain rfl := Option.some.inj hF
      exact ret_gz [] [] [] rfl (tupL rfl ⟨(argE (by (conv => lhs; whnf); all_goals rfl) rfl), (argE (by (conv => lhs; whnf); all_goals rfl) rfl), trivial⟩) trivial
    · replace hF := cond_f hb_12 hF
      conv => whnf
      obtain rfl := Option.some.inj hF
      exact ret_gz [] [] [] rfl (tupL rfl ⟨(argE (by (conv => lhs; whnf); all_goals rfl) rfl), (argFl (by (conv => lhs; whnf); all_goals rfl)), trivial⟩) trivial

set_option maxRecDepth 100000 in
set_option maxHeartbeats 40000000 in
theorem screen_at_ac (x_0 : Screening) (x_1 : Int) (r : Int × Bool) (hF : screen_at x_0 x_1 = some r) : AC Try.prog 34 [.agg (encScreening x_0), .int .i64 x_1] [] (.tup [.int .i64 r.1, .bool r.2]) [] := by
  refine ac_of tab_ok follows_ok Try.func34 rfl Try.ntmps34 rfl ?_
  unfold screen_at at hF
  conv => whnf
  obtain ⟨r_1, h_r_1, hF⟩ := bind_some hF
  refine ⟨_, _, _, _, _, _, _, _, _, callX false [] [] 0 Try.func47 (by decide) rfl (slices_BinarySearchFunc_int_ac x_0.L x_1 r_1 h_r_1) rfl ⟨(argE (by (conv => lhs; whnf); all_goals rfl) rfl), (argE (by (conv => lhs; whnf); all_goals rfl) rfl), (argE (by (conv => lhs; whnf); all_goals rfl) rfl), trivial⟩ rfl trivial rfl rfl rfl lend0 trivial rfl, ?_⟩
  conv => whnf
  obtain rfl := Option.some.inj hF
  exact ret_gz [] [] [] rfl (tupL rfl ⟨(argE (by (conv => lhs; whnf); all_goals rfl) rfl), (argE (by (conv => lhs; whnf); all_goals rfl) rfl), trivial⟩) trivial

set_option maxRecDepth 100000 in
set_option maxHeartbeats 40000000 in
theorem slices_Clone_Check_ac (x_0 : (List Check)) (r : (List Check)) (hF : slices_Clone_Check x_0 = some r) : AC Try.prog 49 [.lst 5 (x_0.map encCheck)] [] (.osl 0) [.row 5 (r.map encCheck)] := by
  refine ac_of tab_ok follows_ok Try.func49 rfl Try.ntmps49 rfl ?_
  unfold slices_Clone_Check at hF
  conv => whnf
  intro b hb
  conv => whnf
  refine ⟨fun h => ?_, fun h => ?_⟩
  · have hx : x_0 = [] := List.map_eq_nil_iff.1 (hb h)
    subst hx
    obtain ⟨h1, rfl⟩ := apL_some hF
    conv => whnf
    exact ret_gz [] [0] [] rfl (argZ (by (conv => lhs; whnf); all_goals rfl) rfl) ⟨blkZ rfl, trivial⟩
  · conv => whnf
    refine ap_q (enc := encCheck) (l := ([] : List Check)) (y := x_0) hF rfl rfl (by decide) ?_
    conv => whnf
    exact ret_gz [1] [] [] rfl (argO (id := 1) (by (conv => lhs; whnf); all_goals rfl) rfl) ⟨blkR (fun _ => ⟨rfl, rfl⟩) rfl rfl, trivial⟩

set_option maxRecDepth 100000 in
set_option maxHeartbeats 40000000 in
theorem screen_clone_ac (x_0 : Screening) (r : Screening) (hF : screen_clone x_0 = some r) : AC Try.prog 35 [.agg (encScreening x_0)] [] (.agg [.int .i64 r.Limits.e0, .int .i64 r.Limits.e1, .int .i64 r.Limits.e2, .int .i64 r.Limits.e3, .int .i64 r.Next, .osl 0]) [.row 5 (r.L.map encCheck)] := by
  refine ac_of tab_ok follows_ok Try.func35 rfl Try.ntmps35 rfl ?_
  unfold screen_clone at hF
  conv => whnf
  obtain ⟨r_1, h_r_1, hF⟩ := bind_some hF
  refine ⟨_, _, _, _, _, _, _, _, _, callX false [] [] 1 Try.func49 (by decide) rfl (slices_Clone_Check_ac x_0.L r_1 h_r_1) rfl ⟨(argE (by (conv => lhs; whnf); all_goals rfl) rfl), trivial⟩ rfl trivial rfl rfl rfl lend0 ⟨renR (fun _ => ⟨rfl, rfl⟩), trivial⟩ rfl, ?_⟩
  conv => whnf
  obtain rfl := Option.some.inj hF
  exact ret_gz [2] [] [] rfl (argA (c := [.int .i64 x_0.Limits.e0, .int .i64 x_0.Limits.e1, .int .i64 x_0.Limits.e2, .int .i64 x_0.Limits.e3, .int .i64 x_0.Next, .osl 2]) (by (conv => lhs; whnf); all_goals rfl) rfl ⟨(.ni _ rfl), (.ni _ rfl), (.ni _ rfl), (.ni _ rfl), (.ni _ rfl), (.oslg 2 0 rfl), trivial⟩) ⟨blkR (fun _ => ⟨rfl, rfl⟩) rfl rfl, trivial⟩

set_option maxRecDepth 100000 in
set_option maxHeartbeats 40000000 in
theorem slices_Insert_Check_ac (x_0 : (List Check)) (x_1 : Int) (x_2 : (List Check)) (r : (List Check)) (hF : slices_Insert_Check x_0 x_1 x_2 = some r) : AC Try.prog 36 [.osl 0, .int .i64 x_1, .osl 1] [.row 5 (x_0.map encCheck), .row 5 (x_2.map encCheck)] (.osl 2) [.dead, .dead, .row 5 (r.map encCheck)] := by
  exact InsCheck.insert_ac encCheck x_0 x_2 x_1 r hF

set_option maxRecDepth 100000 in
set_option maxHeartbeats 40000000 in
theorem screen_Start_ac (x_0 : Screening) (x_1 : Int) (x_2 : Int) (r : Screening × Int) (hF : screen_Start x_0 x_1 x_2 = some r) : AC Try.prog 11 [.agg (encScreening x_0), .int .i64 x_1, .int .i64 x_2] [] (.tup [.agg (encScreening r.1), .int .i64 r.2]) [] := by
  refine ac_of tab_ok follows_ok Try.func11 rfl Try.ntmps11 rfl ?_
  unfold screen_Start at hF
  conv => whnf
  refine ⟨fun hb_6 => ?_, fun hb_6 => ?_⟩
  · replace hF := cond_f hb_6 hF
    conv => whnf
    refine ⟨fun hb_7 => ?_, fun hb_7 => ?_⟩
    · replace hF := cond_f hb_7 hF
      conv => whnf
      obtain ⟨r_1, h_r_1, hF⟩ := bind_some hF
      refine ⟨_, _, _, _, _, _, _, _, _, callX false [] [] 0 Try.func33 (by decide) rfl (screen_timed_ac x_2 r_1 h_r_1) rfl ⟨(argE (by (conv => lhs; whnf); all_goals rfl) rfl), trivial⟩ rfl trivial rfl rfl rfl lend0 trivial rfl, ?_⟩
      conv => whnf
      refine ⟨fun hb_8 => ?_, fun hb_8 => ?_⟩
      · replace hF := cond_t hb_8 hF
        conv => whnf
        obtain rfl := Option.some.inj hF
        exact ret_gz [] [] [] rfl (tupL rfl ⟨(argA (c := [.int .i64 (0 : Int), .int .i64 (0 : Int), .int .i64 (0 : Int), .int .i64 (0 : Int), .int .i64 (0 : Int), .nils]) (by (conv => lhs; whnf); all_goals rfl) rfl ⟨(.ni _ rfl), (.ni _ rfl), (.ni _ rfl), (.ni _ rfl), (.ni _ rfl), (.nils _), trivial⟩), (argE (by (conv => lhs; whnf); all_goals rfl) rfl), trivial⟩) trivial
      · replace hF := cond_f hb_8 hF
        conv => whnf
        obtain ⟨r_2, h_r_2, hF⟩ := bind_some hF
        refine ⟨_, _, _, _, _, _, _, _, _, callX false [] [] 0 Try.func34 (by decide) rfl (screen_at_ac x_0 x_1 r_2 h_r_2) rfl ⟨(argE (by (conv => lhs; whnf); all_goals rfl) rfl), (argE (by (conv => lhs; whnf); all_goals rfl) rfl), trivial⟩ rfl trivial rfl rfl rfl lend0 trivial rfl, ?_⟩
        conv => whnf
        refine ⟨fun hb_9 => ?_, fun hb_9 => ?_⟩
        · replace hF := cond_t hb_9 hF
          conv => whnf
          obtain rfl := Option.some.inj hF
          exact ret_gz [] [] [] rfl (tupL rfl ⟨(argA (c := [.int .i64 (0 : Int), .int .i64 (0 : Int), .int .i64 (0 : Int), .int .i64 (0 : Int), .int .i64 (0 : Int), .nils]) (by (conv => lhs; whnf); all_goals rfl) rfl ⟨(.ni _ rfl), (.ni _ rfl), (.ni _ rfl), (.ni _ rfl), (.ni _ rfl), (.nils _), trivial⟩), (argE (by (conv => lhs; whnf); all_goals rfl) rfl), trivial⟩) trivial
        · replace hF := cond_f hb_9 hF
          conv => whnf
          refine ⟨fun hb_10 => ?_, fun hb_10 => ?_⟩
          · replace hF := cond_t hb_10 hF
            conv => whnf
            obtain rfl := Option.some.inj hF
            exact ret_gz [] [] [] rfl (tupL rfl ⟨(argA (c := [.int .i64 (0 : Int), .int .i64 (0 : Int), .int .i64 (0 : Int), .int .i64 (0 : Int), .int .i64 (0 : Int), .nils]) (by (conv => lhs; whnf); all_goals rfl) rfl ⟨(.ni _ rfl), (.ni _ rfl), (.ni _ rfl), (.ni _ rfl), (.ni _ rfl), (.nils _), trivial⟩), (argE (by (conv => lhs; whnf); all_goals rfl) rfl), trivial⟩) trivial
          · replace hF := cond_f hb_10 hF
            conv => whnf
            obtain ⟨r_3, h_r_3, hF⟩ := bind_some hF
            refine ⟨_, _, _, _, _, _, _, _, _, callX false [] [] 1 Try.func35 (by decide) rfl (screen_clone_ac x_0 r_3 h_r_3) rfl ⟨(argE (by (conv => lhs; whnf); all_goals rfl) rfl), trivial⟩ rfl trivial rfl rfl rfl lend0 ⟨renR (fun _ => ⟨rfl, rfl⟩), trivial⟩ rfl, ?_⟩
            conv => whnf
            obtain ⟨r_4, h_r_4, hF⟩ := bind_some hF
            refine ⟨_, _, _, _, _, _, _, _, _, callY false [.dead, .dead, .row 5 (r_4.map encCheck)] [4, 7] [] 1 Try.func36 (by decide) rfl (slices_Insert_Check_ac r_3.L r_2.1 ([(⟨x_1, (1 : Int), x_2, x_0.Next, (1 : Int)⟩ : Check)] : List Check) r_4 h_r_4) rfl ⟨(argO (id := 4) (by (conv => lhs; whnf); all_goals rfl) rfl), (argE (by (conv => lhs; whnf); all_goals rfl) rfl), (argO (id := 7) (by (conv => lhs; whnf); all_goals rfl) rfl), trivial⟩ rfl ⟨(grR (fun _ => ⟨rfl, rfl⟩) rfl), (grR (fun _ => ⟨rfl, rfl⟩) rfl), trivial⟩ rfl rfl rfl lend0 rfl ⟨rfl, rfl, renR (fun _ => ⟨rfl, rfl⟩), trivial⟩ rfl, ?_⟩
            conv => whnf
            refine ⟨_, rfl, ?_⟩
            conv => whnf
            obtain rfl := Option.some.inj hF
            exact ret_gz [] [] [8] rfl (tupL rfl ⟨(argA (c := [.int .i64 r_3.Limits.e0, .int .i64 r_3.Limits.e1, .int .i64 r_3.Limits.e2, .int .i64 r_3.Limits.e3, .int .i64 (w64 (r_3.Next + (1 : Int))), .osl 8]) (by (conv => lhs; whnf); all_goals rfl) rfl ⟨(.ni _ rfl), (.ni _ rfl), (.ni _ rfl), (.ni _ rfl), (.ni _ rfl), (.osl 8 5 _ (by simp) rfl (map_ni (fun _ => ⟨rfl, rfl⟩) _)), trivial⟩), (argE (by (conv => lhs; whnf); all_goals rfl) rfl), trivial⟩) trivial
    · replace hF := cond_t hb_7 hF
      conv => whnf
      obtain rfl := Option.some.inj hF
      exact ret_gz [] [] [] rfl (tupL rfl ⟨(argA (c := [.int .i64 (0 : Int), .int .i64 (0 : Int), .int .i64 (0 : Int), .int .i64 (0 : Int), .int .i64 (0 : Int), .nils]) (by (conv => lhs; whnf); all_goals rfl) rfl ⟨(.ni _ rfl), (.ni _ rfl), (.ni _ rfl), (.ni _ rfl), (.ni _ rfl), (.nils _), trivial⟩), (argE (by (conv => lhs; whnf); all_goals rfl) rfl), trivial⟩) trivial
  · replace hF := cond_t hb_6 hF
    conv => whnf
    obtain rfl := Option.some.inj hF
    exact ret_gz [] [] [] rfl (tupL rfl ⟨(argA (c := [.int .i64 (0 : Int), .int .i64 (0 : Int), .int .i64 (0 : Int), .int .i64 (0 : Int), .int .i64 (0 : Int), .nils]) (by (conv => lhs; whnf); all_goals rfl) rfl ⟨(.ni _ rfl), (.ni _ rfl), (.ni _ rfl), (.ni _ rfl), (.ni _ rfl), (.nils _), trivial⟩), (argE (by (conv => lhs; whnf); all_goals rfl) rfl), trivial⟩) trivial

set_option maxRecDepth 100000 in
set_option maxHeartbeats 40000000 in
theorem ref15_Find_ac (x_0 : Screening) (x_1 : Int) (r : Check × Bool) (hF : ref15_Find x_0 x_1 = some r) : AC Try.prog 27 [.agg (encScreening x_0), .int .i64 x_1] [] (.tup [.agg (encCheck r.1), .bool r.2]) [] := by
  refine ac_of tab_ok follows_ok Try.func27 rfl Try.ntmps27 rfl ?_
  unfold ref15_Find at hF
  conv => whnf
  obtain ⟨c_1, hc_1, hF⟩ := fin_some hF
  refine sw_bv 0 (v := .agg [.int .i64 x_0.Limits.e0, .int .i64 x_0.Limits.e1, .int .i64 x_0.Limits.e2, .int .i64 x_0.Limits.e3, .int .i64 x_0.Next, .lst 5 (x_0.L.map encCheck)]) (by (conv => lhs; whnf); all_goals rfl) (fun hb => ?_)
  have hbd_k_2 : x_0.L.length ≤ 9223372036854775807 := bnd_len (enc := encCheck) ((bnd_at hb.cell 5 rfl))
  refine sw_loop tab_ok follows_ok (fun y : Nat => y ≤ x_0.L.length ∧ ref15_Find_L1 x_1 (x_0.L.drop y) y = some c_1) (fun y => ⟨eL [(1, .int .i64 x_1), (2, .ptr 0 0), (4, .ptr 1 0), (6, .int .i64 (y : Int))], hL [(0, .box [.int .i64 x_0.Limits.e0, .int .i64 x_0.Limits.e1, .int .i64 x_0.Limits.e2, .int .i64 x_0.Limits.e3, .int .i64 x_0.Next, .lst 5 (x_0.L.map encCheck)]), (1, .box [.int .i64 (0 : Int), .int .i64 (0 : Int), .int .i64 (0 : Int), .int .i64 (0 : Int), .int .i64 (0 : Int)])], 2⟩) (fun y => x_0.L.length - y) 0 ⟨Nat.zero_le _, hc_1⟩ (wk_mk [0, 1] [] [] rfl ⟨argE (by (conv => lhs; whnf); all_goals rfl) rfl, argP (id := 0) (by (conv => lhs; whnf); all_goals rfl) rfl, argP (id := 1) (by (conv => lhs; whnf); all_goals rfl) rfl, argE (by (conv => lhs; whnf); all_goals rfl) rfl, trivial⟩ ⟨boxL rfl rfl rfl ⟨(.ni _ rfl), (.ni _ rfl), (.ni _ rfl), (.ni _ rfl), (.ni _ rfl), (.ni _ rfl), trivial⟩, boxL rfl rfl rfl ⟨(.ni _ rfl), (.ni _ rfl), (.ni _ rfl), (.ni _ rfl), (.ni _ rfl), trivial⟩, trivial⟩) ?_
  rintro k_2 ⟨hk_k_2, hL1⟩
  try dsimp only at hk_k_2 hL1
  show awp _ _ _ _ _ _ ⟨eL [(1, .int .i64 x_1), (2, .ptr 0 0), (4, .ptr 1 0), (6, .int .i64 (k_2 : Int))], hL [(0, .box [.int .i64 x_0.Limits.e0, .int .i64 x_0.Limits.e1, .int .i64 x_0.Limits.e2, .int .i64 x_0.Limits.e3, .int .i64 x_0.Next, .lst 5 (x_0.L.map encCheck)]), (1, .box [.int .i64 (0 : Int), .int .i64 (0 : Int), .int .i64 (0 : Int), .int .i64 (0 : Int), .int .i64 (0 : Int)])], 2⟩
  conv => whnf
  refine len_q (enc := encCheck) (l := x_0.L) rfl ?_
  conv => whnf
  refine ⟨fun h => ?_, fun h => ?_⟩
  · have hlt_k_2 : k_2 < x_0.L.length := by have h := of_decide_eq_true h; omega
    obtain ⟨e_3, h_e_3⟩ : ∃ y, x_0.L[k_2]? = some y := ⟨_, List.getElem?_eq_getElem hlt_k_2⟩
    rw [drop_cons h_e_3, ref15_Find_L1.eq_2] at hL1
    conv => whnf
    refine ⟨k_2, _, rfl, ix_map h_e_3, ?_⟩
    conv => whnf
    refine ⟨fun hb_7 => ?_, fun hb_7 => ?_⟩
    · replace hL1 := cond_t hb_7 hL1
      conv => whnf
      refine ⟨k_2, _, rfl, ix_map h_e_3, ?_⟩
      conv => whnf
      obtain rfl := Option.some.inj hL1
      replace hF := fin_ret hF
      obtain rfl := Option.some.inj hF
      exact ret_gz [] [] [] rfl (tupL rfl ⟨(argE (by (conv => lhs; whnf); all_goals rfl) rfl), (argT (by (conv => lhs; whnf); all_goals rfl)), trivial⟩) trivial
    · replace hL1 := cond_f hb_7 hL1
      conv => whnf
      refine ⟨((k_2 + 1 : Nat) : Int), wrapE (by omega) (by omega) (by omega), ?_⟩
      conv => whnf
      exact ⟨k_2 + 1, [0, 1], [], [], ⟨hlt_k_2, hL1⟩, by show x_0.L.length - (k_2 + 1) < x_0.L.length - k_2; omega, wk_mk [0, 1] [] [] rfl ⟨argE (by (conv => lhs; whnf); all_goals rfl) rfl, argP (id := 0) (by (conv => lhs; whnf); all_goals rfl) rfl, argP (id := 1) (by (conv => lhs; whnf); all_goals rfl) rfl, argE (by (conv => lhs; whnf); all_goals rfl) rfl, trivial⟩ ⟨boxL rfl rfl rfl ⟨(.ni _ rfl), (.ni _ rfl), (.ni _ rfl), (.ni _ rfl), (.ni _ rfl), (.ni _ rfl), trivial⟩, boxL rfl rfl rfl ⟨(.ni _ rfl), (.ni _ rfl), (.ni _ rfl), (.ni _ rfl), (.ni _ rfl), trivial⟩, trivial⟩⟩
  · rw [drop_nil (show x_0.L.length ≤ k_2 by have h := of_decide_eq_false h; omega), ref15_Find_L1.eq_1] at hL1
    conv => whnf
    obtain rfl := Option.some.inj hL1
    replace hF := fin_brk hF
    try dsimp only at hF
    obtain rfl := Option.some.inj hF
    exact ret_gz [] [] [] rfl (tupL rfl ⟨(argE (by (conv => lhs; whnf); all_goals rfl) rfl), (argFl (by (conv => lhs; whnf); all_goals rfl)), trivial⟩) trivial

set_option maxRecDepth 100000 in
set_option maxHeartbeats 40000000 in
theorem ref15_Start_ac (x_0 : Screening) (x_1 : Int) (x_2 : Int) (r : Screening × Int) (hF : ref15_Start x_0 x_1 x_2 = some r) : AC Try.prog 24 [.agg (encScreening x_0), .int .i64 x_1, .int .i64 x_2] [] (.tup [.agg (encScreening r.1), .int .i64 r.2]) [] := by
  refine ac_of tab_ok follows_ok Try.func24 rfl Try.ntmps24 rfl ?_
  unfold ref15_Start at hF
  conv => whnf
  refine ⟨fun hb_13 => ?_, fun hb_13 => ?_⟩
  · replace hF := cond_f hb_13 hF
    conv => whnf
    refine ⟨fun hb_14 => ?_, fun hb_14 => ?_⟩
    · replace hF := cond_f hb_14 hF
      conv => whnf
      refine ⟨fun hb_15 => ?_, fun hb_15 => ?_⟩
      · replace hF := cond_f hb_15 hF
        conv => whnf
        refine ⟨fun hb_16 => ?_, fun hb_16 => ?_⟩
        · replace hF := cond_t hb_16 hF
          conv => whnf
          obtain rfl := Option.some.inj hF
          exact ret_gz [] [] [] rfl (tupL rfl ⟨(argA (c := [.int .i64 (0 : Int), .int .i64 (0 : Int), .int .i64 (0 : Int), .int .i64 (0 : Int), .int .i64 (0 : Int), .nils]) (by (conv => lhs; whnf); all_goals rfl) rfl ⟨(.ni _ rfl), (.ni _ rfl), (.ni _ rfl), (.ni _ rfl), (.ni _ rfl), (.nils _), trivial⟩), (argE (by (conv => lhs; whnf); all_goals rfl) rfl), trivial⟩) trivial
        · replace hF := cond_f hb_16 hF
          conv => whnf
          obtain ⟨r_1, h_r_1, hF⟩ := bind_some hF
          refine ⟨_, _, _, _, _, _, _, _, _, callX false [] [] 0 Try.func27 (by decide) rfl (ref15_Find_ac x_0 x_1 r_1 h_r_1) rfl ⟨(argE (by (conv => lhs; whnf); all_goals rfl) rfl), (argE (by (conv => lhs; whnf); all_goals rfl) rfl), trivial⟩ rfl trivial rfl rfl rfl lend0 trivial rfl, ?_⟩
          conv => whnf
          refine ⟨fun hb_17 => ?_, fun hb_17 => ?_⟩
          · replace hF := cond_t hb_17 hF
            conv => whnf
            obtain rfl := Option.some.inj hF
            exact ret_gz [] [] [] rfl (tupL rfl ⟨(argA (c := [.int .i64 (0 : Int), .int .i64 (0 : Int), .int .i64 (0 : Int), .int .i64 (0 : Int), .int .i64 (0 : Int), .nils]) (by (conv => lhs; whnf); all_goals rfl) rfl ⟨(.ni _ rfl), (.ni _ rfl), (.ni _ rfl), (.ni _ rfl), (.ni _ rfl), (.nils _), trivial⟩), (argE (by (conv => lhs; whnf); all_goals rfl) rfl), trivial⟩) trivial
          · replace hF := cond_f hb_17 hF
            conv => whnf
            refine ⟨fun hb_18 => ?_, fun hb_18 => ?_⟩
            · replace hF := cond_t hb_18 hF
              conv => whnf
              obtain rfl := Option.some.inj hF
              exact ret_gz [] [] [] rfl (tupL rfl ⟨(argA (c := [.int .i64 (0 : Int), .int .i64 (0 : Int), .int .i64 (0 : Int), .int .i64 (0 : Int), .int .i64 (0 : Int), .nils]) (by (conv => lhs; whnf); all_goals rfl) rfl ⟨(.ni _ rfl), (.ni _ rfl), (.ni _ rfl), (.ni _ rfl), (.ni _ rfl), (.nils _), trivial⟩), (argE (by (conv => lhs; whnf); all_goals rfl) rfl), trivial⟩) trivial
            · replace hF := cond_f hb_18 hF
              conv => whnf
              refine ⟨_, rfl, ?_⟩
              conv => whnf
              obtain ⟨c_1, hc_1, hF⟩ := fin_some hF
              refine sw_bv 0 (v := .agg [.int .i64 x_0.Limits.e0, .int .i64 x_0.Limits.e1, .int .i64 x_0.Limits.e2, .int .i64 x_0.Limits.e3, .int .i64 x_0.Next, .lst 5 (x_0.L.map encCheck)]) (by (conv => lhs; whnf); all_goals rfl) (fun hb => ?_)
              have hbd_k_3 : x_0.L.length ≤ 9223372036854775807 := bnd_len (enc := encCheck) ((bnd_at hb.cell 5 rfl))
              refine sw_loop tab_ok follows_ok (fun y : Nat => y ≤ x_0.L.length ∧ ref15_Start_L1 x_1 (x_0.L.drop y) y = some c_1) (fun y => ⟨eL [(1, .int .i64 x_1), (3, .ptr 0 0), (6, .ptr 1 0), (10, .ptr 2 0), (11, .ptr 3 0), (12, .int .i64 (y : Int))], hL [(0, .box [.int .i64 x_0.Limits.e0, .int .i64 x_0.Limits.e1, .int .i64 x_0.Limits.e2, .int .i64 x_0.Limits.e3, .int .i64 x_0.Next, .lst 5 (x_0.L.map encCheck)]), (1, .box [.int .i64 (0 : Int), .int .i64 (0 : Int), .int .i64 (0 : Int), .int .i64 (0 : Int), .int .i64 (0 : Int), .nils]), (2, .box [.int .i64 x_1, .int .i64 (1 : Int), .int .i64 x_2, .int .i64 x_0.Next, .int .i64 (1 : Int)]), (3, .box [.int .i64 x_0.Limits.e0, .int .i64 x_0.Limits.e1, .int .i64 x_0.Limits.e2, .int .i64 x_0.Limits.e3, .int .i64 (w64 (x_0.Next + (1 : Int))), .nils])], 4⟩) (fun y => x_0.L.length - y) 0 ⟨Nat.zero_le _, hc_1⟩ (wk_mk [0, 1, 4, 5] [] [] rfl ⟨argE (by (conv => lhs; whnf); all_goals rfl) rfl, argP (id := 0) (by (conv => lhs; whnf); all_goals rfl) rfl, argP (id := 1) (by (conv => lhs; whnf); all_goals rfl) rfl, argP (id := 4) (by (conv => lhs; whnf); all_goals rfl) rfl, argP (id := 5) (by (conv => lhs; whnf); all_goals rfl) rfl, argE (by (conv => lhs; whnf); all_goals rfl) rfl, trivial⟩ ⟨boxL rfl rfl rfl ⟨(.ni _ rfl), (.ni _ rfl), (.ni _ rfl), (.ni _ rfl), (.ni _ rfl), (.ni _ rfl), trivial⟩, boxL rfl rfl rfl ⟨(.ni _ rfl), (.ni _ rfl), (.ni _ rfl), (.ni _ rfl), (.ni _ rfl), (.ni _ rfl), trivial⟩, boxL rfl rfl rfl ⟨(.ni _ rfl), (.ni _ rfl), (.ni _ rfl), (.ni _ rfl), (.ni _ rfl), trivial⟩, boxL rfl rfl rfl ⟨(.ni _ rfl), (.ni _ rfl), (.ni _ rfl), (.ni _ rfl), (.ni _ rfl), (.ni _ rfl), trivial⟩, trivial⟩) ?_
              rintro k_3 ⟨hk_k_3, hL1⟩
              try dsimp only at hk_k_3 hL1
              show awp _ _ _ _ _ _ ⟨eL [(1, .int .i64 x_1), (3, .ptr 0 0), (6, .ptr 1 0), (10, .ptr 2 0), (11, .ptr 3 0), (12, .int .i64 (k_3 : Int))], hL [(0, .box [.int .i64 x_0.Limits.e0, .int .i64 x_0.Limits.e1, .int .i64 x_0.Limits.e2, .int .i64 x_0.Limits.e3, .int .i64 x_0.Next, .lst 5 (x_0.L.map encCheck)]), (1, .box [.int .i64 (0 : Int), .int .i64 (0 : Int), .int .i64 (0 : Int), .int .i64 (0 : Int), .int .i64 (0 : Int), .nils]), (2, .box [.int .i64 x_1, .int .i64 (1 : Int), .int .i64 x_2, .int .i64 x_0.Next, .int .i64 (1 : Int)]), (3, .box [.int .i64 x_0.Limits.e0, .int .i64 x_0.Limits.e1, .int .i64 x_0.Limits.e2, .int .i64 x_0.Limits.e3, .int .i64 (w64 (x_0.Next + (1 : Int))), .nils])], 4⟩
              conv => whnf
              refine len_q (enc := encCheck) (l := x_0.L) rfl ?_
              conv => whnf
              refine ⟨fun h => ?_, fun h => ?_⟩
              · have hlt_k_3 : k_3 < x_0.L.length := by have h := of_decide_eq_true h; omega
                obtain ⟨e_4, h_e_4⟩ : ∃ y, x_0.L[k_3]? = some y := ⟨_, List.getElem?_eq_getElem hlt_k_3⟩
                rw [drop_cons h_e_4, ref15_Start_L1.eq_2] at hL1
                conv => whnf
                refine ⟨k_3, _, rfl, ix_map h_e_4, ?_⟩
                conv => whnf
                refine ⟨fun hb_19 => ?_, fun hb_19 => ?_⟩
                · replace hL1 := cond_t hb_19 hL1
                  conv => whnf
                  refine ⟨((k_3 + 1 : Nat) : Int), wrapE (by omega) (by omega) (by omega), ?_⟩
                  conv => whnf
                  exact ⟨k_3 + 1, [0, 1, 2, 3], [], [], ⟨hlt_k_3, hL1⟩, by show x_0.L.length - (k_3 + 1) < x_0.L.length - k_3; omega, wk_mk [0, 1, 2, 3] [] [] rfl ⟨argE (by (conv => lhs; whnf); all_goals rfl) rfl, argP (id := 0) (by (conv => lhs; whnf); all_goals rfl) rfl, argP (id := 1) (by (conv => lhs; whnf); all_goals rfl) rfl, argP (id := 2) (by (conv => lhs; whnf); all_goals rfl) rfl, argP (id := 3) (by (conv => lhs; whnf); all_goals rfl) rfl, argE (by (conv => lhs; whnf); all_goals rfl) rfl, trivial⟩ ⟨boxL rfl rfl rfl ⟨(.ni _ rfl), (.ni _ rfl), (.ni _ rfl), (.ni _ rfl), (.ni _ rfl), (.ni _ rfl), trivial⟩, boxL rfl rfl rfl ⟨(.ni _ rfl), (.ni _ rfl), (.ni _ rfl), (.ni _ rfl), (.ni _ rfl), (.ni _ rfl), trivial⟩, boxL rfl rfl rfl ⟨(.ni _ rfl), (.ni _ rfl), (.ni _ rfl), (.ni _ rfl), (.ni _ rfl), trivial⟩, boxL rfl rfl rfl ⟨(.ni _ rfl), (.ni _ rfl), (.ni _ rfl), (.ni _ rfl), (.ni _ rfl), (.ni _ rfl), trivial⟩, trivial⟩⟩
                · replace hL1 := cond_f hb_19 hL1
                  conv => whnf
                  obtain rfl := Option.some.inj hL1
                  replace hF := fin_brk hF
                  try dsimp only at hF
                  obtain ⟨l_7, h_l_7, hF⟩ := bind_some hF
                  refine sl_q0 (enc := encCheck) (l := x_0.L) h_l_7 rfl ?_
                  conv => whnf
                  obtain ⟨l_8, h_l_8, hF⟩ := bind_some hF
                  refine ap_q (enc := encCheck) (l := ([] : List Check)) (y := l_7) h_l_8 rfl rfl (by decide) ?_
                  conv => whnf
                  obtain ⟨l_9, h_l_9, hF⟩ := bind_some hF
                  refine ap_q (enc := encCheck) (l := l_8) (y := ([(⟨x_1, (1 : Int), x_2, x_0.Next, (1 : Int)⟩ : Check)] : List Check)) h_l_9 rfl rfl (by decide) ?_
                  conv => whnf
                  obtain ⟨l_10, h_l_10, hF⟩ := bind_some hF
                  refine sl_q1 (enc := encCheck) (l := x_0.L) h_l_10 rfl ?_
                  conv => whnf
                  obtain ⟨l_11, h_l_11, hF⟩ := bind_some hF
                  refine ap_q (enc := encCheck) (l := l_9) (y := l_10) h_l_11 rfl rfl (by decide) ?_
                  conv => whnf
                  refine ⟨by kernel_rfl, ?_⟩
                  conv => whnf
                  obtain rfl := Option.some.inj hF
                  exact ret_gz [] [] [7] rfl (tupL rfl ⟨(argA (c := [.int .i64 x_0.Limits.e0, .int .i64 x_0.Limits.e1, .int .i64 x_0.Limits.e2, .int .i64 x_0.Limits.e3, .int .i64 (w64 (x_0.Next + (1 : Int))), .osl 7]) (by (conv => lhs; whnf); all_goals rfl) rfl ⟨(.ni _ rfl), (.ni _ rfl), (.ni _ rfl), (.ni _ rfl), (.ni _ rfl), (.osl 7 5 _ (by simp) rfl (map_ni (fun _ => ⟨rfl, rfl⟩) _)), trivial⟩), (argE (by (conv => lhs; whnf); all_goals rfl) rfl), trivial⟩) trivial
              · rw [drop_nil (show x_0.L.length ≤ k_3 by have h := of_decide_eq_false h; omega), ref15_Start_L1.eq_1] at hL1
                conv => whnf
                obtain rfl := Option.some.inj hL1
                replace hF := fin_brk hF
                try dsimp only at hF
                obtain ⟨l_7, h_l_7, hF⟩ := bind_some hF
                refine sl_q0 (enc := encCheck) (l := x_0.L) h_l_7 rfl ?_
                conv => whnf
                obtain ⟨l_8, h_l_8, hF⟩ := bind_some hF
                refine ap_q (enc := encCheck) (l := ([] : List Check)) (y := l_7) h_l_8 rfl rfl (by decide) ?_
                conv => whnf
                obtain ⟨l_9, h_l_9, hF⟩ := bind_some hF
                refine ap_q (enc := encCheck) (l := l_8) (y := ([(⟨x_1, (1 : Int), x_2, x_0.Next, (1 : Int)⟩ : Check)] : List Check)) h_l_9 rfl rfl (by decide) ?_
                conv => whnf
                obtain ⟨l_10, h_l_10, hF⟩ := bind_some hF
                refine sl_q1 (enc := encCheck) (l := x_0.L) h_l_10 rfl ?_
                conv => whnf
                obtain ⟨l_11, h_l_11, hF⟩ := bind_some hF
                refine ap_q (enc := encCheck) (l := l_9) (y := l_10) h_l_11 rfl rfl (by decide) ?_
                conv => whnf
                refine ⟨by kernel_rfl, ?_⟩
                conv => whnf
                obtain rfl := Option.some.inj hF
                exact ret_gz [] [] [7] rfl (tupL rfl ⟨(argA (c := [.int .i64 x_0.Limits.e0, .int .i64 x_0.Limits.e1, .int .i64 x_0.Limits.e2, .int .i64 x_0.Limits.e3, .int .i64 (w64 (x_0.Next + (1 : Int))), .osl 7]) (by (conv => lhs; whnf); all_goals rfl) rfl ⟨(.ni _ rfl), (.ni _ rfl), (.ni _ rfl), (.ni _ rfl), (.ni _ rfl), (.osl 7 5 _ (by simp) rfl (map_ni (fun _ => ⟨rfl, rfl⟩) _)), trivial⟩), (argE (by (conv => lhs; whnf); all_goals rfl) rfl), trivial⟩) trivial
      · replace hF := cond_t hb_15 hF
        conv => whnf
        obtain rfl := Option.some.inj hF
        exact ret_gz [] [] [] rfl (tupL rfl ⟨(argA (c := [.int .i64 (0 : Int), .int .i64 (0 : Int), .int .i64 (0 : Int), .int .i64 (0 : Int), .int .i64 (0 : Int), .nils]) (by (conv => lhs; whnf); all_goals rfl) rfl ⟨(.ni _ rfl), (.ni _ rfl), (.ni _ rfl), (.ni _ rfl), (.ni _ rfl), (.nils _), trivial⟩), (argE (by (conv => lhs; whnf); all_goals rfl) rfl), trivial⟩) trivial
    · replace hF := cond_t hb_14 hF
      conv => whnf
      obtain rfl := Option.some.inj hF
      exact ret_gz [] [] [] rfl (tupL rfl ⟨(argA (c := [.int .i64 (0 : Int), .int .i64 (0 : Int), .int .i64 (0 : Int), .int .i64 (0 : Int), .int .i64 (0 : Int), .nils]) (by (conv => lhs; whnf); all_goals rfl) rfl ⟨(.ni _ rfl), (.ni _ rfl), (.ni _ rfl), (.ni _ rfl), (.ni _ rfl), (.nils _), trivial⟩), (argE (by (conv => lhs; whnf); all_goals rfl) rfl), trivial⟩) trivial
  · replace hF := cond_t hb_13 hF
    conv => whnf
    obtain rfl := Option.some.inj hF
    exact ret_gz [] [] [] rfl (tupL rfl ⟨(argA (c := [.int .i64 (0 : Int), .int .i64 (0 : Int), .int .i64 (0 : Int), .int .i64 (0 : Int), .int .i64 (0 : Int), .nils]) (by (conv => lhs; whnf); all_goals rfl) rfl ⟨(.ni _ rfl), (.ni _ rfl), (.ni _ rfl), (.ni _ rfl), (.ni _ rfl), (.nils _), trivial⟩), (argE (by (conv => lhs; whnf); all_goals rfl) rfl), trivial⟩) trivial

set_option maxRecDepth 100000 in
set_option maxHeartbeats 40000000 in
theorem screen_deadline_ac (x_0 : Screening) (x_1 : Check) (r : Int) (hF : screen_deadline x_0 x_1 = some r) : AC Try.prog 37 [.agg (encScreening x_0), .agg (encCheck x_1)] [] (.int .i64 r) [] := by
  refine ac_of tab_ok follows_ok Try.func37 rfl Try.ntmps37 rfl ?_
  unfold screen_deadline at hF
  conv => whnf
  refine ⟨_, rfl, ?_⟩
  conv => whnf
  refine (Bool.eq_false_or_eq_true ((w64 ((if (4 : Int) < (if x_1.Level < (1 : Int) then (1 : Int) else x_1.Level) then (4 : Int) else (if x_1.Level < (1 : Int) then (1 : Int) else x_1.Level)) - (1 : Int))) == (0 : Int))).elim (fun hi_5 => ?_) (fun hi_5 => ?_)
  · replace hF := cond_t hi_5 hF
    refine ⟨0, eq_of_beq hi_5, by decide, ?_⟩
    conv => whnf
    refine ⟨_, rfl, ?_⟩
    conv => whnf
    refine ⟨by kernel_rfl, ?_⟩
    conv => whnf
    obtain rfl := Option.some.inj hF
    exact ret_gz [] [] [] rfl (argE (by (conv => lhs; whnf); all_goals rfl) rfl) trivial
  · replace hF := cond_f hi_5 hF
    refine (Bool.eq_false_or_eq_true ((w64 ((if (4 : Int) < (if x_1.Level < (1 : Int) then (1 : Int) else x_1.Level) then (4 : Int) else (if x_1.Level < (1 : Int) then (1 : Int) else x_1.Level)) - (1 : Int))) == (1 : Int))).elim (fun hi_6 => ?_) (fun hi_6 => ?_)
    · replace hF := cond_t hi_6 hF
      refine ⟨1, eq_of_beq hi_6, by decide, ?_⟩
      conv => whnf
      refine ⟨_, rfl, ?_⟩
      conv => whnf
      refine ⟨by kernel_rfl, ?_⟩
      conv => whnf
      obtain rfl := Option.some.inj hF
      exact ret_gz [] [] [] rfl (argE (by (conv => lhs; whnf); all_goals rfl) rfl) trivial
    · replace hF := cond_f hi_6 hF
      refine (Bool.eq_false_or_eq_true ((w64 ((if (4 : Int) < (if x_1.Level < (1 : Int) then (1 : Int) else x_1.Level) then (4 : Int) else (if x_1.Level < (1 : Int) then (1 : Int) else x_1.Level)) - (1 : Int))) == (2 : Int))).elim (fun hi_7 => ?_) (fun hi_7 => ?_)
      · replace hF := cond_t hi_7 hF
        refine ⟨2, eq_of_beq hi_7, by decide, ?_⟩
        conv => whnf
        refine ⟨_, rfl, ?_⟩
        conv => whnf
        refine ⟨by kernel_rfl, ?_⟩
        conv => whnf
        obtain rfl := Option.some.inj hF
        exact ret_gz [] [] [] rfl (argE (by (conv => lhs; whnf); all_goals rfl) rfl) trivial
      · replace hF := cond_f hi_7 hF
        refine (Bool.eq_false_or_eq_true ((w64 ((if (4 : Int) < (if x_1.Level < (1 : Int) then (1 : Int) else x_1.Level) then (4 : Int) else (if x_1.Level < (1 : Int) then (1 : Int) else x_1.Level)) - (1 : Int))) == (3 : Int))).elim (fun hi_8 => ?_) (fun hi_8 => ?_)
        · replace hF := cond_t hi_8 hF
          refine ⟨3, eq_of_beq hi_8, by decide, ?_⟩
          conv => whnf
          refine ⟨_, rfl, ?_⟩
          conv => whnf
          refine ⟨by kernel_rfl, ?_⟩
          conv => whnf
          obtain rfl := Option.some.inj hF
          exact ret_gz [] [] [] rfl (argE (by (conv => lhs; whnf); all_goals rfl) rfl) trivial
        · replace hF := cond_f hi_8 hF
          cases hF

set_option maxRecDepth 100000 in
set_option maxHeartbeats 40000000 in
theorem screen_keeper_fail_ac (x_0 : Keeper) (x_1 : Int) (x_2 : Int) (r : Keeper) (hF : screen_keeper_fail x_0 x_1 x_2 = some r) : AC Try.prog 38 [.ptr 0 0, .int .i64 x_1, .int .i64 x_2] [.box [.int .i64 x_0.s.Limits.e0, .int .i64 x_0.s.Limits.e1, .int .i64 x_0.s.Limits.e2, .int .i64 x_0.s.Limits.e3, .int .i64 x_0.s.Next, .osl 1], .row 5 (x_0.s.L.map encCheck)] (.tup []) [.box [.int .i64 r.s.Limits.e0, .int .i64 r.s.Limits.e1, .int .i64 r.s.Limits.e2, .int .i64 r.s.Limits.e3, .int .i64 r.s.Next, .osl 1], .row 5 (r.s.L.map encCheck)] := by
  refine ac_of tab_ok follows_ok Try.func38 rfl Try.ntmps38 rfl ?_
  unfold screen_keeper_fail at hF
  conv => whnf
  obtain ⟨e_1, h_e_1, hF⟩ := bind_some hF
  refine ixo_q (enc := encCheck) (l := x_0.s.L) h_e_1 rfl (fun m_e_1 hm_e_1 hx_e_1 => ?_)
  conv => whnf
  refine ⟨_, ix_map (enc := encCheck) hx_e_1, ?_⟩
  conv => whnf
  refine ⟨fun hb_2 => ?_, fun hb_2 => ?_⟩
  · replace hF := cond_t hb_2 hF
    conv => whnf
    refine st_q (enc := encCheck) (l := x_0.s.L) (x' := (⟨e_1.Bag, e_1.Level, e_1.Since, e_1.Image, (3 : Int)⟩ : Check)) (i := x_1) hm_e_1 hx_e_1 rfl (Nat.le_of_ble_eq_true rfl) rfl ?_
    conv => whnf
    obtain rfl := Option.some.inj hF
    exact ret_gz [0, 1] [] [] rfl (.ni _ rfl) ⟨boxL rfl rfl rfl ⟨(.ni _ rfl), (.ni _ rfl), (.ni _ rfl), (.ni _ rfl), (.ni _ rfl), (.oslg 1 1 rfl), trivial⟩, blkR (fun _ => ⟨rfl, rfl⟩) rfl rfl, trivial⟩
  · replace hF := cond_f hb_2 hF
    conv => whnf
    refine ⟨_, ix_map (enc := encCheck) hx_e_1, ?_⟩
    conv => whnf
    refine ⟨_, rfl, ?_⟩
    conv => whnf
    refine st_q (enc := encCheck) (l := x_0.s.L) (x' := (⟨e_1.Bag, (w64 (e_1.Level + (1 : Int))), e_1.Since, e_1.Image, e_1.State⟩ : Check)) (i := x_1) hm_e_1 hx_e_1 rfl (Nat.le_of_ble_eq_true rfl) rfl ?_
    conv => whnf
    refine st_q (enc := encCheck) (l := (x_0.s.L.set x_1.toNat (⟨e_1.Bag, (w64 (e_1.Level + (1 : Int))), e_1.Since, e_1.Image, e_1.State⟩ : Check))) (x' := (⟨(⟨e_1.Bag, (w64 (e_1.Level + (1 : Int))), e_1.Since, e_1.Image, e_1.State⟩ : Check).Bag, (⟨e_1.Bag, (w64 (e_1.Level + (1 : Int))), e_1.Since, e_1.Image, e_1.State⟩ : Check).Level, x_2, (⟨e_1.Bag, (w64 (e_1.Level + (1 : Int))), e_1.Since, e_1.Image, e_1.State⟩ : Check).Image, (⟨e_1.Bag, (w64 (e_1.Level + (1 : Int))), e_1.Since, e_1.Image, e_1.State⟩ : Check).State⟩ : Check)) (i := x_1) hm_e_1 (set_at hx_e_1 hm_e_1) rfl (Nat.le_of_ble_eq_true rfl) rfl ?_
    conv => whnf
    refine st_q (enc := encCheck) (l := ((x_0.s.L.set x_1.toNat (⟨e_1.Bag, (w64 (e_1.Level + (1 : Int))), e_1.Since, e_1.Image, e_1.State⟩ : Check)).set x_1.toNat (⟨(⟨e_1.Bag, (w64 (e_1.Level + (1 : Int))), e_1.Since, e_1.Image, e_1.State⟩ : Check).Bag, (⟨e_1.Bag, (w64 (e_1.Level + (1 : Int))), e_1.Since, e_1.Image, e_1.State⟩ : Check).Level, x_2, (⟨e_1.Bag, (w64 (e_1.Level + (1 : Int))), e_1.Since, e_1.Image, e_1.State⟩ : Check).Image, (⟨e_1.Bag, (w64 (e_1.Level + (1 : Int))), e_1.Since, e_1.Image, e_1.State⟩ : Check).State⟩ : Check))) (x' := (⟨(⟨(⟨e_1.Bag, (w64 (e_1.Level + (1 : Int))), e_1.Since, e_1.Image, e_1.State⟩ : Check).Bag, (⟨e_1.Bag, (w64 (e_1.Level + (1 : Int))), e_1.Since, e_1.Image, e_1.State⟩ : Check).Level, x_2, (⟨e_1.Bag, (w64 (e_1.Level + (1 : Int))), e_1.Since, e_1.Image, e_1.State⟩ : Check).Image, (⟨e_1.Bag, (w64 (e_1.Level + (1 : Int))), e_1.Since, e_1.Image, e_1.State⟩ : Check).State⟩ : Check).Bag, (⟨(⟨e_1.Bag, (w64 (e_1.Level + (1 : Int))), e_1.Since, e_1.Image, e_1.State⟩ : Check).Bag, (⟨e_1.Bag, (w64 (e_1.Level + (1 : Int))), e_1.Since, e_1.Image, e_1.State⟩ : Check).Level, x_2, (⟨e_1.Bag, (w64 (e_1.Level + (1 : Int))), e_1.Since, e_1.Image, e_1.State⟩ : Check).Image, (⟨e_1.Bag, (w64 (e_1.Level + (1 : Int))), e_1.Since, e_1.Image, e_1.State⟩ : Check).State⟩ : Check).Level, (⟨(⟨e_1.Bag, (w64 (e_1.Level + (1 : Int))), e_1.Since, e_1.Image, e_1.State⟩ : Check).Bag, (⟨e_1.Bag, (w64 (e_1.Level + (1 : Int))), e_1.Since, e_1.Image, e_1.State⟩ : Check).Level, x_2, (⟨e_1.Bag, (w64 (e_1.Level + (1 : Int))), e_1.Since, e_1.Image, e_1.State⟩ : Check).Image, (⟨e_1.Bag, (w64 (e_1.Level + (1 : Int))), e_1.Since, e_1.Image, e_1.State⟩ : Check).State⟩ : Check).Since, x_0.s.Next, (⟨(⟨e_1.Bag, (w64 (e_1.Level + (1 : Int))), e_1.Since, e_1.Image, e_1.State⟩ : Check).Bag, (⟨e_1.Bag, (w64 (e_1.Level + (1 : Int))), e_1.Since, e_1.Image, e_1.State⟩ : Check).Level, x_2, (⟨e_1.Bag, (w64 (e_1.Level + (1 : Int))), e_1.Since, e_1.Image, e_1.State⟩ : Check).Image, (⟨e_1.Bag, (w64 (e_1.Level + (1 : Int))), e_1.Since, e_1.Image, e_1.State⟩ : Check).State⟩ : Check).State⟩ : Check)) (i := x_1) hm_e_1 (set_at (set_at hx_e_1 hm_e_1) hm_e_1) rfl (Nat.le_of_ble_eq_true rfl) rfl ?_
    conv => whnf
    refine ⟨by kernel_rfl, ?_⟩
    conv => whnf
    refine ⟨_, rfl, ?_⟩
    conv => whnf
    obtain rfl := Option.some.inj hF
    exact ret_gz [0, 1] [] [] rfl (.ni _ rfl) ⟨boxL rfl rfl rfl ⟨(.ni _ rfl), (.ni _ rfl), (.ni _ rfl), (.ni _ rfl), (.ni _ rfl), (.oslg 1 1 rfl), trivial⟩, blkR (fun _ => ⟨rfl, rfl⟩) rfl rfl, trivial⟩

set_option maxRecDepth 100000 in
set_option maxHeartbeats 40000000 in
theorem screen_Expire_ac (x_0 : Screening) (x_1 : Int) (r : Screening × Int) (hF : screen_Expire x_0 x_1 = some r) : AC Try.prog 13 [.agg (encScreening x_0), .int .i64 x_1] [] (.tup [.agg (encScreening r.1), .int .i64 r.2]) [] := by
  refine ac_of tab_ok follows_ok Try.func13 rfl Try.ntmps13 rfl ?_
  unfold screen_Expire at hF
  conv => whnf
  obtain ⟨r_1, h_r_1, hF⟩ := bind_some hF
  refine ⟨_, _, _, _, _, _, _, _, _, callX false [] [] 0 Try.func33 (by decide) rfl (screen_timed_ac x_1 r_1 h_r_1) rfl ⟨(argE (by (conv => lhs; whnf); all_goals rfl) rfl), trivial⟩ rfl trivial rfl rfl rfl lend0 trivial rfl, ?_⟩
  conv => whnf
  refine ⟨fun hb_13 => ?_, fun hb_13 => ?_⟩
  · replace hF := cond_t hb_13 hF
    conv => whnf
    obtain rfl := Option.some.inj hF
    exact ret_gz [] [] [] rfl (tupL rfl ⟨(argA (c := [.int .i64 (0 : Int), .int .i64 (0 : Int), .int .i64 (0 : Int), .int .i64 (0 : Int), .int .i64 (0 : Int), .nils]) (by (conv => lhs; whnf); all_goals rfl) rfl ⟨(.ni _ rfl), (.ni _ rfl), (.ni _ rfl), (.ni _ rfl), (.ni _ rfl), (.nils _), trivial⟩), (argE (by (conv => lhs; whnf); all_goals rfl) rfl), trivial⟩) trivial
  · replace hF := cond_f hb_13 hF
    conv => whnf
    obtain ⟨r_2, h_r_2, hF⟩ := bind_some hF
    refine ⟨_, _, _, _, _, _, _, _, _, callX false [] [] 1 Try.func35 (by decide) rfl (screen_clone_ac x_0 r_2 h_r_2) rfl ⟨(argE (by (conv => lhs; whnf); all_goals rfl) rfl), trivial⟩ rfl trivial rfl rfl rfl lend0 ⟨renR (fun _ => ⟨rfl, rfl⟩), trivial⟩ rfl, ?_⟩
    conv => whnf
    refine len_q (enc := encCheck) (l := r_2.L) rfl ?_
    conv => whnf
    obtain ⟨c_1, hc_1, hF⟩ := fin_some hF
    refine sw_br 3 (sz := 5) (xs := r_2.L.map encCheck) (by (conv => lhs; whnf); all_goals rfl) (fun hb => ?_)
    have hbd_k_10 : r_2.L.length ≤ 9223372036854775807 := bnd_len (enc := encCheck) (hb)
    refine sw_loop tab_ok follows_ok (fun y : Nat × Int × Int × Int × Int × Int × (List Check) => y.1 ≤ r_2.L.length ∧ screen_Expire_L1 x_0 x_1 (r_2.L.drop y.1) y.1 y.2.1 y.2.2.1 y.2.2.2.1 y.2.2.2.2.1 y.2.2.2.2.2.1 y.2.2.2.2.2.2 = some c_1) (fun y => ⟨eL [(1, .int .i64 x_1), (2, .ptr 0 0), (4, .ptr 1 0), (6, .ptr 2 0), (21, .osl 3), (22, .int .i64 (r_2.L.length : Int)), (23, .int .i64 (y.1 : Int))], hL [(0, .box [.int .i64 x_0.Limits.e0, .int .i64 x_0.Limits.e1, .int .i64 x_0.Limits.e2, .int .i64 x_0.Limits.e3, .int .i64 x_0.Next, .lst 5 (x_0.L.map encCheck)]), (1, .box [.int .i64 (0 : Int), .int .i64 (0 : Int), .int .i64 (0 : Int), .int .i64 (0 : Int), .int .i64 (0 : Int), .nils]), (2, .box [.int .i64 y.2.1, .int .i64 y.2.2.1, .int .i64 y.2.2.2.1, .int .i64 y.2.2.2.2.1, .int .i64 y.2.2.2.2.2.1, .osl 3]), (3, .row 5 (y.2.2.2.2.2.2.map encCheck))], 4⟩) (fun y => r_2.L.length - y.1) (0, r_2.Limits.e0, r_2.Limits.e1, r_2.Limits.e2, r_2.Limits.e3, r_2.Next, r_2.L) ⟨Nat.zero_le _, hc_1⟩ (wk_mk [0, 1, 5, 3] [] [] rfl ⟨argE (by (conv => lhs; whnf); all_goals rfl) rfl, argP (id := 0) (by (conv => lhs; whnf); all_goals rfl) rfl, argP (id := 1) (by (conv => lhs; whnf); all_goals rfl) rfl, argP (id := 5) (by (conv => lhs; whnf); all_goals rfl) rfl, argO (id := 3) (by (conv => lhs; whnf); all_goals rfl) rfl, argE (by (conv => lhs; whnf); all_goals rfl) rfl, argE (by (conv => lhs; whnf); all_goals rfl) rfl, trivial⟩ ⟨boxL rfl rfl rfl ⟨(.ni _ rfl), (.ni _ rfl), (.ni _ rfl), (.ni _ rfl), (.ni _ rfl), (.ni _ rfl), trivial⟩, boxL rfl rfl rfl ⟨(.ni _ rfl), (.ni _ rfl), (.ni _ rfl), (.ni _ rfl), (.ni _ rfl), (.ni _ rfl), trivial⟩, boxL rfl rfl rfl ⟨(.ni _ rfl), (.ni _ rfl), (.ni _ rfl), (.ni _ rfl), (.ni _ rfl), (.oslg 3 3 rfl), trivial⟩, blkR (fun _ => ⟨rfl, rfl⟩) rfl rfl, trivial⟩) ?_
    rintro ⟨k_10, i_3, i_4, i_5, i_6, i_7, a_8⟩ ⟨hk_k_10, hL1⟩
    try dsimp only at hk_k_10 hL1
    show awp _ _ _ _ _ _ ⟨eL [(1, .int .i64 x_1), (2, .ptr 0 0), (4, .ptr 1 0), (6, .ptr 2 0), (21, .osl 3), (22, .int .i64 (r_2.L.length : Int)), (23, .int .i64 (k_10 : Int))], hL [(0, .box [.int .i64 x_0.Limits.e0, .int .i64 x_0.Limits.e1, .int .i64 x_0.Limits.e2, .int .i64 x_0.Limits.e3, .int .i64 x_0.Next, .lst 5 (x_0.L.map encCheck)]), (1, .box [.int .i64 (0 : Int), .int .i64 (0 : Int), .int .i64 (0 : Int), .int .i64 (0 : Int), .int .i64 (0 : Int), .nils]), (2, .box [.int .i64 i_3, .int .i64 i_4, .int .i64 i_5, .int .i64 i_6, .int .i64 i_7, .osl 3]), (3, .row 5 (a_8.map encCheck))], 4⟩
    conv => whnf
    refine ⟨fun h => ?_, fun h => ?_⟩
    · have hlt_k_10 : k_10 < r_2.L.length := by have h := of_decide_eq_true h; omega
      obtain ⟨e_11, h_e_11⟩ : ∃ y, r_2.L[k_10]? = some y := ⟨_, List.getElem?_eq_getElem hlt_k_10⟩
      rw [drop_cons h_e_11, screen_Expire_L1.eq_2] at hL1
      conv => whnf
      obtain ⟨e_12, h_e_12, hL1⟩ := bind_some hL1
      refine ixo_q (enc := encCheck) (l := a_8) h_e_12 rfl (fun m_e_12 hm_e_12 hx_e_12 => ?_)
      conv => whnf
      refine ⟨_, ix_map (enc := encCheck) hx_e_12, ?_⟩
      conv => whnf
      refine ⟨fun hb_14 => ?_, fun hb_14 => ?_⟩
      · replace hL1 := cond_t hb_14 hL1
        conv => whnf
        obtain ⟨r_13, h_r_13, hL1⟩ := bind_some hL1
        refine ⟨_, _, _, _, _, _, _, _, _, callX false [] [] 0 Try.func37 (by decide) rfl (screen_deadline_ac x_0 e_12 r_13 h_r_13) rfl ⟨(argE (by (conv => lhs; whnf); all_goals rfl) rfl), (argE (by (conv => lhs; whnf); all_goals rfl) rfl), trivial⟩ rfl trivial rfl rfl rfl lend0 trivial rfl, ?_⟩
        conv => whnf
        refine ⟨fun hb_15 => ?_, fun hb_15 => ?_⟩
        · replace hL1 := cond_t hb_15 hL1
          conv => whnf
          obtain ⟨r_14, h_r_14, hL1⟩ := bind_some hL1
          refine ⟨_, _, _, _, _, _, _, _, _, callY false [.box [.int .i64 r_14.s.Limits.e0, .int .i64 r_14.s.Limits.e1, .int .i64 r_14.s.Limits.e2, .int .i64 r_14.s.Limits.e3, .int .i64 r_14.s.Next, .osl 3], .row 5 (r_14.s.L.map encCheck)] [2, 3] [] 0 Try.func38 (by decide) rfl (screen_keeper_fail_ac (⟨(⟨(⟨i_3, i_4, i_5, i_6⟩ : A4_Int), i_7, a_8⟩ : Screening)⟩ : Keeper) (k_10 : Int) x_1 r_14 h_r_14) rfl ⟨(argP (id := 2) (by (conv => lhs; whnf); all_goals rfl) rfl), (argE (by (conv => lhs; whnf); all_goals rfl) rfl), (argE (by (conv => lhs; whnf); all_goals rfl) rfl), trivial⟩ rfl ⟨rfl, (grR (fun _ => ⟨rfl, rfl⟩) rfl), trivial⟩ rfl rfl rfl lend0 rfl ⟨rfl, renR (fun _ => ⟨rfl, rfl⟩), trivial⟩ rfl, ?_⟩
          conv => whnf
          refine ⟨((k_10 + 1 : Nat) : Int), wrapE (by omega) (by omega) (by omega), ?_⟩
          conv => whnf
          exact ⟨(k_10 + 1, r_14.s.Limits.e0, r_14.s.Limits.e1, r_14.s.Limits.e2, r_14.s.Limits.e3, r_14.s.Next, r_14.s.L), [0, 1, 2, 3], [], [], ⟨hlt_k_10, hL1⟩, by show r_2.L.length - (k_10 + 1) < r_2.L.length - k_10; omega, wk_mk [0, 1, 2, 3] [] [] rfl ⟨argE (by (conv => lhs; whnf); all_goals rfl) rfl, argP (id := 0) (by (conv => lhs; whnf); all_goals rfl) rfl, argP (id := 1) (by (conv => lhs; whnf); all_goals rfl) rfl, argP (id := 2) (by (conv => lhs; whnf); all_goals rfl) rfl, argO (id := 3) (by (conv => lhs; whnf); all_goals rfl) rfl, argE (by (conv => lhs; whnf); all_goals rfl) rfl, argE (by (conv => lhs; whnf); all_goals rfl) rfl, trivial⟩ ⟨boxL rfl rfl rfl ⟨(.ni _ rfl), (.ni _ rfl), (.ni _ rfl), (.ni _ rfl), (.ni _ rfl), (.ni _ rfl), trivial⟩, boxL rfl rfl rfl ⟨(.ni _ rfl), (.ni _ rfl), (.ni _ rfl), (.ni _ rfl), (.ni _ rfl), (.ni _ rfl), trivial⟩, boxL rfl rfl rfl ⟨(.ni _ rfl), (.ni _ rfl), (.ni _ rfl), (.ni _ rfl), (.ni _ rfl), (.oslg 3 3 rfl), trivial⟩, blkR (fun _ => ⟨rfl, rfl⟩) rfl rfl, trivial⟩⟩
        · replace hL1 := cond_f hb_15 hL1
          conv => whnf
          refine ⟨((k_10 + 1 : Nat) : Int), wrapE (by omega) (by omega) (by omega), ?_⟩
          conv => whnf
          exact ⟨(k_10 + 1, i_3, i_4, i_5, i_6, i_7, a_8), [0, 1, 2, 3], [], [], ⟨hlt_k_10, hL1⟩, by show r_2.L.length - (k_10 + 1) < r_2.L.length - k_10; omega, wk_mk [0, 1, 2, 3] [] [] rfl ⟨argE (by (conv => lhs; whnf); all_goals rfl) rfl, argP (id := 0) (by (conv => lhs; whnf); all_goals rfl) rfl, argP (id := 1) (by (conv => lhs; whnf); all_goals rfl) rfl, argP (id := 2) (by (conv => lhs; whnf); all_goals rfl) rfl, argO (id := 3) (by (conv => lhs; whnf); all_goals rfl) rfl, argE (by (conv => lhs; whnf); all_goals rfl) rfl, argE (by (conv => lhs; whnf); all_goals rfl) rfl, trivial⟩ ⟨boxL rfl rfl rfl ⟨(.ni _ rfl), (.ni _ rfl), (.ni _ rfl), (.ni _ rfl), (.ni _ rfl), (.ni _ rfl), trivial⟩, boxL rfl rfl rfl ⟨(.ni _ rfl), (.ni _ rfl), (.ni _ rfl), (.ni _ rfl), (.ni _ rfl), (.ni _ rfl), trivial⟩, boxL rfl rfl rfl ⟨(.ni _ rfl), (.ni _ rfl), (.ni _ rfl), (.ni _ rfl), (.ni _ rfl), (.oslg 3 3 rfl), trivial⟩, blkR (fun _ => ⟨rfl, rfl⟩) rfl rfl, trivial⟩⟩
      · replace hL1 := cond_f hb_14 hL1
        conv => whnf
        refine ⟨((k_10 + 1 : Nat) : Int), wrapE (by omega) (by omega) (by omega), ?_⟩
        conv => whnf
        exact ⟨(k_10 + 1, i_3, i_4, i_5, i_6, i_7, a_8), [0, 1, 2, 3], [], [], ⟨hlt_k_10, hL1⟩, by show r_2.L.length - (k_10 + 1) < r_2.L.length - k_10; omega, wk_mk [0, 1, 2, 3] [] [] rfl ⟨argE (by (conv => lhs; whnf); all_goals rfl) rfl, argP (id := 0) (by (conv => lhs; whnf); all_goals rfl) rfl, argP (id := 1) (by (conv => lhs; whnf); all_goals rfl) rfl, argP (id := 2) (by (conv => lhs; whnf); all_goals rfl) rfl, argO (id := 3) (by (conv => lhs; whnf); all_goals rfl) rfl, argE (by (conv => lhs; whnf); all_goals rfl) rfl, argE (by (conv => lhs; whnf); all_goals rfl) rfl, trivial⟩ ⟨boxL rfl rfl rfl ⟨(.ni _ rfl), (.ni _ rfl), (.ni _ rfl), (.ni _ rfl), (.ni _ rfl), (.ni _ rfl), trivial⟩, boxL rfl rfl rfl ⟨(.ni _ rfl), (.ni _ rfl), (.ni _ rfl), (.ni _ rfl), (.ni _ rfl), (.ni _ rfl), trivial⟩, boxL rfl rfl rfl ⟨(.ni _ rfl), (.ni _ rfl), (.ni _ rfl), (.ni _ rfl), (.ni _ rfl), (.oslg 3 3 rfl), trivial⟩, blkR (fun _ => ⟨rfl, rfl⟩) rfl rfl, trivial⟩⟩
    · rw [drop_nil (show r_2.L.length ≤ k_10 by have h := of_decide_eq_false h; omega), screen_Expire_L1.eq_1] at hL1
      conv => whnf
      obtain rfl := Option.some.inj hL1
      replace hF := fin_brk hF
      try dsimp only at hF
      refine ⟨by kernel_rfl, ?_⟩
      conv => whnf
      refine ⟨fun hb_16 => ?_, fun hb_16 => ?_⟩
      · replace hF := cond_t hb_16 hF
        conv => whnf
        obtain rfl := Option.some.inj hF
        exact ret_gz [] [] [] rfl (tupL rfl ⟨(argA (c := [.int .i64 (0 : Int), .int .i64 (0 : Int), .int .i64 (0 : Int), .int .i64 (0 : Int), .int .i64 (0 : Int), .nils]) (by (conv => lhs; whnf); all_goals rfl) rfl ⟨(.ni _ rfl), (.ni _ rfl), (.ni _ rfl), (.ni _ rfl), (.ni _ rfl), (.nils _), trivial⟩), (argE (by (conv => lhs; whnf); all_goals rfl) rfl), trivial⟩) trivial
      · replace hF := cond_f hb_16 hF
        conv => whnf
        obtain rfl := Option.some.inj hF
        exact ret_gz [] [] [3] rfl (tupL rfl ⟨(argA (c := [.int .i64 i_3, .int .i64 i_4, .int .i64 i_5, .int .i64 i_6, .int .i64 i_7, .osl 3]) (by (conv => lhs; whnf); all_goals rfl) rfl ⟨(.ni _ rfl), (.ni _ rfl), (.ni _ rfl), (.ni _ rfl), (.ni _ rfl), (.osl 3 5 _ (by simp) rfl (map_ni (fun _ => ⟨rfl, rfl⟩) _)), trivial⟩), (argE (by (conv => lhs; whnf); all_goals rfl) rfl), trivial⟩) trivial

set_option maxRecDepth 100000 in
set_option maxHeartbeats 40000000 in
theorem ref15_deadline_ac (x_0 : Screening) (x_1 : Check) (r : Int) (hF : ref15_deadline x_0 x_1 = some r) : AC Try.prog 45 [.agg (encScreening x_0), .agg (encCheck x_1)] [] (.int .i64 r) [] := by
  refine ac_of tab_ok follows_ok Try.func45 rfl Try.ntmps45 rfl ?_
  unfold ref15_deadline at hF
  conv => whnf
  refine ⟨_, rfl, ?_⟩
  conv => whnf
  refine (Bool.eq_false_or_eq_true ((w64 (x_1.Level - (1 : Int))) == (0 : Int))).elim (fun hi_5 => ?_) (fun hi_5 => ?_)
  · replace hF := cond_t hi_5 hF
    refine ⟨0, eq_of_beq hi_5, by decide, ?_⟩
    conv => whnf
    refine ⟨_, rfl, ?_⟩
    conv => whnf
    refine ⟨by kernel_rfl, ?_⟩
    conv => whnf
    obtain rfl := Option.some.inj hF
    exact ret_gz [] [] [] rfl (argE (by (conv => lhs; whnf); all_goals rfl) rfl) trivial
  · replace hF := cond_f hi_5 hF
    refine (Bool.eq_false_or_eq_true ((w64 (x_1.Level - (1 : Int))) == (1 : Int))).elim (fun hi_6 => ?_) (fun hi_6 => ?_)
    · replace hF := cond_t hi_6 hF
      refine ⟨1, eq_of_beq hi_6, by decide, ?_⟩
      conv => whnf
      refine ⟨_, rfl, ?_⟩
      conv => whnf
      refine ⟨by kernel_rfl, ?_⟩
      conv => whnf
      obtain rfl := Option.some.inj hF
      exact ret_gz [] [] [] rfl (argE (by (conv => lhs; whnf); all_goals rfl) rfl) trivial
    · replace hF := cond_f hi_6 hF
      refine (Bool.eq_false_or_eq_true ((w64 (x_1.Level - (1 : Int))) == (2 : Int))).elim (fun hi_7 => ?_) (fun hi_7 => ?_)
      · replace hF := cond_t hi_7 hF
        refine ⟨2, eq_of_beq hi_7, by decide, ?_⟩
        conv => whnf
        refine ⟨_, rfl, ?_⟩
        conv => whnf
        refine ⟨by kernel_rfl, ?_⟩
        conv => whnf
        obtain rfl := Option.some.inj hF
        exact ret_gz [] [] [] rfl (argE (by (conv => lhs; whnf); all_goals rfl) rfl) trivial
      · replace hF := cond_f hi_7 hF
        refine (Bool.eq_false_or_eq_true ((w64 (x_1.Level - (1 : Int))) == (3 : Int))).elim (fun hi_8 => ?_) (fun hi_8 => ?_)
        · replace hF := cond_t hi_8 hF
          refine ⟨3, eq_of_beq hi_8, by decide, ?_⟩
          conv => whnf
          refine ⟨_, rfl, ?_⟩
          conv => whnf
          refine ⟨by kernel_rfl, ?_⟩
          conv => whnf
          obtain rfl := Option.some.inj hF
          exact ret_gz [] [] [] rfl (argE (by (conv => lhs; whnf); all_goals rfl) rfl) trivial
        · replace hF := cond_f hi_8 hF
          cases hF

set_option maxRecDepth 100000 in
set_option maxHeartbeats 40000000 in
theorem ref15_fail_ac (x_0 : Check) (x_1 : Int) (x_2 : Int) (r : Check × Int) (hF : ref15_fail x_0 x_1 x_2 = some r) : AC Try.prog 46 [.agg (encCheck x_0), .int .i64 x_1, .int .i64 x_2] [] (.tup [.agg (encCheck r.1), .int .i64 r.2]) [] := by
  refine ac_of tab_ok follows_ok Try.func46 rfl Try.ntmps46 rfl ?_
  unfold ref15_fail at hF
  conv => whnf
  refine ⟨fun hb_2 => ?_, fun hb_2 => ?_⟩
  · replace hF := cond_t hb_2 hF
    conv => whnf
    obtain rfl := Option.some.inj hF
    exact ret_gz [] [] [] rfl (tupL rfl ⟨(argE (by (conv => lhs; whnf); all_goals rfl) rfl), (argE (by (conv => lhs; whnf); all_goals rfl) rfl), trivial⟩) trivial
  · replace hF := cond_f hb_2 hF
    conv => whnf
    refine ⟨_, rfl, ?_⟩
    conv => whnf
    refine ⟨_, rfl, ?_⟩
    conv => whnf
    obtain rfl := Option.some.inj hF
    exact ret_gz [] [] [] rfl (tupL rfl ⟨(argE (by (conv => lhs; whnf); all_goals rfl) rfl), (argE (by (conv => lhs; whnf); all_goals rfl) rfl), trivial⟩) trivial

set_option maxRecDepth 100000 in
set_option maxHeartbeats 40000000 in
theorem ref15_Expire_ac (x_0 : Screening) (x_1 : Int) (r : Screening × Int) (hF : ref15_Expire x_0 x_1 = some r) : AC Try.prog 25 [.agg (encScreening x_0), .int .i64 x_1] [] (.tup [.agg (encScreening r.1), .int .i64 r.2]) [] := by
  refine ac_of tab_ok follows_ok Try.func25 rfl Try.ntmps25 rfl ?_
  unfold ref15_Expire at hF
  conv => whnf
  refine ⟨fun hb_14 => ?_, fun hb_14 => ?_⟩
  · replace hF := cond_f hb_14 hF
    conv => whnf
    refine ⟨fun hb_15 => ?_, fun hb_15 => ?_⟩
    · replace hF := cond_t hb_15 hF
      conv => whnf
      obtain rfl := Option.some.inj hF
      exact ret_gz [] [] [] rfl (tupL rfl ⟨(argA (c := [.int .i64 (0 : Int), .int .i64 (0 : Int), .int .i64 (0 : Int), .int .i64 (0 : Int), .int .i64 (0 : Int), .nils]) (by (conv => lhs; whnf); all_goals rfl) rfl ⟨(.ni _ rfl), (.ni _ rfl), (.ni _ rfl), (.ni _ rfl), (.ni _ rfl), (.nils _), trivial⟩), (argE (by (conv => lhs; whnf); all_goals rfl) rfl), trivial⟩) trivial
    · replace hF := cond_f hb_15 hF
      conv => whnf
      obtain ⟨c_1, hc_1, hF⟩ := fin_some hF
      refine sw_bv 0 (v := .agg [.int .i64 x_0.Limits.e0, .int .i64 x_0.Limits.e1, .int .i64 x_0.Limits.e2, .int .i64 x_0.Limits.e3, .int .i64 x_0.Next, .lst 5 (x_0.L.map encCheck)]) (by (conv => lhs; whnf); all_goals rfl) (fun hb => ?_)
      have hbd_k_4 : x_0.L.length ≤ 9223372036854775807 := bnd_len (enc := encCheck) ((bnd_at hb.cell 5 rfl))
      refine sw_loop tab_ok follows_ok (fun y : Nat × Int × (List Check) => y.1 ≤ x_0.L.length ∧ ref15_Expire_L1 x_0 x_1 (x_0.L.drop y.1) y.1 y.2.1 y.2.2 = some c_1) (fun y => ⟨eL [(1, .int .i64 x_1), (2, .ptr 0 0), (4, .ptr 1 0), (6, .ptr 2 0), (7, .int .i64 (y.1 : Int))], hL [(0, .box [.int .i64 x_0.Limits.e0, .int .i64 x_0.Limits.e1, .int .i64 x_0.Limits.e2, .int .i64 x_0.Limits.e3, .int .i64 x_0.Next, .lst 5 (x_0.L.map encCheck)]), (1, .box [.int .i64 (0 : Int), .int .i64 (0 : Int), .int .i64 (0 : Int), .int .i64 (0 : Int), .int .i64 (0 : Int), .nils]), (2, .box [.int .i64 x_0.Limits.e0, .int .i64 x_0.Limits.e1, .int .i64 x_0.Limits.e2, .int .i64 x_0.Limits.e3, .int .i64 y.2.1, .osl 3]), (3, .row 5 (y.2.2.map encCheck))], 4⟩) (fun y => x_0.L.length - y.1) (0, x_0.Next, ([] : List Check)) ⟨Nat.zero_le _, hc_1⟩ (wk_mk [0, 1, 2] [3] [] rfl ⟨argE (by (conv => lhs; whnf); all_goals rfl) rfl, argP (id := 0) (by (conv => lhs; whnf); all_goals rfl) rfl, argP (id := 1) (by (conv => lhs; whnf); all_goals rfl) rfl, argP (id := 2) (by (conv => lhs; whnf); all_goals rfl) rfl, argE (by (conv => lhs; whnf); all_goals rfl) rfl, trivial⟩ ⟨boxL rfl rfl rfl ⟨(.ni _ rfl), (.ni _ rfl), (.ni _ rfl), (.ni _ rfl), (.ni _ rfl), (.ni _ rfl), trivial⟩, boxL rfl rfl rfl ⟨(.ni _ rfl), (.ni _ rfl), (.ni _ rfl), (.ni _ rfl), (.ni _ rfl), (.ni _ rfl), trivial⟩, boxL rfl rfl rfl ⟨(.ni _ rfl), (.ni _ rfl), (.ni _ rfl), (.ni _ rfl), (.ni _ rfl), (.nilz 3 (by simp)), trivial⟩, blkZ rfl, trivial⟩) ?_
      rintro ⟨k_4, i_1, a_2⟩ ⟨hk_k_4, hL1⟩
      try dsimp only at hk_k_4 hL1
      show awp _ _ _ _ _ _ ⟨eL [(1, .int .i64 x_1), (2, .ptr 0 0), (4, .ptr 1 0), (6, .ptr 2 0), (7, .int .i64 (k_4 : Int))], hL [(0, .box [.int .i64 x_0.Limits.e0, .int .i64 x_0.Limits.e1, .int .i64 x_0.Limits.e2, .int .i64 x_0.Limits.e3, .int .i64 x_0.Next, .lst 5 (x_0.L.map encCheck)]), (1, .box [.int .i64 (0 : Int), .int .i64 (0 : Int), .int .i64 (0 : Int), .int .i64 (0 : Int), .int .i64 (0 : Int), .nils]), (2, .box [.int .i64 x_0.Limits.e0, .int .i64 x_0.Limits.e1, .int .i64 x_0.Limits.e2, .int .i64 x_0.Limits.e3, .int .i64 i_1, .osl 3]), (3, .row 5 (a_2.map encCheck))], 4⟩
      conv => whnf
      refine len_q (enc := encCheck) (l := x_0.L) rfl ?_
      conv => whnf
      refine ⟨fun h => ?_, fun h => ?_⟩
      · have hlt_k_4 : k_4 < x_0.L.length := by have h := of_decide_eq_true h; omega
        obtain ⟨e_5, h_e_5⟩ : ∃ y, x_0.L[k_4]? = some y := ⟨_, List.getElem?_eq_getElem hlt_k_4⟩
        rw [drop_cons h_e_5, ref15_Expire_L1.eq_2] at hL1
        conv => whnf
        refine ⟨k_4, _, rfl, ix_map h_e_5, ?_⟩
        conv => whnf
        refine ⟨fun hb_16 => ?_, fun hb_16 => ?_⟩
        · replace hL1 := cond_t hb_16 hL1
          conv => whnf
          obtain ⟨r_6, h_r_6, hL1⟩ := bind_some hL1
          refine ⟨_, _, _, _, _, _, _, _, _, callX false [] [] 0 Try.func45 (by decide) rfl (ref15_deadline_ac x_0 e_5 r_6 h_r_6) rfl ⟨(argE (by (conv => lhs; whnf); all_goals rfl) rfl), (argE (by (conv => lhs; whnf); all_goals rfl) rfl), trivial⟩ rfl trivial rfl rfl rfl lend0 trivial rfl, ?_⟩
          conv => whnf
          refine ⟨fun hb_17 => ?_, fun hb_17 => ?_⟩
          · replace hL1 := cond_t hb_17 hL1
            conv => whnf
            obtain ⟨r_7, h_r_7, hL1⟩ := bind_some hL1
            refine ⟨_, _, _, _, _, _, _, _, _, callX false [] [] 0 Try.func46 (by decide) rfl (ref15_fail_ac e_5 i_1 x_1 r_7 h_r_7) rfl ⟨(argE (by (conv => lhs; whnf); all_goals rfl) rfl), (argE (by (conv => lhs; whnf); all_goals rfl) rfl), (argE (by (conv => lhs; whnf); all_goals rfl) rfl), trivial⟩ rfl trivial rfl rfl rfl lend0 trivial rfl, ?_⟩
            conv => whnf
            obtain ⟨l_8, h_l_8, hL1⟩ := bind_some hL1
            refine ap_q (enc := encCheck) (l := a_2) (y := ([r_7.1] : List Check)) h_l_8 rfl rfl (by decide) ?_
            conv => whnf
            refine ⟨((k_4 + 1 : Nat) : Int), wrapE (by omega) (by omega) (by omega), ?_⟩
            conv => whnf
            exact ⟨(k_4 + 1, r_7.2, l_8), [0, 1, 2, 8], [], [], ⟨hlt_k_4, hL1⟩, by show x_0.L.length - (k_4 + 1) < x_0.L.length - k_4; omega, wk_mk [0, 1, 2, 8] [] [] rfl ⟨argE (by (conv => lhs; whnf); all_goals rfl) rfl, argP (id := 0) (by (conv => lhs; whnf); all_goals rfl) rfl, argP (id := 1) (by (conv => lhs; whnf); all_goals rfl) rfl, argP (id := 2) (by (conv => lhs; whnf); all_goals rfl) rfl, argE (by (conv => lhs; whnf); all_goals rfl) rfl, trivial⟩ ⟨boxL rfl rfl rfl ⟨(.ni _ rfl), (.ni _ rfl), (.ni _ rfl), (.ni _ rfl), (.ni _ rfl), (.ni _ rfl), trivial⟩, boxL rfl rfl rfl ⟨(.ni _ rfl), (.ni _ rfl), (.ni _ rfl), (.ni _ rfl), (.ni _ rfl), (.ni _ rfl), trivial⟩, boxL rfl rfl rfl ⟨(.ni _ rfl), (.ni _ rfl), (.ni _ rfl), (.ni _ rfl), (.ni _ rfl), (.oslg 8 3 rfl), trivial⟩, blkR (fun _ => ⟨rfl, rfl⟩) rfl rfl, trivial⟩⟩
          · replace hL1 := cond_f hb_17 hL1
            conv => whnf
            obtain ⟨l_9, h_l_9, hL1⟩ := bind_some hL1
            refine ap_q (enc := encCheck) (l := a_2) (y := ([e_5] : List Check)) h_l_9 rfl rfl (by decide) ?_
            conv => whnf
            refine ⟨((k_4 + 1 : Nat) : Int), wrapE (by omega) (by omega) (by omega), ?_⟩
            conv => whnf
            exact ⟨(k_4 + 1, i_1, l_9), [0, 1, 2, 7], [], [], ⟨hlt_k_4, hL1⟩, by show x_0.L.length - (k_4 + 1) < x_0.L.length - k_4; omega, wk_mk [0, 1, 2, 7] [] [] rfl ⟨argE (by (conv => lhs; whnf); all_goals rfl) rfl, argP (id := 0) (by (conv => lhs; whnf); all_goals rfl) rfl, argP (id := 1) (by (conv => lhs; whnf); all_goals rfl) rfl, argP (id := 2) (by (conv => lhs; whnf); all_goals rfl) rfl, argE (by (conv => lhs; whnf); all_goals rfl) rfl, trivial⟩ ⟨boxL rfl rfl rfl ⟨(.ni _ rfl), (.ni _ rfl), (.ni _ rfl), (.ni _ rfl), (.ni _ rfl), (.ni _ rfl), trivial⟩, boxL rfl rfl rfl ⟨(.ni _ rfl), (.ni _ rfl), (.ni _ rfl), (.ni _ rfl), (.ni _ rfl), (.ni _ rfl), trivial⟩, boxL rfl rfl rfl ⟨(.ni _ rfl), (.ni _ rfl), (.ni _ rfl), (.ni _ rfl), (.ni _ rfl), (.oslg 7 3 rfl), trivial⟩, blkR (fun _ => ⟨rfl, rfl⟩) rfl rfl, trivial⟩⟩
        · replace hL1 := cond_f hb_16 hL1
          conv => whnf
          obtain ⟨l_10, h_l_10, hL1⟩ := bind_some hL1
          refine ap_q (enc := encCheck) (l := a_2) (y := ([e_5] : List Check)) h_l_10 rfl rfl (by decide) ?_
          conv => whnf
          refine ⟨((k_4 + 1 : Nat) : Int), wrapE (by omega) (by omega) (by omega), ?_⟩
          conv => whnf
          exact ⟨(k_4 + 1, i_1, l_10), [0, 1, 2, 6], [], [], ⟨hlt_k_4, hL1⟩, by show x_0.L.length - (k_4 + 1) < x_0.L.length - k_4; omega, wk_mk [0, 1, 2, 6] [] [] rfl ⟨argE (by (conv => lhs; whnf); all_goals rfl) rfl, argP (id := 0) (by (conv => lhs; whnf); all_goals rfl) rfl, argP (id := 1) (by (conv => lhs; whnf); all_goals rfl) rfl, argP (id := 2) (by (conv => lhs; whnf); all_goals rfl) rfl, argE (by (conv => lhs; whnf); all_goals rfl) rfl, trivial⟩ ⟨boxL rfl rfl rfl ⟨(.ni _ rfl), (.ni _ rfl), (.ni _ rfl), (.ni _ rfl), (.ni _ rfl), (.ni _ rfl), trivial⟩, boxL rfl rfl rfl ⟨(.ni _ rfl), (.ni _ rfl), (.ni _ rfl), (.ni _ rfl), (.ni _ rfl), (.ni _ rfl), trivial⟩, boxL rfl rfl rfl ⟨(.ni _ rfl), (.ni _ rfl), (.ni _ rfl), (.ni _ rfl), (.ni _ rfl), (.oslg 6 3 rfl), trivial⟩, blkR (fun _ => ⟨rfl, rfl⟩) rfl rfl, trivial⟩⟩
      · rw [drop_nil (show x_0.L.length ≤ k_4 by have h := of_decide_eq_false h; omega), ref15_Expire_L1.eq_1] at hL1
        conv => whnf
        obtain rfl := Option.some.inj hL1
        replace hF := fin_brk hF
        try dsimp only at hF
        refine ⟨fun hb_18 => ?_, fun hb_18 => ?_⟩
        · replace hF := cond_t hb_18 hF
          conv => whnf
          obtain rfl := Option.some.inj hF
          exact ret_gz [] [] [] rfl (tupL rfl ⟨(argA (c := [.int .i64 (0 : Int), .int .i64 (0 : Int), .int .i64 (0 : Int), .int .i64 (0 : Int), .int .i64 (0 : Int), .nils]) (by (conv => lhs; whnf); all_goals rfl) rfl ⟨(.ni _ rfl), (.ni _ rfl), (.ni _ rfl), (.ni _ rfl), (.ni _ rfl), (.nils _), trivial⟩), (argE (by (conv => lhs; whnf); all_goals rfl) rfl), trivial⟩) trivial
        · replace hF := cond_f hb_18 hF
          conv => whnf
          obtain rfl := Option.some.inj hF
          exact ret_gz [] [] [3] rfl (tupL rfl ⟨(argA (c := [.int .i64 x_0.Limits.e0, .int .i64 x_0.Limits.e1, .int .i64 x_0.Limits.e2, .int .i64 x_0.Limits.e3, .int .i64 i_1, .osl 3]) (by (conv => lhs; whnf); all_goals rfl) rfl ⟨(.ni _ rfl), (.ni _ rfl), (.ni _ rfl), (.ni _ rfl), (.ni _ rfl), (.osl 3 5 _ (by simp) rfl (map_ni (fun _ => ⟨rfl, rfl⟩) _)), trivial⟩), (argE (by (conv => lhs; whnf); all_goals rfl) rfl), trivial⟩) trivial
  · replace hF := cond_t hb_14 hF
    conv => whnf
    obtain rfl := Option.some.inj hF
    exact ret_gz [] [] [] rfl (tupL rfl ⟨(argA (c := [.int .i64 (0 : Int), .int .i64 (0 : Int), .int .i64 (0 : Int), .int .i64 (0 : Int), .int .i64 (0 : Int), .nils]) (by (conv => lhs; whnf); all_goals rfl) rfl ⟨(.ni _ rfl), (.ni _ rfl), (.ni _ rfl), (.ni _ rfl), (.ni _ rfl), (.nils _), trivial⟩), (argE (by (conv => lhs; whnf); all_goals rfl) rfl), trivial⟩) trivial

set_option maxRecDepth 100000 in
set_option maxHeartbeats 40000000 in
theorem screen_Expire_v2_ac (x_0 : Screening) (x_1 : Int) (r : Screening × Int) (hF : screen_Expire_v2 x_0 x_1 = some r) : AC Try.prog 13 [.agg (encScreening x_0), .int .i64 x_1] [] (.tup [.agg [.int .i64 r.1.Limits.e0, .int .i64 r.1.Limits.e1, .int .i64 r.1.Limits.e2, .int .i64 r.1.Limits.e3, .int .i64 r.1.Next, .osl 0], .int .i64 r.2]) [.row 5 (r.1.L.map encCheck)] := by
  refine ac_of tab_ok follows_ok Try.func13 rfl Try.ntmps13 rfl ?_
  unfold screen_Expire_v2 at hF
  conv => whnf
  obtain ⟨r_1, h_r_1, hF⟩ := bind_some hF
  refine ⟨_, _, _, _, _, _, _, _, _, callX false [] [] 0 Try.func33 (by decide) rfl (screen_timed_ac x_1 r_1 h_r_1) rfl ⟨(argE (by (conv => lhs; whnf); all_goals rfl) rfl), trivial⟩ rfl trivial rfl rfl rfl lend0 trivial rfl, ?_⟩
  conv => whnf
  refine ⟨fun hb_13 => ?_, fun hb_13 => ?_⟩
  · replace hF := cond_t hb_13 hF
    conv => whnf
    obtain rfl := Option.some.inj hF
    exact ret_gz [] [0] [] rfl (tupL rfl ⟨(argA (c := [.int .i64 (0 : Int), .int .i64 (0 : Int), .int .i64 (0 : Int), .int .i64 (0 : Int), .int .i64 (0 : Int), .nils]) (by (conv => lhs; whnf); all_goals rfl) rfl ⟨(.ni _ rfl), (.ni _ rfl), (.ni _ rfl), (.ni _ rfl), (.ni _ rfl), (.nilz 0 (by simp)), trivial⟩), (argE (by (conv => lhs; whnf); all_goals rfl) rfl), trivial⟩) ⟨blkZ rfl, trivial⟩
  · replace hF := cond_f hb_13 hF
    conv => whnf
    obtain ⟨r_2, h_r_2, hF⟩ := bind_some hF
    refine ⟨_, _, _, _, _, _, _, _, _, callX false [] [] 1 Try.func35 (by decide) rfl (screen_clone_ac x_0 r_2 h_r_2) rfl ⟨(argE (by (conv => lhs; whnf); all_goals rfl) rfl), trivial⟩ rfl trivial rfl rfl rfl lend0 ⟨renR (fun _ => ⟨rfl, rfl⟩), trivial⟩ rfl, ?_⟩
    conv => whnf
    refine len_q (enc := encCheck) (l := r_2.L) rfl ?_
    conv => whnf
    obtain ⟨c_1, hc_1, hF⟩ := fin_some hF
    refine sw_br 3 (sz := 5) (xs := r_2.L.map encCheck) (by (conv => lhs; whnf); all_goals rfl) (fun hb => ?_)
    have hbd_k_10 : r_2.L.length ≤ 9223372036854775807 := bnd_len (enc := encCheck) (hb)
    refine sw_loop tab_ok follows_ok (fun y : Nat × Int × Int × Int × Int × Int × (List Check) => y.1 ≤ r_2.L.length ∧ screen_Expire_v2_L1 x_0 x_1 (r_2.L.drop y.1) y.1 y.2.1 y.2.2.1 y.2.2.2.1 y.2.2.2.2.1 y.2.2.2.2.2.1 y.2.2.2.2.2.2 = some c_1) (fun y => ⟨eL [(1, .int .i64 x_1), (2, .ptr 0 0), (4, .ptr 1 0), (6, .ptr 2 0), (21, .osl 3), (22, .int .i64 (r_2.L.length : Int)), (23, .int .i64 (y.1 : Int))], hL [(0, .box [.int .i64 x_0.Limits.e0, .int .i64 x_0.Limits.e1, .int .i64 x_0.Limits.e2, .int .i64 x_0.Limits.e3, .int .i64 x_0.Next, .lst 5 (x_0.L.map encCheck)]), (1, .box [.int .i64 (0 : Int), .int .i64 (0 : Int), .int .i64 (0 : Int), .int .i64 (0 : Int), .int .i64 (0 : Int), .nils]), (2, .box [.int .i64 y.2.1, .int .i64 y.2.2.1, .int .i64 y.2.2.2.1, .int .i64 y.2.2.2.2.1, .int .i64 y.2.2.2.2.2.1, .osl 3]), (3, .row 5 (y.2.2.2.2.2.2.map encCheck))], 4⟩) (fun y => r_2.L.length - y.1) (0, r_2.Limits.e0, r_2.Limits.e1, r_2.Limits.e2, r_2.Limits.e3, r_2.Next, r_2.L) ⟨Nat.zero_le _, hc_1⟩ (wk_mk [0, 1, 5, 3] [] [] rfl ⟨argE (by (conv => lhs; whnf); all_goals rfl) rfl, argP (id := 0) (by (conv => lhs; whnf); all_goals rfl) rfl, argP (id := 1) (by (conv => lhs; whnf); all_goals rfl) rfl, argP (id := 5) (by (conv => lhs; whnf); all_goals rfl) rfl, argO (id := 3) (by (conv => lhs; whnf); all_goals rfl) rfl, argE (by (conv => lhs; whnf); all_goals rfl) rfl, argE (by (conv => lhs; whnf); all_goals rfl) rfl, trivial⟩ ⟨boxL rfl rfl rfl ⟨(.ni _ rfl), (.ni _ rfl), (.ni _ rfl), (.ni _ rfl), (.ni _ rfl), (.ni _ rfl), trivial⟩, boxL rfl rfl rfl ⟨(.ni _ rfl), (.ni _ rfl), (.ni _ rfl), (.ni _ rfl), (.ni _ rfl), (.ni _ rfl), trivial⟩, boxL rfl rfl rfl ⟨(.ni _ rfl), (.ni _ rfl), (.ni _ rfl), (.ni _ rfl), (.ni _ rfl), (.oslg 3 3 rfl), trivial⟩, blkR (fun _ => ⟨rfl, rfl⟩) rfl rfl, trivial⟩) ?_
    rintro ⟨k_10, i_3, i_4, i_5, i_6, i_7, a_8⟩ ⟨hk_k_10, hL1⟩
    try dsimp only at hk_k_10 hL1
    show awp _ _ _ _ _ _ ⟨eL [(1, .int .i64 x_1), (2, .ptr 0 0), (4, .ptr 1 0), (6, .ptr 2 0), (21, .osl 3), (22, .int .i64 (r_2.L.length : Int)), (23, .int .i64 (k_10 : Int))], hL [(0, .box [.int .i64 x_0.Limits.e0, .int .i64 x_0.Limits.e1, .int .i64 x_0.Limits.e2, .int .i64 x_0.Limits.e3, .int .i64 x_0.Next, .lst 5 (x_0.L.map encCheck)]), (1, .box [.int .i64 (0 : Int), .int .i64 (0 : Int), .int .i64 (0 : Int), .int .i64 (0 : Int), .int .i64 (0 : Int), .nils]), (2, .box [.int .i64 i_3, .int .i64 i_4, .int .i64 i_5, .int .i64 i_6, .int .i64 i_7, .osl 3]), (3, .row 5 (a_8.map encCheck))], 4⟩
    conv => whnf
    refine ⟨fun h => ?_, fun h => ?_⟩
    · have hlt_k_10 : k_10 < r_2.L.length := by have h := of_decide_eq_true h; omega
      obtain ⟨e_11, h_e_11⟩ : ∃ y, r_2.L[k_10]? = some y := ⟨_, List.getElem?_eq_getElem hlt_k_10⟩
      rw [drop_cons h_e_11, screen_Expire_v2_L1.eq_2] at hL1
      conv => whnf
      obtain ⟨e_12, h_e_12, hL1⟩ := bind_some hL1
      refine ixo_q (enc := encCheck) (l := a_8) h_e_12 rfl (fun m_e_12 hm_e_12 hx_e_12 => ?_)
      conv => whnf
      refine ⟨_, ix_map (enc := encCheck) hx_e_12, ?_⟩
      conv => whnf
      refine ⟨fun hb_14 => ?_, fun hb_14 => ?_⟩
      · replace hL1 := cond_t hb_14 hL1
        conv => whnf
        obtain ⟨r_13, h_r_13, hL1⟩ := bind_some hL1
        refine ⟨_, _, _, _, _, _, _, _, _, callX false [] [] 0 Try.func37 (by decide) rfl (screen_deadline_ac x_0 e_12 r_13 h_r_13) rfl ⟨(argE (by (conv => lhs; whnf); all_goals rfl) rfl), (argE (by (conv => lhs; whnf); all_goals rfl) rfl), trivial⟩ rfl trivial rfl rfl rfl lend0 trivial rfl, ?_⟩
        conv => whnf
        refine ⟨fun hb_15 => ?_, fun hb_15 => ?_⟩
        · replace hL1 := cond_t hb_15 hL1
          conv => whnf
          obtain ⟨r_14, h_r_14, hL1⟩ := bind_some hL1
          refine ⟨_, _, _, _, _, _, _, _, _, callY false [.box [.int .i64 r_14.s.Limits.e0, .int .i64 r_14.s.Limits.e1, .int .i64 r_14.s.Limits.e2, .int .i64 r_14.s.Limits.e3, .int .i64 r_14.s.Next, .osl 3], .row 5 (r_14.s.L.map encCheck)] [2, 3] [] 0 Try.func38 (by decide) rfl (screen_keeper_fail_ac (⟨(⟨(⟨i_3, i_4, i_5, i_6⟩ : A4_Int), i_7, a_8⟩ : Screening)⟩ : Keeper) (k_10 : Int) x_1 r_14 h_r_14) rfl ⟨(argP (id := 2) (by (conv => lhs; whnf); all_goals rfl) rfl), (argE (by (conv => lhs; whnf); all_goals rfl) rfl), (argE (by (conv => lhs; whnf); all_goals rfl) rfl), trivial⟩ rfl ⟨rfl, (grR (fun _ => ⟨rfl, rfl⟩) rfl), trivial⟩ rfl rfl rfl lend0 rfl ⟨rfl, renR (fun _ => ⟨rfl, rfl⟩), trivial⟩ rfl, ?_⟩
          conv => whnf
          refine ⟨((k_10 + 1 : Nat) : Int), wrapE (by omega) (by omega) (by omega), ?_⟩
          conv => whnf
          exact ⟨(k_10 + 1, r_14.s.Limits.e0, r_14.s.Limits.e1, r_14.s.Limits.e2, r_14.s.Limits.e3, r_14.s.Next, r_14.s.L), [0, 1, 2, 3], [], [], ⟨hlt_k_10, hL1⟩, by show r_2.L.length - (k_10 + 1) < r_2.L.length - k_10; omega, wk_mk [0, 1, 2, 3] [] [] rfl ⟨argE (by (conv => lhs; whnf); all_goals rfl) rfl, argP (id := 0) (by (conv => lhs; whnf); all_goals rfl) rfl, argP (id := 1) (by (conv => lhs; whnf); all_goals rfl) rfl, argP (id := 2) (by (conv => lhs; whnf); all_goals rfl) rfl, argO (id := 3) (by (conv => lhs; whnf); all_goals rfl) rfl, argE (by (conv => lhs; whnf); all_goals rfl) rfl, argE (by (conv => lhs; whnf); all_goals rfl) rfl, trivial⟩ ⟨boxL rfl rfl rfl ⟨(.ni _ rfl), (.ni _ rfl), (.ni _ rfl), (.ni _ rfl), (.ni _ rfl), (.ni _ rfl), trivial⟩, boxL rfl rfl rfl ⟨(.ni _ rfl), (.ni _ rfl), (.ni _ rfl), (.ni _ rfl), (.ni _ rfl), (.ni _ rfl), trivial⟩, boxL rfl rfl rfl ⟨(.ni _ rfl), (.ni _ rfl), (.ni _ rfl), (.ni _ rfl), (.ni _ rfl), (.oslg 3 3 rfl), trivial⟩, blkR (fun _ => ⟨rfl, rfl⟩) rfl rfl, trivial⟩⟩
        · replace hL1 := cond_f hb_15 hL1
          conv => whnf
          refine ⟨((k_10 + 1 : Nat) : Int), wrapE (by omega) (by omega) (by omega), ?_⟩
          conv => whnf
          exact ⟨(k_10 + 1, i_3, i_4, i_5, i_6, i_7, a_8), [0, 1, 2, 3], [], [], ⟨hlt_k_10, hL1⟩, by show r_2.L.length - (k_10 + 1) < r_2.L.length - k_10; omega, wk_mk [0, 1, 2, 3] [] [] rfl ⟨argE (by (conv => lhs; whnf); all_goals rfl) rfl, argP (id := 0) (by (conv => lhs; whnf); all_goals rfl) rfl, argP (id := 1) (by (conv => lhs; whnf); all_goals rfl) rfl, argP (id := 2) (by (conv => lhs; whnf); all_goals rfl) rfl, argO (id := 3) (by (conv => lhs; whnf); all_goals rfl) rfl, argE (by (conv => lhs; whnf); all_goals rfl) rfl, argE (by (conv => lhs; whnf); all_goals rfl) rfl, trivial⟩ ⟨boxL rfl rfl rfl ⟨(.ni _ rfl), (.ni _ rfl), (.ni _ rfl), (.ni _ rfl), (.ni _ rfl), (.ni _ rfl), trivial⟩, boxL rfl rfl rfl ⟨(.ni _ rfl), (.ni _ rfl), (.ni _ rfl), (.ni _ rfl), (.ni _ rfl), (.ni _ rfl), trivial⟩, boxL rfl rfl rfl ⟨(.ni _ rfl), (.ni _ rfl), (.ni _ rfl), (.ni _ rfl), (.ni _ rfl), (.oslg 3 3 rfl), trivial⟩, blkR (fun _ => ⟨rfl, rfl⟩) rfl rfl, trivial⟩⟩
      · replace hL1 := cond_f hb_14 hL1
        conv => whnf
        refine ⟨((k_10 + 1 : Nat) : Int), wrapE (by omega) (by omega) (by omega), ?_⟩
        conv => whnf
        exact ⟨(k_10 + 1, i_3, i_4, i_5, i_6, i_7, a_8), [0, 1, 2, 3], [], [], ⟨hlt_k_10, hL1⟩, by show r_2.L.length - (k_10 + 1) < r_2.L.length - k_10; omega, wk_mk [0, 1, 2, 3] [] [] rfl ⟨argE (by (conv => lhs; whnf); all_goals rfl) rfl, argP (id := 0) (by (conv => lhs; whnf); all_goals rfl) rfl, argP (id := 1) (by (conv => lhs; whnf); all_goals rfl) rfl, argP (id := 2) (by (conv => lhs; whnf); all_goals rfl) rfl, argO (id := 3) (by (conv => lhs; whnf); all_goals rfl) rfl, argE (by (conv => lhs; whnf); all_goals rfl) rfl, argE (by (conv => lhs; whnf); all_goals rfl) rfl, trivial⟩ ⟨boxL rfl rfl rfl ⟨(.ni _ rfl), (.ni _ rfl), (.ni _ rfl), (.ni _ rfl), (.ni _ rfl), (.ni _ rfl), trivial⟩, boxL rfl rfl rfl ⟨(.ni _ rfl), (.ni _ rfl), (.ni _ rfl), (.ni _ rfl), (.ni _ rfl), (.ni _ rfl), trivial⟩, boxL rfl rfl rfl ⟨(.ni _ rfl), (.ni _ rfl), (.ni _ rfl), (.ni _ rfl), (.ni _ rfl), (.oslg 3 3 rfl), trivial⟩, blkR (fun _ => ⟨rfl, rfl⟩) rfl rfl, trivial⟩⟩
    · rw [drop_nil (show r_2.L.length ≤ k_10 by have h := of_decide_eq_false h; omega), screen_Expire_v2_L1.eq_1] at hL1
      conv => whnf
      obtain rfl := Option.some.inj hL1
      replace hF := fin_brk hF
      try dsimp only at hF
      refine ⟨by kernel_rfl, ?_⟩
      conv => whnf
      refine ⟨fun hb_16 => ?_, fun hb_16 => ?_⟩
      · replace hF := cond_t hb_16 hF
        conv => whnf
        obtain rfl := Option.some.inj hF
        exact ret_gz [] [0] [] rfl (tupL rfl ⟨(argA (c := [.int .i64 (0 : Int), .int .i64 (0 : Int), .int .i64 (0 : Int), .int .i64 (0 : Int), .int .i64 (0 : Int), .nils]) (by (conv => lhs; whnf); all_goals rfl) rfl ⟨(.ni _ rfl), (.ni _ rfl), (.ni _ rfl), (.ni _ rfl), (.ni _ rfl), (.nilz 0 (by simp)), trivial⟩), (argE (by (conv => lhs; whnf); all_goals rfl) rfl), trivial⟩) ⟨blkZ rfl, trivial⟩
      · replace hF := cond_f hb_16 hF
        conv => whnf
        obtain rfl := Option.some.inj hF
        exact ret_gz [3] [] [] rfl (tupL rfl ⟨(argA (c := [.int .i64 i_3, .int .i64 i_4, .int .i64 i_5, .int .i64 i_6, .int .i64 i_7, .osl 3]) (by (conv => lhs; whnf); all_goals rfl) rfl ⟨(.ni _ rfl), (.ni _ rfl), (.ni _ rfl), (.ni _ rfl), (.ni _ rfl), (.oslg 3 0 rfl), trivial⟩), (argE (by (conv => lhs; whnf); all_goals rfl) rfl), trivial⟩) ⟨blkR (fun _ => ⟨rfl, rfl⟩) rfl rfl, trivial⟩

set_option maxRecDepth 100000 in
set_option maxHeartbeats 40000000 in
theorem screen_Verdict_f1_ac (x_0 : Check) (x_1 : Int) (x_2 : Screening) (r : Bool) (hF : screen_Verdict_f1 x_0 x_1 x_2 = some r) : AC Try.prog 40 [.agg (encCheck x_0), .iptr [.int .i64 x_1], .iptr [.int .i64 x_2.Limits.e0, .int .i64 x_2.Limits.e1, .int .i64 x_2.Limits.e2, .int .i64 x_2.Limits.e3, .int .i64 x_2.Next, .lst 5 (x_2.L.map encCheck)]] [] (.bool r) [] := by
  refine ac_of tab_ok follows_ok Try.func40 rfl Try.ntmps40 rfl ?_
  unfold screen_Verdict_f1 at hF
  conv => whnf
  refine ⟨fun hb_3 => ?_, fun hb_3 => ?_⟩
  · replace hF := cond_t hb_3 hF
    conv => whnf
    refine ⟨fun hb_4 => ?_, fun hb_4 => ?_⟩
    · replace hF := cond_t hb_4 hF
      conv => whnf
      obtain rfl := Option.some.inj hF
      exact ret_gz [] [] [] rfl (argE (by (conv => lhs; whnf); all_goals rfl) rfl) trivial
    · replace hF := cond_f hb_4 hF
      conv => whnf
      obtain rfl := Option.some.inj hF
      exact ret_gz [] [] [] rfl (argFl (by (conv => lhs; whnf); all_goals rfl)) trivial
  · replace hF := cond_f hb_3 hF
    conv => whnf
    obtain rfl := Option.some.inj hF
    exact ret_gz [] [] [] rfl (argFl (by (conv => lhs; whnf); all_goals rfl)) trivial

set_option maxRecDepth 100000 in
set_option maxHeartbeats 40000000 in
theorem slices_IndexFunc_Check_ac (x_0 : (List Check)) (x_1 : Int) (x_2 : Screening) (r : Int) (hF : slices_IndexFunc_Check x_0 x_1 x_2 = some r) : AC Try.prog 39 [.lst 5 (x_0.map encCheck), .fn 40 [.iptr [.int .i64 x_1], .iptr [.int .i64 x_2.Limits.e0, .int .i64 x_2.Limits.e1, .int .i64 x_2.Limits.e2, .int .i64 x_2.Limits.e3, .int .i64 x_2.Next, .lst 5 (x_2.L.map encCheck)]]] [] (.int .i64 r) [] := by
  refine ac_of tab_ok follows_ok Try.func39 rfl Try.ntmps39 rfl ?_
  unfold slices_IndexFunc_Check at hF
  conv => whnf
  refine len_q (enc := encCheck) (l := x_0) rfl ?_
  conv => whnf
  obtain ⟨c_1, hc_1, hF⟩ := fin_some hF
  refine sw_bv 0 (v := .lst 5 (x_0.map encCheck)) (by (conv => lhs; whnf); all_goals rfl) (fun hb => ?_)
  have hbd_k_2 : x_0.length ≤ 9223372036854775807 := bnd_len (enc := encCheck) (hb)
  refine sw_loop tab_ok follows_ok (fun y : Nat => y ≤ x_0.length ∧ slices_IndexFunc_Check_L1 x_1 x_2 (x_0.drop y) y = some c_1) (fun y => ⟨eL [(0, .lst 5 (x_0.map encCheck)), (1, .fn 40 [.iptr [.int .i64 x_1], .iptr [.int .i64 x_2.Limits.e0, .int .i64 x_2.Limits.e1, .int .i64 x_2.Limits.e2, .int .i64 x_2.Limits.e3, .int .i64 x_2.Next, .lst 5 (x_2.L.map encCheck)]]), (7, .int .i64 (x_0.length : Int)), (8, .int .i64 (y : Int))], hL [], 0⟩) (fun y => x_0.length - y) 0 ⟨Nat.zero_le _, hc_1⟩ (wk_mk [] [] [] rfl ⟨argE (by (conv => lhs; whnf); all_goals rfl) rfl, argE (by (conv => lhs; whnf); all_goals rfl) rfl, argE (by (conv => lhs; whnf); all_goals rfl) rfl, argE (by (conv => lhs; whnf); all_goals rfl) rfl, trivial⟩ trivial) ?_
  rintro k_2 ⟨hk_k_2, hL1⟩
  try dsimp only at hk_k_2 hL1
  show awp _ _ _ _ _ _ ⟨eL [(0, .lst 5 (x_0.map encCheck)), (1, .fn 40 [.iptr [.int .i64 x_1], .iptr [.int .i64 x_2.Limits.e0, .int .i64 x_2.Limits.e1, .int .i64 x_2.Limits.e2, .int .i64 x_2.Limits.e3, .int .i64 x_2.Next, .lst 5 (x_2.L.map encCheck)]]), (7, .int .i64 (x_0.length : Int)), (8, .int .i64 (k_2 : Int))], hL [], 0⟩
  conv => whnf
  refine ⟨fun h => ?_, fun h => ?_⟩
  · have hlt_k_2 : k_2 < x_0.length := by have h := of_decide_eq_true h; omega
    obtain ⟨e_3, h_e_3⟩ : ∃ y, x_0[k_2]? = some y := ⟨_, List.getElem?_eq_getElem hlt_k_2⟩
    rw [drop_cons h_e_3, slices_IndexFunc_Check_L1.eq_2] at hL1
    conv => whnf
    refine ⟨k_2, _, rfl, ix_map h_e_3, ?_⟩
    conv => whnf
    obtain ⟨r_4, h_r_4, hL1⟩ := bind_some hL1
    refine ⟨_, _, _, _, _, _, _, _, _, callX false [] [] 0 Try.func40 (by decide) rfl (screen_Verdict_f1_ac e_3 x_1 x_2 r_4 h_r_4) rfl ⟨(argE (by (conv => lhs; whnf); all_goals rfl) rfl), (argE (by (conv => lhs; whnf); all_goals rfl) rfl), (argE (by (conv => lhs; whnf); all_goals rfl) rfl), trivial⟩ rfl trivial rfl rfl rfl lend0 trivial rfl, ?_⟩
    conv => whnf
    refine ⟨fun hb_7 => ?_, fun hb_7 => ?_⟩
    · replace hL1 := cond_t hb_7 hL1
      conv => whnf
      obtain rfl := Option.some.inj hL1
      replace hF := fin_ret hF
      obtain rfl := Option.some.inj hF
      exact ret_gz [] [] [] rfl (argE (by (conv => lhs; whnf); all_goals rfl) rfl) trivial
    · replace hL1 := cond_f hb_7 hL1
      conv => whnf
      refine ⟨((k_2 + 1 : Nat) : Int), wrapE (by omega) (by omega) (by omega), ?_⟩
      conv => whnf
      exact ⟨k_2 + 1, [], [], [], ⟨hlt_k_2, hL1⟩, by show x_0.length - (k_2 + 1) < x_0.length - k_2; omega, wk_mk [] [] [] rfl ⟨argE (by (conv => lhs; whnf); all_goals rfl) rfl, argE (by (conv => lhs; whnf); all_goals rfl) rfl, argE (by (conv => lhs; whnf); all_goals rfl) rfl, argE (by (conv => lhs; whnf); all_goals rfl) rfl, trivial⟩ trivial⟩
  · rw [drop_nil (show x_0.length ≤ k_2 by have h := of_decide_eq_false h; omega), slices_IndexFunc_Check_L1.eq_1] at hL1
    conv => whnf
    obtain rfl := Option.some.inj hL1
    replace hF := fin_brk hF
    try dsimp only at hF
    obtain rfl := Option.some.inj hF
    exact ret_gz [] [] [] rfl (argE (by (conv => lhs; whnf); all_goals rfl) rfl) trivial

set_option maxRecDepth 100000 in
set_option maxHeartbeats 40000000 in
theorem screen_Verdict_ac (x_0 : Screening) (x_1 : Int) (x_2 : Bool) (x_3 : Int) (r : Screening × Int × Int) (hF : screen_Verdict x_0 x_1 x_2 x_3 = some r) : AC Try.prog 14 [.agg (encScreening x_0), .int .i64 x_1, .bool x_2, .int .i64 x_3] [] (.tup [.agg (encScreening r.1), .int .i64 r.2.1, .int .i64 r.2.2]) [] := by
  refine ac_of tab_ok follows_ok Try.func14 rfl Try.ntmps14 rfl ?_
  unfold screen_Verdict at hF
  conv => whnf
  obtain ⟨r_1, h_r_1, hF⟩ := bind_some hF
  refine ⟨_, _, _, _, _, _, _, _, _, callX false [] [] 1 Try.func13 (by decide) rfl (screen_Expire_v2_ac x_0 x_3 r_1 h_r_1) rfl ⟨(argE (by (conv => lhs; whnf); all_goals rfl) rfl), (argE (by (conv => lhs; whnf); all_goals rfl) rfl), trivial⟩ rfl trivial rfl rfl rfl lend0 ⟨renR (fun _ => ⟨rfl, rfl⟩), trivial⟩ rfl, ?_⟩
  conv => whnf
  refine ⟨fun hb_5 => ?_, fun hb_5 => ?_⟩
  · replace hF := cond_t hb_5 hF
    conv => whnf
    obtain rfl := Option.some.inj hF
    exact ret_gz [] [] [] rfl (tupL rfl ⟨(argA (c := [.int .i64 (0 : Int), .int .i64 (0 : Int), .int .i64 (0 : Int), .int .i64 (0 : Int), .int .i64 (0 : Int), .nils]) (by (conv => lhs; whnf); all_goals rfl) rfl ⟨(.ni _ rfl), (.ni _ rfl), (.ni _ rfl), (.ni _ rfl), (.ni _ rfl), (.nils _), trivial⟩), (argE (by (conv => lhs; whnf); all_goals rfl) rfl), (argE (by (conv => lhs; whnf); all_goals rfl) rfl), trivial⟩) trivial
  · replace hF := cond_f hb_5 hF
    conv => whnf
    obtain ⟨r_2, h_r_2, hF⟩ := bind_some hF
    refine ⟨_, _, _, _, _, _, _, _, _, callX false [] [1, 0, 3] 0 Try.func39 (by decide) rfl (slices_IndexFunc_Check_ac r_1.1.L x_1 x_0 r_2 h_r_2) rfl ⟨(argOL 3 (by (conv => lhs; whnf); all_goals rfl) rfl rfl (map_ni (fun _ => ⟨rfl, rfl⟩) _)), (argFn (c := [.ptr 1 0, .ptr 0 0]) (by (conv => lhs; whnf); all_goals rfl) rfl ⟨(argIb 1 _ rfl rfl rfl rfl rfl), (argIb 0 _ rfl rfl rfl rfl rfl), trivial⟩), trivial⟩ rfl trivial rfl rfl rfl (lendF rfl) trivial rfl, ?_⟩
    conv => whnf
    refine ⟨fun hb_6 => ?_, fun hb_6 => ?_⟩
    · replace hF := cond_t hb_6 hF
      conv => whnf
      obtain rfl := Option.some.inj hF
      exact ret_gz [] [] [] rfl (tupL rfl ⟨(argA (c := [.int .i64 (0 : Int), .int .i64 (0 : Int), .int .i64 (0 : Int), .int .i64 (0 : Int), .int .i64 (0 : Int), .nils]) (by (conv => lhs; whnf); all_goals rfl) rfl ⟨(.ni _ rfl), (.ni _ rfl), (.ni _ rfl), (.ni _ rfl), (.ni _ rfl), (.nils _), trivial⟩), (argE (by (conv => lhs; whnf); all_goals rfl) rfl), (argE (by (conv => lhs; whnf); all_goals rfl) rfl), trivial⟩) trivial
    · replace hF := cond_f hb_6 hF
      conv => whnf
      obtain ⟨e_3, h_e_3, hF⟩ := bind_some hF
      refine ixo_q (enc := encCheck) (l := r_1.1.L) h_e_3 rfl (fun m_e_3 hm_e_3 hx_e_3 => ?_)
      conv => whnf
      refine ⟨_, ix_map (enc := encCheck) hx_e_3, ?_⟩
      conv => whnf
      refine ⟨fun hb_7 => ?_, fun hb_7 => ?_⟩
      · replace hF := cond_t hb_7 hF
        conv => whnf
        obtain ⟨e_4, h_e_4, hF⟩ := bind_some hF
        refine ixo_q (enc := encCheck) (l := r_1.1.L) h_e_4 rfl (fun m_e_4 hm_e_4 hx_e_4 => ?_)
        conv => whnf
        refine st_q (enc := encCheck) (l := r_1.1.L) (x' := (⟨e_4.Bag, e_4.Level, e_4.Since, e_4.Image, (2 : Int)⟩ : Check)) (i := r_2) hm_e_4 hx_e_4 rfl (Nat.le_of_ble_eq_true rfl) rfl ?_
        conv => whnf
        obtain rfl := Option.some.inj hF
        exact ret_gz [] [] [3] rfl (tupL rfl ⟨(argA (c := [.int .i64 r_1.1.Limits.e0, .int .i64 r_1.1.Limits.e1, .int .i64 r_1.1.Limits.e2, .int .i64 r_1.1.Limits.e3, .int .i64 r_1.1.Next, .osl 3]) (by (conv => lhs; whnf); all_goals rfl) rfl ⟨(.ni _ rfl), (.ni _ rfl), (.ni _ rfl), (.ni _ rfl), (.ni _ rfl), (.osl 3 5 _ (by simp) rfl (map_ni (fun _ => ⟨rfl, rfl⟩) _)), trivial⟩), (argE (by (conv => lhs; whnf); all_goals rfl) rfl), (argE (by (conv => lhs; whnf); all_goals rfl) rfl), trivial⟩) trivial
      · replace hF := cond_f hb_7 hF
        conv => whnf
        obtain ⟨r_5, h_r_5, hF⟩ := bind_some hF
        refine ⟨_, _, _, _, _, _, _, _, _, callY false [.box [.int .i64 r_5.s.Limits.e0, .int .i64 r_5.s.Limits.e1, .int .i64 r_5.s.Limits.e2, .int .i64 r_5.s.Limits.e3, .int .i64 r_5.s.Next, .osl 3], .row 5 (r_5.s.L.map encCheck)] [7, 3] [] 0 Try.func38 (by decide) rfl (screen_keeper_fail_ac (⟨r_1.1⟩ : Keeper) r_2 x_3 r_5 h_r_5) rfl ⟨(argP (id := 7) (by (conv => lhs; whnf); all_goals rfl) rfl), (argE (by (conv => lhs; whnf); all_goals rfl) rfl), (argE (by (conv => lhs; whnf); all_goals rfl) rfl), trivial⟩ rfl ⟨rfl, (grR (fun _ => ⟨rfl, rfl⟩) rfl), trivial⟩ rfl rfl rfl lend0 rfl ⟨rfl, renR (fun _ => ⟨rfl, rfl⟩), trivial⟩ rfl, ?_⟩
        conv => whnf
        refine ⟨by kernel_rfl, ?_⟩
        conv => whnf
        refine ⟨fun hb_8 => ?_, fun hb_8 => ?_⟩
        · replace hF := cond_t hb_8 hF
          conv => whnf
          obtain rfl := Option.some.inj hF
          exact ret_gz [] [] [] rfl (tupL rfl ⟨(argA (c := [.int .i64 (0 : Int), .int .i64 (0 : Int), .int .i64 (0 : Int), .int .i64 (0 : Int), .int .i64 (0 : Int), .nils]) (by (conv => lhs; whnf); all_goals rfl) rfl ⟨(.ni _ rfl), (.ni _ rfl), (.ni _ rfl), (.ni _ rfl), (.ni _ rfl), (.nils _), trivial⟩), (argE (by (conv => lhs; whnf); all_goals rfl) rfl), (argE (by (conv => lhs; whnf); all_goals rfl) rfl), trivial⟩) trivial
        · replace hF := cond_f hb_8 hF
          conv => whnf
          obtain rfl := Option.some.inj hF
          exact ret_gz [] [] [3] rfl (tupL rfl ⟨(argA (c := [.int .i64 r_5.s.Limits.e0, .int .i64 r_5.s.Limits.e1, .int .i64 r_5.s.Limits.e2, .int .i64 r_5.s.Limits.e3, .int .i64 r_5.s.Next, .osl 3]) (by (conv => lhs; whnf); all_goals rfl) rfl ⟨(.ni _ rfl), (.ni _ rfl), (.ni _ rfl), (.ni _ rfl), (.ni _ rfl), (.osl 3 5 _ (by simp) rfl (map_ni (fun _ => ⟨rfl, rfl⟩) _)), trivial⟩), (argE (by (conv => lhs; whnf); all_goals rfl) rfl), (argE (by (conv => lhs; whnf); all_goals rfl) rfl), trivial⟩) trivial
end Go.Proofs.Ytidhgcgbdjjdlaa.Ex
