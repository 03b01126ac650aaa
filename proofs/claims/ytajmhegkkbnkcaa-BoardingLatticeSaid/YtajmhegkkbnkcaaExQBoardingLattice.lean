/- The functions of the program compute what was printed; walks printed by a program. -/
import Derived.Test.YtajmhegkkbnkcaaExF
import Derived.Test.YtajmhegkkbnkcaaExP1
import Derived.Test.YtajmhegkkbnkcaaExP2
namespace Go.Proofs.Ytajmhegkkbnkcaa.Ex
open Go.RowKit Go.Proofs.Ytajmhegkkbnkcaa.Ax
set_option linter.unusedVariables false
set_option linter.unusedSimpArgs false
set_option maxRecDepth 100000 in
set_option maxHeartbeats 40000000 in
theorem law25_BoardingLattice_ac (x_0 : (List Int)) (r : Bool) (hF : law25_BoardingLattice x_0 = some r) : AC Try.prog 8 [.lst 1 (x_0.map iA)] [] (.bool r) [] := by
  refine ac_of tab_ok follows_ok Try.func8 rfl Try.ntmps8 rfl ?_
  unfold law25_BoardingLattice at hF
  conv => whnf
  obtain ⟨r_1, h_r_1, hF⟩ := bind_some hF
  refine ⟨_, _, _, _, _, _, _, _, callX false [] [] Try.func11 (by decide) rfl (keep_New_ac x_0 r_1 h_r_1) rfl ⟨(argE (by (conv => lhs; whnf); all_goals rfl) rfl), trivial⟩ rfl trivial rfl rfl rfl lend0 ⟨rfl, trivial⟩, ?_⟩
  conv => whnf
  obtain ⟨c_1, hc_1, hF⟩ := fin_some hF
  refine sw_loop tab_ok follows_ok (fun y : Nat × (List Int) × Int × (List Manifest) × Int × (List Manifest) × (List Manifest) => law25_BoardingLattice_L1 y.1 y.2.1 y.2.2.1 y.2.2.2.1 y.2.2.2.2.1 y.2.2.2.2.2.1 y.2.2.2.2.2.2 = some c_1) (fun y => ⟨eL [(3, .ptr 0 0), (4, .ptr 1 0), (29, .int .i64 y.2.2.2.2.1)], hL [(0, .box [.lst 1 (y.2.1.map iA), .int .i64 y.2.2.1]), (1, .box [.lst 7 (y.2.2.2.1.map encManifest), .lst 7 (y.2.2.2.2.2.1.map encManifest), .lst 7 (y.2.2.2.2.2.2.map encManifest)])], 2⟩) (fun y => y.1) (9223372036854775807, r_1.L, r_1.At, ([] : List Manifest), (0 : Int), ([] : List Manifest), ([] : List Manifest)) hc_1 (wk_mk [0, 2] [] [] rfl ⟨argP (id := 0) (by (conv => lhs; whnf); all_goals rfl) rfl, argP (id := 2) (by (conv => lhs; whnf); all_goals rfl) rfl, argE (by (conv => lhs; whnf); all_goals rfl) rfl, trivial⟩ ⟨boxL rfl rfl rfl ⟨(.ni _ rfl), (.ni _ rfl), trivial⟩, boxL rfl rfl rfl ⟨(.nils _), (.nils _), (.nils _), trivial⟩, trivial⟩) ?_
  rintro ⟨q_23, a_2, i_3, a_4, i_7, a_5, a_6⟩ hL1
  try dsimp only at hL1
  rcases q_23 with _ | q_23
  · rw [law25_BoardingLattice_L1.eq_1] at hL1
    cases hL1
  rw [law25_BoardingLattice_L1.eq_2] at hL1
  show awp _ _ _ _ _ _ ⟨eL [(3, .ptr 0 0), (4, .ptr 1 0), (29, .int .i64 i_7)], hL [(0, .box [.lst 1 (a_2.map iA), .int .i64 i_3]), (1, .box [.lst 7 (a_4.map encManifest), .lst 7 (a_5.map encManifest), .lst 7 (a_6.map encManifest)])], 2⟩
  conv => whnf
  refine ⟨fun hb_247 => ?_, fun hb_247 => ?_⟩
  · replace hL1 := cond_t hb_247 hL1
    conv => whnf
    obtain ⟨r_8, h_r_8, hL1⟩ := bind_some hL1
    refine ⟨_, _, _, _, _, _, _, _, callX false [0] [] Try.func16 (by decide) rfl (keep_Src_N_ac (⟨a_2, i_3⟩ : Src) (6 : Int) r_8 h_r_8) rfl ⟨(argP (id := 0) (by (conv => lhs; whnf); all_goals rfl) rfl), (argE (by (conv => lhs; whnf); all_goals rfl) rfl), trivial⟩ rfl ⟨rfl, trivial⟩ rfl rfl rfl lend0 ⟨rfl, trivial⟩, ?_⟩
    conv => whnf
    obtain ⟨c_2, hc_2, hL1⟩ := sub_some hL1
    refine sw_loop tab_ok follows_ok (fun y : Nat × (List Int) × Int × (List Manifest) × Int × (List Manifest) × (List Manifest) => law25_BoardingLattice_L2 i_7 y.1 y.2.1 y.2.2.1 y.2.2.2.1 y.2.2.2.2.1 y.2.2.2.2.2.1 y.2.2.2.2.2.2 = some c_2) (fun y => ⟨eL [(3, .ptr 0 0), (4, .ptr 1 0), (5, .int .i64 i_7), (6, .int .i64 y.2.2.2.2.1), (29, .int .i64 i_7)], hL [(0, .box [.lst 1 (y.2.1.map iA), .int .i64 y.2.2.1]), (1, .box [.lst 7 (y.2.2.2.1.map encManifest), .lst 7 (y.2.2.2.2.2.1.map encManifest), .lst 7 (y.2.2.2.2.2.2.map encManifest)])], 2⟩) (fun y => y.1) (9223372036854775807, r_8.2.L, r_8.2.At, a_4, r_8.1, a_5, a_6) hc_2 (wk_mk [0, 1] [] [] rfl ⟨argP (id := 0) (by (conv => lhs; whnf); all_goals rfl) rfl, argP (id := 1) (by (conv => lhs; whnf); all_goals rfl) rfl, argE (by (conv => lhs; whnf); all_goals rfl) rfl, argE (by (conv => lhs; whnf); all_goals rfl) rfl, argE (by (conv => lhs; whnf); all_goals rfl) rfl, trivial⟩ ⟨boxL rfl rfl rfl ⟨(.ni _ rfl), (.ni _ rfl), trivial⟩, boxL rfl rfl rfl ⟨(.ni _ rfl), (.ni _ rfl), (.ni _ rfl), trivial⟩, trivial⟩) ?_
    rintro ⟨q_21, a_9, i_10, a_11, i_14, a_12, a_13⟩ hL2
    try dsimp only at hL2
    rcases q_21 with _ | q_21
    · rw [law25_BoardingLattice_L2.eq_1] at hL2
      cases hL2
    rw [law25_BoardingLattice_L2.eq_2] at hL2
    show awp _ _ _ _ _ _ ⟨eL [(3, .ptr 0 0), (4, .ptr 1 0), (5, .int .i64 i_7), (6, .int .i64 i_14), (29, .int .i64 i_7)], hL [(0, .box [.lst 1 (a_9.map iA), .int .i64 i_10]), (1, .box [.lst 7 (a_11.map encManifest), .lst 7 (a_12.map encManifest), .lst 7 (a_13.map encManifest)])], 2⟩
    conv => whnf
    refine ⟨fun hb_248 => ?_, fun hb_248 => ?_⟩
    · replace hL2 := cond_t hb_248 hL2
      conv => whnf
      refine (Bool.eq_false_or_eq_true (i_7 == (0 : Int))).elim (fun hi_249 => ?_) (fun hi_249 => ?_)
      · replace hL2 := cond_t hi_249 hL2
        refine ⟨0, eq_of_beq hi_249, by decide, ?_⟩
        conv => whnf
        obtain ⟨r_15, h_r_15, hL2⟩ := bind_some hL2
        refine ⟨_, _, _, _, _, _, _, _, callX false [0] [] Try.func21 (by decide) rfl (keep_Src_List_ac (⟨a_9, i_10⟩ : Src) r_15 h_r_15) rfl ⟨(argP (id := 0) (by (conv => lhs; whnf); all_goals rfl) rfl), trivial⟩ rfl ⟨rfl, trivial⟩ rfl rfl rfl lend0 ⟨rfl, trivial⟩, ?_⟩
        conv => whnf
        obtain ⟨r_16, h_r_16, hL2⟩ := bind_some hL2
        refine ⟨_, _, _, _, _, _, _, _, callX false [] [] Try.func25 (by decide) rfl (boarding_Apply_ac a_11 r_15.1 r_16 h_r_16) rfl ⟨(argE (by (conv => lhs; whnf); all_goals rfl) rfl), (argE (by (conv => lhs; whnf); all_goals rfl) rfl), trivial⟩ rfl trivial rfl rfl rfl lend0 trivial, ?_⟩
        conv => whnf
        refine ⟨by kernel_rfl, ?_⟩
        conv => whnf
        refine ⟨fun hb_250 => ?_, fun hb_250 => ?_⟩
        · replace hL2 := cond_t hb_250 hL2
          conv => whnf
          obtain rfl := Option.some.inj hL2
          replace hL1 := sub_ret hL1
          obtain rfl := Option.some.inj hL1
          replace hF := fin_ret hF
          obtain rfl := Option.some.inj hF
          exact ret_gz [] [] [] rfl (argFl (by (conv => lhs; whnf); all_goals rfl)) trivial
        · replace hL2 := cond_f hb_250 hL2
          conv => whnf
          refine (Bool.eq_false_or_eq_true (i_7 == (0 : Int))).elim (fun hi_251 => ?_) (fun hi_251 => ?_)
          · replace hL2 := cond_t hi_251 hL2
            refine ⟨0, eq_of_beq hi_251, by decide, ?_⟩
            conv => whnf
            refine ⟨_, rfl, ?_⟩
            conv => whnf
            exact ⟨(q_21, r_15.2.L, r_15.2.At, r_16.1, (w64 (i_14 - (1 : Int))), a_12, a_13), [0, 1], [], [], hL2, Nat.lt_succ_self _, wk_mk [0, 1] [] [] rfl ⟨argP (id := 0) (by (conv => lhs; whnf); all_goals rfl) rfl, argP (id := 1) (by (conv => lhs; whnf); all_goals rfl) rfl, argE (by (conv => lhs; whnf); all_goals rfl) rfl, argE (by (conv => lhs; whnf); all_goals rfl) rfl, argE (by (conv => lhs; whnf); all_goals rfl) rfl, trivial⟩ ⟨boxL rfl rfl rfl ⟨(.ni _ rfl), (.ni _ rfl), trivial⟩, boxL rfl rfl rfl ⟨(.ni _ rfl), (.ni _ rfl), (.ni _ rfl), trivial⟩, trivial⟩⟩
          · replace hL2 := cond_f hi_251 hL2
            refine (Bool.eq_false_or_eq_true (i_7 == (1 : Int))).elim (fun hi_252 => ?_) (fun hi_252 => ?_)
            · replace hL2 := cond_t hi_252 hL2
              refine ⟨1, eq_of_beq hi_252, by decide, ?_⟩
              conv => whnf
              refine ⟨_, rfl, ?_⟩
              conv => whnf
              exact ⟨(q_21, r_15.2.L, r_15.2.At, a_11, (w64 (i_14 - (1 : Int))), r_16.1, a_13), [0, 1], [], [], hL2, Nat.lt_succ_self _, wk_mk [0, 1] [] [] rfl ⟨argP (id := 0) (by (conv => lhs; whnf); all_goals rfl) rfl, argP (id := 1) (by (conv => lhs; whnf); all_goals rfl) rfl, argE (by (conv => lhs; whnf); all_goals rfl) rfl, argE (by (conv => lhs; whnf); all_goals rfl) rfl, argE (by (conv => lhs; whnf); all_goals rfl) rfl, trivial⟩ ⟨boxL rfl rfl rfl ⟨(.ni _ rfl), (.ni _ rfl), trivial⟩, boxL rfl rfl rfl ⟨(.ni _ rfl), (.ni _ rfl), (.ni _ rfl), trivial⟩, trivial⟩⟩
            · replace hL2 := cond_f hi_252 hL2
              refine (Bool.eq_false_or_eq_true (i_7 == (2 : Int))).elim (fun hi_253 => ?_) (fun hi_253 => ?_)
              · replace hL2 := cond_t hi_253 hL2
                refine ⟨2, eq_of_beq hi_253, by decide, ?_⟩
                conv => whnf
                refine ⟨_, rfl, ?_⟩
                conv => whnf
                exact ⟨(q_21, r_15.2.L, r_15.2.At, a_11, (w64 (i_14 - (1 : Int))), a_12, r_16.1), [0, 1], [], [], hL2, Nat.lt_succ_self _, wk_mk [0, 1] [] [] rfl ⟨argP (id := 0) (by (conv => lhs; whnf); all_goals rfl) rfl, argP (id := 1) (by (conv => lhs; whnf); all_goals rfl) rfl, argE (by (conv => lhs; whnf); all_goals rfl) rfl, argE (by (conv => lhs; whnf); all_goals rfl) rfl, argE (by (conv => lhs; whnf); all_goals rfl) rfl, trivial⟩ ⟨boxL rfl rfl rfl ⟨(.ni _ rfl), (.ni _ rfl), trivial⟩, boxL rfl rfl rfl ⟨(.ni _ rfl), (.ni _ rfl), (.ni _ rfl), trivial⟩, trivial⟩⟩
              · replace hL2 := cond_f hi_253 hL2
                cases hL2
      · replace hL2 := cond_f hi_249 hL2
        refine (Bool.eq_false_or_eq_true (i_7 == (1 : Int))).elim (fun hi_254 => ?_) (fun hi_254 => ?_)
        · replace hL2 := cond_t hi_254 hL2
          refine ⟨1, eq_of_beq hi_254, by decide, ?_⟩
          conv => whnf
          obtain ⟨r_17, h_r_17, hL2⟩ := bind_some hL2
          refine ⟨_, _, _, _, _, _, _, _, callX false [0] [] Try.func21 (by decide) rfl (keep_Src_List_ac (⟨a_9, i_10⟩ : Src) r_17 h_r_17) rfl ⟨(argP (id := 0) (by (conv => lhs; whnf); all_goals rfl) rfl), trivial⟩ rfl ⟨rfl, trivial⟩ rfl rfl rfl lend0 ⟨rfl, trivial⟩, ?_⟩
          conv => whnf
          obtain ⟨r_18, h_r_18, hL2⟩ := bind_some hL2
          refine ⟨_, _, _, _, _, _, _, _, callX false [] [] Try.func25 (by decide) rfl (boarding_Apply_ac a_12 r_17.1 r_18 h_r_18) rfl ⟨(argE (by (conv => lhs; whnf); all_goals rfl) rfl), (argE (by (conv => lhs; whnf); all_goals rfl) rfl), trivial⟩ rfl trivial rfl rfl rfl lend0 trivial, ?_⟩
          conv => whnf
          refine ⟨by kernel_rfl, ?_⟩
          conv => whnf
          refine ⟨fun hb_255 => ?_, fun hb_255 => ?_⟩
          · replace hL2 := cond_t hb_255 hL2
            conv => whnf
            obtain rfl := Option.some.inj hL2
            replace hL1 := sub_ret hL1
            obtain rfl := Option.some.inj hL1
            replace hF := fin_ret hF
            obtain rfl := Option.some.inj hF
            exact ret_gz [] [] [] rfl (argFl (by (conv => lhs; whnf); all_goals rfl)) trivial
          · replace hL2 := cond_f hb_255 hL2
            conv => whnf
            refine (Bool.eq_false_or_eq_true (i_7 == (0 : Int))).elim (fun hi_256 => ?_) (fun hi_256 => ?_)
            · replace hL2 := cond_t hi_256 hL2
              refine ⟨0, eq_of_beq hi_256, by decide, ?_⟩
              conv => whnf
              refine ⟨_, rfl, ?_⟩
              conv => whnf
              exact ⟨(q_21, r_17.2.L, r_17.2.At, r_18.1, (w64 (i_14 - (1 : Int))), a_12, a_13), [0, 1], [], [], hL2, Nat.lt_succ_self _, wk_mk [0, 1] [] [] rfl ⟨argP (id := 0) (by (conv => lhs; whnf); all_goals rfl) rfl, argP (id := 1) (by (conv => lhs; whnf); all_goals rfl) rfl, argE (by (conv => lhs; whnf); all_goals rfl) rfl, argE (by (conv => lhs; whnf); all_goals rfl) rfl, argE (by (conv => lhs; whnf); all_goals rfl) rfl, trivial⟩ ⟨boxL rfl rfl rfl ⟨(.ni _ rfl), (.ni _ rfl), trivial⟩, boxL rfl rfl rfl ⟨(.ni _ rfl), (.ni _ rfl), (.ni _ rfl), trivial⟩, trivial⟩⟩
            · replace hL2 := cond_f hi_256 hL2
              refine (Bool.eq_false_or_eq_true (i_7 == (1 : Int))).elim (fun hi_257 => ?_) (fun hi_257 => ?_)
              · replace hL2 := cond_t hi_257 hL2
                refine ⟨1, eq_of_beq hi_257, by decide, ?_⟩
                conv => whnf
                refine ⟨_, rfl, ?_⟩
                conv => whnf
                exact ⟨(q_21, r_17.2.L, r_17.2.At, a_11, (w64 (i_14 - (1 : Int))), r_18.1, a_13), [0, 1], [], [], hL2, Nat.lt_succ_self _, wk_mk [0, 1] [] [] rfl ⟨argP (id := 0) (by (conv => lhs; whnf); all_goals rfl) rfl, argP (id := 1) (by (conv => lhs; whnf); all_goals rfl) rfl, argE (by (conv => lhs; whnf); all_goals rfl) rfl, argE (by (conv => lhs; whnf); all_goals rfl) rfl, argE (by (conv => lhs; whnf); all_goals rfl) rfl, trivial⟩ ⟨boxL rfl rfl rfl ⟨(.ni _ rfl), (.ni _ rfl), trivial⟩, boxL rfl rfl rfl ⟨(.ni _ rfl), (.ni _ rfl), (.ni _ rfl), trivial⟩, trivial⟩⟩
              · replace hL2 := cond_f hi_257 hL2
                refine (Bool.eq_false_or_eq_true (i_7 == (2 : Int))).elim (fun hi_258 => ?_) (fun hi_258 => ?_)
                · replace hL2 := cond_t hi_258 hL2
                  refine ⟨2, eq_of_beq hi_258, by decide, ?_⟩
                  conv => whnf
                  refine ⟨_, rfl, ?_⟩
                  conv => whnf
                  exact ⟨(q_21, r_17.2.L, r_17.2.At, a_11, (w64 (i_14 - (1 : Int))), a_12, r_18.1), [0, 1], [], [], hL2, Nat.lt_succ_self _, wk_mk [0, 1] [] [] rfl ⟨argP (id := 0) (by (conv => lhs; whnf); all_goals rfl) rfl, argP (id := 1) (by (conv => lhs; whnf); all_goals rfl) rfl, argE (by (conv => lhs; whnf); all_goals rfl) rfl, argE (by (conv => lhs; whnf); all_goals rfl) rfl, argE (by (conv => lhs; whnf); all_goals rfl) rfl, trivial⟩ ⟨boxL rfl rfl rfl ⟨(.ni _ rfl), (.ni _ rfl), trivial⟩, boxL rfl rfl rfl ⟨(.ni _ rfl), (.ni _ rfl), (.ni _ rfl), trivial⟩, trivial⟩⟩
                · replace hL2 := cond_f hi_258 hL2
                  cases hL2
        · replace hL2 := cond_f hi_254 hL2
          refine (Bool.eq_false_or_eq_true (i_7 == (2 : Int))).elim (fun hi_259 => ?_) (fun hi_259 => ?_)
          · replace hL2 := cond_t hi_259 hL2
            refine ⟨2, eq_of_beq hi_259, by decide, ?_⟩
            conv => whnf
            obtain ⟨r_19, h_r_19, hL2⟩ := bind_some hL2
            refine ⟨_, _, _, _, _, _, _, _, callX false [0] [] Try.func21 (by decide) rfl (keep_Src_List_ac (⟨a_9, i_10⟩ : Src) r_19 h_r_19) rfl ⟨(argP (id := 0) (by (conv => lhs; whnf); all_goals rfl) rfl), trivial⟩ rfl ⟨rfl, trivial⟩ rfl rfl rfl lend0 ⟨rfl, trivial⟩, ?_⟩
            conv => whnf
            obtain ⟨r_20, h_r_20, hL2⟩ := bind_some hL2
            refine ⟨_, _, _, _, _, _, _, _, callX false [] [] Try.func25 (by decide) rfl (boarding_Apply_ac a_13 r_19.1 r_20 h_r_20) rfl ⟨(argE (by (conv => lhs; whnf); all_goals rfl) rfl), (argE (by (conv => lhs; whnf); all_goals rfl) rfl), trivial⟩ rfl trivial rfl rfl rfl lend0 trivial, ?_⟩
            conv => whnf
            refine ⟨by kernel_rfl, ?_⟩
            conv => whnf
            refine ⟨fun hb_260 => ?_, fun hb_260 => ?_⟩
            · replace hL2 := cond_t hb_260 hL2
              conv => whnf
              obtain rfl := Option.some.inj hL2
              replace hL1 := sub_ret hL1
              obtain rfl := Option.some.inj hL1
              replace hF := fin_ret hF
              obtain rfl := Option.some.inj hF
              exact ret_gz [] [] [] rfl (argFl (by (conv => lhs; whnf); all_goals rfl)) trivial
            · replace hL2 := cond_f hb_260 hL2
              conv => whnf
              refine (Bool.eq_false_or_eq_true (i_7 == (0 : Int))).elim (fun hi_261 => ?_) (fun hi_261 => ?_)
              · replace hL2 := cond_t hi_261 hL2
                refine ⟨0, eq_of_beq hi_261, by decide, ?_⟩
                conv => whnf
                refine ⟨_, rfl, ?_⟩
                conv => whnf
                exact ⟨(q_21, r_19.2.L, r_19.2.At, r_20.1, (w64 (i_14 - (1 : Int))), a_12, a_13), [0, 1], [], [], hL2, Nat.lt_succ_self _, wk_mk [0, 1] [] [] rfl ⟨argP (id := 0) (by (conv => lhs; whnf); all_goals rfl) rfl, argP (id := 1) (by (conv => lhs; whnf); all_goals rfl) rfl, argE (by (conv => lhs; whnf); all_goals rfl) rfl, argE (by (conv => lhs; whnf); all_goals rfl) rfl, argE (by (conv => lhs; whnf); all_goals rfl) rfl, trivial⟩ ⟨boxL rfl rfl rfl ⟨(.ni _ rfl), (.ni _ rfl), trivial⟩, boxL rfl rfl rfl ⟨(.ni _ rfl), (.ni _ rfl), (.ni _ rfl), trivial⟩, trivial⟩⟩
              · replace hL2 := cond_f hi_261 hL2
                refine (Bool.eq_false_or_eq_true (i_7 == (1 : Int))).elim (fun hi_262 => ?_) (fun hi_262 => ?_)
                · replace hL2 := cond_t hi_262 hL2
                  refine ⟨1, eq_of_beq hi_262, by decide, ?_⟩
                  conv => whnf
                  refine ⟨_, rfl, ?_⟩
                  conv => whnf
                  exact ⟨(q_21, r_19.2.L, r_19.2.At, a_11, (w64 (i_14 - (1 : Int))), r_20.1, a_13), [0, 1], [], [], hL2, Nat.lt_succ_self _, wk_mk [0, 1] [] [] rfl ⟨argP (id := 0) (by (conv => lhs; whnf); all_goals rfl) rfl, argP (id := 1) (by (conv => lhs; whnf); all_goals rfl) rfl, argE (by (conv => lhs; whnf); all_goals rfl) rfl, argE (by (conv => lhs; whnf); all_goals rfl) rfl, argE (by (conv => lhs; whnf); all_goals rfl) rfl, trivial⟩ ⟨boxL rfl rfl rfl ⟨(.ni _ rfl), (.ni _ rfl), trivial⟩, boxL rfl rfl rfl ⟨(.ni _ rfl), (.ni _ rfl), (.ni _ rfl), trivial⟩, trivial⟩⟩
                · replace hL2 := cond_f hi_262 hL2
                  refine (Bool.eq_false_or_eq_true (i_7 == (2 : Int))).elim (fun hi_263 => ?_) (fun hi_263 => ?_)
                  · replace hL2 := cond_t hi_263 hL2
                    refine ⟨2, eq_of_beq hi_263, by decide, ?_⟩
                    conv => whnf
                    refine ⟨_, rfl, ?_⟩
                    conv => whnf
                    exact ⟨(q_21, r_19.2.L, r_19.2.At, a_11, (w64 (i_14 - (1 : Int))), a_12, r_20.1), [0, 1], [], [], hL2, Nat.lt_succ_self _, wk_mk [0, 1] [] [] rfl ⟨argP (id := 0) (by (conv => lhs; whnf); all_goals rfl) rfl, argP (id := 1) (by (conv => lhs; whnf); all_goals rfl) rfl, argE (by (conv => lhs; whnf); all_goals rfl) rfl, argE (by (conv => lhs; whnf); all_goals rfl) rfl, argE (by (conv => lhs; whnf); all_goals rfl) rfl, trivial⟩ ⟨boxL rfl rfl rfl ⟨(.ni _ rfl), (.ni _ rfl), trivial⟩, boxL rfl rfl rfl ⟨(.ni _ rfl), (.ni _ rfl), (.ni _ rfl), trivial⟩, trivial⟩⟩
                  · replace hL2 := cond_f hi_263 hL2
                    cases hL2
          · replace hL2 := cond_f hi_259 hL2
            cases hL2
    · replace hL2 := cond_f hb_248 hL2
      conv => whnf
      obtain rfl := Option.some.inj hL2
      replace hL1 := sub_brk hL1
      try dsimp only at hL1
      refine ⟨_, rfl, ?_⟩
      conv => whnf
      exact ⟨(q_23, a_9, i_10, a_11, (w64 (i_7 + (1 : Int))), a_12, a_13), [0, 1], [], [], hL1, Nat.lt_succ_self _, wk_mk [0, 1] [] [] rfl ⟨argP (id := 0) (by (conv => lhs; whnf); all_goals rfl) rfl, argP (id := 1) (by (conv => lhs; whnf); all_goals rfl) rfl, argE (by (conv => lhs; whnf); all_goals rfl) rfl, trivial⟩ ⟨boxL rfl rfl rfl ⟨(.ni _ rfl), (.ni _ rfl), trivial⟩, boxL rfl rfl rfl ⟨(.ni _ rfl), (.ni _ rfl), (.ni _ rfl), trivial⟩, trivial⟩⟩
  · replace hL1 := cond_f hb_247 hL1
    conv => whnf
    obtain rfl := Option.some.inj hL1
    replace hF := fin_brk hF
    try dsimp only at hF
    refine ⟨0, rfl, by decide, ?_⟩
    conv => whnf
    refine ⟨1, rfl, by decide, ?_⟩
    conv => whnf
    obtain ⟨r_25, h_r_25, hF⟩ := bind_some hF
    refine ⟨_, _, _, _, _, _, _, _, callX false [] [] Try.func30 (by decide) rfl (boarding_Join_ac a_4 a_5 r_25 h_r_25) rfl ⟨(argE (by (conv => lhs; whnf); all_goals rfl) rfl), (argE (by (conv => lhs; whnf); all_goals rfl) rfl), trivial⟩ rfl trivial rfl rfl rfl lend0 trivial, ?_⟩
    conv => whnf
    refine ⟨1, rfl, by decide, ?_⟩
    conv => whnf
    refine ⟨0, rfl, by decide, ?_⟩
    conv => whnf
    obtain ⟨r_26, h_r_26, hF⟩ := bind_some hF
    refine ⟨_, _, _, _, _, _, _, _, callX false [] [] Try.func30 (by decide) rfl (boarding_Join_ac a_5 a_4 r_26 h_r_26) rfl ⟨(argE (by (conv => lhs; whnf); all_goals rfl) rfl), (argE (by (conv => lhs; whnf); all_goals rfl) rfl), trivial⟩ rfl trivial rfl rfl rfl lend0 trivial, ?_⟩
    conv => whnf
    refine ⟨1, rfl, by decide, ?_⟩
    conv => whnf
    refine ⟨2, rfl, by decide, ?_⟩
    conv => whnf
    obtain ⟨r_27, h_r_27, hF⟩ := bind_some hF
    refine ⟨_, _, _, _, _, _, _, _, callX false [] [] Try.func30 (by decide) rfl (boarding_Join_ac a_5 a_6 r_27 h_r_27) rfl ⟨(argE (by (conv => lhs; whnf); all_goals rfl) rfl), (argE (by (conv => lhs; whnf); all_goals rfl) rfl), trivial⟩ rfl trivial rfl rfl rfl lend0 trivial, ?_⟩
    conv => whnf
    refine ⟨2, rfl, by decide, ?_⟩
    conv => whnf
    obtain ⟨r_28, h_r_28, hF⟩ := bind_some hF
    refine ⟨_, _, _, _, _, _, _, _, callX false [] [] Try.func30 (by decide) rfl (boarding_Join_ac r_25.1 a_6 r_28 h_r_28) rfl ⟨(argE (by (conv => lhs; whnf); all_goals rfl) rfl), (argE (by (conv => lhs; whnf); all_goals rfl) rfl), trivial⟩ rfl trivial rfl rfl rfl lend0 trivial, ?_⟩
    conv => whnf
    refine ⟨0, rfl, by decide, ?_⟩
    conv => whnf
    obtain ⟨r_29, h_r_29, hF⟩ := bind_some hF
    refine ⟨_, _, _, _, _, _, _, _, callX false [] [] Try.func30 (by decide) rfl (boarding_Join_ac a_4 r_27.1 r_29 h_r_29) rfl ⟨(argE (by (conv => lhs; whnf); all_goals rfl) rfl), (argE (by (conv => lhs; whnf); all_goals rfl) rfl), trivial⟩ rfl trivial rfl rfl rfl lend0 trivial, ?_⟩
    conv => whnf
    refine ⟨0, rfl, by decide, ?_⟩
    conv => whnf
    refine ⟨0, rfl, by decide, ?_⟩
    conv => whnf
    obtain ⟨r_30, h_r_30, hF⟩ := bind_some hF
    refine ⟨_, _, _, _, _, _, _, _, callX false [] [] Try.func30 (by decide) rfl (boarding_Join_ac a_4 a_4 r_30 h_r_30) rfl ⟨(argE (by (conv => lhs; whnf); all_goals rfl) rfl), (argE (by (conv => lhs; whnf); all_goals rfl) rfl), trivial⟩ rfl trivial rfl rfl rfl lend0 trivial, ?_⟩
    conv => whnf
    refine ⟨fun hb_264 => ?_, fun hb_264 => ?_⟩
    · replace hF := cond_f hb_264 hF
      conv => whnf
      refine ⟨fun hb_265 => ?_, fun hb_265 => ?_⟩
      · replace hF := cond_f hb_265 hF
        conv => whnf
        refine ⟨fun hb_266 => ?_, fun hb_266 => ?_⟩
        · replace hF := cond_f hb_266 hF
          conv => whnf
          refine ⟨fun hb_267 => ?_, fun hb_267 => ?_⟩
          · replace hF := cond_f hb_267 hF
            conv => whnf
            refine ⟨fun hb_268 => ?_, fun hb_268 => ?_⟩
            · replace hF := cond_f hb_268 hF
              conv => whnf
              refine ⟨fun hb_269 => ?_, fun hb_269 => ?_⟩
              · replace hF := cond_t hb_269 hF
                conv => whnf
                obtain rfl := Option.some.inj hF
                exact ret_gz [] [] [] rfl (argFl (by (conv => lhs; whnf); all_goals rfl)) trivial
              · replace hF := cond_f hb_269 hF
                conv => whnf
                obtain ⟨r_31, h_r_31, hF⟩ := bind_some hF
                refine ⟨_, _, _, _, _, _, _, _, callX false [0] [] Try.func12 (by decide) rfl (keep_Src_Manifests_ac (⟨a_2, i_3⟩ : Src) r_31 h_r_31) rfl ⟨(argP (id := 0) (by (conv => lhs; whnf); all_goals rfl) rfl), trivial⟩ rfl ⟨rfl, trivial⟩ rfl rfl rfl lend0 ⟨rfl, trivial⟩, ?_⟩
                conv => whnf
                obtain ⟨r_32, h_r_32, hF⟩ := bind_some hF
                refine ⟨_, _, _, _, _, _, _, _, callX false [0] [] Try.func12 (by decide) rfl (keep_Src_Manifests_ac r_31.2 r_32 h_r_32) rfl ⟨(argP (id := 0) (by (conv => lhs; whnf); all_goals rfl) rfl), trivial⟩ rfl ⟨rfl, trivial⟩ rfl rfl rfl lend0 ⟨rfl, trivial⟩, ?_⟩
                conv => whnf
                obtain ⟨r_33, h_r_33, hF⟩ := bind_some hF
                refine ⟨_, _, _, _, _, _, _, _, callX false [] [] Try.func30 (by decide) rfl (boarding_Join_ac r_31.1 r_32.1 r_33 h_r_33) rfl ⟨(argE (by (conv => lhs; whnf); all_goals rfl) rfl), (argE (by (conv => lhs; whnf); all_goals rfl) rfl), trivial⟩ rfl trivial rfl rfl rfl lend0 trivial, ?_⟩
                conv => whnf
                obtain ⟨r_34, h_r_34, hF⟩ := bind_some hF
                refine ⟨_, _, _, _, _, _, _, _, callX false [] [] Try.func30 (by decide) rfl (boarding_Join_ac r_32.1 r_31.1 r_34 h_r_34) rfl ⟨(argE (by (conv => lhs; whnf); all_goals rfl) rfl), (argE (by (conv => lhs; whnf); all_goals rfl) rfl), trivial⟩ rfl trivial rfl rfl rfl lend0 trivial, ?_⟩
                conv => whnf
                obtain ⟨r_35, h_r_35, hF⟩ := bind_some hF
                refine ⟨_, _, _, _, _, _, _, _, callX false [] [] Try.func27 (by decide) rfl (ref25_SameAll_ac r_25.1 r_26.1 r_35 h_r_35) rfl ⟨(argE (by (conv => lhs; whnf); all_goals rfl) rfl), (argE (by (conv => lhs; whnf); all_goals rfl) rfl), trivial⟩ rfl trivial rfl rfl rfl lend0 trivial, ?_⟩
                conv => whnf
                refine ⟨fun hb_270 => ?_, fun hb_270 => ?_⟩
                · replace hF := cond_t hb_270 hF
                  conv => whnf
                  obtain ⟨r_36, h_r_36, hF⟩ := bind_some hF
                  refine ⟨_, _, _, _, _, _, _, _, callX false [] [] Try.func27 (by decide) rfl (ref25_SameAll_ac r_28.1 r_29.1 r_36 h_r_36) rfl ⟨(argE (by (conv => lhs; whnf); all_goals rfl) rfl), (argE (by (conv => lhs; whnf); all_goals rfl) rfl), trivial⟩ rfl trivial rfl rfl rfl lend0 trivial, ?_⟩
                  conv => whnf
                  refine ⟨fun hb_271 => ?_, fun hb_271 => ?_⟩
                  · replace hF := cond_t hb_271 hF
                    conv => whnf
                    refine ⟨0, rfl, by decide, ?_⟩
                    conv => whnf
                    obtain ⟨r_37, h_r_37, hF⟩ := bind_some hF
                    refine ⟨_, _, _, _, _, _, _, _, callX false [] [] Try.func27 (by decide) rfl (ref25_SameAll_ac r_30.1 a_4 r_37 h_r_37) rfl ⟨(argE (by (conv => lhs; whnf); all_goals rfl) rfl), (argE (by (conv => lhs; whnf); all_goals rfl) rfl), trivial⟩ rfl trivial rfl rfl rfl lend0 trivial, ?_⟩
                    conv => whnf
                    refine ⟨fun hb_272 => ?_, fun hb_272 => ?_⟩
                    · replace hF := cond_t hb_272 hF
                      conv => whnf
                      refine ⟨fun hb_273 => ?_, fun hb_273 => ?_⟩
                      · replace hF := cond_t hb_273 hF
                        conv => whnf
                        obtain ⟨r_38, h_r_38, hF⟩ := bind_some hF
                        refine ⟨_, _, _, _, _, _, _, _, callX false [] [] Try.func20 (by decide) rfl (law25_awake_ac r_38 h_r_38) rfl trivial rfl trivial rfl rfl rfl lend0 trivial, ?_⟩
                        conv => whnf
                        obtain rfl := Option.some.inj hF
                        exact ret_gz [] [] [] rfl (argE (by (conv => lhs; whnf); all_goals rfl) rfl) trivial
                      · replace hF := cond_f hb_273 hF
                        conv => whnf
                        obtain rfl := Option.some.inj hF
                        exact ret_gz [] [] [] rfl (argFl (by (conv => lhs; whnf); all_goals rfl)) trivial
                    · replace hF := cond_f hb_272 hF
                      conv => whnf
                      obtain rfl := Option.some.inj hF
                      exact ret_gz [] [] [] rfl (argFl (by (conv => lhs; whnf); all_goals rfl)) trivial
                  · replace hF := cond_f hb_271 hF
                    conv => whnf
                    obtain rfl := Option.some.inj hF
                    exact ret_gz [] [] [] rfl (argFl (by (conv => lhs; whnf); all_goals rfl)) trivial
                · replace hF := cond_f hb_270 hF
                  conv => whnf
                  obtain rfl := Option.some.inj hF
                  exact ret_gz [] [] [] rfl (argFl (by (conv => lhs; whnf); all_goals rfl)) trivial
            · replace hF := cond_t hb_268 hF
              conv => whnf
              obtain rfl := Option.some.inj hF
              exact ret_gz [] [] [] rfl (argFl (by (conv => lhs; whnf); all_goals rfl)) trivial
          · replace hF := cond_t hb_267 hF
            conv => whnf
            obtain rfl := Option.some.inj hF
            exact ret_gz [] [] [] rfl (argFl (by (conv => lhs; whnf); all_goals rfl)) trivial
        · replace hF := cond_t hb_266 hF
          conv => whnf
          obtain rfl := Option.some.inj hF
          exact ret_gz [] [] [] rfl (argFl (by (conv => lhs; whnf); all_goals rfl)) trivial
      · replace hF := cond_t hb_265 hF
        conv => whnf
        obtain rfl := Option.some.inj hF
        exact ret_gz [] [] [] rfl (argFl (by (conv => lhs; whnf); all_goals rfl)) trivial
    · replace hF := cond_t hb_264 hF
      conv => whnf
      obtain rfl := Option.some.inj hF
      exact ret_gz [] [] [] rfl (argFl (by (conv => lhs; whnf); all_goals rfl)) trivial
end Go.Proofs.Ytajmhegkkbnkcaa.Ex
