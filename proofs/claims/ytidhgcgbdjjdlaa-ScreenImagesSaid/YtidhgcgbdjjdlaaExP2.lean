/- The functions of the program compute what was printed; walks printed by a program. -/
import Derived.Test.YtidhgcgbdjjdlaaExF
import Derived.Test.YtidhgcgbdjjdlaaSrtAlarm
import Derived.Test.YtidhgcgbdjjdlaaExP1
namespace Go.Proofs.Ytidhgcgbdjjdlaa.Ex
open Go.RowKit Go.Proofs.Ytidhgcgbdjjdlaa.Ax
set_option linter.unusedVariables false
set_option linter.unusedSimpArgs false
set_option maxRecDepth 100000 in
set_option maxHeartbeats 40000000 in
theorem ref15_Expire_v2_ac (x_0 : Screening) (x_1 : Int) (r : Screening × Int) (hF : ref15_Expire_v2 x_0 x_1 = some r) : AC Try.prog 25 [.agg (encScreening x_0), .int .i64 x_1] [] (.tup [.agg [.int .i64 r.1.Limits.e0, .int .i64 r.1.Limits.e1, .int .i64 r.1.Limits.e2, .int .i64 r.1.Limits.e3, .int .i64 r.1.Next, .osl 0], .int .i64 r.2]) [.row 5 (r.1.L.map encCheck)] := by
  refine ac_of tab_ok follows_ok Try.func25 rfl Try.ntmps25 rfl ?_
  unfold ref15_Expire_v2 at hF
  conv => whnf
  refine ⟨fun hb_14 => ?_, fun hb_14 => ?_⟩
  · replace hF := cond_f hb_14 hF
    conv => whnf
    refine ⟨fun hb_15 => ?_, fun hb_15 => ?_⟩
    · replace hF := cond_t hb_15 hF
      conv => whnf
      obtain rfl := Option.some.inj hF
      exact ret_gz [] [0] [] rfl (tupL rfl ⟨(argA (c := [.int .i64 (0 : Int), .int .i64 (0 : Int), .int .i64 (0 : Int), .int .i64 (0 : Int), .int .i64 (0 : Int), .nils]) (by (conv => lhs; whnf); all_goals rfl) rfl ⟨(.ni _ rfl), (.ni _ rfl), (.ni _ rfl), (.ni _ rfl), (.ni _ rfl), (.nilz 0 (by simp)), trivial⟩), (argE (by (conv => lhs; whnf); all_goals rfl) rfl), trivial⟩) ⟨blkZ rfl, trivial⟩
    · replace hF := cond_f hb_15 hF
      conv => whnf
      obtain ⟨c_1, hc_1, hF⟩ := fin_some hF
      refine sw_bv 0 (v := .agg [.int .i64 x_0.Limits.e0, .int .i64 x_0.Limits.e1, .int .i64 x_0.Limits.e2, .int .i64 x_0.Limits.e3, .int .i64 x_0.Next, .lst 5 (x_0.L.map encCheck)]) (by (conv => lhs; whnf); all_goals rfl) (fun hb => ?_)
      have hbd_k_4 : x_0.L.length ≤ 9223372036854775807 := bnd_len (enc := encCheck) ((bnd_at hb.cell 5 rfl))
      refine sw_loop tab_ok follows_ok (fun y : Nat × Int × (List Check) => y.1 ≤ x_0.L.length ∧ ref15_Expire_v2_L1 x_0 x_1 (x_0.L.drop y.1) y.1 y.2.1 y.2.2 = some c_1) (fun y => ⟨eL [(1, .int .i64 x_1), (2, .ptr 0 0), (4, .ptr 1 0), (6, .ptr 2 0), (7, .int .i64 (y.1 : Int))], hL [(0, .box [.int .i64 x_0.Limits.e0, .int .i64 x_0.Limits.e1, .int .i64 x_0.Limits.e2, .int .i64 x_0.Limits.e3, .int .i64 x_0.Next, .lst 5 (x_0.L.map encCheck)]), (1, .box [.int .i64 (0 : Int), .int .i64 (0 : Int), .int .i64 (0 : Int), .int .i64 (0 : Int), .int .i64 (0 : Int), .nils]), (2, .box [.int .i64 x_0.Limits.e0, .int .i64 x_0.Limits.e1, .int .i64 x_0.Limits.e2, .int .i64 x_0.Limits.e3, .int .i64 y.2.1, .osl 3]), (3, .row 5 (y.2.2.map encCheck))], 4⟩) (fun y => x_0.L.length - y.1) (0, x_0.Next, ([] : List Check)) ⟨Nat.zero_le _, hc_1⟩ (wk_mk [0, 1, 2] [3] [] rfl ⟨argE (by (conv => lhs; whnf); all_goals rfl) rfl, argP (id := 0) (by (conv => lhs; whnf); all_goals rfl) rfl, argP (id := 1) (by (conv => lhs; whnf); all_goals rfl) rfl, argP (id := 2) (by (conv => lhs; whnf); all_goals rfl) rfl, argE (by (conv => lhs; whnf); all_goals rfl) rfl, trivial⟩ ⟨boxL rfl rfl rfl ⟨(.ni _ rfl), (.ni _ rfl), (.ni _ rfl), (.ni _ rfl), (.ni _ rfl), (.ni _ rfl), trivial⟩, boxL rfl rfl rfl ⟨(.ni _ rfl), (.ni _ rfl), (.ni _ rfl), (.ni _ rfl), (.ni _ rfl), (.ni _ rfl), trivial⟩, boxL rfl rfl rfl ⟨(.ni _ rfl), (.ni _ rfl), (.ni _ rfl), (.ni _ rfl), (.ni _ rfl), (.nilz 3 (by simp)), trivial⟩, blkZ rfl, trivial⟩) ?_
      rintro ⟨k_4, i_1, a_2⟩ ⟨hk_k_4, hL1⟩
      try dsimp only at hk_k_4 hL1
      show awp _ _ _ _ _ _ ⟨eL [(1, .int .i64 x_1), (2, .ptr 0 0), (4, .ptr 1 0), (6, .ptr 2 0), (7, .int .i64 (k_4 : Int))], hL [(0, .box [.int .i64 x_0.Limits.e0, .int .i64 x_0.Limits.e1, .int .i64 x_0.Limits.e2, .int .i64 x_0.Limits.e3, .int .i64 x_0.Next, .lst 5 (x_0.L.map encCheck)]), (1, .box [.int .i64 (0 : Int), .int .i64 (0 : Int), .int .i64 (0 : Int), .int .i64 (0 : Int), .int .i64 (0 : Int), .nils]), (2, .box [.int .i64 x_0.Limits.e0, .int .i64 x_0.Limits.e1, .int .i64 x_0.Limits.e2, .int .i64 x_0.Limits.e3, .int .i64 i_1, .osl 3]), (3, .row 5 (a_2.map encCheck))], 4⟩
      conv => whnf
      refine len_q (enc := encCheck) (l := x_0.L) rfl ?_
      conv => whnf
      refine ⟨fun h => ?_, fun h => ?_⟩
      · have hlt_k_4 : k_4 < x_0.L.length := by have h := of_decide_eq_true h; omega
        obtain ⟨e_5, h_e_5⟩ : ∃ y, x_0.L[k_4]? = some y := ⟨_, List.getElem?_eq_getElem hlt_k_4⟩
        rw [drop_cons h_e_5, ref15_Expire_v2_L1.eq_2] at hL1
        conv => whnf
        refine ⟨k_4, _, rfl, ix_map h_e_5, ?_⟩
        conv => whnf
        refine ⟨fun hb_16 => ?_, fun hb_16 => ?_⟩
        · replace hL1 := cond_t hb_16 hL1
          conv => whnf
          obtain ⟨r_6, h_r_6, hL1⟩ := bind_some hL1
          refine ⟨_, _, _, _, _, _, _, _, _, callX false [] [] 0 Try.func45 (by decide) rfl (ref15_deadline_ac x_0 e_5 r_6 h_r_6) rfl ⟨(argE (by (conv => lhs; whnf); all_goals rfl) rfl), (argE (by (conv => lhs; whnf); all_goals rfl) rfl), trivial⟩ rfl trivial rfl rfl rfl lend0 trivial rfl, ?_⟩
          conv => whnf
          refine ⟨fun hb_17 => ?_, fun hb_17 => ?_⟩
          · replace hL1 := cond_t hb_17 hL1
            conv => whnf
            obtain ⟨r_7, h_r_7, hL1⟩ := bind_some hL1
            refine ⟨_, _, _, _, _, _, _, _, _, callX false [] [] 0 Try.func46 (by decide) rfl (ref15_fail_ac e_5 i_1 x_1 r_7 h_r_7) rfl ⟨(argE (by (conv => lhs; whnf); all_goals rfl) rfl), (argE (by (conv => lhs; whnf); all_goals rfl) rfl), (argE (by (conv => lhs; whnf); all_goals rfl) rfl), trivial⟩ rfl trivial rfl rfl rfl lend0 trivial rfl, ?_⟩
            conv => whnf
            obtain ⟨l_8, h_l_8, hL1⟩ := bind_some hL1
            refine ap_q (enc := encCheck) (l := a_2) (y := ([r_7.1] : List Check)) h_l_8 rfl rfl (by decide) ?_
            conv => whnf
            refine ⟨((k_4 + 1 : Nat) : Int), wrapE (by omega) (by omega) (by omega), ?_⟩
            conv => whnf
            exact ⟨(k_4 + 1, r_7.2, l_8), [0, 1, 2, 8], [], [], ⟨hlt_k_4, hL1⟩, by show x_0.L.length - (k_4 + 1) < x_0.L.length - k_4; omega, wk_mk [0, 1, 2, 8] [] [] rfl ⟨argE (by (conv => lhs; whnf); all_goals rfl) rfl, argP (id := 0) (by (conv => lhs; whnf); all_goals rfl) rfl, argP (id := 1) (by (conv => lhs; whnf); all_goals rfl) rfl, argP (id := 2) (by (conv => lhs; whnf); all_goals rfl) rfl, argE (by (conv => lhs; whnf); all_goals rfl) rfl, trivial⟩ ⟨boxL rfl rfl rfl ⟨(.ni _ rfl), (.ni _ rfl), (.ni _ rfl), (.ni _ rfl), (.ni _ rfl), (.ni _ rfl), trivial⟩, boxL rfl rfl rfl ⟨(.ni _ rfl), (.ni _ rfl), (.ni _ rfl), (.ni _ rfl), (.ni _ rfl), (.ni _ rfl), trivial⟩, boxL rfl rfl rfl ⟨(.ni _ rfl), (.ni _ rfl), (.ni _ rfl), (.ni _ rfl), (.ni _ rfl), (.oslg 8 3 rfl), trivial⟩, blkR (fun _ => ⟨rfl, rfl⟩) rfl rfl, trivial⟩⟩
          · replace hL1 := cond_f hb_17 hL1
            conv => whnf
            obtain ⟨l_9, h_l_9, hL1⟩ := bind_some hL1
            refine ap_q (enc := encCheck) (l := a_2) (y := ([e_5] : List Check)) h_l_9 rfl rfl (by decide) ?_
            conv => whnf
            refine ⟨((k_4 + 1 : Nat) : Int), wrapE (by omega) (by omega) (by omega), ?_⟩
            conv => whnf
            exact ⟨(k_4 + 1, i_1, l_9), [0, 1, 2, 7], [], [], ⟨hlt_k_4, hL1⟩, by show x_0.L.length - (k_4 + 1) < x_0.L.length - k_4; omega, wk_mk [0, 1, 2, 7] [] [] rfl ⟨argE (by (conv => lhs; whnf); all_goals rfl) rfl, argP (id := 0) (by (conv => lhs; whnf); all_goals rfl) rfl, argP (id := 1) (by (conv => lhs; whnf); all_goals rfl) rfl, argP (id := 2) (by (conv => lhs; whnf); all_goals rfl) rfl, argE (by (conv => lhs; whnf); all_goals rfl) rfl, trivial⟩ ⟨boxL rfl rfl rfl ⟨(.ni _ rfl), (.ni _ rfl), (.ni _ rfl), (.ni _ rfl), (.ni _ rfl), (.ni _ rfl), trivial⟩, boxL rfl rfl rfl ⟨(.ni _ rfl), (.ni _ rfl), (.ni _ rfl), (.ni _ rfl), (.ni _ rfl), (.ni _ rfl), trivial⟩, boxL rfl rfl rfl ⟨(.ni _ rfl), (.ni _ rfl), (.ni _ rfl), (.ni _ rfl), (.ni _ rfl), (.oslg 7 3 rfl), trivial⟩, blkR (fun _ => ⟨rfl, rfl⟩) rfl rfl, trivial⟩⟩
        · replace hL1 := cond_f hb_16 hL1
          conv => whnf
          obtain ⟨l_10, h_l_10, hL1⟩ := bind_some hL1
          refine ap_q (enc := encCheck) (l := a_2) (y := ([e_5] : List Check)) h_l_10 rfl rfl (by decide) ?_
          conv => whnf
          refine ⟨((k_4 + 1 : Nat) : Int), wrapE (by omega) (by omega) (by omega), ?_⟩
          conv => whnf
          exact ⟨(k_4 + 1, i_1, l_10), [0, 1, 2, 6], [], [], ⟨hlt_k_4, hL1⟩, by show x_0.L.length - (k_4 + 1) < x_0.L.length - k_4; omega, wk_mk [0, 1, 2, 6] [] [] rfl ⟨argE (by (conv => lhs; whnf); all_goals rfl) rfl, argP (id := 0) (by (conv => lhs; whnf); all_goals rfl) rfl, argP (id := 1) (by (conv => lhs; whnf); all_goals rfl) rfl, argP (id := 2) (by (conv => lhs; whnf); all_goals rfl) rfl, argE (by (conv => lhs; whnf); all_goals rfl) rfl, trivial⟩ ⟨boxL rfl rfl rfl ⟨(.ni _ rfl), (.ni _ rfl), (.ni _ rfl), (.ni _ rfl), (.ni _ rfl), (.ni _ rfl), trivial⟩, boxL rfl rfl rfl ⟨(.ni _ rfl), (.ni _ rfl), (.ni _ rfl), (.ni _ rfl), (.ni _ rfl), (.ni _ rfl), trivial⟩, boxL rfl rfl rfl ⟨(.ni _ rfl), (.ni _ rfl), (.ni _ rfl), (.ni _ rfl), (.ni _ rfl), (.oslg 6 3 rfl), trivial⟩, blkR (fun _ => ⟨rfl, rfl⟩) rfl rfl, trivial⟩⟩
      · rw [drop_nil (show x_0.L.length ≤ k_4 by have h := of_decide_eq_false h; omega), ref15_Expire_v2_L1.eq_1] at hL1
        conv => whnf
        obtain rfl := Option.some.inj hL1
        replace hF := fin_brk hF
        try dsimp only at hF
        refine ⟨fun hb_18 => ?_, fun hb_18 => ?_⟩
        · replace hF := cond_t hb_18 hF
          conv => whnf
          obtain rfl := Option.some.inj hF
          exact ret_gz [] [0] [] rfl (tupL rfl ⟨(argA (c := [.int .i64 (0 : Int), .int .i64 (0 : Int), .int .i64 (0 : Int), .int .i64 (0 : Int), .int .i64 (0 : Int), .nils]) (by (conv => lhs; whnf); all_goals rfl) rfl ⟨(.ni _ rfl), (.ni _ rfl), (.ni _ rfl), (.ni _ rfl), (.ni _ rfl), (.nilz 0 (by simp)), trivial⟩), (argE (by (conv => lhs; whnf); all_goals rfl) rfl), trivial⟩) ⟨blkZ rfl, trivial⟩
        · replace hF := cond_f hb_18 hF
          conv => whnf
          obtain rfl := Option.some.inj hF
          exact ret_gz [3] [] [] rfl (tupL rfl ⟨(argA (c := [.int .i64 x_0.Limits.e0, .int .i64 x_0.Limits.e1, .int .i64 x_0.Limits.e2, .int .i64 x_0.Limits.e3, .int .i64 i_1, .osl 3]) (by (conv => lhs; whnf); all_goals rfl) rfl ⟨(.ni _ rfl), (.ni _ rfl), (.ni _ rfl), (.ni _ rfl), (.ni _ rfl), (.oslg 3 0 rfl), trivial⟩), (argE (by (conv => lhs; whnf); all_goals rfl) rfl), trivial⟩) ⟨blkR (fun _ => ⟨rfl, rfl⟩) rfl rfl, trivial⟩
  · replace hF := cond_t hb_14 hF
    conv => whnf
    obtain rfl := Option.some.inj hF
    exact ret_gz [] [0] [] rfl (tupL rfl ⟨(argA (c := [.int .i64 (0 : Int), .int .i64 (0 : Int), .int .i64 (0 : Int), .int .i64 (0 : Int), .int .i64 (0 : Int), .nils]) (by (conv => lhs; whnf); all_goals rfl) rfl ⟨(.ni _ rfl), (.ni _ rfl), (.ni _ rfl), (.ni _ rfl), (.ni _ rfl), (.nilz 0 (by simp)), trivial⟩), (argE (by (conv => lhs; whnf); all_goals rfl) rfl), trivial⟩) ⟨blkZ rfl, trivial⟩

set_option maxRecDepth 100000 in
set_option maxHeartbeats 40000000 in
theorem ref15_Verdict_ac (x_0 : Screening) (x_1 : Int) (x_2 : Bool) (x_3 : Int) (r : Screening × Int × Int) (hF : ref15_Verdict x_0 x_1 x_2 x_3 = some r) : AC Try.prog 26 [.agg (encScreening x_0), .int .i64 x_1, .bool x_2, .int .i64 x_3] [] (.tup [.agg (encScreening r.1), .int .i64 r.2.1, .int .i64 r.2.2]) [] := by
  refine ac_of tab_ok follows_ok Try.func26 rfl Try.ntmps26 rfl ?_
  unfold ref15_Verdict at hF
  conv => whnf
  obtain ⟨r_1, h_r_1, hF⟩ := bind_some hF
  refine ⟨_, _, _, _, _, _, _, _, _, callX false [] [] 1 Try.func25 (by decide) rfl (ref15_Expire_v2_ac x_0 x_3 r_1 h_r_1) rfl ⟨(argE (by (conv => lhs; whnf); all_goals rfl) rfl), (argE (by (conv => lhs; whnf); all_goals rfl) rfl), trivial⟩ rfl trivial rfl rfl rfl lend0 ⟨renR (fun _ => ⟨rfl, rfl⟩), trivial⟩ rfl, ?_⟩
  conv => whnf
  refine ⟨fun hb_28 => ?_, fun hb_28 => ?_⟩
  · replace hF := cond_t hb_28 hF
    conv => whnf
    obtain rfl := Option.some.inj hF
    exact ret_gz [] [] [] rfl (tupL rfl ⟨(argA (c := [.int .i64 (0 : Int), .int .i64 (0 : Int), .int .i64 (0 : Int), .int .i64 (0 : Int), .int .i64 (0 : Int), .nils]) (by (conv => lhs; whnf); all_goals rfl) rfl ⟨(.ni _ rfl), (.ni _ rfl), (.ni _ rfl), (.ni _ rfl), (.ni _ rfl), (.nils _), trivial⟩), (argE (by (conv => lhs; whnf); all_goals rfl) rfl), (argE (by (conv => lhs; whnf); all_goals rfl) rfl), trivial⟩) trivial
  · replace hF := cond_f hb_28 hF
    conv => whnf
    obtain ⟨c_1, hc_1, hF⟩ := fin_some hF
    refine sw_br 2 (sz := 5) (xs := r_1.1.L.map encCheck) (by (conv => lhs; whnf); all_goals rfl) (fun hb => ?_)
    have hbd_k_3 : r_1.1.L.length ≤ 9223372036854775807 := bnd_len (enc := encCheck) (hb)
    refine sw_loop tab_ok follows_ok (fun y : Nat => y ≤ r_1.1.L.length ∧ ref15_Verdict_L1 x_0 x_1 x_2 x_3 r_1 (r_1.1.L.drop y) y = some c_1) (fun y => ⟨eL [(1, .int .i64 x_1), (2, .bool x_2), (3, .int .i64 x_3), (4, .ptr 0 0), (8, .ptr 2 0), (11, .int .i64 x_0.Next), (13, .int .i64 (y : Int))], hL [(0, .box [.int .i64 r_1.1.Limits.e0, .int .i64 r_1.1.Limits.e1, .int .i64 r_1.1.Limits.e2, .int .i64 r_1.1.Limits.e3, .int .i64 r_1.1.Next, .osl 1]), (1, .row 5 (r_1.1.L.map encCheck)), (2, .box [.int .i64 (0 : Int), .int .i64 (0 : Int), .int .i64 (0 : Int), .int .i64 (0 : Int), .int .i64 (0 : Int), .nils])], 3⟩) (fun y => r_1.1.L.length - y) 0 ⟨Nat.zero_le _, hc_1⟩ (wk_mk [0, 2, 1] [] [] rfl ⟨argE (by (conv => lhs; whnf); all_goals rfl) rfl, argE (by (conv => lhs; whnf); all_goals rfl) rfl, argE (by (conv => lhs; whnf); all_goals rfl) rfl, argP (id := 0) (by (conv => lhs; whnf); all_goals rfl) rfl, argP (id := 1) (by (conv => lhs; whnf); all_goals rfl) rfl, argE (by (conv => lhs; whnf); all_goals rfl) rfl, argE (by (conv => lhs; whnf); all_goals rfl) rfl, trivial⟩ ⟨boxL rfl rfl rfl ⟨(.ni _ rfl), (.ni _ rfl), (.ni _ rfl), (.ni _ rfl), (.ni _ rfl), (.oslg 2 1 rfl), trivial⟩, blkR (fun _ => ⟨rfl, rfl⟩) rfl rfl, boxL rfl rfl rfl ⟨(.ni _ rfl), (.ni _ rfl), (.ni _ rfl), (.ni _ rfl), (.ni _ rfl), (.ni _ rfl), trivial⟩, trivial⟩) ?_
    rintro k_3 ⟨hk_k_3, hL1⟩
    try dsimp only at hk_k_3 hL1
    show awp _ _ _ _ _ _ ⟨eL [(1, .int .i64 x_1), (2, .bool x_2), (3, .int .i64 x_3), (4, .ptr 0 0), (8, .ptr 2 0), (11, .int .i64 x_0.Next), (13, .int .i64 (k_3 : Int))], hL [(0, .box [.int .i64 r_1.1.Limits.e0, .int .i64 r_1.1.Limits.e1, .int .i64 r_1.1.Limits.e2, .int .i64 r_1.1.Limits.e3, .int .i64 r_1.1.Next, .osl 1]), (1, .row 5 (r_1.1.L.map encCheck)), (2, .box [.int .i64 (0 : Int), .int .i64 (0 : Int), .int .i64 (0 : Int), .int .i64 (0 : Int), .int .i64 (0 : Int), .nils])], 3⟩
    conv => whnf
    refine len_q (enc := encCheck) (l := r_1.1.L) rfl ?_
    conv => whnf
    refine ⟨fun h => ?_, fun h => ?_⟩
    · have hlt_k_3 : k_3 < r_1.1.L.length := by have h := of_decide_eq_true h; omega
      obtain ⟨e_4, h_e_4⟩ : ∃ y, r_1.1.L[k_3]? = some y := ⟨_, List.getElem?_eq_getElem hlt_k_3⟩
      rw [drop_cons h_e_4, ref15_Verdict_L1.eq_2] at hL1
      conv => whnf
      refine ⟨k_3, rfl, by rw [List.length_map]; exact hlt_k_3, ?_⟩
      conv => whnf
      refine ⟨_, ix_map (enc := encCheck) h_e_4, ?_⟩
      conv => whnf
      refine ⟨fun hb_29 => ?_, fun hb_29 => ?_⟩
      · replace hL1 := cond_f hb_29 hL1
        conv => whnf
        refine ⟨fun hb_30 => ?_, fun hb_30 => ?_⟩
        · replace hL1 := cond_f hb_30 hL1
          conv => whnf
          refine ⟨fun hb_31 => ?_, fun hb_31 => ?_⟩
          · replace hL1 := cond_t hb_31 hL1
            conv => whnf
            refine ⟨((k_3 + 1 : Nat) : Int), wrapE (by omega) (by omega) (by omega), ?_⟩
            conv => whnf
            exact ⟨k_3 + 1, [0, 1, 2], [], [], ⟨hlt_k_3, hL1⟩, by show r_1.1.L.length - (k_3 + 1) < r_1.1.L.length - k_3; omega, wk_mk [0, 1, 2] [] [] rfl ⟨argE (by (conv => lhs; whnf); all_goals rfl) rfl, argE (by (conv => lhs; whnf); all_goals rfl) rfl, argE (by (conv => lhs; whnf); all_goals rfl) rfl, argP (id := 0) (by (conv => lhs; whnf); all_goals rfl) rfl, argP (id := 2) (by (conv => lhs; whnf); all_goals rfl) rfl, argE (by (conv => lhs; whnf); all_goals rfl) rfl, argE (by (conv => lhs; whnf); all_goals rfl) rfl, trivial⟩ ⟨boxL rfl rfl rfl ⟨(.ni _ rfl), (.ni _ rfl), (.ni _ rfl), (.ni _ rfl), (.ni _ rfl), (.oslg 1 1 rfl), trivial⟩, blkR (fun _ => ⟨rfl, rfl⟩) rfl rfl, boxL rfl rfl rfl ⟨(.ni _ rfl), (.ni _ rfl), (.ni _ rfl), (.ni _ rfl), (.ni _ rfl), (.ni _ rfl), trivial⟩, trivial⟩⟩
          · replace hL1 := cond_f hb_31 hL1
            conv => whnf
            refine ⟨fun hb_32 => ?_, fun hb_32 => ?_⟩
            · replace hL1 := cond_t hb_32 hL1
              conv => whnf
              refine ⟨fun hb_33 => ?_, fun hb_33 => ?_⟩
              · replace hL1 := cond_t hb_33 hL1
                conv => whnf
                obtain rfl := Option.some.inj hL1
                replace hF := fin_ret hF
                obtain rfl := Option.some.inj hF
                exact ret_gz [] [] [] rfl (tupL rfl ⟨(argA (c := [.int .i64 (0 : Int), .int .i64 (0 : Int), .int .i64 (0 : Int), .int .i64 (0 : Int), .int .i64 (0 : Int), .nils]) (by (conv => lhs; whnf); all_goals rfl) rfl ⟨(.ni _ rfl), (.ni _ rfl), (.ni _ rfl), (.ni _ rfl), (.ni _ rfl), (.nils _), trivial⟩), (argE (by (conv => lhs; whnf); all_goals rfl) rfl), (argE (by (conv => lhs; whnf); all_goals rfl) rfl), trivial⟩) trivial
              · replace hL1 := cond_f hb_33 hL1
                conv => whnf
                refine ⟨k_3, rfl, by rw [List.length_map]; exact hlt_k_3, ?_⟩
                conv => whnf
                refine st_q (enc := encCheck) (l := r_1.1.L) (x' := (⟨e_4.Bag, e_4.Level, e_4.Since, e_4.Image, (2 : Int)⟩ : Check)) (i := (k_3 : Int)) rfl h_e_4 rfl (Nat.le_of_ble_eq_true rfl) rfl ?_
                conv => whnf
                refine ⟨by kernel_rfl, ?_⟩
                conv => whnf
                obtain rfl := Option.some.inj hL1
                replace hF := fin_ret hF
                obtain rfl := Option.some.inj hF
                exact ret_gz [] [] [1] rfl (tupL rfl ⟨(argA (c := [.int .i64 r_1.1.Limits.e0, .int .i64 r_1.1.Limits.e1, .int .i64 r_1.1.Limits.e2, .int .i64 r_1.1.Limits.e3, .int .i64 r_1.1.Next, .osl 1]) (by (conv => lhs; whnf); all_goals rfl) rfl ⟨(.ni _ rfl), (.ni _ rfl), (.ni _ rfl), (.ni _ rfl), (.ni _ rfl), (.osl 1 5 _ (by simp) rfl (map_ni (fun _ => ⟨rfl, rfl⟩) _)), trivial⟩), (argE (by (conv => lhs; whnf); all_goals rfl) rfl), (argE (by (conv => lhs; whnf); all_goals rfl) rfl), trivial⟩) trivial
            · replace hL1 := cond_f hb_32 hL1
              conv => whnf
              obtain ⟨r_5, h_r_5, hL1⟩ := bind_some hL1
              refine ⟨_, _, _, _, _, _, _, _, _, callX false [] [] 0 Try.func46 (by decide) rfl (ref15_fail_ac e_4 r_1.1.Next x_3 r_5 h_r_5) rfl ⟨(argE (by (conv => lhs; whnf); all_goals rfl) rfl), (argE (by (conv => lhs; whnf); all_goals rfl) rfl), (argE (by (conv => lhs; whnf); all_goals rfl) rfl), trivial⟩ rfl trivial rfl rfl rfl lend0 trivial rfl, ?_⟩
              conv => whnf
              refine ⟨fun hb_34 => ?_, fun hb_34 => ?_⟩
              · replace hL1 := cond_t hb_34 hL1
                conv => whnf
                obtain rfl := Option.some.inj hL1
                replace hF := fin_ret hF
                obtain rfl := Option.some.inj hF
                exact ret_gz [] [] [] rfl (tupL rfl ⟨(argA (c := [.int .i64 (0 : Int), .int .i64 (0 : Int), .int .i64 (0 : Int), .int .i64 (0 : Int), .int .i64 (0 : Int), .nils]) (by (conv => lhs; whnf); all_goals rfl) rfl ⟨(.ni _ rfl), (.ni _ rfl), (.ni _ rfl), (.ni _ rfl), (.ni _ rfl), (.nils _), trivial⟩), (argE (by (conv => lhs; whnf); all_goals rfl) rfl), (argE (by (conv => lhs; whnf); all_goals rfl) rfl), trivial⟩) trivial
              · replace hL1 := cond_f hb_34 hL1
                conv => whnf
                refine ⟨k_3, rfl, by rw [List.length_map]; exact hlt_k_3, ?_⟩
                conv => whnf
                refine st_q (enc := encCheck) (l := r_1.1.L) (x' := r_5.1) (i := (k_3 : Int)) rfl h_e_4 rfl (Nat.le_of_ble_eq_true rfl) rfl ?_
                conv => whnf
                refine ⟨by kernel_rfl, ?_⟩
                conv => whnf
                obtain rfl := Option.some.inj hL1
                replace hF := fin_ret hF
                obtain rfl := Option.some.inj hF
                exact ret_gz [] [] [1] rfl (tupL rfl ⟨(argA (c := [.int .i64 r_1.1.Limits.e0, .int .i64 r_1.1.Limits.e1, .int .i64 r_1.1.Limits.e2, .int .i64 r_1.1.Limits.e3, .int .i64 r_5.2, .osl 1]) (by (conv => lhs; whnf); all_goals rfl) rfl ⟨(.ni _ rfl), (.ni _ rfl), (.ni _ rfl), (.ni _ rfl), (.ni _ rfl), (.osl 1 5 _ (by simp) rfl (map_ni (fun _ => ⟨rfl, rfl⟩) _)), trivial⟩), (argE (by (conv => lhs; whnf); all_goals rfl) rfl), (argE (by (conv => lhs; whnf); all_goals rfl) rfl), trivial⟩) trivial
        · replace hL1 := cond_t hb_30 hL1
          conv => whnf
          refine ⟨((k_3 + 1 : Nat) : Int), wrapE (by omega) (by omega) (by omega), ?_⟩
          conv => whnf
          exact ⟨k_3 + 1, [0, 1, 2], [], [], ⟨hlt_k_3, hL1⟩, by show r_1.1.L.length - (k_3 + 1) < r_1.1.L.length - k_3; omega, wk_mk [0, 1, 2] [] [] rfl ⟨argE (by (conv => lhs; whnf); all_goals rfl) rfl, argE (by (conv => lhs; whnf); all_goals rfl) rfl, argE (by (conv => lhs; whnf); all_goals rfl) rfl, argP (id := 0) (by (conv => lhs; whnf); all_goals rfl) rfl, argP (id := 2) (by (conv => lhs; whnf); all_goals rfl) rfl, argE (by (conv => lhs; whnf); all_goals rfl) rfl, argE (by (conv => lhs; whnf); all_goals rfl) rfl, trivial⟩ ⟨boxL rfl rfl rfl ⟨(.ni _ rfl), (.ni _ rfl), (.ni _ rfl), (.ni _ rfl), (.ni _ rfl), (.oslg 1 1 rfl), trivial⟩, blkR (fun _ => ⟨rfl, rfl⟩) rfl rfl, boxL rfl rfl rfl ⟨(.ni _ rfl), (.ni _ rfl), (.ni _ rfl), (.ni _ rfl), (.ni _ rfl), (.ni _ rfl), trivial⟩, trivial⟩⟩
      · replace hL1 := cond_t hb_29 hL1
        conv => whnf
        refine ⟨((k_3 + 1 : Nat) : Int), wrapE (by omega) (by omega) (by omega), ?_⟩
        conv => whnf
        exact ⟨k_3 + 1, [0, 1, 2], [], [], ⟨hlt_k_3, hL1⟩, by show r_1.1.L.length - (k_3 + 1) < r_1.1.L.length - k_3; omega, wk_mk [0, 1, 2] [] [] rfl ⟨argE (by (conv => lhs; whnf); all_goals rfl) rfl, argE (by (conv => lhs; whnf); all_goals rfl) rfl, argE (by (conv => lhs; whnf); all_goals rfl) rfl, argP (id := 0) (by (conv => lhs; whnf); all_goals rfl) rfl, argP (id := 2) (by (conv => lhs; whnf); all_goals rfl) rfl, argE (by (conv => lhs; whnf); all_goals rfl) rfl, argE (by (conv => lhs; whnf); all_goals rfl) rfl, trivial⟩ ⟨boxL rfl rfl rfl ⟨(.ni _ rfl), (.ni _ rfl), (.ni _ rfl), (.ni _ rfl), (.ni _ rfl), (.oslg 1 1 rfl), trivial⟩, blkR (fun _ => ⟨rfl, rfl⟩) rfl rfl, boxL rfl rfl rfl ⟨(.ni _ rfl), (.ni _ rfl), (.ni _ rfl), (.ni _ rfl), (.ni _ rfl), (.ni _ rfl), trivial⟩, trivial⟩⟩
    · rw [drop_nil (show r_1.1.L.length ≤ k_3 by have h := of_decide_eq_false h; omega), ref15_Verdict_L1.eq_1] at hL1
      conv => whnf
      obtain rfl := Option.some.inj hL1
      replace hF := fin_brk hF
      try dsimp only at hF
      obtain rfl := Option.some.inj hF
      exact ret_gz [] [] [] rfl (tupL rfl ⟨(argA (c := [.int .i64 (0 : Int), .int .i64 (0 : Int), .int .i64 (0 : Int), .int .i64 (0 : Int), .int .i64 (0 : Int), .nils]) (by (conv => lhs; whnf); all_goals rfl) rfl ⟨(.ni _ rfl), (.ni _ rfl), (.ni _ rfl), (.ni _ rfl), (.ni _ rfl), (.nils _), trivial⟩), (argE (by (conv => lhs; whnf); all_goals rfl) rfl), (argE (by (conv => lhs; whnf); all_goals rfl) rfl), trivial⟩) trivial

set_option maxRecDepth 100000 in
set_option maxHeartbeats 40000000 in
theorem screen_Find_ac (x_0 : Screening) (x_1 : Int) (r : Check × Bool) (hF : screen_Find x_0 x_1 = some r) : AC Try.prog 16 [.agg (encScreening x_0), .int .i64 x_1] [] (.tup [.agg (encCheck r.1), .bool r.2]) [] := by
  refine ac_of tab_ok follows_ok Try.func16 rfl Try.ntmps16 rfl ?_
  unfold screen_Find at hF
  conv => whnf
  obtain ⟨r_1, h_r_1, hF⟩ := bind_some hF
  refine ⟨_, _, _, _, _, _, _, _, _, callX false [] [] 0 Try.func34 (by decide) rfl (screen_at_ac x_0 x_1 r_1 h_r_1) rfl ⟨(argE (by (conv => lhs; whnf); all_goals rfl) rfl), (argE (by (conv => lhs; whnf); all_goals rfl) rfl), trivial⟩ rfl trivial rfl rfl rfl lend0 trivial rfl, ?_⟩
  conv => whnf
  refine ⟨fun hb_2 => ?_, fun hb_2 => ?_⟩
  · replace hF := cond_t hb_2 hF
    conv => whnf
    obtain rfl := Option.some.inj hF
    exact ret_gz [] [] [] rfl (tupL rfl ⟨(argE (by (conv => lhs; whnf); all_goals rfl) rfl), (argFl (by (conv => lhs; whnf); all_goals rfl)), trivial⟩) trivial
  · replace hF := cond_f hb_2 hF
    conv => whnf
    obtain ⟨e_2, h_e_2, hF⟩ := bind_some hF
    refine ix_q (enc := encCheck) (l := x_0.L) h_e_2 rfl (fun m_e_2 hm_e_2 hx_e_2 => ?_)
    conv => whnf
    obtain rfl := Option.some.inj hF
    exact ret_gz [] [] [] rfl (tupL rfl ⟨(argE (by (conv => lhs; whnf); all_goals rfl) rfl), (argT (by (conv => lhs; whnf); all_goals rfl)), trivial⟩) trivial

set_option maxRecDepth 100000 in
set_option maxHeartbeats 40000000 in
theorem screen_Cleared_ac (x_0 : Screening) (r : (List Int)) (hF : screen_Cleared x_0 = some r) : AC Try.prog 18 [.agg (encScreening x_0)] [] (.lst 1 (r.map iA)) [] := by
  refine ac_of tab_ok follows_ok Try.func18 rfl Try.ntmps18 rfl ?_
  unfold screen_Cleared at hF
  conv => whnf
  refine len_q (enc := encCheck) (l := x_0.L) rfl ?_
  conv => whnf
  obtain ⟨c_1, hc_1, hF⟩ := fin_some hF
  refine sw_bv 0 (v := .agg [.int .i64 x_0.Limits.e0, .int .i64 x_0.Limits.e1, .int .i64 x_0.Limits.e2, .int .i64 x_0.Limits.e3, .int .i64 x_0.Next, .lst 5 (x_0.L.map encCheck)]) (by (conv => lhs; whnf); all_goals rfl) (fun hb => ?_)
  have hbd_k_3 : x_0.L.length ≤ 9223372036854775807 := bnd_len (enc := encCheck) ((bnd_at hb.cell 5 rfl))
  refine sw_loop tab_ok follows_ok (fun y : Nat × (List Int) => y.1 ≤ x_0.L.length ∧ screen_Cleared_L1 (x_0.L.drop y.1) y.1 y.2 = some c_1) (fun y => ⟨eL [(3, .osl 0), (7, .lst 5 (x_0.L.map encCheck)), (8, .int .i64 (x_0.L.length : Int)), (9, .int .i64 (y.1 : Int))], hL [(0, .row 1 (y.2.map iA))], 1⟩) (fun y => x_0.L.length - y.1) (0, ([] : List Int)) ⟨Nat.zero_le _, hc_1⟩ (wk_mk [] [0] [] rfl ⟨argZ (by (conv => lhs; whnf); all_goals rfl) rfl, argE (by (conv => lhs; whnf); all_goals rfl) rfl, argE (by (conv => lhs; whnf); all_goals rfl) rfl, argE (by (conv => lhs; whnf); all_goals rfl) rfl, trivial⟩ ⟨blkZ rfl, trivial⟩) ?_
  rintro ⟨k_3, a_1⟩ ⟨hk_k_3, hL1⟩
  try dsimp only at hk_k_3 hL1
  show awp _ _ _ _ _ _ ⟨eL [(3, .osl 0), (7, .lst 5 (x_0.L.map encCheck)), (8, .int .i64 (x_0.L.length : Int)), (9, .int .i64 (k_3 : Int))], hL [(0, .row 1 (a_1.map iA))], 1⟩
  conv => whnf
  refine ⟨fun h => ?_, fun h => ?_⟩
  · have hlt_k_3 : k_3 < x_0.L.length := by have h := of_decide_eq_true h; omega
    obtain ⟨e_4, h_e_4⟩ : ∃ y, x_0.L[k_3]? = some y := ⟨_, List.getElem?_eq_getElem hlt_k_3⟩
    rw [drop_cons h_e_4, screen_Cleared_L1.eq_2] at hL1
    conv => whnf
    refine ⟨k_3, _, rfl, ix_map h_e_4, ?_⟩
    conv => whnf
    refine ⟨fun hb_7 => ?_, fun hb_7 => ?_⟩
    · replace hL1 := cond_t hb_7 hL1
      conv => whnf
      obtain ⟨l_5, h_l_5, hL1⟩ := bind_some hL1
      refine ap_q (enc := iA) (l := a_1) (y := ([e_4.Bag] : List Int)) h_l_5 rfl rfl (by decide) ?_
      conv => whnf
      refine ⟨((k_3 + 1 : Nat) : Int), wrapE (by omega) (by omega) (by omega), ?_⟩
      conv => whnf
      exact ⟨(k_3 + 1, l_5), [3], [], [], ⟨hlt_k_3, hL1⟩, by show x_0.L.length - (k_3 + 1) < x_0.L.length - k_3; omega, wk_mk [3] [] [] rfl ⟨argO (id := 3) (by (conv => lhs; whnf); all_goals rfl) rfl, argE (by (conv => lhs; whnf); all_goals rfl) rfl, argE (by (conv => lhs; whnf); all_goals rfl) rfl, argE (by (conv => lhs; whnf); all_goals rfl) rfl, trivial⟩ ⟨blkR (fun _ => ⟨rfl, rfl⟩) rfl rfl, trivial⟩⟩
    · replace hL1 := cond_f hb_7 hL1
      conv => whnf
      refine ⟨((k_3 + 1 : Nat) : Int), wrapE (by omega) (by omega) (by omega), ?_⟩
      conv => whnf
      exact ⟨(k_3 + 1, a_1), [0], [], [], ⟨hlt_k_3, hL1⟩, by show x_0.L.length - (k_3 + 1) < x_0.L.length - k_3; omega, wk_mk [0] [] [] rfl ⟨argO (id := 0) (by (conv => lhs; whnf); all_goals rfl) rfl, argE (by (conv => lhs; whnf); all_goals rfl) rfl, argE (by (conv => lhs; whnf); all_goals rfl) rfl, argE (by (conv => lhs; whnf); all_goals rfl) rfl, trivial⟩ ⟨blkR (fun _ => ⟨rfl, rfl⟩) rfl rfl, trivial⟩⟩
  · rw [drop_nil (show x_0.L.length ≤ k_3 by have h := of_decide_eq_false h; omega), screen_Cleared_L1.eq_1] at hL1
    conv => whnf
    obtain rfl := Option.some.inj hL1
    replace hF := fin_brk hF
    try dsimp only at hF
    obtain rfl := Option.some.inj hF
    exact ret_gz [] [] [0] rfl (argOL 0 (by (conv => lhs; whnf); all_goals rfl) rfl rfl (map_ni (fun _ => ⟨rfl, rfl⟩) _)) trivial

set_option maxRecDepth 100000 in
set_option maxHeartbeats 40000000 in
theorem ref15_Cleared_ac (x_0 : Screening) (r : (List Int)) (hF : ref15_Cleared x_0 = some r) : AC Try.prog 29 [.agg (encScreening x_0)] [] (.lst 1 (r.map iA)) [] := by
  refine ac_of tab_ok follows_ok Try.func29 rfl Try.ntmps29 rfl ?_
  unfold ref15_Cleared at hF
  conv => whnf
  obtain ⟨c_1, hc_1, hF⟩ := fin_some hF
  refine sw_bv 0 (v := .agg [.int .i64 x_0.Limits.e0, .int .i64 x_0.Limits.e1, .int .i64 x_0.Limits.e2, .int .i64 x_0.Limits.e3, .int .i64 x_0.Next, .lst 5 (x_0.L.map encCheck)]) (by (conv => lhs; whnf); all_goals rfl) (fun hb => ?_)
  have hbd_k_3 : x_0.L.length ≤ 9223372036854775807 := bnd_len (enc := encCheck) ((bnd_at hb.cell 5 rfl))
  refine sw_loop tab_ok follows_ok (fun y : Nat × (List Int) => y.1 ≤ x_0.L.length ∧ ref15_Cleared_L1 (x_0.L.drop y.1) y.1 y.2 = some c_1) (fun y => ⟨eL [(1, .ptr 0 0), (3, .osl 1), (4, .int .i64 (y.1 : Int))], hL [(0, .box [.int .i64 x_0.Limits.e0, .int .i64 x_0.Limits.e1, .int .i64 x_0.Limits.e2, .int .i64 x_0.Limits.e3, .int .i64 x_0.Next, .lst 5 (x_0.L.map encCheck)]), (1, .row 1 (y.2.map iA))], 2⟩) (fun y => x_0.L.length - y.1) (0, ([] : List Int)) ⟨Nat.zero_le _, hc_1⟩ (wk_mk [0] [1] [] rfl ⟨argP (id := 0) (by (conv => lhs; whnf); all_goals rfl) rfl, argZ (by (conv => lhs; whnf); all_goals rfl) rfl, argE (by (conv => lhs; whnf); all_goals rfl) rfl, trivial⟩ ⟨boxL rfl rfl rfl ⟨(.ni _ rfl), (.ni _ rfl), (.ni _ rfl), (.ni _ rfl), (.ni _ rfl), (.ni _ rfl), trivial⟩, blkZ rfl, trivial⟩) ?_
  rintro ⟨k_3, a_1⟩ ⟨hk_k_3, hL1⟩
  try dsimp only at hk_k_3 hL1
  show awp _ _ _ _ _ _ ⟨eL [(1, .ptr 0 0), (3, .osl 1), (4, .int .i64 (k_3 : Int))], hL [(0, .box [.int .i64 x_0.Limits.e0, .int .i64 x_0.Limits.e1, .int .i64 x_0.Limits.e2, .int .i64 x_0.Limits.e3, .int .i64 x_0.Next, .lst 5 (x_0.L.map encCheck)]), (1, .row 1 (a_1.map iA))], 2⟩
  conv => whnf
  refine len_q (enc := encCheck) (l := x_0.L) rfl ?_
  conv => whnf
  refine ⟨fun h => ?_, fun h => ?_⟩
  · have hlt_k_3 : k_3 < x_0.L.length := by have h := of_decide_eq_true h; omega
    obtain ⟨e_4, h_e_4⟩ : ∃ y, x_0.L[k_3]? = some y := ⟨_, List.getElem?_eq_getElem hlt_k_3⟩
    rw [drop_cons h_e_4, ref15_Cleared_L1.eq_2] at hL1
    conv => whnf
    refine ⟨k_3, _, rfl, ix_map h_e_4, ?_⟩
    conv => whnf
    refine ⟨fun hb_7 => ?_, fun hb_7 => ?_⟩
    · replace hL1 := cond_t hb_7 hL1
      conv => whnf
      refine ⟨k_3, _, rfl, ix_map h_e_4, ?_⟩
      conv => whnf
      obtain ⟨l_5, h_l_5, hL1⟩ := bind_some hL1
      refine ap_q (enc := iA) (l := a_1) (y := ([e_4.Bag] : List Int)) h_l_5 rfl rfl (by decide) ?_
      conv => whnf
      refine ⟨((k_3 + 1 : Nat) : Int), wrapE (by omega) (by omega) (by omega), ?_⟩
      conv => whnf
      exact ⟨(k_3 + 1, l_5), [0, 3], [], [], ⟨hlt_k_3, hL1⟩, by show x_0.L.length - (k_3 + 1) < x_0.L.length - k_3; omega, wk_mk [0, 3] [] [] rfl ⟨argP (id := 0) (by (conv => lhs; whnf); all_goals rfl) rfl, argO (id := 3) (by (conv => lhs; whnf); all_goals rfl) rfl, argE (by (conv => lhs; whnf); all_goals rfl) rfl, trivial⟩ ⟨boxL rfl rfl rfl ⟨(.ni _ rfl), (.ni _ rfl), (.ni _ rfl), (.ni _ rfl), (.ni _ rfl), (.ni _ rfl), trivial⟩, blkR (fun _ => ⟨rfl, rfl⟩) rfl rfl, trivial⟩⟩
    · replace hL1 := cond_f hb_7 hL1
      conv => whnf
      refine ⟨((k_3 + 1 : Nat) : Int), wrapE (by omega) (by omega) (by omega), ?_⟩
      conv => whnf
      exact ⟨(k_3 + 1, a_1), [0, 1], [], [], ⟨hlt_k_3, hL1⟩, by show x_0.L.length - (k_3 + 1) < x_0.L.length - k_3; omega, wk_mk [0, 1] [] [] rfl ⟨argP (id := 0) (by (conv => lhs; whnf); all_goals rfl) rfl, argO (id := 1) (by (conv => lhs; whnf); all_goals rfl) rfl, argE (by (conv => lhs; whnf); all_goals rfl) rfl, trivial⟩ ⟨boxL rfl rfl rfl ⟨(.ni _ rfl), (.ni _ rfl), (.ni _ rfl), (.ni _ rfl), (.ni _ rfl), (.ni _ rfl), trivial⟩, blkR (fun _ => ⟨rfl, rfl⟩) rfl rfl, trivial⟩⟩
  · rw [drop_nil (show x_0.L.length ≤ k_3 by have h := of_decide_eq_false h; omega), ref15_Cleared_L1.eq_1] at hL1
    conv => whnf
    obtain rfl := Option.some.inj hL1
    replace hF := fin_brk hF
    try dsimp only at hF
    obtain rfl := Option.some.inj hF
    exact ret_gz [] [] [1] rfl (argOL 1 (by (conv => lhs; whnf); all_goals rfl) rfl rfl (map_ni (fun _ => ⟨rfl, rfl⟩) _)) trivial

set_option maxRecDepth 100000 in
set_option maxHeartbeats 40000000 in
theorem keep_Ints_ac (x_0 : (List Int)) (x_1 : (List Int)) (r : Bool) (hF : keep_Ints x_0 x_1 = some r) : AC Try.prog 28 [.lst 1 (x_0.map iA), .lst 1 (x_1.map iA)] [] (.bool r) [] := by
  refine ac_of tab_ok follows_ok Try.func28 rfl Try.ntmps28 rfl ?_
  unfold keep_Ints at hF
  conv => whnf
  refine len_q (enc := iA) (l := x_0) rfl ?_
  conv => whnf
  refine len_q (enc := iA) (l := x_1) rfl ?_
  conv => whnf
  refine ⟨fun hb_8 => ?_, fun hb_8 => ?_⟩
  · replace hF := cond_t hb_8 hF
    conv => whnf
    obtain rfl := Option.some.inj hF
    exact ret_gz [] [] [] rfl (argFl (by (conv => lhs; whnf); all_goals rfl)) trivial
  · replace hF := cond_f hb_8 hF
    conv => whnf
    obtain ⟨c_1, hc_1, hF⟩ := fin_some hF
    refine sw_bv 0 (v := .lst 1 (x_0.map iA)) (by (conv => lhs; whnf); all_goals rfl) (fun hb => ?_)
    have hbd_k_2 : x_0.length ≤ 9223372036854775807 := bnd_len (enc := iA) (hb)
    refine sw_loop tab_ok follows_ok (fun y : Nat => y ≤ x_0.length ∧ keep_Ints_L1 x_1 (x_0.drop y) y = some c_1) (fun y => ⟨eL [(0, .lst 1 (x_0.map iA)), (1, .lst 1 (x_1.map iA)), (5, .int .i64 (y : Int))], hL [], 0⟩) (fun y => x_0.length - y) 0 ⟨Nat.zero_le _, hc_1⟩ (wk_mk [] [] [] rfl ⟨argE (by (conv => lhs; whnf); all_goals rfl) rfl, argE (by (conv => lhs; whnf); all_goals rfl) rfl, argE (by (conv => lhs; whnf); all_goals rfl) rfl, trivial⟩ trivial) ?_
    rintro k_2 ⟨hk_k_2, hL1⟩
    try dsimp only at hk_k_2 hL1
    show awp _ _ _ _ _ _ ⟨eL [(0, .lst 1 (x_0.map iA)), (1, .lst 1 (x_1.map iA)), (5, .int .i64 (k_2 : Int))], hL [], 0⟩
    conv => whnf
    refine len_q (enc := iA) (l := x_0) rfl ?_
    conv => whnf
    refine ⟨fun h => ?_, fun h => ?_⟩
    · have hlt_k_2 : k_2 < x_0.length := by have h := of_decide_eq_true h; omega
      obtain ⟨e_3, h_e_3⟩ : ∃ y, x_0[k_2]? = some y := ⟨_, List.getElem?_eq_getElem hlt_k_2⟩
      rw [drop_cons h_e_3, keep_Ints_L1.eq_2] at hL1
      conv => whnf
      refine ⟨k_2, _, rfl, ix_map h_e_3, ?_⟩
      conv => whnf
      obtain ⟨e_4, h_e_4, hL1⟩ := bind_some hL1
      refine ix_q (enc := iA) (l := x_1) h_e_4 rfl (fun m_e_4 hm_e_4 hx_e_4 => ?_)
      conv => whnf
      refine ⟨by kernel_rfl, ?_⟩
      conv => whnf
      refine ⟨fun hb_9 => ?_, fun hb_9 => ?_⟩
      · replace hL1 := cond_t hb_9 hL1
        conv => whnf
        obtain rfl := Option.some.inj hL1
        replace hF := fin_ret hF
        obtain rfl := Option.some.inj hF
        exact ret_gz [] [] [] rfl (argFl (by (conv => lhs; whnf); all_goals rfl)) trivial
      · replace hL1 := cond_f hb_9 hL1
        conv => whnf
        refine ⟨((k_2 + 1 : Nat) : Int), wrapE (by omega) (by omega) (by omega), ?_⟩
        conv => whnf
        exact ⟨k_2 + 1, [], [], [], ⟨hlt_k_2, hL1⟩, by show x_0.length - (k_2 + 1) < x_0.length - k_2; omega, wk_mk [] [] [] rfl ⟨argE (by (conv => lhs; whnf); all_goals rfl) rfl, argE (by (conv => lhs; whnf); all_goals rfl) rfl, argE (by (conv => lhs; whnf); all_goals rfl) rfl, trivial⟩ trivial⟩
    · rw [drop_nil (show x_0.length ≤ k_2 by have h := of_decide_eq_false h; omega), keep_Ints_L1.eq_1] at hL1
      conv => whnf
      obtain rfl := Option.some.inj hL1
      replace hF := fin_brk hF
      try dsimp only at hF
      obtain rfl := Option.some.inj hF
      exact ret_gz [] [] [] rfl (argT (by (conv => lhs; whnf); all_goals rfl)) trivial

set_option maxRecDepth 100000 in
set_option maxHeartbeats 40000000 in
theorem slices_SortFunc_Alarm_ac (x_0 : (List Alarm)) (r : (List Alarm)) (hF : slices_SortFunc_Alarm x_0 = some r) : AC Try.prog 41 [.osl 0, .fn 42 []] [.row 4 (x_0.map encAlarm)] (.tup []) [.row 4 (r.map encAlarm)] := by
  exact srtAlarm_ac x_0 r hF

set_option maxRecDepth 100000 in
set_option maxHeartbeats 40000000 in
theorem screen_Alarms_ac (x_0 : Screening) (r : (List Alarm)) (hF : screen_Alarms x_0 = some r) : AC Try.prog 20 [.agg (encScreening x_0)] [] (.lst 4 (r.map encAlarm)) [] := by
  refine ac_of tab_ok follows_ok Try.func20 rfl Try.ntmps20 rfl ?_
  unfold screen_Alarms at hF
  conv => whnf
  refine len_q (enc := encCheck) (l := x_0.L) rfl ?_
  conv => whnf
  obtain ⟨c_1, hc_1, hF⟩ := fin_some hF
  refine sw_bv 0 (v := .agg [.int .i64 x_0.Limits.e0, .int .i64 x_0.Limits.e1, .int .i64 x_0.Limits.e2, .int .i64 x_0.Limits.e3, .int .i64 x_0.Next, .lst 5 (x_0.L.map encCheck)]) (by (conv => lhs; whnf); all_goals rfl) (fun hb => ?_)
  have hbd_k_3 : x_0.L.length ≤ 9223372036854775807 := bnd_len (enc := encCheck) ((bnd_at hb.cell 5 rfl))
  refine sw_loop tab_ok follows_ok (fun y : Nat × (List Alarm) => y.1 ≤ x_0.L.length ∧ screen_Alarms_L1 x_0 (x_0.L.drop y.1) y.1 y.2 = some c_1) (fun y => ⟨eL [(1, .ptr 0 0), (3, .osl 1), (7, .lst 5 (x_0.L.map encCheck)), (8, .int .i64 (x_0.L.length : Int)), (9, .int .i64 (y.1 : Int))], hL [(0, .box [.int .i64 x_0.Limits.e0, .int .i64 x_0.Limits.e1, .int .i64 x_0.Limits.e2, .int .i64 x_0.Limits.e3, .int .i64 x_0.Next, .lst 5 (x_0.L.map encCheck)]), (1, .row 4 (y.2.map encAlarm))], 2⟩) (fun y => x_0.L.length - y.1) (0, ([] : List Alarm)) ⟨Nat.zero_le _, hc_1⟩ (wk_mk [0] [1] [] rfl ⟨argP (id := 0) (by (conv => lhs; whnf); all_goals rfl) rfl, argZ (by (conv => lhs; whnf); all_goals rfl) rfl, argE (by (conv => lhs; whnf); all_goals rfl) rfl, argE (by (conv => lhs; whnf); all_goals rfl) rfl, argE (by (conv => lhs; whnf); all_goals rfl) rfl, trivial⟩ ⟨boxL rfl rfl rfl ⟨(.ni _ rfl), (.ni _ rfl), (.ni _ rfl), (.ni _ rfl), (.ni _ rfl), (.ni _ rfl), trivial⟩, blkZ rfl, trivial⟩) ?_
  rintro ⟨k_3, a_1⟩ ⟨hk_k_3, hL1⟩
  try dsimp only at hk_k_3 hL1
  show awp _ _ _ _ _ _ ⟨eL [(1, .ptr 0 0), (3, .osl 1), (7, .lst 5 (x_0.L.map encCheck)), (8, .int .i64 (x_0.L.length : Int)), (9, .int .i64 (k_3 : Int))], hL [(0, .box [.int .i64 x_0.Limits.e0, .int .i64 x_0.Limits.e1, .int .i64 x_0.Limits.e2, .int .i64 x_0.Limits.e3, .int .i64 x_0.Next, .lst 5 (x_0.L.map encCheck)]), (1, .row 4 (a_1.map encAlarm))], 2⟩
  conv => whnf
  refine ⟨fun h => ?_, fun h => ?_⟩
  · have hlt_k_3 : k_3 < x_0.L.length := by have h := of_decide_eq_true h; omega
    obtain ⟨e_4, h_e_4⟩ : ∃ y, x_0.L[k_3]? = some y := ⟨_, List.getElem?_eq_getElem hlt_k_3⟩
    rw [drop_cons h_e_4, screen_Alarms_L1.eq_2] at hL1
    conv => whnf
    refine ⟨k_3, _, rfl, ix_map h_e_4, ?_⟩
    conv => whnf
    refine ⟨fun hb_7 => ?_, fun hb_7 => ?_⟩
    · replace hL1 := cond_t hb_7 hL1
      conv => whnf
      obtain ⟨r_5, h_r_5, hL1⟩ := bind_some hL1
      refine ⟨_, _, _, _, _, _, _, _, _, callX false [] [] 0 Try.func37 (by decide) rfl (screen_deadline_ac x_0 e_4 r_5 h_r_5) rfl ⟨(argE (by (conv => lhs; whnf); all_goals rfl) rfl), (argE (by (conv => lhs; whnf); all_goals rfl) rfl), trivial⟩ rfl trivial rfl rfl rfl lend0 trivial rfl, ?_⟩
      conv => whnf
      obtain ⟨l_6, h_l_6, hL1⟩ := bind_some hL1
      refine ap_q (enc := encAlarm) (l := a_1) (y := ([(⟨e_4.Image, e_4.Bag, e_4.Level, r_5⟩ : Alarm)] : List Alarm)) h_l_6 rfl rfl (by decide) ?_
      conv => whnf
      refine ⟨by kernel_rfl, ?_⟩
      conv => whnf
      refine ⟨((k_3 + 1 : Nat) : Int), wrapE (by omega) (by omega) (by omega), ?_⟩
      conv => whnf
      exact ⟨(k_3 + 1, l_6), [0, 5], [], [], ⟨hlt_k_3, hL1⟩, by show x_0.L.length - (k_3 + 1) < x_0.L.length - k_3; omega, wk_mk [0, 5] [] [] rfl ⟨argP (id := 0) (by (conv => lhs; whnf); all_goals rfl) rfl, argO (id := 5) (by (conv => lhs; whnf); all_goals rfl) rfl, argE (by (conv => lhs; whnf); all_goals rfl) rfl, argE (by (conv => lhs; whnf); all_goals rfl) rfl, argE (by (conv => lhs; whnf); all_goals rfl) rfl, trivial⟩ ⟨boxL rfl rfl rfl ⟨(.ni _ rfl), (.ni _ rfl), (.ni _ rfl), (.ni _ rfl), (.ni _ rfl), (.ni _ rfl), trivial⟩, blkR (fun _ => ⟨rfl, rfl⟩) rfl rfl, trivial⟩⟩
    · replace hL1 := cond_f hb_7 hL1
      conv => whnf
      refine ⟨((k_3 + 1 : Nat) : Int), wrapE (by omega) (by omega) (by omega), ?_⟩
      conv => whnf
      exact ⟨(k_3 + 1, a_1), [0, 1], [], [], ⟨hlt_k_3, hL1⟩, by show x_0.L.length - (k_3 + 1) < x_0.L.length - k_3; omega, wk_mk [0, 1] [] [] rfl ⟨argP (id := 0) (by (conv => lhs; whnf); all_goals rfl) rfl, argO (id := 1) (by (conv => lhs; whnf); all_goals rfl) rfl, argE (by (conv => lhs; whnf); all_goals rfl) rfl, argE (by (conv => lhs; whnf); all_goals rfl) rfl, argE (by (conv => lhs; whnf); all_goals rfl) rfl, trivial⟩ ⟨boxL rfl rfl rfl ⟨(.ni _ rfl), (.ni _ rfl), (.ni _ rfl), (.ni _ rfl), (.ni _ rfl), (.ni _ rfl), trivial⟩, blkR (fun _ => ⟨rfl, rfl⟩) rfl rfl, trivial⟩⟩
  · rw [drop_nil (show x_0.L.length ≤ k_3 by have h := of_decide_eq_false h; omega), screen_Alarms_L1.eq_1] at hL1
    conv => whnf
    obtain rfl := Option.some.inj hL1
    replace hF := fin_brk hF
    try dsimp only at hF
    obtain ⟨r_9, h_r_9, hF⟩ := bind_some hF
    refine ⟨_, _, _, _, _, _, _, _, _, callX false [1] [] 0 Try.func41 (by decide) rfl (slices_SortFunc_Alarm_ac a_1 r_9 h_r_9) rfl ⟨(argO (id := 1) (by (conv => lhs; whnf); all_goals rfl) rfl), (argE (by (conv => lhs; whnf); all_goals rfl) rfl), trivial⟩ rfl ⟨(grR (fun _ => ⟨rfl, rfl⟩) rfl), trivial⟩ rfl rfl rfl lend0 ⟨renR (fun _ => ⟨rfl, rfl⟩), trivial⟩ rfl, ?_⟩
    conv => whnf
    obtain rfl := Option.some.inj hF
    exact ret_gz [] [] [1] rfl (argOL 1 (by (conv => lhs; whnf); all_goals rfl) rfl rfl (map_ni (fun _ => ⟨rfl, rfl⟩) _)) trivial

set_option maxRecDepth 100000 in
set_option maxHeartbeats 40000000 in
theorem ref15_Alarms_ac (x_0 : Screening) (r : (List Alarm)) (hF : ref15_Alarms x_0 = some r) : AC Try.prog 31 [.agg (encScreening x_0)] [] (.lst 4 (r.map encAlarm)) [] := by
  refine ac_of tab_ok follows_ok Try.func31 rfl Try.ntmps31 rfl ?_
  unfold ref15_Alarms at hF
  conv => whnf
  obtain ⟨c_1, hc_1, hF⟩ := fin_some hF
  refine sw_bv 0 (v := .agg [.int .i64 x_0.Limits.e0, .int .i64 x_0.Limits.e1, .int .i64 x_0.Limits.e2, .int .i64 x_0.Limits.e3, .int .i64 x_0.Next, .lst 5 (x_0.L.map encCheck)]) (by (conv => lhs; whnf); all_goals rfl) (fun hb => ?_)
  have hbd_k_3 : x_0.L.length ≤ 9223372036854775807 := bnd_len (enc := encCheck) ((bnd_at hb.cell 5 rfl))
  refine sw_loop tab_ok follows_ok (fun y : Nat × (List Alarm) => y.1 ≤ x_0.L.length ∧ ref15_Alarms_L1 x_0 (x_0.L.drop y.1) y.1 y.2 = some c_1) (fun y => ⟨eL [(1, .ptr 0 0), (3, .osl 1), (4, .int .i64 (y.1 : Int))], hL [(0, .box [.int .i64 x_0.Limits.e0, .int .i64 x_0.Limits.e1, .int .i64 x_0.Limits.e2, .int .i64 x_0.Limits.e3, .int .i64 x_0.Next, .lst 5 (x_0.L.map encCheck)]), (1, .row 4 (y.2.map encAlarm))], 2⟩) (fun y => x_0.L.length - y.1) (0, ([] : List Alarm)) ⟨Nat.zero_le _, hc_1⟩ (wk_mk [0] [1] [] rfl ⟨argP (id := 0) (by (conv => lhs; whnf); all_goals rfl) rfl, argZ (by (conv => lhs; whnf); all_goals rfl) rfl, argE (by (conv => lhs; whnf); all_goals rfl) rfl, trivial⟩ ⟨boxL rfl rfl rfl ⟨(.ni _ rfl), (.ni _ rfl), (.ni _ rfl), (.ni _ rfl), (.ni _ rfl), (.ni _ rfl), trivial⟩, blkZ rfl, trivial⟩) ?_
  rintro ⟨k_3, a_1⟩ ⟨hk_k_3, hL1⟩
  try dsimp only at hk_k_3 hL1
  show awp _ _ _ _ _ _ ⟨eL [(1, .ptr 0 0), (3, .osl 1), (4, .int .i64 (k_3 : Int))], hL [(0, .box [.int .i64 x_0.Limits.e0, .int .i64 x_0.Limits.e1, .int .i64 x_0.Limits.e2, .int .i64 x_0.Limits.e3, .int .i64 x_0.Next, .lst 5 (x_0.L.map encCheck)]), (1, .row 4 (a_1.map encAlarm))], 2⟩
  conv => whnf
  refine len_q (enc := encCheck) (l := x_0.L) rfl ?_
  conv => whnf
  refine ⟨fun h => ?_, fun h => ?_⟩
  · have hlt_k_3 : k_3 < x_0.L.length := by have h := of_decide_eq_true h; omega
    obtain ⟨e_4, h_e_4⟩ : ∃ y, x_0.L[k_3]? = some y := ⟨_, List.getElem?_eq_getElem hlt_k_3⟩
    rw [drop_cons h_e_4, ref15_Alarms_L1.eq_2] at hL1
    conv => whnf
    refine ⟨k_3, _, rfl, ix_map h_e_4, ?_⟩
    conv => whnf
    refine ⟨fun hb_41 => ?_, fun hb_41 => ?_⟩
    · replace hL1 := cond_t hb_41 hL1
      conv => whnf
      refine ⟨((k_3 + 1 : Nat) : Int), wrapE (by omega) (by omega) (by omega), ?_⟩
      conv => whnf
      exact ⟨(k_3 + 1, a_1), [0, 1], [], [], ⟨hlt_k_3, hL1⟩, by show x_0.L.length - (k_3 + 1) < x_0.L.length - k_3; omega, wk_mk [0, 1] [] [] rfl ⟨argP (id := 0) (by (conv => lhs; whnf); all_goals rfl) rfl, argO (id := 1) (by (conv => lhs; whnf); all_goals rfl) rfl, argE (by (conv => lhs; whnf); all_goals rfl) rfl, trivial⟩ ⟨boxL rfl rfl rfl ⟨(.ni _ rfl), (.ni _ rfl), (.ni _ rfl), (.ni _ rfl), (.ni _ rfl), (.ni _ rfl), trivial⟩, blkR (fun _ => ⟨rfl, rfl⟩) rfl rfl, trivial⟩⟩
    · replace hL1 := cond_f hb_41 hL1
      conv => whnf
      obtain ⟨r_5, h_r_5, hL1⟩ := bind_some hL1
      refine ⟨_, _, _, _, _, _, _, _, _, callX false [] [] 0 Try.func45 (by decide) rfl (ref15_deadline_ac x_0 e_4 r_5 h_r_5) rfl ⟨(argE (by (conv => lhs; whnf); all_goals rfl) rfl), (argE (by (conv => lhs; whnf); all_goals rfl) rfl), trivial⟩ rfl trivial rfl rfl rfl lend0 trivial rfl, ?_⟩
      conv => whnf
      refine ⟨by kernel_rfl, ?_⟩
      conv => whnf
      obtain ⟨c_2, hc_2, hL1⟩ := sub_some hL1
      refine sw_br 1 (sz := 4) (xs := a_1.map encAlarm) (by (conv => lhs; whnf); all_goals rfl) (fun hb => ?_)
      have hbd_k_7 : a_1.length ≤ 9223372036854775807 := bnd_len (enc := encAlarm) (hb)
      refine sw_loop tab_ok follows_ok (fun y : Nat => y ≤ a_1.length ∧ ref15_Alarms_L2 e_4 r_5 (a_1.drop y) y = some c_2) (fun y => ⟨eL [(1, .ptr 0 0), (3, .osl 1), (4, .int .i64 (k_3 : Int)), (6, .ptr 2 0), (7, .int .i64 (y : Int))], hL [(0, .box [.int .i64 x_0.Limits.e0, .int .i64 x_0.Limits.e1, .int .i64 x_0.Limits.e2, .int .i64 x_0.Limits.e3, .int .i64 x_0.Next, .lst 5 (x_0.L.map encCheck)]), (1, .row 4 (a_1.map encAlarm)), (2, .box [.int .i64 e_4.Image, .int .i64 e_4.Bag, .int .i64 e_4.Level, .int .i64 r_5])], 3⟩) (fun y => a_1.length - y) 0 ⟨Nat.zero_le _, hc_2⟩ (wk_mk [0, 1, 4] [] [] rfl ⟨argP (id := 0) (by (conv => lhs; whnf); all_goals rfl) rfl, argO (id := 1) (by (conv => lhs; whnf); all_goals rfl) rfl, argE (by (conv => lhs; whnf); all_goals rfl) rfl, argP (id := 4) (by (conv => lhs; whnf); all_goals rfl) rfl, argE (by (conv => lhs; whnf); all_goals rfl) rfl, trivial⟩ ⟨boxL rfl rfl rfl ⟨(.ni _ rfl), (.ni _ rfl), (.ni _ rfl), (.ni _ rfl), (.ni _ rfl), (.ni _ rfl), trivial⟩, blkR (fun _ => ⟨rfl, rfl⟩) rfl rfl, boxL rfl rfl rfl ⟨(.ni _ rfl), (.ni _ rfl), (.ni _ rfl), (.ni _ rfl), trivial⟩, trivial⟩) ?_
      rintro k_7 ⟨hk_k_7, hL2⟩
      try dsimp only at hk_k_7 hL2
      show awp _ _ _ _ _ _ ⟨eL [(1, .ptr 0 0), (3, .osl 1), (4, .int .i64 (k_3 : Int)), (6, .ptr 2 0), (7, .int .i64 (k_7 : Int))], hL [(0, .box [.int .i64 x_0.Limits.e0, .int .i64 x_0.Limits.e1, .int .i64 x_0.Limits.e2, .int .i64 x_0.Limits.e3, .int .i64 x_0.Next, .lst 5 (x_0.L.map encCheck)]), (1, .row 4 (a_1.map encAlarm)), (2, .box [.int .i64 e_4.Image, .int .i64 e_4.Bag, .int .i64 e_4.Level, .int .i64 r_5])], 3⟩
      conv => whnf
      refine len_q (enc := encAlarm) (l := a_1) rfl ?_
      conv => whnf
      refine ⟨fun h => ?_, fun h => ?_⟩
      · have hlt_k_7 : k_7 < a_1.length := by have h := of_decide_eq_true h; omega
        obtain ⟨e_8, h_e_8⟩ : ∃ y, a_1[k_7]? = some y := ⟨_, List.getElem?_eq_getElem hlt_k_7⟩
        rw [drop_cons h_e_8, ref15_Alarms_L2.eq_2] at hL2
        conv => whnf
        refine ⟨k_7, rfl, by rw [List.length_map]; exact hlt_k_7, ?_⟩
        conv => whnf
        refine ⟨_, ix_map (enc := encAlarm) h_e_8, ?_⟩
        conv => whnf
        refine ⟨fun hb_42 => ?_, fun hb_42 => ?_⟩
        · replace hL2 := cond_f hb_42 hL2
          conv => whnf
          refine ⟨k_7, rfl, by rw [List.length_map]; exact hlt_k_7, ?_⟩
          conv => whnf
          refine ⟨_, ix_map (enc := encAlarm) h_e_8, ?_⟩
          conv => whnf
          refine ⟨fun hb_43 => ?_, fun hb_43 => ?_⟩
          · replace hL2 := cond_t hb_43 hL2
            conv => whnf
            refine ⟨k_7, rfl, by rw [List.length_map]; exact hlt_k_7, ?_⟩
            conv => whnf
            refine ⟨_, ix_map (enc := encAlarm) h_e_8, ?_⟩
            conv => whnf
            refine ⟨by kernel_rfl, ?_⟩
            conv => whnf
            refine ⟨fun hb_44 => ?_, fun hb_44 => ?_⟩
            · replace hL2 := cond_t hb_44 hL2
              conv => whnf
              refine ⟨((k_7 + 1 : Nat) : Int), wrapE (by omega) (by omega) (by omega), ?_⟩
              conv => whnf
              exact ⟨k_7 + 1, [0, 1, 2], [], [], ⟨hlt_k_7, hL2⟩, by show a_1.length - (k_7 + 1) < a_1.length - k_7; omega, wk_mk [0, 1, 2] [] [] rfl ⟨argP (id := 0) (by (conv => lhs; whnf); all_goals rfl) rfl, argO (id := 1) (by (conv => lhs; whnf); all_goals rfl) rfl, argE (by (conv => lhs; whnf); all_goals rfl) rfl, argP (id := 2) (by (conv => lhs; whnf); all_goals rfl) rfl, argE (by (conv => lhs; whnf); all_goals rfl) rfl, trivial⟩ ⟨boxL rfl rfl rfl ⟨(.ni _ rfl), (.ni _ rfl), (.ni _ rfl), (.ni _ rfl), (.ni _ rfl), (.ni _ rfl), trivial⟩, blkR (fun _ => ⟨rfl, rfl⟩) rfl rfl, boxL rfl rfl rfl ⟨(.ni _ rfl), (.ni _ rfl), (.ni _ rfl), (.ni _ rfl), trivial⟩, trivial⟩⟩
            · replace hL2 := cond_f hb_44 hL2
              conv => whnf
              obtain rfl := Option.some.inj hL2
              replace hL1 := sub_brk hL1
              try dsimp only at hL1
              obtain ⟨l_11, h_l_11, hL1⟩ := bind_some hL1
              refine sub_q10 (enc := encAlarm) (l := a_1) h_l_11 rfl (fun n_l_11 f_l_11 => ?_)
              conv => whnf
              obtain ⟨l_12, h_l_12, hL1⟩ := bind_some hL1
              refine ⟨sub_lo f_l_11, sub_le f_l_11, (fun m e => by cases e), ?_⟩
              conv => whnf
              refine ap_q (enc := encAlarm) (l := ([] : List Alarm)) (y := l_11) h_l_12 rfl (sub_part f_l_11) (by decide) ?_
              conv => whnf
              obtain ⟨l_13, h_l_13, hL1⟩ := bind_some hL1
              refine sub_q01m (enc := encAlarm) (l := a_1) h_l_13 rfl (fun m_l_13 f_l_13 => ?_)
              conv => whnf
              obtain ⟨l_14, h_l_14, hL1⟩ := bind_some hL1
              refine ⟨rfl, rfl, sub_le f_l_13, ?_⟩
              conv => whnf
              refine ap_q (enc := encAlarm) (l := l_13) (y := ([(⟨e_4.Image, e_4.Bag, e_4.Level, r_5⟩ : Alarm)] : List Alarm)) h_l_14 (sub_take f_l_13) rfl (by decide) ?_
              conv => whnf
              obtain ⟨l_15, h_l_15, hL1⟩ := bind_some hL1
              refine ap_q (enc := encAlarm) (l := l_14) (y := l_12) h_l_15 rfl rfl (by decide) ?_
              conv => whnf
              refine ⟨by kernel_rfl, ?_⟩
              conv => whnf
              refine ⟨((k_3 + 1 : Nat) : Int), wrapE (by omega) (by omega) (by omega), ?_⟩
              conv => whnf
              exact ⟨(k_3 + 1, l_15), [0, 7], [], [], ⟨hlt_k_3, hL1⟩, by show x_0.L.length - (k_3 + 1) < x_0.L.length - k_3; omega, wk_mk [0, 7] [] [] rfl ⟨argP (id := 0) (by (conv => lhs; whnf); all_goals rfl) rfl, argO (id := 7) (by (conv => lhs; whnf); all_goals rfl) rfl, argE (by (conv => lhs; whnf); all_goals rfl) rfl, trivial⟩ ⟨boxL rfl rfl rfl ⟨(.ni _ rfl), (.ni _ rfl), (.ni _ rfl), (.ni _ rfl), (.ni _ rfl), (.ni _ rfl), trivial⟩, blkR (fun _ => ⟨rfl, rfl⟩) rfl rfl, trivial⟩⟩
          · replace hL2 := cond_f hb_43 hL2
            conv => whnf
            refine ⟨by kernel_rfl, ?_⟩
            conv => whnf
            obtain rfl := Option.some.inj hL2
            replace hL1 := sub_brk hL1
            try dsimp only at hL1
            obtain ⟨l_11, h_l_11, hL1⟩ := bind_some hL1
            refine sub_q10 (enc := encAlarm) (l := a_1) h_l_11 rfl (fun n_l_11 f_l_11 => ?_)
            conv => whnf
            obtain ⟨l_12, h_l_12, hL1⟩ := bind_some hL1
            refine ⟨sub_lo f_l_11, sub_le f_l_11, (fun m e => by cases e), ?_⟩
            conv => whnf
            refine ap_q (enc := encAlarm) (l := ([] : List Alarm)) (y := l_11) h_l_12 rfl (sub_part f_l_11) (by decide) ?_
            conv => whnf
            obtain ⟨l_13, h_l_13, hL1⟩ := bind_some hL1
            refine sub_q01m (enc := encAlarm) (l := a_1) h_l_13 rfl (fun m_l_13 f_l_13 => ?_)
            conv => whnf
            obtain ⟨l_14, h_l_14, hL1⟩ := bind_some hL1
            refine ⟨rfl, rfl, sub_le f_l_13, ?_⟩
            conv => whnf
            refine ap_q (enc := encAlarm) (l := l_13) (y := ([(⟨e_4.Image, e_4.Bag, e_4.Level, r_5⟩ : Alarm)] : List Alarm)) h_l_14 (sub_take f_l_13) rfl (by decide) ?_
            conv => whnf
            obtain ⟨l_15, h_l_15, hL1⟩ := bind_some hL1
            refine ap_q (enc := encAlarm) (l := l_14) (y := l_12) h_l_15 rfl rfl (by decide) ?_
            conv => whnf
            refine ⟨by kernel_rfl, ?_⟩
            conv => whnf
            refine ⟨((k_3 + 1 : Nat) : Int), wrapE (by omega) (by omega) (by omega), ?_⟩
            conv => whnf
            exact ⟨(k_3 + 1, l_15), [0, 7], [], [], ⟨hlt_k_3, hL1⟩, by show x_0.L.length - (k_3 + 1) < x_0.L.length - k_3; omega, wk_mk [0, 7] [] [] rfl ⟨argP (id := 0) (by (conv => lhs; whnf); all_goals rfl) rfl, argO (id := 7) (by (conv => lhs; whnf); all_goals rfl) rfl, argE (by (conv => lhs; whnf); all_goals rfl) rfl, trivial⟩ ⟨boxL rfl rfl rfl ⟨(.ni _ rfl), (.ni _ rfl), (.ni _ rfl), (.ni _ rfl), (.ni _ rfl), (.ni _ rfl), trivial⟩, blkR (fun _ => ⟨rfl, rfl⟩) rfl rfl, trivial⟩⟩
        · replace hL2 := cond_t hb_42 hL2
          conv => whnf
          refine ⟨by kernel_rfl, ?_⟩
          conv => whnf
          refine ⟨((k_7 + 1 : Nat) : Int), wrapE (by omega) (by omega) (by omega), ?_⟩
          conv => whnf
          exact ⟨k_7 + 1, [0, 1, 2], [], [], ⟨hlt_k_7, hL2⟩, by show a_1.length - (k_7 + 1) < a_1.length - k_7; omega, wk_mk [0, 1, 2] [] [] rfl ⟨argP (id := 0) (by (conv => lhs; whnf); all_goals rfl) rfl, argO (id := 1) (by (conv => lhs; whnf); all_goals rfl) rfl, argE (by (conv => lhs; whnf); all_goals rfl) rfl, argP (id := 2) (by (conv => lhs; whnf); all_goals rfl) rfl, argE (by (conv => lhs; whnf); all_goals rfl) rfl, trivial⟩ ⟨boxL rfl rfl rfl ⟨(.ni _ rfl), (.ni _ rfl), (.ni _ rfl), (.ni _ rfl), (.ni _ rfl), (.ni _ rfl), trivial⟩, blkR (fun _ => ⟨rfl, rfl⟩) rfl rfl, boxL rfl rfl rfl ⟨(.ni _ rfl), (.ni _ rfl), (.ni _ rfl), (.ni _ rfl), trivial⟩, trivial⟩⟩
      · rw [drop_nil (show a_1.length ≤ k_7 by have h := of_decide_eq_false h; omega), ref15_Alarms_L2.eq_1] at hL2
        conv => whnf
        refine ⟨by kernel_rfl, ?_⟩
        conv => whnf
        obtain rfl := Option.some.inj hL2
        replace hL1 := sub_brk hL1
        try dsimp only at hL1
        obtain ⟨l_11, h_l_11, hL1⟩ := bind_some hL1
        refine sub_q10 (enc := encAlarm) (l := a_1) h_l_11 rfl (fun n_l_11 f_l_11 => ?_)
        conv => whnf
        obtain ⟨l_12, h_l_12, hL1⟩ := bind_some hL1
        refine ⟨sub_lo f_l_11, sub_le f_l_11, (fun m e => by cases e), ?_⟩
        conv => whnf
        refine ap_q (enc := encAlarm) (l := ([] : List Alarm)) (y := l_11) h_l_12 rfl (sub_part f_l_11) (by decide) ?_
        conv => whnf
        obtain ⟨l_13, h_l_13, hL1⟩ := bind_some hL1
        refine sub_q01m (enc := encAlarm) (l := a_1) h_l_13 rfl (fun m_l_13 f_l_13 => ?_)
        conv => whnf
        obtain ⟨l_14, h_l_14, hL1⟩ := bind_some hL1
        refine ⟨rfl, rfl, sub_le f_l_13, ?_⟩
        conv => whnf
        refine ap_q (enc := encAlarm) (l := l_13) (y := ([(⟨e_4.Image, e_4.Bag, e_4.Level, r_5⟩ : Alarm)] : List Alarm)) h_l_14 (sub_take f_l_13) rfl (by decide) ?_
        conv => whnf
        obtain ⟨l_15, h_l_15, hL1⟩ := bind_some hL1
        refine ap_q (enc := encAlarm) (l := l_14) (y := l_12) h_l_15 rfl rfl (by decide) ?_
        conv => whnf
        refine ⟨by kernel_rfl, ?_⟩
        conv => whnf
        refine ⟨((k_3 + 1 : Nat) : Int), wrapE (by omega) (by omega) (by omega), ?_⟩
        conv => whnf
        exact ⟨(k_3 + 1, l_15), [0, 7], [], [], ⟨hlt_k_3, hL1⟩, by show x_0.L.length - (k_3 + 1) < x_0.L.length - k_3; omega, wk_mk [0, 7] [] [] rfl ⟨argP (id := 0) (by (conv => lhs; whnf); all_goals rfl) rfl, argO (id := 7) (by (conv => lhs; whnf); all_goals rfl) rfl, argE (by (conv => lhs; whnf); all_goals rfl) rfl, trivial⟩ ⟨boxL rfl rfl rfl ⟨(.ni _ rfl), (.ni _ rfl), (.ni _ rfl), (.ni _ rfl), (.ni _ rfl), (.ni _ rfl), trivial⟩, blkR (fun _ => ⟨rfl, rfl⟩) rfl rfl, trivial⟩⟩
  · rw [drop_nil (show x_0.L.length ≤ k_3 by have h := of_decide_eq_false h; omega), ref15_Alarms_L1.eq_1] at hL1
    conv => whnf
    obtain rfl := Option.some.inj hL1
    replace hF := fin_brk hF
    try dsimp only at hF
    obtain rfl := Option.some.inj hF
    exact ret_gz [] [] [1] rfl (argOL 1 (by (conv => lhs; whnf); all_goals rfl) rfl rfl (map_ni (fun _ => ⟨rfl, rfl⟩) _)) trivial

set_option maxRecDepth 100000 in
set_option maxHeartbeats 40000000 in
theorem law15_same_ac (x_0 : (List Alarm)) (x_1 : (List Alarm)) (r : Bool) (hF : law15_same x_0 x_1 = some r) : AC Try.prog 30 [.lst 4 (x_0.map encAlarm), .lst 4 (x_1.map encAlarm)] [] (.bool r) [] := by
  refine ac_of tab_ok follows_ok Try.func30 rfl Try.ntmps30 rfl ?_
  unfold law15_same at hF
  conv => whnf
  refine len_q (enc := encAlarm) (l := x_0) rfl ?_
  conv => whnf
  refine len_q (enc := encAlarm) (l := x_1) rfl ?_
  conv => whnf
  refine ⟨fun hb_8 => ?_, fun hb_8 => ?_⟩
  · replace hF := cond_t hb_8 hF
    conv => whnf
    obtain rfl := Option.some.inj hF
    exact ret_gz [] [] [] rfl (argFl (by (conv => lhs; whnf); all_goals rfl)) trivial
  · replace hF := cond_f hb_8 hF
    conv => whnf
    obtain ⟨c_1, hc_1, hF⟩ := fin_some hF
    refine sw_bv 0 (v := .lst 4 (x_0.map encAlarm)) (by (conv => lhs; whnf); all_goals rfl) (fun hb => ?_)
    have hbd_k_2 : x_0.length ≤ 9223372036854775807 := bnd_len (enc := encAlarm) (hb)
    refine sw_loop tab_ok follows_ok (fun y : Nat => y ≤ x_0.length ∧ law15_same_L1 x_1 (x_0.drop y) y = some c_1) (fun y => ⟨eL [(0, .lst 4 (x_0.map encAlarm)), (1, .lst 4 (x_1.map encAlarm)), (5, .int .i64 (y : Int))], hL [], 0⟩) (fun y => x_0.length - y) 0 ⟨Nat.zero_le _, hc_1⟩ (wk_mk [] [] [] rfl ⟨argE (by (conv => lhs; whnf); all_goals rfl) rfl, argE (by (conv => lhs; whnf); all_goals rfl) rfl, argE (by (conv => lhs; whnf); all_goals rfl) rfl, trivial⟩ trivial) ?_
    rintro k_2 ⟨hk_k_2, hL1⟩
    try dsimp only at hk_k_2 hL1
    show awp _ _ _ _ _ _ ⟨eL [(0, .lst 4 (x_0.map encAlarm)), (1, .lst 4 (x_1.map encAlarm)), (5, .int .i64 (k_2 : Int))], hL [], 0⟩
    conv => whnf
    refine len_q (enc := encAlarm) (l := x_0) rfl ?_
    conv => whnf
    refine ⟨fun h => ?_, fun h => ?_⟩
    · have hlt_k_2 : k_2 < x_0.length := by have h := of_decide_eq_true h; omega
      obtain ⟨e_3, h_e_3⟩ : ∃ y, x_0[k_2]? = some y := ⟨_, List.getElem?_eq_getElem hlt_k_2⟩
      rw [drop_cons h_e_3, law15_same_L1.eq_2] at hL1
      conv => whnf
      refine ⟨k_2, _, rfl, ix_map h_e_3, ?_⟩
      conv => whnf
      obtain ⟨e_4, h_e_4, hL1⟩ := bind_some hL1
      refine ix_q (enc := encAlarm) (l := x_1) h_e_4 rfl (fun m_e_4 hm_e_4 hx_e_4 => ?_)
      conv => whnf
      refine ⟨by kernel_rfl, ?_⟩
      conv => whnf
      refine ⟨fun hb_9 => ?_, fun hb_9 => ?_⟩
      · replace hL1 := cond_t hb_9 hL1
        conv => whnf
        obtain rfl := Option.some.inj hL1
        replace hF := fin_ret hF
        obtain rfl := Option.some.inj hF
        exact ret_gz [] [] [] rfl (argFl (by (conv => lhs; whnf); all_goals rfl)) trivial
      · replace hL1 := cond_f hb_9 hL1
        conv => whnf
        refine ⟨((k_2 + 1 : Nat) : Int), wrapE (by omega) (by omega) (by omega), ?_⟩
        conv => whnf
        exact ⟨k_2 + 1, [], [], [], ⟨hlt_k_2, hL1⟩, by show x_0.length - (k_2 + 1) < x_0.length - k_2; omega, wk_mk [] [] [] rfl ⟨argE (by (conv => lhs; whnf); all_goals rfl) rfl, argE (by (conv => lhs; whnf); all_goals rfl) rfl, argE (by (conv => lhs; whnf); all_goals rfl) rfl, trivial⟩ trivial⟩
    · rw [drop_nil (show x_0.length ≤ k_2 by have h := of_decide_eq_false h; omega), law15_same_L1.eq_1] at hL1
      conv => whnf
      obtain rfl := Option.some.inj hL1
      replace hF := fin_brk hF
      try dsimp only at hF
      obtain rfl := Option.some.inj hF
      exact ret_gz [] [] [] rfl (argT (by (conv => lhs; whnf); all_goals rfl)) trivial

set_option maxRecDepth 100000 in
set_option maxHeartbeats 40000000 in
theorem keep_Src_More_ac (x_0 : Src) (r : Bool) (hF : keep_Src_More x_0 = some r) : AC Try.prog 9 [.iptr [.lst 1 (x_0.L.map iA), .int .i64 x_0.At]] [] (.bool r) [] := by
  refine ac_of tab_ok follows_ok Try.func9 rfl Try.ntmps9 rfl ?_
  unfold keep_Src_More at hF
  conv => whnf
  refine len_q (enc := iA) (l := x_0.L) rfl ?_
  conv => whnf
  refine ⟨by kernel_rfl, ?_⟩
  conv => whnf
  obtain rfl := Option.some.inj hF
  exact ret_gz [] [] [] rfl (argE (by (conv => lhs; whnf); all_goals rfl) rfl) trivial

set_option maxRecDepth 100000 in
set_option maxHeartbeats 40000000 in
theorem law15_awake_ac (r : Bool) (hF : law15_awake = some r) : AC Try.prog 15 [] [] (.bool r) [] := by
  refine ac_of tab_ok follows_ok Try.func15 rfl Try.ntmps15 rfl ?_
  unfold law15_awake at hF
  conv => whnf
  obtain ⟨r_1, h_r_1, hF⟩ := bind_some hF
  refine ⟨_, _, _, _, _, _, _, _, _, callX false [] [] 0 Try.func8 (by decide) rfl (screen_New_ac (⟨(5 : Int), (5 : Int), (5 : Int), (5 : Int)⟩ : A4_Int) r_1 h_r_1) rfl ⟨(argE (by (conv => lhs; whnf); all_goals rfl) rfl), trivial⟩ rfl trivial rfl rfl rfl lend0 trivial rfl, ?_⟩
  conv => whnf
  obtain ⟨r_2, h_r_2, hF⟩ := bind_some hF
  refine ⟨_, _, _, _, _, _, _, _, _, callX false [] [] 0 Try.func11 (by decide) rfl (screen_Start_ac r_1.1 (3 : Int) (10 : Int) r_2 h_r_2) rfl ⟨(argE (by (conv => lhs; whnf); all_goals rfl) rfl), (argE (by (conv => lhs; whnf); all_goals rfl) rfl), (argE (by (conv => lhs; whnf); all_goals rfl) rfl), trivial⟩ rfl trivial rfl rfl rfl lend0 trivial rfl, ?_⟩
  conv => whnf
  obtain ⟨r_3, h_r_3, hF⟩ := bind_some hF
  refine ⟨_, _, _, _, _, _, _, _, _, callX false [] [] 0 Try.func14 (by decide) rfl (screen_Verdict_ac r_2.1 (1 : Int) true (15 : Int) r_3 h_r_3) rfl ⟨(argE (by (conv => lhs; whnf); all_goals rfl) rfl), (argE (by (conv => lhs; whnf); all_goals rfl) rfl), (argT (by (conv => lhs; whnf); all_goals rfl)), (argE (by (conv => lhs; whnf); all_goals rfl) rfl), trivial⟩ rfl trivial rfl rfl rfl lend0 trivial rfl, ?_⟩
  conv => whnf
  obtain ⟨r_4, h_r_4, hF⟩ := bind_some hF
  refine ⟨_, _, _, _, _, _, _, _, _, callX false [] [] 0 Try.func13 (by decide) rfl (screen_Expire_ac r_2.1 (16 : Int) r_4 h_r_4) rfl ⟨(argE (by (conv => lhs; whnf); all_goals rfl) rfl), (argE (by (conv => lhs; whnf); all_goals rfl) rfl), trivial⟩ rfl trivial rfl rfl rfl lend0 trivial rfl, ?_⟩
  conv => whnf
  obtain ⟨r_5, h_r_5, hF⟩ := bind_some hF
  refine ⟨_, _, _, _, _, _, _, _, _, callX false [] [] 0 Try.func16 (by decide) rfl (screen_Find_ac r_4.1 (3 : Int) r_5 h_r_5) rfl ⟨(argE (by (conv => lhs; whnf); all_goals rfl) rfl), (argE (by (conv => lhs; whnf); all_goals rfl) rfl), trivial⟩ rfl trivial rfl rfl rfl lend0 trivial rfl, ?_⟩
  conv => whnf
  refine ⟨fun hb_7 => ?_, fun hb_7 => ?_⟩
  · replace hF := cond_t hb_7 hF
    conv => whnf
    refine ⟨fun hb_8 => ?_, fun hb_8 => ?_⟩
    · replace hF := cond_t hb_8 hF
      conv => whnf
      refine ⟨fun hb_9 => ?_, fun hb_9 => ?_⟩
      · replace hF := cond_t hb_9 hF
        conv => whnf
        refine ⟨fun hb_10 => ?_, fun hb_10 => ?_⟩
        · replace hF := cond_t hb_10 hF
          conv => whnf
          refine ⟨fun hb_11 => ?_, fun hb_11 => ?_⟩
          · replace hF := cond_t hb_11 hF
            conv => whnf
            refine ⟨fun hb_12 => ?_, fun hb_12 => ?_⟩
            · replace hF := cond_t hb_12 hF
              conv => whnf
              obtain rfl := Option.some.inj hF
              exact ret_gz [] [] [] rfl (argE (by (conv => lhs; whnf); all_goals rfl) rfl) trivial
            · replace hF := cond_f hb_12 hF
              conv => whnf
              obtain rfl := Option.some.inj hF
              exact ret_gz [] [] [] rfl (argFl (by (conv => lhs; whnf); all_goals rfl)) trivial
          · replace hF := cond_f hb_11 hF
            conv => whnf
            obtain rfl := Option.some.inj hF
            exact ret_gz [] [] [] rfl (argFl (by (conv => lhs; whnf); all_goals rfl)) trivial
        · replace hF := cond_f hb_10 hF
          conv => whnf
          obtain rfl := Option.some.inj hF
          exact ret_gz [] [] [] rfl (argFl (by (conv => lhs; whnf); all_goals rfl)) trivial
      · replace hF := cond_f hb_9 hF
        conv => whnf
        obtain rfl := Option.some.inj hF
        exact ret_gz [] [] [] rfl (argFl (by (conv => lhs; whnf); all_goals rfl)) trivial
    · replace hF := cond_f hb_8 hF
      conv => whnf
      obtain rfl := Option.some.inj hF
      exact ret_gz [] [] [] rfl (argFl (by (conv => lhs; whnf); all_goals rfl)) trivial
  · replace hF := cond_f hb_7 hF
    conv => whnf
    obtain rfl := Option.some.inj hF
    exact ret_gz [] [] [] rfl (argFl (by (conv => lhs; whnf); all_goals rfl)) trivial

set_option maxRecDepth 100000 in
set_option maxHeartbeats 40000000 in
theorem keep_In_ac (x_0 : (List Int)) (x_1 : Int) (r : Bool) (hF : keep_In x_0 x_1 = some r) : AC Try.prog 17 [.lst 1 (x_0.map iA), .int .i64 x_1] [] (.bool r) [] := by
  refine ac_of tab_ok follows_ok Try.func17 rfl Try.ntmps17 rfl ?_
  unfold keep_In at hF
  conv => whnf
  obtain ⟨c_1, hc_1, hF⟩ := fin_some hF
  refine sw_bv 0 (v := .lst 1 (x_0.map iA)) (by (conv => lhs; whnf); all_goals rfl) (fun hb => ?_)
  have hbd_k_2 : x_0.length ≤ 9223372036854775807 := bnd_len (enc := iA) (hb)
  refine sw_loop tab_ok follows_ok (fun y : Nat => y ≤ x_0.length ∧ keep_In_L1 x_1 (x_0.drop y) y = some c_1) (fun y => ⟨eL [(0, .lst 1 (x_0.map iA)), (1, .int .i64 x_1), (5, .int .i64 (y : Int))], hL [], 0⟩) (fun y => x_0.length - y) 0 ⟨Nat.zero_le _, hc_1⟩ (wk_mk [] [] [] rfl ⟨argE (by (conv => lhs; whnf); all_goals rfl) rfl, argE (by (conv => lhs; whnf); all_goals rfl) rfl, argE (by (conv => lhs; whnf); all_goals rfl) rfl, trivial⟩ trivial) ?_
  rintro k_2 ⟨hk_k_2, hL1⟩
  try dsimp only at hk_k_2 hL1
  show awp _ _ _ _ _ _ ⟨eL [(0, .lst 1 (x_0.map iA)), (1, .int .i64 x_1), (5, .int .i64 (k_2 : Int))], hL [], 0⟩
  conv => whnf
  refine len_q (enc := iA) (l := x_0) rfl ?_
  conv => whnf
  refine ⟨fun h => ?_, fun h => ?_⟩
  · have hlt_k_2 : k_2 < x_0.length := by have h := of_decide_eq_true h; omega
    obtain ⟨e_3, h_e_3⟩ : ∃ y, x_0[k_2]? = some y := ⟨_, List.getElem?_eq_getElem hlt_k_2⟩
    rw [drop_cons h_e_3, keep_In_L1.eq_2] at hL1
    conv => whnf
    refine ⟨k_2, _, rfl, ix_map h_e_3, ?_⟩
    conv => whnf
    refine ⟨fun hb_7 => ?_, fun hb_7 => ?_⟩
    · replace hL1 := cond_t hb_7 hL1
      conv => whnf
      obtain rfl := Option.some.inj hL1
      replace hF := fin_ret hF
      obtain rfl := Option.some.inj hF
      exact ret_gz [] [] [] rfl (argT (by (conv => lhs; whnf); all_goals rfl)) trivial
    · replace hL1 := cond_f hb_7 hL1
      conv => whnf
      refine ⟨((k_2 + 1 : Nat) : Int), wrapE (by omega) (by omega) (by omega), ?_⟩
      conv => whnf
      exact ⟨k_2 + 1, [], [], [], ⟨hlt_k_2, hL1⟩, by show x_0.length - (k_2 + 1) < x_0.length - k_2; omega, wk_mk [] [] [] rfl ⟨argE (by (conv => lhs; whnf); all_goals rfl) rfl, argE (by (conv => lhs; whnf); all_goals rfl) rfl, argE (by (conv => lhs; whnf); all_goals rfl) rfl, trivial⟩ trivial⟩
  · rw [drop_nil (show x_0.length ≤ k_2 by have h := of_decide_eq_false h; omega), keep_In_L1.eq_1] at hL1
    conv => whnf
    obtain rfl := Option.some.inj hL1
    replace hF := fin_brk hF
    try dsimp only at hF
    obtain rfl := Option.some.inj hF
    exact ret_gz [] [] [] rfl (argFl (by (conv => lhs; whnf); all_goals rfl)) trivial
end Go.Proofs.Ytidhgcgbdjjdlaa.Ex
