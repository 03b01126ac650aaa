/- The functions of the program compute what was printed; walks printed by a program. -/
import Derived.Test.YtpipggnfbgjefaaExF
import Derived.Test.YtpipggnfbgjefaaInsMessage
import Derived.Test.YtpipggnfbgjefaaInzMessage
import Derived.Test.YtpipggnfbgjefaaInzSender
import Derived.Test.YtpipggnfbgjefaaExP1
namespace Go.Proofs.Ytpipggnfbgjefaa.Ex
open Go.RowKit Go.Proofs.Ytpipggnfbgjefaa.Ax
set_option linter.unusedVariables false
set_option linter.unusedSimpArgs false
set_option maxRecDepth 100000 in
set_option maxHeartbeats 40000000 in
theorem inbox_clone_ac (x_0 : Inbox) (r : Inbox) (hF : inbox_clone x_0 = some r) : AC Try.prog 34 [.agg (encInbox x_0)] [] (.agg [.int .i64 r.Window, .osl 0]) [.row 3 (r.L.map encSender)] := by
  refine ac_of tab_ok follows_ok Try.func34 rfl Try.ntmps34 rfl ?_
  unfold inbox_clone at hF
  conv => whnf
  refine len_q (enc := encSender) (l := x_0.L) rfl ?_
  conv => whnf
  obtain ⟨c_1, hc_1, hF⟩ := fin_some hF
  refine sw_bv 0 (v := .agg [.int .i64 x_0.Window, .lst 3 (x_0.L.map encSender)]) (by (conv => lhs; whnf); all_goals rfl) (fun hb => ?_)
  have hbd_k_3 : x_0.L.length ≤ 9223372036854775807 := bnd_len (enc := encSender) ((bnd_at hb.cell 1 rfl))
  refine sw_loop tab_ok follows_ok (fun y : Nat × (List Sender) => y.1 ≤ x_0.L.length ∧ inbox_clone_L1 (x_0.L.drop y.1) y.1 y.2 = some c_1) (fun y => ⟨eL [(2, .ptr 0 0), (3, .ptr 1 0), (13, .lst 3 (x_0.L.map encSender)), (14, .int .i64 (x_0.L.length : Int)), (15, .int .i64 (y.1 : Int))], hL [(0, .box [.int .i64 (0 : Int), .nils]), (1, .box [.int .i64 x_0.Window, .osl 2]), (2, .row 3 (y.2.map encSender))], 3⟩) (fun y => x_0.L.length - y.1) (0, ([] : List Sender)) ⟨Nat.zero_le _, hc_1⟩ (wk_mk [1, 2] [2] [] rfl ⟨argP (id := 1) (by (conv => lhs; whnf); all_goals rfl) rfl, argP (id := 2) (by (conv => lhs; whnf); all_goals rfl) rfl, argE (by (conv => lhs; whnf); all_goals rfl) rfl, argE (by (conv => lhs; whnf); all_goals rfl) rfl, argE (by (conv => lhs; whnf); all_goals rfl) rfl, trivial⟩ ⟨boxL rfl rfl rfl ⟨(.ni _ rfl), (.ni _ rfl), trivial⟩, boxL rfl rfl rfl ⟨(.ni _ rfl), (.nilz 2 (by simp)), trivial⟩, blkZ rfl, trivial⟩) ?_
  rintro ⟨k_3, a_1⟩ ⟨hk_k_3, hL1⟩
  try dsimp only at hk_k_3 hL1
  show awp _ _ _ _ _ _ ⟨eL [(2, .ptr 0 0), (3, .ptr 1 0), (13, .lst 3 (x_0.L.map encSender)), (14, .int .i64 (x_0.L.length : Int)), (15, .int .i64 (k_3 : Int))], hL [(0, .box [.int .i64 (0 : Int), .nils]), (1, .box [.int .i64 x_0.Window, .osl 2]), (2, .row 3 (a_1.map encSender))], 3⟩
  conv => whnf
  refine ⟨fun h => ?_, fun h => ?_⟩
  · have hlt_k_3 : k_3 < x_0.L.length := by have h := of_decide_eq_true h; omega
    obtain ⟨e_4, h_e_4⟩ : ∃ y, x_0.L[k_3]? = some y := ⟨_, List.getElem?_eq_getElem hlt_k_3⟩
    rw [drop_cons h_e_4, inbox_clone_L1.eq_2] at hL1
    conv => whnf
    refine ⟨k_3, _, rfl, ix_map h_e_4, ?_⟩
    conv => whnf
    refine len_q (enc := encMessage) (l := e_4.Held) rfl ?_
    conv => whnf
    obtain ⟨c_2, hc_2, hL1⟩ := sub_some hL1
    refine sw_bv 6 (v := .lst 30 (e_4.Held.map encMessage)) (by (conv => lhs; whnf); all_goals rfl) (fun hb => ?_)
    have hbd_k_7 : e_4.Held.length ≤ 9223372036854775807 := bnd_len (enc := encMessage) (hb)
    refine sw_loop tab_ok follows_ok (fun y : Nat × (List Message) => y.1 ≤ e_4.Held.length ∧ inbox_clone_L2 (e_4.Held.drop y.1) y.1 y.2 = some c_2) (fun y => ⟨eL [(2, .ptr 0 0), (3, .ptr 1 0), (5, .ptr 3 0), (13, .lst 3 (x_0.L.map encSender)), (14, .int .i64 (x_0.L.length : Int)), (15, .int .i64 (k_3 : Int)), (22, .lst 30 (e_4.Held.map encMessage)), (23, .int .i64 (e_4.Held.length : Int)), (24, .int .i64 (y.1 : Int))], hL [(0, .box [.int .i64 (0 : Int), .nils]), (1, .box [.int .i64 x_0.Window, .osl 2]), (2, .row 3 (a_1.map encSender)), (3, .box [.str e_4.Port, .int .i64 e_4.Next, .osl 4]), (4, .row 30 (y.2.map encMessage))], 5⟩) (fun y => e_4.Held.length - y.1) (0, ([] : List Message)) ⟨Nat.zero_le _, hc_2⟩ (wk_mk [0, 1, 2, 3] [4] [] rfl ⟨argP (id := 0) (by (conv => lhs; whnf); all_goals rfl) rfl, argP (id := 1) (by (conv => lhs; whnf); all_goals rfl) rfl, argP (id := 3) (by (conv => lhs; whnf); all_goals rfl) rfl, argE (by (conv => lhs; whnf); all_goals rfl) rfl, argE (by (conv => lhs; whnf); all_goals rfl) rfl, argE (by (conv => lhs; whnf); all_goals rfl) rfl, argE (by (conv => lhs; whnf); all_goals rfl) rfl, argE (by (conv => lhs; whnf); all_goals rfl) rfl, argE (by (conv => lhs; whnf); all_goals rfl) rfl, trivial⟩ ⟨boxL rfl rfl rfl ⟨(.ni _ rfl), (.ni _ rfl), trivial⟩, boxL rfl rfl rfl ⟨(.ni _ rfl), (.oslg 2 2 rfl), trivial⟩, blkR (fun _ => ⟨rfl, rfl⟩) rfl rfl, boxL rfl rfl rfl ⟨(.ni _ rfl), (.ni _ rfl), (.nilz 4 (by simp)), trivial⟩, blkZ rfl, trivial⟩) ?_
    rintro ⟨k_7, a_5⟩ ⟨hk_k_7, hL2⟩
    try dsimp only at hk_k_7 hL2
    show awp _ _ _ _ _ _ ⟨eL [(2, .ptr 0 0), (3, .ptr 1 0), (5, .ptr 3 0), (13, .lst 3 (x_0.L.map encSender)), (14, .int .i64 (x_0.L.length : Int)), (15, .int .i64 (k_3 : Int)), (22, .lst 30 (e_4.Held.map encMessage)), (23, .int .i64 (e_4.Held.length : Int)), (24, .int .i64 (k_7 : Int))], hL [(0, .box [.int .i64 (0 : Int), .nils]), (1, .box [.int .i64 x_0.Window, .osl 2]), (2, .row 3 (a_1.map encSender)), (3, .box [.str e_4.Port, .int .i64 e_4.Next, .osl 4]), (4, .row 30 (a_5.map encMessage))], 5⟩
    conv => whnf
    refine ⟨fun h => ?_, fun h => ?_⟩
    · have hlt_k_7 : k_7 < e_4.Held.length := by have h := of_decide_eq_true h; omega
      obtain ⟨e_8, h_e_8⟩ : ∃ y, e_4.Held[k_7]? = some y := ⟨_, List.getElem?_eq_getElem hlt_k_7⟩
      rw [drop_cons h_e_8, inbox_clone_L2.eq_2] at hL2
      conv => whnf
      refine ⟨k_7, _, rfl, ix_map h_e_8, ?_⟩
      conv => whnf
      obtain ⟨r_9, h_r_9, hL2⟩ := bind_some hL2
      refine ⟨_, _, _, _, _, _, _, _, _, callX false [] [] 0 Try.func38 (by decide) rfl (inbox_copied_ac e_8 r_9 h_r_9) rfl ⟨(argE (by (conv => lhs; whnf); all_goals rfl) rfl), trivial⟩ rfl trivial rfl rfl rfl lend0 trivial rfl, ?_⟩
      conv => whnf
      obtain ⟨l_10, h_l_10, hL2⟩ := bind_some hL2
      refine ap_q (enc := encMessage) (l := a_5) (y := ([r_9] : List Message)) h_l_10 rfl rfl (by decide) ?_
      conv => whnf
      refine ⟨by kernel_rfl, ?_⟩
      conv => whnf
      refine ⟨((k_7 + 1 : Nat) : Int), wrapE (by omega) (by omega) (by omega), ?_⟩
      conv => whnf
      exact ⟨(k_7 + 1, l_10), [0, 1, 2, 3, 8], [], [], ⟨hlt_k_7, hL2⟩, by show e_4.Held.length - (k_7 + 1) < e_4.Held.length - k_7; omega, wk_mk [0, 1, 2, 3, 8] [] [] rfl ⟨argP (id := 0) (by (conv => lhs; whnf); all_goals rfl) rfl, argP (id := 1) (by (conv => lhs; whnf); all_goals rfl) rfl, argP (id := 3) (by (conv => lhs; whnf); all_goals rfl) rfl, argE (by (conv => lhs; whnf); all_goals rfl) rfl, argE (by (conv => lhs; whnf); all_goals rfl) rfl, argE (by (conv => lhs; whnf); all_goals rfl) rfl, argE (by (conv => lhs; whnf); all_goals rfl) rfl, argE (by (conv => lhs; whnf); all_goals rfl) rfl, argE (by (conv => lhs; whnf); all_goals rfl) rfl, trivial⟩ ⟨boxL rfl rfl rfl ⟨(.ni _ rfl), (.ni _ rfl), trivial⟩, boxL rfl rfl rfl ⟨(.ni _ rfl), (.oslg 2 2 rfl), trivial⟩, blkR (fun _ => ⟨rfl, rfl⟩) rfl rfl, boxL rfl rfl rfl ⟨(.ni _ rfl), (.ni _ rfl), (.oslg 8 4 rfl), trivial⟩, blkR (fun _ => ⟨rfl, rfl⟩) rfl rfl, trivial⟩⟩
    · rw [drop_nil (show e_4.Held.length ≤ k_7 by have h := of_decide_eq_false h; omega), inbox_clone_L2.eq_1] at hL2
      conv => whnf
      obtain rfl := Option.some.inj hL2
      replace hL1 := sub_brk hL1
      try dsimp only at hL1
      obtain ⟨l_13, h_l_13, hL1⟩ := bind_some hL1
      refine ap_raw h_l_13 (by simp) (by simp [chunkA]) (by decide) ?_
      conv => whnf
      refine ⟨((k_3 + 1 : Nat) : Int), wrapE (by omega) (by omega) (by omega), ?_⟩
      conv => whnf
      exact ⟨(k_3 + 1, l_13), [0, 1, 6], [], [4], ⟨hlt_k_3, hL1⟩, by show x_0.L.length - (k_3 + 1) < x_0.L.length - k_3; omega, wk_mk [0, 1, 6] [] [4] rfl ⟨argP (id := 0) (by (conv => lhs; whnf); all_goals rfl) rfl, argP (id := 1) (by (conv => lhs; whnf); all_goals rfl) rfl, argE (by (conv => lhs; whnf); all_goals rfl) rfl, argE (by (conv => lhs; whnf); all_goals rfl) rfl, argE (by (conv => lhs; whnf); all_goals rfl) rfl, trivial⟩ ⟨boxL rfl rfl rfl ⟨(.ni _ rfl), (.ni _ rfl), trivial⟩, boxL rfl rfl rfl ⟨(.ni _ rfl), (.oslg 6 2 rfl), trivial⟩, blk_rowsE rfl rfl (RowsA.app (RowsA.ni (map_ok (fun _ => ⟨rfl, rfl⟩) _)) (cellsL (c' := [.str e_4.Port, .int .i64 e_4.Next, .lst 30 (a_5.map encMessage)]) rfl rfl ⟨(.ni _ rfl), (.ni _ rfl), (.osl 4 30 _ (by simp) rfl (map_ni (fun _ => ⟨rfl, rfl⟩) _)), trivial⟩)) (by rw [(apL_some h_l_13).2, List.map_append]; rfl), trivial⟩⟩
  · rw [drop_nil (show x_0.L.length ≤ k_3 by have h := of_decide_eq_false h; omega), inbox_clone_L1.eq_1] at hL1
    conv => whnf
    obtain rfl := Option.some.inj hL1
    replace hF := fin_brk hF
    try dsimp only at hF
    obtain rfl := Option.some.inj hF
    exact ret_gz [2] [] [] rfl (argA (c := [.int .i64 x_0.Window, .osl 2]) (by (conv => lhs; whnf); all_goals rfl) rfl ⟨(.ni _ rfl), (.oslg 2 0 rfl), trivial⟩) ⟨blkR (fun _ => ⟨rfl, rfl⟩) rfl rfl, trivial⟩

set_option maxRecDepth 100000 in
set_option maxHeartbeats 40000000 in
theorem inbox_clone_foc2 (x_0 : Inbox) (r : Inbox) (P_0 : List Sender) (e_0 : Sender) (Q_0 : List Sender) (hE_ : r.L = P_0 ++ e_0 :: Q_0) (hF : inbox_clone x_0 = some r) : AC Try.prog 34 [.agg (encInbox x_0)] [] (.agg [.int .i64 r.Window, .osl 0]) [.row 3 (focR encSender P_0 [.str e_0.Port, .int .i64 e_0.Next, .osl 1] Q_0), .row 30 (e_0.Held.map encMessage)] := by
  refine ac_of tab_ok follows_ok Try.func34 rfl Try.ntmps34 rfl ?_
  unfold inbox_clone at hF
  conv => whnf
  refine len_q (enc := encSender) (l := x_0.L) rfl ?_
  conv => whnf
  obtain ⟨c_1, hc_1, hF⟩ := fin_some hF
  have hfn_ : ∀ z, c_1 = Ctl.brk z → P_0.length < z.length := by intro z hz; subst hz; have h2 := fin_brk hF; (try dsimp only at h2); obtain rfl := Option.some.inj h2; have h3 := congrArg List.length hE_; simp at h3; omega
  refine sw_bv 0 (v := .agg [.int .i64 x_0.Window, .lst 3 (x_0.L.map encSender)]) (by (conv => lhs; whnf); all_goals rfl) (fun hb => ?_)
  have hbd_k_3 : x_0.L.length ≤ 9223372036854775807 := bnd_len (enc := encSender) ((bnd_at hb.cell 1 rfl))
  refine sw_loop tab_ok follows_ok (fun y : (Nat × (List Sender)) ⊕ (Nat × (List Sender) × Sender × (List Sender)) => match y with | .inl y => (y.1 ≤ x_0.L.length ∧ inbox_clone_L1 (x_0.L.drop y.1) y.1 y.2 = some c_1) ∧ y.2.length ≤ P_0.length | .inr y => (y.1 ≤ x_0.L.length ∧ inbox_clone_L1 (x_0.L.drop y.1) y.1 (y.2.1 ++ y.2.2.1 :: y.2.2.2) = some c_1) ∧ y.2.1.length = P_0.length) (fun y : (Nat × (List Sender)) ⊕ (Nat × (List Sender) × Sender × (List Sender)) => match y with | .inl y => ⟨eL [(2, .ptr 0 0), (3, .ptr 1 0), (13, .lst 3 (x_0.L.map encSender)), (14, .int .i64 (x_0.L.length : Int)), (15, .int .i64 (y.1 : Int))], hL [(0, .box [.int .i64 (0 : Int), .nils]), (1, .box [.int .i64 x_0.Window, .osl 2]), (2, .row 3 (y.2.map encSender))], 3⟩ | .inr y => ⟨eL [(2, .ptr 0 0), (3, .ptr 1 0), (13, .lst 3 (x_0.L.map encSender)), (14, .int .i64 (x_0.L.length : Int)), (15, .int .i64 (y.1 : Int))], hL [(0, .box [.int .i64 (0 : Int), .nils]), (1, .box [.int .i64 x_0.Window, .osl 2]), (2, .row 3 (focR encSender y.2.1 [.str y.2.2.1.Port, .int .i64 y.2.2.1.Next, .osl 3] y.2.2.2)), (3, .row 30 (y.2.2.1.Held.map encMessage))], 4⟩) (fun y : (Nat × (List Sender)) ⊕ (Nat × (List Sender) × Sender × (List Sender)) => match y with | .inl y => x_0.L.length - y.1 | .inr y => x_0.L.length - y.1) (.inl (0, ([] : List Sender))) ⟨⟨Nat.zero_le _, hc_1⟩, Nat.zero_le _⟩ (wkS (σ1 := ⟨eL [(2, .ptr 0 0), (3, .ptr 1 0), (13, .lst 3 (x_0.L.map encSender)), (14, .int .i64 (x_0.L.length : Int)), (15, .int .i64 (0 : Int))], hL [(0, .box [.int .i64 (0 : Int), .nils]), (1, .box [.int .i64 x_0.Window, .osl 2]), (2, .row 3 (([] : List Sender).map encSender))], 3⟩) rfl (wk_mk [1, 2] [2] [] rfl ⟨argP (id := 1) (by (conv => lhs; whnf); all_goals rfl) rfl, argP (id := 2) (by (conv => lhs; whnf); all_goals rfl) rfl, argE (by (conv => lhs; whnf); all_goals rfl) rfl, argE (by (conv => lhs; whnf); all_goals rfl) rfl, argE (by (conv => lhs; whnf); all_goals rfl) rfl, trivial⟩ ⟨boxL rfl rfl rfl ⟨(.ni _ rfl), (.ni _ rfl), trivial⟩, boxL rfl rfl rfl ⟨(.ni _ rfl), (.nilz 2 (by simp)), trivial⟩, blkZ rfl, trivial⟩)) ?_
  rintro (⟨k_3, a_1⟩ | ⟨k_3, p_16, g_17, q_18⟩) ⟨⟨hk_k_3, hL1⟩, hp_p_16⟩
  · try dsimp only at hk_k_3 hL1 hp_p_16
    show awp _ _ _ _ _ _ ⟨eL [(2, .ptr 0 0), (3, .ptr 1 0), (13, .lst 3 (x_0.L.map encSender)), (14, .int .i64 (x_0.L.length : Int)), (15, .int .i64 (k_3 : Int))], hL [(0, .box [.int .i64 (0 : Int), .nils]), (1, .box [.int .i64 x_0.Window, .osl 2]), (2, .row 3 (a_1.map encSender))], 3⟩
    conv => whnf
    refine ⟨fun h => ?_, fun h => ?_⟩
    · have hlt_k_3 : k_3 < x_0.L.length := by have h := of_decide_eq_true h; omega
      obtain ⟨e_4, h_e_4⟩ : ∃ y, x_0.L[k_3]? = some y := ⟨_, List.getElem?_eq_getElem hlt_k_3⟩
      rw [drop_cons h_e_4, inbox_clone_L1.eq_2] at hL1
      conv => whnf
      refine ⟨k_3, _, rfl, ix_map h_e_4, ?_⟩
      conv => whnf
      refine len_q (enc := encMessage) (l := e_4.Held) rfl ?_
      conv => whnf
      obtain ⟨c_2, hc_2, hL1⟩ := sub_some hL1
      refine sw_bv 6 (v := .lst 30 (e_4.Held.map encMessage)) (by (conv => lhs; whnf); all_goals rfl) (fun hb => ?_)
      have hbd_k_7 : e_4.Held.length ≤ 9223372036854775807 := bnd_len (enc := encMessage) (hb)
      refine sw_loop tab_ok follows_ok (fun y : Nat × (List Message) => y.1 ≤ e_4.Held.length ∧ inbox_clone_L2 (e_4.Held.drop y.1) y.1 y.2 = some c_2) (fun y => ⟨eL [(2, .ptr 0 0), (3, .ptr 1 0), (5, .ptr 3 0), (13, .lst 3 (x_0.L.map encSender)), (14, .int .i64 (x_0.L.length : Int)), (15, .int .i64 (k_3 : Int)), (22, .lst 30 (e_4.Held.map encMessage)), (23, .int .i64 (e_4.Held.length : Int)), (24, .int .i64 (y.1 : Int))], hL [(0, .box [.int .i64 (0 : Int), .nils]), (1, .box [.int .i64 x_0.Window, .osl 2]), (2, .row 3 (a_1.map encSender)), (3, .box [.str e_4.Port, .int .i64 e_4.Next, .osl 4]), (4, .row 30 (y.2.map encMessage))], 5⟩) (fun y => e_4.Held.length - y.1) (0, ([] : List Message)) ⟨Nat.zero_le _, hc_2⟩ (wk_mk [0, 1, 2, 3] [4] [] rfl ⟨argP (id := 0) (by (conv => lhs; whnf); all_goals rfl) rfl, argP (id := 1) (by (conv => lhs; whnf); all_goals rfl) rfl, argP (id := 3) (by (conv => lhs; whnf); all_goals rfl) rfl, argE (by (conv => lhs; whnf); all_goals rfl) rfl, argE (by (conv => lhs; whnf); all_goals rfl) rfl, argE (by (conv => lhs; whnf); all_goals rfl) rfl, argE (by (conv => lhs; whnf); all_goals rfl) rfl, argE (by (conv => lhs; whnf); all_goals rfl) rfl, argE (by (conv => lhs; whnf); all_goals rfl) rfl, trivial⟩ ⟨boxL rfl rfl rfl ⟨(.ni _ rfl), (.ni _ rfl), trivial⟩, boxL rfl rfl rfl ⟨(.ni _ rfl), (.oslg 2 2 rfl), trivial⟩, blkR (fun _ => ⟨rfl, rfl⟩) rfl rfl, boxL rfl rfl rfl ⟨(.ni _ rfl), (.ni _ rfl), (.nilz 4 (by simp)), trivial⟩, blkZ rfl, trivial⟩) ?_
      rintro ⟨k_7, a_5⟩ ⟨hk_k_7, hL2⟩
      try dsimp only at hk_k_7 hL2
      show awp _ _ _ _ _ _ ⟨eL [(2, .ptr 0 0), (3, .ptr 1 0), (5, .ptr 3 0), (13, .lst 3 (x_0.L.map encSender)), (14, .int .i64 (x_0.L.length : Int)), (15, .int .i64 (k_3 : Int)), (22, .lst 30 (e_4.Held.map encMessage)), (23, .int .i64 (e_4.Held.length : Int)), (24, .int .i64 (k_7 : Int))], hL [(0, .box [.int .i64 (0 : Int), .nils]), (1, .box [.int .i64 x_0.Window, .osl 2]), (2, .row 3 (a_1.map encSender)), (3, .box [.str e_4.Port, .int .i64 e_4.Next, .osl 4]), (4, .row 30 (a_5.map encMessage))], 5⟩
      conv => whnf
      refine ⟨fun h => ?_, fun h => ?_⟩
      · have hlt_k_7 : k_7 < e_4.Held.length := by have h := of_decide_eq_true h; omega
        obtain ⟨e_8, h_e_8⟩ : ∃ y, e_4.Held[k_7]? = some y := ⟨_, List.getElem?_eq_getElem hlt_k_7⟩
        rw [drop_cons h_e_8, inbox_clone_L2.eq_2] at hL2
        conv => whnf
        refine ⟨k_7, _, rfl, ix_map h_e_8, ?_⟩
        conv => whnf
        obtain ⟨r_9, h_r_9, hL2⟩ := bind_some hL2
        refine ⟨_, _, _, _, _, _, _, _, _, callX false [] [] 0 Try.func38 (by decide) rfl (inbox_copied_ac e_8 r_9 h_r_9) rfl ⟨(argE (by (conv => lhs; whnf); all_goals rfl) rfl), trivial⟩ rfl trivial rfl rfl rfl lend0 trivial rfl, ?_⟩
        conv => whnf
        obtain ⟨l_10, h_l_10, hL2⟩ := bind_some hL2
        refine ap_q (enc := encMessage) (l := a_5) (y := ([r_9] : List Message)) h_l_10 rfl rfl (by decide) ?_
        conv => whnf
        refine ⟨by kernel_rfl, ?_⟩
        conv => whnf
        refine ⟨((k_7 + 1 : Nat) : Int), wrapE (by omega) (by omega) (by omega), ?_⟩
        conv => whnf
        exact ⟨(k_7 + 1, l_10), [0, 1, 2, 3, 8], [], [], ⟨hlt_k_7, hL2⟩, by show e_4.Held.length - (k_7 + 1) < e_4.Held.length - k_7; omega, wk_mk [0, 1, 2, 3, 8] [] [] rfl ⟨argP (id := 0) (by (conv => lhs; whnf); all_goals rfl) rfl, argP (id := 1) (by (conv => lhs; whnf); all_goals rfl) rfl, argP (id := 3) (by (conv => lhs; whnf); all_goals rfl) rfl, argE (by (conv => lhs; whnf); all_goals rfl) rfl, argE (by (conv => lhs; whnf); all_goals rfl) rfl, argE (by (conv => lhs; whnf); all_goals rfl) rfl, argE (by (conv => lhs; whnf); all_goals rfl) rfl, argE (by (conv => lhs; whnf); all_goals rfl) rfl, argE (by (conv => lhs; whnf); all_goals rfl) rfl, trivial⟩ ⟨boxL rfl rfl rfl ⟨(.ni _ rfl), (.ni _ rfl), trivial⟩, boxL rfl rfl rfl ⟨(.ni _ rfl), (.oslg 2 2 rfl), trivial⟩, blkR (fun _ => ⟨rfl, rfl⟩) rfl rfl, boxL rfl rfl rfl ⟨(.ni _ rfl), (.ni _ rfl), (.oslg 8 4 rfl), trivial⟩, blkR (fun _ => ⟨rfl, rfl⟩) rfl rfl, trivial⟩⟩
      · rw [drop_nil (show e_4.Held.length ≤ k_7 by have h := of_decide_eq_false h; omega), inbox_clone_L2.eq_1] at hL2
        conv => whnf
        obtain rfl := Option.some.inj hL2
        replace hL1 := sub_brk hL1
        try dsimp only at hL1
        obtain ⟨l_13, h_l_13, hL1⟩ := bind_some hL1
        refine ap_raw h_l_13 (by simp) (by simp [chunkA]) (by decide) ?_
        conv => whnf
        refine ⟨((k_3 + 1 : Nat) : Int), wrapE (by omega) (by omega) (by omega), ?_⟩
        conv => whnf
        rcases Nat.lt_or_ge a_1.length P_0.length with hlt_ | hge_
        · exact ⟨.inl (k_3 + 1, l_13), [0, 1, 6], [], [4], ⟨⟨hlt_k_3, hL1⟩, foc_ap1 h_l_13 hlt_⟩, by show x_0.L.length - (k_3 + 1) < x_0.L.length - k_3; omega, wkS (σ1 := ⟨eL [(2, .ptr 0 0), (3, .ptr 1 0), (13, .lst 3 (x_0.L.map encSender)), (14, .int .i64 (x_0.L.length : Int)), (15, .int .i64 ((k_3 + 1) : Int))], hL [(0, .box [.int .i64 (0 : Int), .nils]), (1, .box [.int .i64 x_0.Window, .osl 2]), (2, .row 3 (l_13.map encSender))], 3⟩) rfl (wk_mk [0, 1, 6] [] [4] rfl ⟨argP (id := 0) (by (conv => lhs; whnf); all_goals rfl) rfl, argP (id := 1) (by (conv => lhs; whnf); all_goals rfl) rfl, argE (by (conv => lhs; whnf); all_goals rfl) rfl, argE (by (conv => lhs; whnf); all_goals rfl) rfl, argE (by (conv => lhs; whnf); all_goals rfl) rfl, trivial⟩ ⟨boxL rfl rfl rfl ⟨(.ni _ rfl), (.ni _ rfl), trivial⟩, boxL rfl rfl rfl ⟨(.ni _ rfl), (.oslg 6 2 rfl), trivial⟩, blk_rowsE rfl rfl (RowsA.app (RowsA.ni (map_ok (fun _ => ⟨rfl, rfl⟩) _)) (cellsL (c' := [.str e_4.Port, .int .i64 e_4.Next, .lst 30 (a_5.map encMessage)]) rfl rfl ⟨(.ni _ rfl), (.ni _ rfl), (.osl 4 30 _ (by simp) rfl (map_ni (fun _ => ⟨rfl, rfl⟩) _)), trivial⟩)) (by rw [(apL_some h_l_13).2, List.map_append]; rfl), trivial⟩)⟩
        · have he_ := foc_ap2 h_l_13
          subst he_
          exact ⟨.inr (k_3 + 1, a_1, (⟨e_4.Port, e_4.Next, a_5⟩ : Sender), []), [0, 1, 6, 4], [], [], ⟨⟨hlt_k_3, hL1⟩, by show a_1.length = P_0.length; omega⟩, by show x_0.L.length - (k_3 + 1) < x_0.L.length - k_3; omega, wkS (σ1 := ⟨eL [(2, .ptr 0 0), (3, .ptr 1 0), (13, .lst 3 (x_0.L.map encSender)), (14, .int .i64 (x_0.L.length : Int)), (15, .int .i64 ((k_3 + 1) : Int))], hL [(0, .box [.int .i64 (0 : Int), .nils]), (1, .box [.int .i64 x_0.Window, .osl 2]), (2, .row 3 (focR encSender a_1 [.str ((⟨e_4.Port, e_4.Next, a_5⟩ : Sender).Port), .int .i64 ((⟨e_4.Port, e_4.Next, a_5⟩ : Sender).Next), .osl 3] [])), (3, .row 30 (((⟨e_4.Port, e_4.Next, a_5⟩ : Sender).Held).map encMessage))], 4⟩) rfl (wk_mk [0, 1, 6, 4] [] [] rfl ⟨argP (id := 0) (by (conv => lhs; whnf); all_goals rfl) rfl, argP (id := 1) (by (conv => lhs; whnf); all_goals rfl) rfl, argE (by (conv => lhs; whnf); all_goals rfl) rfl, argE (by (conv => lhs; whnf); all_goals rfl) rfl, argE (by (conv => lhs; whnf); all_goals rfl) rfl, trivial⟩ ⟨boxL rfl rfl rfl ⟨(.ni _ rfl), (.ni _ rfl), trivial⟩, boxL rfl rfl rfl ⟨(.ni _ rfl), (.oslg 6 2 rfl), trivial⟩, blk_rowsE rfl rfl (focM (enc := encSender) (fun _ => ⟨rfl, rfl⟩) (cellsL (c' := [.str ((⟨e_4.Port, e_4.Next, a_5⟩ : Sender).Port), .int .i64 ((⟨e_4.Port, e_4.Next, a_5⟩ : Sender).Next), .osl 3]) rfl rfl ⟨(.ni _ rfl), (.ni _ rfl), (.oslg 4 3 rfl), trivial⟩)) rfl, blkR (fun _ => ⟨rfl, rfl⟩) rfl rfl, trivial⟩)⟩
    · rw [drop_nil (show x_0.L.length ≤ k_3 by have h := of_decide_eq_false h; omega), inbox_clone_L1.eq_1] at hL1
      conv => whnf
      obtain rfl := Option.some.inj hL1
      exact (Nat.lt_irrefl _ (Nat.lt_of_lt_of_le (hfn_ _ rfl) hp_p_16)).elim
  · try dsimp only at hk_k_3 hL1 hp_p_16
    show awp _ _ _ _ _ _ ⟨eL [(2, .ptr 0 0), (3, .ptr 1 0), (13, .lst 3 (x_0.L.map encSender)), (14, .int .i64 (x_0.L.length : Int)), (15, .int .i64 (k_3 : Int))], hL [(0, .box [.int .i64 (0 : Int), .nils]), (1, .box [.int .i64 x_0.Window, .osl 2]), (2, .row 3 (focR encSender p_16 [.str g_17.Port, .int .i64 g_17.Next, .osl 3] q_18)), (3, .row 30 (g_17.Held.map encMessage))], 4⟩
    conv => whnf
    refine ⟨fun h => ?_, fun h => ?_⟩
    · have hlt_k_3 : k_3 < x_0.L.length := by have h := of_decide_eq_true h; omega
      obtain ⟨e_4, h_e_4⟩ : ∃ y, x_0.L[k_3]? = some y := ⟨_, List.getElem?_eq_getElem hlt_k_3⟩
      rw [drop_cons h_e_4, inbox_clone_L1.eq_2] at hL1
      conv => whnf
      refine ⟨k_3, _, rfl, ix_map h_e_4, ?_⟩
      conv => whnf
      refine len_q (enc := encMessage) (l := e_4.Held) rfl ?_
      conv => whnf
      obtain ⟨c_2, hc_2, hL1⟩ := sub_some hL1
      refine sw_bv 6 (v := .lst 30 (e_4.Held.map encMessage)) (by (conv => lhs; whnf); all_goals rfl) (fun hb => ?_)
      have hbd_k_7 : e_4.Held.length ≤ 9223372036854775807 := bnd_len (enc := encMessage) (hb)
      refine sw_loop tab_ok follows_ok (fun y : Nat × (List Message) => y.1 ≤ e_4.Held.length ∧ inbox_clone_L2 (e_4.Held.drop y.1) y.1 y.2 = some c_2) (fun y => ⟨eL [(2, .ptr 0 0), (3, .ptr 1 0), (5, .ptr 3 0), (13, .lst 3 (x_0.L.map encSender)), (14, .int .i64 (x_0.L.length : Int)), (15, .int .i64 (k_3 : Int)), (22, .lst 30 (e_4.Held.map encMessage)), (23, .int .i64 (e_4.Held.length : Int)), (24, .int .i64 (y.1 : Int))], hL [(0, .box [.int .i64 (0 : Int), .nils]), (1, .box [.int .i64 x_0.Window, .osl 2]), (2, .row 3 (focR encSender p_16 [.str g_17.Port, .int .i64 g_17.Next, .osl 4] q_18)), (3, .box [.str e_4.Port, .int .i64 e_4.Next, .osl 5]), (4, .row 30 (g_17.Held.map encMessage)), (5, .row 30 (y.2.map encMessage))], 6⟩) (fun y => e_4.Held.length - y.1) (0, ([] : List Message)) ⟨Nat.zero_le _, hc_2⟩ (wk_mk [0, 1, 2, 4, 3] [5] [] rfl ⟨argP (id := 0) (by (conv => lhs; whnf); all_goals rfl) rfl, argP (id := 1) (by (conv => lhs; whnf); all_goals rfl) rfl, argP (id := 4) (by (conv => lhs; whnf); all_goals rfl) rfl, argE (by (conv => lhs; whnf); all_goals rfl) rfl, argE (by (conv => lhs; whnf); all_goals rfl) rfl, argE (by (conv => lhs; whnf); all_goals rfl) rfl, argE (by (conv => lhs; whnf); all_goals rfl) rfl, argE (by (conv => lhs; whnf); all_goals rfl) rfl, argE (by (conv => lhs; whnf); all_goals rfl) rfl, trivial⟩ ⟨boxL rfl rfl rfl ⟨(.ni _ rfl), (.ni _ rfl), trivial⟩, boxL rfl rfl rfl ⟨(.ni _ rfl), (.oslg 2 2 rfl), trivial⟩, blk_rowsE rfl rfl (focA (enc := encSender) (fun _ => ⟨rfl, rfl⟩) (cellsL (c' := [.str g_17.Port, .int .i64 g_17.Next, .osl 4]) rfl rfl ⟨(.ni _ rfl), (.ni _ rfl), (.oslg 3 4 rfl), trivial⟩)) rfl, boxL rfl rfl rfl ⟨(.ni _ rfl), (.ni _ rfl), (.nilz 5 (by simp)), trivial⟩, blkR (fun _ => ⟨rfl, rfl⟩) rfl rfl, blkZ rfl, trivial⟩) ?_
      rintro ⟨k_7, a_5⟩ ⟨hk_k_7, hL2⟩
      try dsimp only at hk_k_7 hL2
      show awp _ _ _ _ _ _ ⟨eL [(2, .ptr 0 0), (3, .ptr 1 0), (5, .ptr 3 0), (13, .lst 3 (x_0.L.map encSender)), (14, .int .i64 (x_0.L.length : Int)), (15, .int .i64 (k_3 : Int)), (22, .lst 30 (e_4.Held.map encMessage)), (23, .int .i64 (e_4.Held.length : Int)), (24, .int .i64 (k_7 : Int))], hL [(0, .box [.int .i64 (0 : Int), .nils]), (1, .box [.int .i64 x_0.Window, .osl 2]), (2, .row 3 (focR encSender p_16 [.str g_17.Port, .int .i64 g_17.Next, .osl 4] q_18)), (3, .box [.str e_4.Port, .int .i64 e_4.Next, .osl 5]), (4, .row 30 (g_17.Held.map encMessage)), (5, .row 30 (a_5.map encMessage))], 6⟩
      conv => whnf
      refine ⟨fun h => ?_, fun h => ?_⟩
      · have hlt_k_7 : k_7 < e_4.Held.length := by have h := of_decide_eq_true h; omega
        obtain ⟨e_8, h_e_8⟩ : ∃ y, e_4.Held[k_7]? = some y := ⟨_, List.getElem?_eq_getElem hlt_k_7⟩
        rw [drop_cons h_e_8, inbox_clone_L2.eq_2] at hL2
        conv => whnf
        refine ⟨k_7, _, rfl, ix_map h_e_8, ?_⟩
        conv => whnf
        obtain ⟨r_9, h_r_9, hL2⟩ := bind_some hL2
        refine ⟨_, _, _, _, _, _, _, _, _, callX false [] [] 0 Try.func38 (by decide) rfl (inbox_copied_ac e_8 r_9 h_r_9) rfl ⟨(argE (by (conv => lhs; whnf); all_goals rfl) rfl), trivial⟩ rfl trivial rfl rfl rfl lend0 trivial rfl, ?_⟩
        conv => whnf
        obtain ⟨l_10, h_l_10, hL2⟩ := bind_some hL2
        refine ap_q (enc := encMessage) (l := a_5) (y := ([r_9] : List Message)) h_l_10 rfl rfl (by decide) ?_
        conv => whnf
        refine ⟨by kernel_rfl, ?_⟩
        conv => whnf
        refine ⟨((k_7 + 1 : Nat) : Int), wrapE (by omega) (by omega) (by omega), ?_⟩
        conv => whnf
        exact ⟨(k_7 + 1, l_10), [0, 1, 2, 3, 4, 9], [], [], ⟨hlt_k_7, hL2⟩, by show e_4.Held.length - (k_7 + 1) < e_4.Held.length - k_7; omega, wk_mk [0, 1, 2, 3, 4, 9] [] [] rfl ⟨argP (id := 0) (by (conv => lhs; whnf); all_goals rfl) rfl, argP (id := 1) (by (conv => lhs; whnf); all_goals rfl) rfl, argP (id := 3) (by (conv => lhs; whnf); all_goals rfl) rfl, argE (by (conv => lhs; whnf); all_goals rfl) rfl, argE (by (conv => lhs; whnf); all_goals rfl) rfl, argE (by (conv => lhs; whnf); all_goals rfl) rfl, argE (by (conv => lhs; whnf); all_goals rfl) rfl, argE (by (conv => lhs; whnf); all_goals rfl) rfl, argE (by (conv => lhs; whnf); all_goals rfl) rfl, trivial⟩ ⟨boxL rfl rfl rfl ⟨(.ni _ rfl), (.ni _ rfl), trivial⟩, boxL rfl rfl rfl ⟨(.ni _ rfl), (.oslg 2 2 rfl), trivial⟩, blk_rowsE rfl rfl (focA (enc := encSender) (fun _ => ⟨rfl, rfl⟩) (cellsL (c' := [.str g_17.Port, .int .i64 g_17.Next, .osl 4]) rfl rfl ⟨(.ni _ rfl), (.ni _ rfl), (.oslg 4 4 rfl), trivial⟩)) rfl, boxL rfl rfl rfl ⟨(.ni _ rfl), (.ni _ rfl), (.oslg 9 5 rfl), trivial⟩, blkR (fun _ => ⟨rfl, rfl⟩) rfl rfl, blkR (fun _ => ⟨rfl, rfl⟩) rfl rfl, trivial⟩⟩
      · rw [drop_nil (show e_4.Held.length ≤ k_7 by have h := of_decide_eq_false h; omega), inbox_clone_L2.eq_1] at hL2
        conv => whnf
        obtain rfl := Option.some.inj hL2
        replace hL1 := sub_brk hL1
        try dsimp only at hL1
        obtain ⟨l_13, h_l_13, hL1⟩ := bind_some hL1
        refine ap_raw h_l_13 (by rw [foc_len]; simp; omega) (by simp [chunkA]) (by decide) ?_
        conv => whnf
        refine ⟨((k_3 + 1 : Nat) : Int), wrapE (by omega) (by omega) (by omega), ?_⟩
        conv => whnf
        have he_ := foc_ap3 h_l_13
        subst he_
        exact ⟨.inr (k_3 + 1, p_16, g_17, (q_18 ++ [(⟨e_4.Port, e_4.Next, a_5⟩ : Sender)])), [0, 1, 7, 4], [], [5], ⟨⟨hlt_k_3, hL1⟩, hp_p_16⟩, by show x_0.L.length - (k_3 + 1) < x_0.L.length - k_3; omega, wkS (σ1 := ⟨eL [(2, .ptr 0 0), (3, .ptr 1 0), (13, .lst 3 (x_0.L.map encSender)), (14, .int .i64 (x_0.L.length : Int)), (15, .int .i64 ((k_3 + 1) : Int))], hL [(0, .box [.int .i64 (0 : Int), .nils]), (1, .box [.int .i64 x_0.Window, .osl 2]), (2, .row 3 (focR encSender p_16 [.str g_17.Port, .int .i64 g_17.Next, .osl 3] (q_18 ++ [(⟨e_4.Port, e_4.Next, a_5⟩ : Sender)]))), (3, .row 30 (g_17.Held.map encMessage))], 4⟩) rfl (wk_mk [0, 1, 7, 4] [] [5] rfl ⟨argP (id := 0) (by (conv => lhs; whnf); all_goals rfl) rfl, argP (id := 1) (by (conv => lhs; whnf); all_goals rfl) rfl, argE (by (conv => lhs; whnf); all_goals rfl) rfl, argE (by (conv => lhs; whnf); all_goals rfl) rfl, argE (by (conv => lhs; whnf); all_goals rfl) rfl, trivial⟩ ⟨boxL rfl rfl rfl ⟨(.ni _ rfl), (.ni _ rfl), trivial⟩, boxL rfl rfl rfl ⟨(.ni _ rfl), (.oslg 7 2 rfl), trivial⟩, blk_rowsE rfl rfl (focN (enc := encSender) (fun _ => ⟨rfl, rfl⟩) (cellsL (c' := [.str g_17.Port, .int .i64 g_17.Next, .osl 3]) rfl rfl ⟨(.ni _ rfl), (.ni _ rfl), (.oslg 4 3 rfl), trivial⟩) (cellsL (c' := [.str e_4.Port, .int .i64 e_4.Next, .lst 30 (a_5.map encMessage)]) rfl rfl ⟨(.ni _ rfl), (.ni _ rfl), (.osl 5 30 _ (by simp) rfl (map_ni (fun _ => ⟨rfl, rfl⟩) _)), trivial⟩) rfl) rfl, blkR (fun _ => ⟨rfl, rfl⟩) rfl rfl, trivial⟩)⟩
    · rw [drop_nil (show x_0.L.length ≤ k_3 by have h := of_decide_eq_false h; omega), inbox_clone_L1.eq_1] at hL1
      conv => whnf
      obtain rfl := Option.some.inj hL1
      replace hF := fin_brk hF
      try dsimp only at hF
      obtain rfl := Option.some.inj hF
      obtain ⟨h1_, h2_, h3_⟩ := foc_inj hE_ hp_p_16
      subst h1_ h2_ h3_
      exact ret_gz [2, 3] [] [] rfl (argA (c := [.int .i64 x_0.Window, .osl 2]) (by (conv => lhs; whnf); all_goals rfl) rfl ⟨(.ni _ rfl), (.oslg 2 0 rfl), trivial⟩) ⟨blk_rowsE rfl rfl (focA (enc := encSender) (fun _ => ⟨rfl, rfl⟩) (cellsL (c' := [.str e_0.Port, .int .i64 e_0.Next, .osl 1]) rfl rfl ⟨(.ni _ rfl), (.ni _ rfl), (.oslg 3 1 rfl), trivial⟩)) rfl, blkR (fun _ => ⟨rfl, rfl⟩) rfl rfl, trivial⟩

set_option maxRecDepth 100000 in
set_option maxHeartbeats 40000000 in
theorem slices_Insert_Message_ac (x_0 : (List Message)) (x_1 : Int) (x_2 : (List Message)) (r : (List Message)) (hF : slices_Insert_Message x_0 x_1 x_2 = some r) : AC Try.prog 37 [.osl 0, .int .i64 x_1, .osl 1] [.row 30 (x_0.map encMessage), .row 30 (x_2.map encMessage)] (.osl 2) [.dead, .dead, .row 30 (r.map encMessage)] := by
  exact InsMessage.insert_ac encMessage x_0 x_2 x_1 r hF

set_option maxRecDepth 100000 in
set_option maxHeartbeats 40000000 in
theorem slices_Clone_Message_ac (x_0 : (List Message)) (r : (List Message)) (hF : slices_Clone_Message x_0 = some r) : AC Try.prog 68 [.lst 30 (x_0.map encMessage)] [] (.osl 0) [.row 30 (r.map encMessage)] := by
  refine ac_of tab_ok follows_ok Try.func68 rfl Try.ntmps68 rfl ?_
  unfold slices_Clone_Message at hF
  conv => whnf
  intro b hb
  conv => whnf
  refine ⟨fun h => ?_, fun h => ?_⟩
  · have hx : x_0 = [] := List.map_eq_nil_iff.1 (hb h)
    subst hx
    obtain ⟨h1, rfl⟩ := apL_some hF
    conv => whnf
    exact ret_gz [] [0] [] rfl (argZ (by (conv => lhs; whnf); all_goals rfl) rfl) ⟨blkZ rfl, trivial⟩
  · conv => whnf
    refine ap_q (enc := encMessage) (l := ([] : List Message)) (y := x_0) hF rfl rfl (by decide) ?_
    conv => whnf
    exact ret_gz [1] [] [] rfl (argO (id := 1) (by (conv => lhs; whnf); all_goals rfl) rfl) ⟨blkR (fun _ => ⟨rfl, rfl⟩) rfl rfl, trivial⟩

set_option maxRecDepth 100000 in
set_option maxHeartbeats 40000000 in
theorem inbox_release_ac (x_0 : (List Sender)) (x_1 : Nat) (r : (List Message) × (List Sender)) (hF : inbox_release x_0 x_1 = some r) : AC Try.prog 39 [.eptr 0 3 x_1 0] [.row 3 (x_0.map encSender)] (.lst 30 (r.1.map encMessage)) [.row 3 (r.2.map encSender)] := by
  refine ac_of tab_ok follows_ok Try.func39 rfl Try.ntmps39 rfl ?_
  unfold inbox_release at hF
  conv => whnf
  obtain ⟨c_1, hc_1, hF⟩ := fin_some hF
  refine sw_loop tab_ok follows_ok (fun y : Nat × (List Sender) × Int => inbox_release_L1 x_1 y.1 y.2.1 y.2.2 = some c_1) (fun y => ⟨eL [(0, .eptr 0 3 x_1 0), (3, .int .i64 y.2.2)], hL [(0, .row 3 (y.2.1.map encSender))], 1⟩) (fun y => y.1) (9223372036854775807, x_0, (0 : Int)) hc_1 (wk_mk [0] [] [] rfl ⟨argEp (id := 0) (by (conv => lhs; whnf); all_goals rfl) rfl, argE (by (conv => lhs; whnf); all_goals rfl) rfl, trivial⟩ ⟨blkR (fun _ => ⟨rfl, rfl⟩) rfl rfl, trivial⟩) ?_
  rintro ⟨q_5, a_1, i_2⟩ hL1
  try dsimp only at hL1
  rcases q_5 with _ | q_5
  · rw [inbox_release_L1.eq_1] at hL1
    cases hL1
  rw [inbox_release_L1.eq_2] at hL1
  show awp _ _ _ _ _ _ ⟨eL [(0, .eptr 0 3 x_1 0), (3, .int .i64 i_2)], hL [(0, .row 3 (a_1.map encSender))], 1⟩
  conv => whnf
  obtain ⟨v_3, h_v_3, hL1⟩ := bind_some hL1
  refine ⟨_, ix_map (enc := encSender) (ixL_at h_v_3 rfl), ?_⟩
  conv => whnf
  refine len_q (enc := encMessage) (l := v_3.Held) rfl ?_
  conv => whnf
  refine ⟨fun hb_9 => ?_, fun hb_9 => ?_⟩
  · replace hL1 := cond_t hb_9 hL1
    conv => whnf
    refine ⟨_, ix_map (enc := encSender) (ixL_at h_v_3 rfl), ?_⟩
    conv => whnf
    obtain ⟨e_4, h_e_4, hL1⟩ := bind_some hL1
    refine ix_q (enc := encMessage) (l := v_3.Held) h_e_4 rfl (fun m_e_4 hm_e_4 hx_e_4 => ?_)
    conv => whnf
    refine ⟨_, ix_map (enc := encSender) (ixL_at h_v_3 rfl), ?_⟩
    conv => whnf
    refine ⟨by kernel_rfl, ?_⟩
    conv => whnf
    refine ⟨fun hb_10 => ?_, fun hb_10 => ?_⟩
    · replace hL1 := cond_t hb_10 hL1
      conv => whnf
      refine ⟨_, ix_map (enc := encSender) (ixL_at h_v_3 rfl), ?_⟩
      conv => whnf
      refine ⟨_, rfl, ?_⟩
      conv => whnf
      refine st_q (enc := encSender) (l := a_1) (x' := (⟨v_3.Port, (w64 (v_3.Next + (1 : Int))), v_3.Held⟩ : Sender)) (i := (x_1 : Int)) rfl (ixL_at h_v_3 rfl) rfl (Nat.le_of_ble_eq_true rfl) rfl ?_
      conv => whnf
      refine ⟨_, rfl, ?_⟩
      conv => whnf
      exact ⟨(q_5, (a_1.set (x_1 : Int).toNat (⟨v_3.Port, (w64 (v_3.Next + (1 : Int))), v_3.Held⟩ : Sender)), (w64 (i_2 + (1 : Int)))), [0], [], [], hL1, Nat.lt_succ_self _, wk_mk [0] [] [] rfl ⟨argEp (id := 0) (by (conv => lhs; whnf); all_goals rfl) rfl, argE (by (conv => lhs; whnf); all_goals rfl) rfl, trivial⟩ ⟨blkR (fun _ => ⟨rfl, rfl⟩) rfl rfl, trivial⟩⟩
    · replace hL1 := cond_f hb_10 hL1
      conv => whnf
      obtain rfl := Option.some.inj hL1
      replace hF := fin_brk hF
      try dsimp only at hF
      obtain ⟨v_7, h_v_7, hF⟩ := bind_some hF
      refine ⟨_, ix_map (enc := encSender) (ixL_at h_v_7 rfl), ?_⟩
      conv => whnf
      obtain ⟨l_8, h_l_8, hF⟩ := bind_some hF
      refine sl_q0 (enc := encMessage) (l := v_7.Held) h_l_8 rfl ?_
      conv => whnf
      obtain ⟨r_9, h_r_9, hF⟩ := bind_some hF
      refine ⟨_, _, _, _, _, _, _, _, _, callX false [] [] 1 Try.func68 (by decide) rfl (slices_Clone_Message_ac l_8 r_9 h_r_9) rfl ⟨(argE (by (conv => lhs; whnf); all_goals rfl) rfl), trivial⟩ rfl trivial rfl rfl rfl lend0 ⟨renR (fun _ => ⟨rfl, rfl⟩), trivial⟩ rfl, ?_⟩
      conv => whnf
      refine ⟨_, ix_map (enc := encSender) (ixL_at h_v_7 rfl), ?_⟩
      conv => whnf
      obtain ⟨l_10, h_l_10, hF⟩ := bind_some hF
      refine sl_q1 (enc := encMessage) (l := v_7.Held) h_l_10 rfl ?_
      conv => whnf
      obtain ⟨r_11, h_r_11, hF⟩ := bind_some hF
      refine ⟨_, _, _, _, _, _, _, _, _, callX false [] [] 1 Try.func68 (by decide) rfl (slices_Clone_Message_ac l_10 r_11 h_r_11) rfl ⟨(argE (by (conv => lhs; whnf); all_goals rfl) rfl), trivial⟩ rfl trivial rfl rfl rfl lend0 ⟨renR (fun _ => ⟨rfl, rfl⟩), trivial⟩ rfl, ?_⟩
      conv => whnf
      refine ⟨map_ni (fun _ => ⟨rfl, rfl⟩) _, ?_⟩
      conv => whnf
      refine st_q (enc := encSender) (l := a_1) (x' := (⟨v_7.Port, v_7.Next, r_11⟩ : Sender)) (i := (x_1 : Int)) rfl (ixL_at h_v_7 rfl) rfl (Nat.le_of_ble_eq_true rfl) rfl ?_
      conv => whnf
      obtain rfl := Option.some.inj hF
      exact ret_gz [0] [] [1] rfl (argOL 1 (by (conv => lhs; whnf); all_goals rfl) rfl rfl (map_ni (fun _ => ⟨rfl, rfl⟩) _)) ⟨blkR (fun _ => ⟨rfl, rfl⟩) rfl rfl, trivial⟩
  · replace hL1 := cond_f hb_9 hL1
    conv => whnf
    refine ⟨by kernel_rfl, ?_⟩
    conv => whnf
    obtain rfl := Option.some.inj hL1
    replace hF := fin_brk hF
    try dsimp only at hF
    obtain ⟨v_7, h_v_7, hF⟩ := bind_some hF
    refine ⟨_, ix_map (enc := encSender) (ixL_at h_v_7 rfl), ?_⟩
    conv => whnf
    obtain ⟨l_8, h_l_8, hF⟩ := bind_some hF
    refine sl_q0 (enc := encMessage) (l := v_7.Held) h_l_8 rfl ?_
    conv => whnf
    obtain ⟨r_9, h_r_9, hF⟩ := bind_some hF
    refine ⟨_, _, _, _, _, _, _, _, _, callX false [] [] 1 Try.func68 (by decide) rfl (slices_Clone_Message_ac l_8 r_9 h_r_9) rfl ⟨(argE (by (conv => lhs; whnf); all_goals rfl) rfl), trivial⟩ rfl trivial rfl rfl rfl lend0 ⟨renR (fun _ => ⟨rfl, rfl⟩), trivial⟩ rfl, ?_⟩
    conv => whnf
    refine ⟨_, ix_map (enc := encSender) (ixL_at h_v_7 rfl), ?_⟩
    conv => whnf
    obtain ⟨l_10, h_l_10, hF⟩ := bind_some hF
    refine sl_q1 (enc := encMessage) (l := v_7.Held) h_l_10 rfl ?_
    conv => whnf
    obtain ⟨r_11, h_r_11, hF⟩ := bind_some hF
    refine ⟨_, _, _, _, _, _, _, _, _, callX false [] [] 1 Try.func68 (by decide) rfl (slices_Clone_Message_ac l_10 r_11 h_r_11) rfl ⟨(argE (by (conv => lhs; whnf); all_goals rfl) rfl), trivial⟩ rfl trivial rfl rfl rfl lend0 ⟨renR (fun _ => ⟨rfl, rfl⟩), trivial⟩ rfl, ?_⟩
    conv => whnf
    refine ⟨map_ni (fun _ => ⟨rfl, rfl⟩) _, ?_⟩
    conv => whnf
    refine st_q (enc := encSender) (l := a_1) (x' := (⟨v_7.Port, v_7.Next, r_11⟩ : Sender)) (i := (x_1 : Int)) rfl (ixL_at h_v_7 rfl) rfl (Nat.le_of_ble_eq_true rfl) rfl ?_
    conv => whnf
    obtain rfl := Option.some.inj hF
    exact ret_gz [0] [] [1] rfl (argOL 1 (by (conv => lhs; whnf); all_goals rfl) rfl rfl (map_ni (fun _ => ⟨rfl, rfl⟩) _)) ⟨blkR (fun _ => ⟨rfl, rfl⟩) rfl rfl, trivial⟩

set_option maxRecDepth 100000 in
set_option maxHeartbeats 40000000 in
theorem slices_Insert_Message_v2_ac (x_0 : Int) (x_1 : (List Message)) (r : (List Message)) (hF : slices_Insert_Message_v2 x_0 x_1 = some r) : AC Try.prog 37 [.nils, .int .i64 x_0, .osl 0] [.row 30 (x_1.map encMessage)] (.osl 1) [.dead, .row 30 (r.map encMessage)] := by
  exact InsMessage.insnil_ac encMessage (fun _ => ⟨rfl, rfl⟩) x_1 x_0 r hF

set_option maxRecDepth 100000 in
set_option maxHeartbeats 40000000 in
theorem inbox_Receive_ac (x_0 : Inbox) (x_1 : Message) (r : Inbox × (List Message) × Int × Int) (hF : inbox_Receive x_0 x_1 = some r) : AC Try.prog 13 [.agg (encInbox x_0), .agg (encMessage x_1)] [] (.tup [.agg (encInbox r.1), .lst 30 (r.2.1.map encMessage), .int .i64 r.2.2.1, .int .i64 r.2.2.2]) [] := by
  refine ac_of tab_ok follows_ok Try.func13 rfl Try.ntmps13 rfl ?_
  unfold inbox_Receive at hF
  conv => whnf
  obtain ⟨r_1, h_r_1, hF⟩ := bind_some hF
  refine ⟨_, _, _, _, _, _, _, _, _, callX false [] [] 0 Try.func29 (by decide) rfl (message_Validate_ac x_1 r_1 h_r_1) rfl ⟨(argE (by (conv => lhs; whnf); all_goals rfl) rfl), trivial⟩ rfl trivial rfl rfl rfl lend0 trivial rfl, ?_⟩
  conv => whnf
  refine ⟨fun hb_13 => ?_, fun hb_13 => ?_⟩
  · replace hF := cond_t hb_13 hF
    conv => whnf
    obtain rfl := Option.some.inj hF
    exact ret_gz [] [] [] rfl (tupL rfl ⟨(argA (c := [.int .i64 (0 : Int), .nils]) (by (conv => lhs; whnf); all_goals rfl) rfl ⟨(.ni _ rfl), (.nils _), trivial⟩), (argN (by (conv => lhs; whnf); all_goals rfl)), (argE (by (conv => lhs; whnf); all_goals rfl) rfl), (argE (by (conv => lhs; whnf); all_goals rfl) rfl), trivial⟩) trivial
  · replace hF := cond_f hb_13 hF
    conv => whnf
    obtain ⟨r_2, h_r_2, hF⟩ := bind_some hF
    refine ⟨_, _, _, _, _, _, _, _, _, callX false [] [] 0 Try.func30 (by decide) rfl (inbox_find_ac x_0 x_1.Port r_2 h_r_2) rfl ⟨(argE (by (conv => lhs; whnf); all_goals rfl) rfl), (argE (by (conv => lhs; whnf); all_goals rfl) rfl), trivial⟩ rfl trivial rfl rfl rfl lend0 trivial rfl, ?_⟩
    conv => whnf
    refine ⟨fun hb_14 => ?_, fun hb_14 => ?_⟩
    · replace hF := cond_t hb_14 hF
      conv => whnf
      obtain ⟨e_3, h_e_3, hF⟩ := bind_some hF
      refine ix_q (enc := encSender) (l := x_0.L) h_e_3 rfl (fun m_e_3 hm_e_3 hx_e_3 => ?_)
      conv => whnf
      obtain ⟨r_4, h_r_4, hF⟩ := bind_some hF
      refine ⟨_, _, _, _, _, _, _, _, _, callX false [] [] 0 Try.func31 (by decide) rfl (slices_BinarySearchFunc_int_ac e_3.Held x_1.Number r_4 h_r_4) rfl ⟨(argE (by (conv => lhs; whnf); all_goals rfl) rfl), (argE (by (conv => lhs; whnf); all_goals rfl) rfl), (argE (by (conv => lhs; whnf); all_goals rfl) rfl), trivial⟩ rfl trivial rfl rfl rfl lend0 trivial rfl, ?_⟩
      conv => whnf
      refine ⟨fun hb_15 => ?_, fun hb_15 => ?_⟩
      · replace hF := cond_t hb_15 hF
        conv => whnf
        obtain ⟨r_5, h_r_5, hF⟩ := bind_some hF
        refine ⟨_, _, _, _, _, _, _, _, _, callX false [] [] 1 Try.func34 (by decide) rfl (inbox_clone_ac x_0 r_5 h_r_5) rfl ⟨(argE (by (conv => lhs; whnf); all_goals rfl) rfl), trivial⟩ rfl trivial rfl rfl rfl lend0 ⟨renR (fun _ => ⟨rfl, rfl⟩), trivial⟩ rfl, ?_⟩
        conv => whnf
        obtain rfl := Option.some.inj hF
        exact ret_gz [] [] [7] rfl (tupL rfl ⟨(argA (c := [.int .i64 r_5.Window, .osl 7]) (by (conv => lhs; whnf); all_goals rfl) rfl ⟨(.ni _ rfl), (.osl 7 3 _ (by simp) rfl (map_ni (fun _ => ⟨rfl, rfl⟩) _)), trivial⟩), (argN (by (conv => lhs; whnf); all_goals rfl)), (argE (by (conv => lhs; whnf); all_goals rfl) rfl), (argE (by (conv => lhs; whnf); all_goals rfl) rfl), trivial⟩) trivial
      · replace hF := cond_f hb_15 hF
        conv => whnf
        refine ⟨_, rfl, ?_⟩
        conv => whnf
        refine ⟨fun hb_16 => ?_, fun hb_16 => ?_⟩
        · replace hF := cond_t hb_16 hF
          conv => whnf
          obtain ⟨r_6, h_r_6, hF⟩ := bind_some hF
          refine ⟨_, _, _, _, _, _, _, _, _, callX false [] [] 1 Try.func34 (by decide) rfl (inbox_clone_ac x_0 r_6 h_r_6) rfl ⟨(argE (by (conv => lhs; whnf); all_goals rfl) rfl), trivial⟩ rfl trivial rfl rfl rfl lend0 ⟨renR (fun _ => ⟨rfl, rfl⟩), trivial⟩ rfl, ?_⟩
          conv => whnf
          obtain rfl := Option.some.inj hF
          exact ret_gz [] [] [7] rfl (tupL rfl ⟨(argA (c := [.int .i64 r_6.Window, .osl 7]) (by (conv => lhs; whnf); all_goals rfl) rfl ⟨(.ni _ rfl), (.osl 7 3 _ (by simp) rfl (map_ni (fun _ => ⟨rfl, rfl⟩) _)), trivial⟩), (argN (by (conv => lhs; whnf); all_goals rfl)), (argE (by (conv => lhs; whnf); all_goals rfl) rfl), (argE (by (conv => lhs; whnf); all_goals rfl) rfl), trivial⟩) trivial
        · replace hF := cond_f hb_16 hF
          conv => whnf
          refine ⟨fun hb_17 => ?_, fun hb_17 => ?_⟩
          · replace hF := cond_t hb_17 hF
            conv => whnf
            obtain ⟨e_7, h_e_7, hF⟩ := bind_some hF
            refine ix_q (enc := encMessage) (l := e_3.Held) h_e_7 rfl (fun m_e_7 hm_e_7 hx_e_7 => ?_)
            conv => whnf
            obtain ⟨r_8, h_r_8, hF⟩ := bind_some hF
            refine ⟨_, _, _, _, _, _, _, _, _, callX false [] [] 0 Try.func35 (by decide) rfl (message_Same_ac e_7 x_1 r_8 h_r_8) rfl ⟨(argE (by (conv => lhs; whnf); all_goals rfl) rfl), (argE (by (conv => lhs; whnf); all_goals rfl) rfl), trivial⟩ rfl trivial rfl rfl rfl lend0 trivial rfl, ?_⟩
            conv => whnf
            refine ⟨by kernel_rfl, ?_⟩
            conv => whnf
            refine ⟨fun hb_18 => ?_, fun hb_18 => ?_⟩
            · replace hF := cond_t hb_18 hF
              conv => whnf
              obtain ⟨r_9, h_r_9, hF⟩ := bind_some hF
              refine ⟨_, _, _, _, _, _, _, _, _, callX false [] [] 1 Try.func34 (by decide) rfl (inbox_clone_ac x_0 r_9 h_r_9) rfl ⟨(argE (by (conv => lhs; whnf); all_goals rfl) rfl), trivial⟩ rfl trivial rfl rfl rfl lend0 ⟨renR (fun _ => ⟨rfl, rfl⟩), trivial⟩ rfl, ?_⟩
              conv => whnf
              obtain rfl := Option.some.inj hF
              exact ret_gz [] [] [8] rfl (tupL rfl ⟨(argA (c := [.int .i64 r_9.Window, .osl 8]) (by (conv => lhs; whnf); all_goals rfl) rfl ⟨(.ni _ rfl), (.osl 8 3 _ (by simp) rfl (map_ni (fun _ => ⟨rfl, rfl⟩) _)), trivial⟩), (argN (by (conv => lhs; whnf); all_goals rfl)), (argE (by (conv => lhs; whnf); all_goals rfl) rfl), (argE (by (conv => lhs; whnf); all_goals rfl) rfl), trivial⟩) trivial
            · replace hF := cond_f hb_18 hF
              conv => whnf
              refine ⟨fun h => ?_, fun h => ?_⟩
              · conv => whnf
                obtain ⟨r_10, h_r_10, hF⟩ := bind_some hF
                refine ⟨_, _, _, _, _, _, _, _, _, callX false [] [] 1 Try.func34 (by decide) rfl (inbox_clone_ac x_0 r_10 h_r_10) rfl ⟨(argE (by (conv => lhs; whnf); all_goals rfl) rfl), trivial⟩ rfl trivial rfl rfl rfl lend0 ⟨renR (fun _ => ⟨rfl, rfl⟩), trivial⟩ rfl, ?_⟩
                conv => whnf
                obtain rfl := Option.some.inj hF
                exact ret_gz [] [] [8] rfl (tupL rfl ⟨(argA (c := [.int .i64 r_10.Window, .osl 8]) (by (conv => lhs; whnf); all_goals rfl) rfl ⟨(.ni _ rfl), (.osl 8 3 _ (by simp) rfl (map_ni (fun _ => ⟨rfl, rfl⟩) _)), trivial⟩), (argN (by (conv => lhs; whnf); all_goals rfl)), (argE (by (conv => lhs; whnf); all_goals rfl) rfl), (argE (by (conv => lhs; whnf); all_goals rfl) rfl), trivial⟩) trivial
              · cases (hb_17).symm.trans h
          · replace hF := cond_f hb_17 hF
            conv => whnf
            refine ⟨by kernel_rfl, ?_⟩
            conv => whnf
            refine ⟨fun h => ?_, fun h => ?_⟩
            · cases (hb_17).symm.trans h
            · conv => whnf
              refine ⟨fun h => ?_, fun h => ?_⟩
              · cases (not_kn (hb_14)).symm.trans h
              · conv => whnf
                obtain ⟨r_11, h_r_11, hF⟩ := bind_some hF
                obtain ⟨h_r_11, p_fr_11, q_fr_11, n_fr_11, hi_fr_11, hE_fr_11, hp_fr_11⟩ := focE_some h_r_11
                refine ⟨_, _, _, _, _, _, _, _, _, callY false [.row 3 (focR encSender p_fr_11 [.str r_11.2.Port, .int .i64 r_11.2.Next, .osl 8] q_fr_11), .row 30 (r_11.2.Held.map encMessage)] [] [] 2 Try.func34 (by decide) rfl (inbox_clone_foc2 x_0 r_11.1 p_fr_11 r_11.2 q_fr_11 hE_fr_11 h_r_11) rfl ⟨(argE (by (conv => lhs; whnf); all_goals rfl) rfl), trivial⟩ rfl trivial rfl rfl rfl lend0 rfl ⟨renF (fun _ => ⟨rfl, rfl⟩) rfl, renR (fun _ => ⟨rfl, rfl⟩), trivial⟩ rfl, ?_⟩
                conv => whnf
                refine ⟨fun h => ?_, fun h => ?_⟩
                · cases (not_kn (hb_14)).symm.trans h
                · conv => whnf
                  refine fix_q (enc := encSender) hp_fr_11 hi_fr_11 rfl ?_
                  conv => whnf
                  refine fld_q (enc := encSender) hp_fr_11 rfl ?_
                  conv => whnf
                  obtain ⟨r_12, h_r_12, hF⟩ := bind_some hF
                  refine ⟨_, _, _, _, _, _, _, _, _, callX false [] [] 0 Try.func38 (by decide) rfl (inbox_copied_ac x_1 r_12 h_r_12) rfl ⟨(argE (by (conv => lhs; whnf); all_goals rfl) rfl), trivial⟩ rfl trivial rfl rfl rfl lend0 trivial rfl, ?_⟩
                  conv => whnf
                  obtain ⟨r_13, h_r_13, hF⟩ := bind_some hF
                  refine ⟨_, _, _, _, _, _, _, _, _, callY false [.dead, .dead, .row 30 (r_13.map encMessage)] [8, 12] [] 1 Try.func37 (by decide) rfl (slices_Insert_Message_ac r_11.2.Held r_4.1 ([r_12] : List Message) r_13 h_r_13) rfl ⟨(argO (id := 8) (by (conv => lhs; whnf); all_goals rfl) rfl), (argE (by (conv => lhs; whnf); all_goals rfl) rfl), (argO (id := 12) (by (conv => lhs; whnf); all_goals rfl) rfl), trivial⟩ rfl ⟨(grR (fun _ => ⟨rfl, rfl⟩) rfl), (grR (fun _ => ⟨rfl, rfl⟩) rfl), trivial⟩ rfl rfl rfl lend0 rfl ⟨rfl, rfl, renR (fun _ => ⟨rfl, rfl⟩), trivial⟩ rfl, ?_⟩
                  conv => whnf
                  refine ⟨map_ni (fun _ => ⟨rfl, rfl⟩) _, ?_⟩
                  conv => whnf
                  refine fst_q (enc := encSender) (l := r_11.1.L) (x' := (⟨r_11.2.Port, r_11.2.Next, r_13⟩ : Sender)) hE_fr_11 hp_fr_11 hi_fr_11 rfl (Nat.le_of_ble_eq_true rfl) rfl ?_
                  conv => whnf
                  refine ⟨by kernel_rfl, ?_⟩
                  conv => whnf
                  obtain ⟨v_14, h_v_14, hF⟩ := bind_some hF
                  refine ⟨_, ix_map (enc := encSender) (ixL_at h_v_14 hi_fr_11), ?_⟩
                  conv => whnf
                  refine ⟨by kernel_rfl, ?_⟩
                  conv => whnf
                  refine ⟨fun hb_19 => ?_, fun hb_19 => ?_⟩
                  · replace hF := cond_t hb_19 hF
                    conv => whnf
                    obtain rfl := Option.some.inj hF
                    exact ret_gz [] [] [7] rfl (tupL rfl ⟨(argA (c := [.int .i64 r_11.1.Window, .osl 7]) (by (conv => lhs; whnf); all_goals rfl) rfl ⟨(.ni _ rfl), (.osl 7 3 _ (by simp) rfl (map_ni (fun _ => ⟨rfl, rfl⟩) _)), trivial⟩), (argN (by (conv => lhs; whnf); all_goals rfl)), (argE (by (conv => lhs; whnf); all_goals rfl) rfl), (argE (by (conv => lhs; whnf); all_goals rfl) rfl), trivial⟩) trivial
                  · replace hF := cond_f hb_19 hF
                    conv => whnf
                    obtain ⟨r_15, h_r_15, hF⟩ := bind_some hF
                    refine ⟨_, _, _, _, _, _, _, _, _, callX false [7] [] 0 Try.func39 (by decide) rfl (inbox_release_ac (r_11.1.L.set r_2.1.toNat (⟨r_11.2.Port, r_11.2.Next, r_13⟩ : Sender)) ((r_2.1).toNat) r_15 h_r_15) rfl ⟨(argEp (id := 7) (by (conv => lhs; whnf); rw [show (r_2.1).toNat = n_fr_11 from toNat_of hi_fr_11]) rfl), trivial⟩ rfl ⟨(grR (fun _ => ⟨rfl, rfl⟩) rfl), trivial⟩ rfl rfl rfl lend0 ⟨renR (fun _ => ⟨rfl, rfl⟩), trivial⟩ rfl, ?_⟩
                    conv => whnf
                    refine ⟨by kernel_rfl, ?_⟩
                    conv => whnf
                    obtain rfl := Option.some.inj hF
                    exact ret_gz [] [] [7] rfl (tupL rfl ⟨(argA (c := [.int .i64 r_11.1.Window, .osl 7]) (by (conv => lhs; whnf); all_goals rfl) rfl ⟨(.ni _ rfl), (.osl 7 3 _ (by simp) rfl (map_ni (fun _ => ⟨rfl, rfl⟩) _)), trivial⟩), (argE (by (conv => lhs; whnf); all_goals rfl) rfl), (argE (by (conv => lhs; whnf); all_goals rfl) rfl), (argE (by (conv => lhs; whnf); all_goals rfl) rfl), trivial⟩) trivial
    · replace hF := cond_f hb_14 hF
      conv => whnf
      obtain ⟨r_16, h_r_16, hF⟩ := bind_some hF
      refine ⟨_, _, _, _, _, _, _, _, _, callX false [] [] 0 Try.func31 (by decide) rfl (slices_BinarySearchFunc_int_ac ([] : (List Message)) x_1.Number r_16 h_r_16) rfl ⟨(argN (by (conv => lhs; whnf); all_goals rfl)), (argE (by (conv => lhs; whnf); all_goals rfl) rfl), (argE (by (conv => lhs; whnf); all_goals rfl) rfl), trivial⟩ rfl trivial rfl rfl rfl lend0 trivial rfl, ?_⟩
      conv => whnf
      refine ⟨fun hb_20 => ?_, fun hb_20 => ?_⟩
      · replace hF := cond_t hb_20 hF
        conv => whnf
        obtain ⟨r_17, h_r_17, hF⟩ := bind_some hF
        refine ⟨_, _, _, _, _, _, _, _, _, callX false [] [] 1 Try.func34 (by decide) rfl (inbox_clone_ac x_0 r_17 h_r_17) rfl ⟨(argE (by (conv => lhs; whnf); all_goals rfl) rfl), trivial⟩ rfl trivial rfl rfl rfl lend0 ⟨renR (fun _ => ⟨rfl, rfl⟩), trivial⟩ rfl, ?_⟩
        conv => whnf
        obtain rfl := Option.some.inj hF
        exact ret_gz [] [] [7] rfl (tupL rfl ⟨(argA (c := [.int .i64 r_17.Window, .osl 7]) (by (conv => lhs; whnf); all_goals rfl) rfl ⟨(.ni _ rfl), (.osl 7 3 _ (by simp) rfl (map_ni (fun _ => ⟨rfl, rfl⟩) _)), trivial⟩), (argN (by (conv => lhs; whnf); all_goals rfl)), (argE (by (conv => lhs; whnf); all_goals rfl) rfl), (argE (by (conv => lhs; whnf); all_goals rfl) rfl), trivial⟩) trivial
      · replace hF := cond_f hb_20 hF
        conv => whnf
        refine ⟨_, rfl, ?_⟩
        conv => whnf
        refine ⟨fun hb_21 => ?_, fun hb_21 => ?_⟩
        · replace hF := cond_t hb_21 hF
          conv => whnf
          obtain ⟨r_18, h_r_18, hF⟩ := bind_some hF
          refine ⟨_, _, _, _, _, _, _, _, _, callX false [] [] 1 Try.func34 (by decide) rfl (inbox_clone_ac x_0 r_18 h_r_18) rfl ⟨(argE (by (conv => lhs; whnf); all_goals rfl) rfl), trivial⟩ rfl trivial rfl rfl rfl lend0 ⟨renR (fun _ => ⟨rfl, rfl⟩), trivial⟩ rfl, ?_⟩
          conv => whnf
          obtain rfl := Option.some.inj hF
          exact ret_gz [] [] [7] rfl (tupL rfl ⟨(argA (c := [.int .i64 r_18.Window, .osl 7]) (by (conv => lhs; whnf); all_goals rfl) rfl ⟨(.ni _ rfl), (.osl 7 3 _ (by simp) rfl (map_ni (fun _ => ⟨rfl, rfl⟩) _)), trivial⟩), (argN (by (conv => lhs; whnf); all_goals rfl)), (argE (by (conv => lhs; whnf); all_goals rfl) rfl), (argE (by (conv => lhs; whnf); all_goals rfl) rfl), trivial⟩) trivial
        · replace hF := cond_f hb_21 hF
          conv => whnf
          refine ⟨fun hb_22 => ?_, fun hb_22 => ?_⟩
          · replace hF := cond_t hb_22 hF
            conv => whnf
            cases hF
          · replace hF := cond_f hb_22 hF
            conv => whnf
            refine ⟨by kernel_rfl, ?_⟩
            conv => whnf
            refine ⟨fun h => ?_, fun h => ?_⟩
            · cases (hb_22).symm.trans h
            · conv => whnf
              refine ⟨fun h => ?_, fun h => ?_⟩
              · conv => whnf
                refine len_q (enc := encSender) (l := x_0.L) rfl ?_
                conv => whnf
                refine ⟨fun hb_23 => ?_, fun hb_23 => ?_⟩
                · replace hF := cond_t hb_23 hF
                  conv => whnf
                  obtain rfl := Option.some.inj hF
                  exact ret_gz [] [] [] rfl (tupL rfl ⟨(argA (c := [.int .i64 (0 : Int), .nils]) (by (conv => lhs; whnf); all_goals rfl) rfl ⟨(.ni _ rfl), (.nils _), trivial⟩), (argN (by (conv => lhs; whnf); all_goals rfl)), (argE (by (conv => lhs; whnf); all_goals rfl) rfl), (argE (by (conv => lhs; whnf); all_goals rfl) rfl), trivial⟩) trivial
                · replace hF := cond_f hb_23 hF
                  conv => whnf
                  obtain ⟨r_19, h_r_19, hF⟩ := bind_some hF
                  refine ⟨_, _, _, _, _, _, _, _, _, callX false [] [] 1 Try.func34 (by decide) rfl (inbox_clone_ac x_0 r_19 h_r_19) rfl ⟨(argE (by (conv => lhs; whnf); all_goals rfl) rfl), trivial⟩ rfl trivial rfl rfl rfl lend0 ⟨renR (fun _ => ⟨rfl, rfl⟩), trivial⟩ rfl, ?_⟩
                  conv => whnf
                  refine ⟨fun h => ?_, fun h => ?_⟩
                  · conv => whnf
                    obtain ⟨r_20, h_r_20, hF⟩ := bind_some hF
                    obtain ⟨p_fr_20, q_fr_20, n_fr_20, hi_fr_20, hE_fr_20, hp_fr_20, hac_r_20⟩ := InsSender.insert_foc encSender h_r_20
                    refine ⟨_, _, _, _, _, _, _, _, _, callY false [.dead, .dead, .row 3 (focR encSender p_fr_20 [.str x_1.Port, .int .i64 (1 : Int), .nils] q_fr_20)] [7, 10] [] 1 Try.func36 (by decide) rfl (hac_r_20 _) rfl ⟨(argO (id := 7) (by (conv => lhs; whnf); all_goals rfl) rfl), (argE (by (conv => lhs; whnf); all_goals rfl) rfl), (argO (id := 10) (by (conv => lhs; whnf); all_goals rfl) rfl), trivial⟩ rfl ⟨(grR (fun _ => ⟨rfl, rfl⟩) rfl), rfl, trivial⟩ rfl rfl rfl lend0 rfl ⟨rfl, rfl, renF (fun _ => ⟨rfl, rfl⟩) rfl, trivial⟩ rfl, ?_⟩
                    conv => whnf
                    refine fix_q (enc := encSender) hp_fr_20 hi_fr_20 rfl ?_
                    conv => whnf
                    refine fld_q (enc := encSender) hp_fr_20 rfl ?_
                    conv => whnf
                    obtain ⟨r_21, h_r_21, hF⟩ := bind_some hF
                    refine ⟨_, _, _, _, _, _, _, _, _, callX false [] [] 0 Try.func38 (by decide) rfl (inbox_copied_ac x_1 r_21 h_r_21) rfl ⟨(argE (by (conv => lhs; whnf); all_goals rfl) rfl), trivial⟩ rfl trivial rfl rfl rfl lend0 trivial rfl, ?_⟩
                    conv => whnf
                    obtain ⟨r_22, h_r_22, hF⟩ := bind_some hF
                    refine ⟨_, _, _, _, _, _, _, _, _, callY false [.dead, .row 30 (r_22.map encMessage)] [14] [] 1 Try.func37 (by decide) rfl (slices_Insert_Message_v2_ac r_16.1 ([r_21] : List Message) r_22 h_r_22) rfl ⟨(argE (by (conv => lhs; whnf); all_goals rfl) rfl), (argE (by (conv => lhs; whnf); all_goals rfl) rfl), (argO (id := 14) (by (conv => lhs; whnf); all_goals rfl) rfl), trivial⟩ rfl ⟨(grR (fun _ => ⟨rfl, rfl⟩) rfl), trivial⟩ rfl rfl rfl lend0 rfl ⟨rfl, renR (fun _ => ⟨rfl, rfl⟩), trivial⟩ rfl, ?_⟩
                    conv => whnf
                    refine ⟨map_ni (fun _ => ⟨rfl, rfl⟩) _, ?_⟩
                    conv => whnf
                    refine fst_q (enc := encSender) (l := r_20) (x' := (⟨x_1.Port, (1 : Int), r_22⟩ : Sender)) hE_fr_20 hp_fr_20 hi_fr_20 rfl (Nat.le_of_ble_eq_true rfl) rfl ?_
                    conv => whnf
                    refine ⟨by kernel_rfl, ?_⟩
                    conv => whnf
                    obtain ⟨v_23, h_v_23, hF⟩ := bind_some hF
                    refine ⟨_, ix_map (enc := encSender) (ixL_at h_v_23 hi_fr_20), ?_⟩
                    conv => whnf
                    refine ⟨by kernel_rfl, ?_⟩
                    conv => whnf
                    refine ⟨fun hb_24 => ?_, fun hb_24 => ?_⟩
                    · replace hF := cond_t hb_24 hF
                      conv => whnf
                      obtain rfl := Option.some.inj hF
                      exact ret_gz [] [] [11] rfl (tupL rfl ⟨(argA (c := [.int .i64 r_19.Window, .osl 11]) (by (conv => lhs; whnf); all_goals rfl) rfl ⟨(.ni _ rfl), (.osl 11 3 _ (by simp) rfl (map_ni (fun _ => ⟨rfl, rfl⟩) _)), trivial⟩), (argN (by (conv => lhs; whnf); all_goals rfl)), (argE (by (conv => lhs; whnf); all_goals rfl) rfl), (argE (by (conv => lhs; whnf); all_goals rfl) rfl), trivial⟩) trivial
                    · replace hF := cond_f hb_24 hF
                      conv => whnf
                      obtain ⟨r_24, h_r_24, hF⟩ := bind_some hF
                      refine ⟨_, _, _, _, _, _, _, _, _, callX false [11] [] 0 Try.func39 (by decide) rfl (inbox_release_ac (r_20.set r_2.1.toNat (⟨x_1.Port, (1 : Int), r_22⟩ : Sender)) ((r_2.1).toNat) r_24 h_r_24) rfl ⟨(argEp (id := 11) (by (conv => lhs; whnf); rw [show (r_2.1).toNat = n_fr_20 from toNat_of hi_fr_20]) rfl), trivial⟩ rfl ⟨(grR (fun _ => ⟨rfl, rfl⟩) rfl), trivial⟩ rfl rfl rfl lend0 ⟨renR (fun _ => ⟨rfl, rfl⟩), trivial⟩ rfl, ?_⟩
                      conv => whnf
                      refine ⟨by kernel_rfl, ?_⟩
                      conv => whnf
                      obtain rfl := Option.some.inj hF
                      exact ret_gz [] [] [11] rfl (tupL rfl ⟨(argA (c := [.int .i64 r_19.Window, .osl 11]) (by (conv => lhs; whnf); all_goals rfl) rfl ⟨(.ni _ rfl), (.osl 11 3 _ (by simp) rfl (map_ni (fun _ => ⟨rfl, rfl⟩) _)), trivial⟩), (argE (by (conv => lhs; whnf); all_goals rfl) rfl), (argE (by (conv => lhs; whnf); all_goals rfl) rfl), (argE (by (conv => lhs; whnf); all_goals rfl) rfl), trivial⟩) trivial
                  · cases (not_kn (hb_14)).symm.trans h
              · cases (not_kn (hb_14)).symm.trans h

set_option maxRecDepth 100000 in
set_option maxHeartbeats 40000000 in
theorem inbox_Missing_ac (x_0 : Inbox) (x_1 : ByteArray) (r : (List Int)) (hF : inbox_Missing x_0 x_1 = some r) : AC Try.prog 16 [.agg (encInbox x_0), .str x_1] [] (.lst 1 (r.map iA)) [] := by
  refine ac_of tab_ok follows_ok Try.func16 rfl Try.ntmps16 rfl ?_
  unfold inbox_Missing at hF
  conv => whnf
  obtain ⟨r_1, h_r_1, hF⟩ := bind_some hF
  refine ⟨_, _, _, _, _, _, _, _, _, callX false [] [] 0 Try.func30 (by decide) rfl (inbox_find_ac x_0 x_1 r_1 h_r_1) rfl ⟨(argE (by (conv => lhs; whnf); all_goals rfl) rfl), (argE (by (conv => lhs; whnf); all_goals rfl) rfl), trivial⟩ rfl trivial rfl rfl rfl lend0 trivial rfl, ?_⟩
  conv => whnf
  refine ⟨fun hb_18 => ?_, fun hb_18 => ?_⟩
  · replace hF := cond_t hb_18 hF
    conv => whnf
    obtain rfl := Option.some.inj hF
    exact ret_gz [] [] [] rfl (argN (by (conv => lhs; whnf); all_goals rfl)) trivial
  · replace hF := cond_f hb_18 hF
    conv => whnf
    obtain ⟨e_2, h_e_2, hF⟩ := bind_some hF
    refine ix_q (enc := encSender) (l := x_0.L) h_e_2 rfl (fun m_e_2 hm_e_2 hx_e_2 => ?_)
    conv => whnf
    obtain ⟨e_3, h_e_3, hF⟩ := bind_some hF
    refine ix_q (enc := encSender) (l := x_0.L) h_e_3 rfl (fun m_e_3 hm_e_3 hx_e_3 => ?_)
    conv => whnf
    refine len_q (enc := encMessage) (l := e_3.Held) rfl ?_
    conv => whnf
    obtain ⟨c_1, hc_1, hF⟩ := fin_some hF
    refine sw_bv 28 (v := .iptr [.str e_3.Port, .int .i64 e_3.Next, .lst 30 (e_3.Held.map encMessage)]) (by (conv => lhs; whnf); all_goals rfl) (fun hb => ?_)
    have hbd_k_7 : e_3.Held.length ≤ 9223372036854775807 := bnd_len (enc := encMessage) ((bnd_at hb.icell 2 rfl))
    refine sw_loop tab_ok follows_ok (fun y : Nat × (List Int) × Int => y.1 ≤ e_3.Held.length ∧ inbox_Missing_L1 (e_3.Held.drop y.1) y.1 y.2.1 y.2.2 = some c_1) (fun y => ⟨eL [(7, .osl 0), (8, .int .i64 y.2.2), (30, .lst 30 (e_3.Held.map encMessage)), (31, .int .i64 (e_3.Held.length : Int)), (32, .int .i64 (y.1 : Int))], hL [(0, .row 1 (y.2.1.map iA))], 1⟩) (fun y => e_3.Held.length - y.1) (0, ([] : List Int), e_2.Next) ⟨Nat.zero_le _, hc_1⟩ (wk_mk [] [0] [] rfl ⟨argZ (by (conv => lhs; whnf); all_goals rfl) rfl, argE (by (conv => lhs; whnf); all_goals rfl) rfl, argE (by (conv => lhs; whnf); all_goals rfl) rfl, argE (by (conv => lhs; whnf); all_goals rfl) rfl, argE (by (conv => lhs; whnf); all_goals rfl) rfl, trivial⟩ ⟨blkZ rfl, trivial⟩) ?_
    rintro ⟨k_7, a_4, i_5⟩ ⟨hk_k_7, hL1⟩
    try dsimp only at hk_k_7 hL1
    show awp _ _ _ _ _ _ ⟨eL [(7, .osl 0), (8, .int .i64 i_5), (30, .lst 30 (e_3.Held.map encMessage)), (31, .int .i64 (e_3.Held.length : Int)), (32, .int .i64 (k_7 : Int))], hL [(0, .row 1 (a_4.map iA))], 1⟩
    conv => whnf
    refine ⟨fun h => ?_, fun h => ?_⟩
    · have hlt_k_7 : k_7 < e_3.Held.length := by have h := of_decide_eq_true h; omega
      obtain ⟨e_8, h_e_8⟩ : ∃ y, e_3.Held[k_7]? = some y := ⟨_, List.getElem?_eq_getElem hlt_k_7⟩
      rw [drop_cons h_e_8, inbox_Missing_L1.eq_2] at hL1
      conv => whnf
      refine ⟨k_7, _, rfl, ix_map h_e_8, ?_⟩
      conv => whnf
      obtain ⟨c_2, hc_2, hL1⟩ := sub_some hL1
      refine sw_loop tab_ok follows_ok (fun y : Nat × (List Int) × Int => inbox_Missing_L2 e_8 y.1 y.2.1 y.2.2 = some c_2) (fun y => ⟨eL [(7, .osl 0), (8, .int .i64 y.2.2), (10, .ptr 1 0), (30, .lst 30 (e_3.Held.map encMessage)), (31, .int .i64 (e_3.Held.length : Int)), (32, .int .i64 (k_7 : Int))], hL [(0, .row 1 (y.2.1.map iA)), (1, .box [.int .i64 e_8.Kind, .int .i64 e_8.Do, .str e_8.Port, .int .i64 e_8.Number, .str e_8.In.Flight.Carrier, .int .i64 e_8.In.Flight.Number, .str e_8.In.Flight.Suffix, .int .i64 e_8.In.Flight.Day, .str e_8.In.Port, .str e_8.In.Class, .str e_8.Out.Flight.Carrier, .int .i64 e_8.Out.Flight.Number, .str e_8.Out.Flight.Suffix, .int .i64 e_8.Out.Flight.Day, .str e_8.Out.Port, .str e_8.Out.Class, .lst 6 (e_8.Onward.map encLeg), .int .i64 e_8.First.Lead, .int .i64 e_8.First.Airline, .int .i64 e_8.First.Serial, .int .i64 e_8.Count, .bool e_8.Load, .int .i64 e_8.Status, .int .i64 e_8.Sequence, .int .i64 e_8.Weight, .str e_8.Surname, .str e_8.Given, .int .i64 e_8.Exception, .str e_8.Node, .lst 1 (e_8.List.map iA)])], 2⟩) (fun y => y.1) (9223372036854775807, a_4, i_5) hc_2 (wk_mk [0, 1] [] [] rfl ⟨argO (id := 0) (by (conv => lhs; whnf); all_goals rfl) rfl, argE (by (conv => lhs; whnf); all_goals rfl) rfl, argP (id := 1) (by (conv => lhs; whnf); all_goals rfl) rfl, argE (by (conv => lhs; whnf); all_goals rfl) rfl, argE (by (conv => lhs; whnf); all_goals rfl) rfl, argE (by (conv => lhs; whnf); all_goals rfl) rfl, trivial⟩ ⟨blkR (fun _ => ⟨rfl, rfl⟩) rfl rfl, boxL rfl rfl rfl ⟨(.ni _ rfl), (.ni _ rfl), (.ni _ rfl), (.ni _ rfl), (.ni _ rfl), (.ni _ rfl), (.ni _ rfl), (.ni _ rfl), (.ni _ rfl), (.ni _ rfl), (.ni _ rfl), (.ni _ rfl), (.ni _ rfl), (.ni _ rfl), (.ni _ rfl), (.ni _ rfl), (.ni _ rfl), (.ni _ rfl), (.ni _ rfl), (.ni _ rfl), (.ni _ rfl), (.ni _ rfl), (.ni _ rfl), (.ni _ rfl), (.ni _ rfl), (.ni _ rfl), (.ni _ rfl), (.ni _ rfl), (.ni _ rfl), (.ni _ rfl), trivial⟩, trivial⟩) ?_
      rintro ⟨q_12, a_9, i_10⟩ hL2
      try dsimp only at hL2
      rcases q_12 with _ | q_12
      · rw [inbox_Missing_L2.eq_1] at hL2
        cases hL2
      rw [inbox_Missing_L2.eq_2] at hL2
      show awp _ _ _ _ _ _ ⟨eL [(7, .osl 0), (8, .int .i64 i_10), (10, .ptr 1 0), (30, .lst 30 (e_3.Held.map encMessage)), (31, .int .i64 (e_3.Held.length : Int)), (32, .int .i64 (k_7 : Int))], hL [(0, .row 1 (a_9.map iA)), (1, .box [.int .i64 e_8.Kind, .int .i64 e_8.Do, .str e_8.Port, .int .i64 e_8.Number, .str e_8.In.Flight.Carrier, .int .i64 e_8.In.Flight.Number, .str e_8.In.Flight.Suffix, .int .i64 e_8.In.Flight.Day, .str e_8.In.Port, .str e_8.In.Class, .str e_8.Out.Flight.Carrier, .int .i64 e_8.Out.Flight.Number, .str e_8.Out.Flight.Suffix, .int .i64 e_8.Out.Flight.Day, .str e_8.Out.Port, .str e_8.Out.Class, .lst 6 (e_8.Onward.map encLeg), .int .i64 e_8.First.Lead, .int .i64 e_8.First.Airline, .int .i64 e_8.First.Serial, .int .i64 e_8.Count, .bool e_8.Load, .int .i64 e_8.Status, .int .i64 e_8.Sequence, .int .i64 e_8.Weight, .str e_8.Surname, .str e_8.Given, .int .i64 e_8.Exception, .str e_8.Node, .lst 1 (e_8.List.map iA)])], 2⟩
      conv => whnf
      refine ⟨fun hb_19 => ?_, fun hb_19 => ?_⟩
      · replace hL2 := cond_t hb_19 hL2
        conv => whnf
        obtain ⟨l_11, h_l_11, hL2⟩ := bind_some hL2
        refine ap_q (enc := iA) (l := a_9) (y := ([i_10] : List Int)) h_l_11 rfl rfl (by decide) ?_
        conv => whnf
        refine ⟨_, rfl, ?_⟩
        conv => whnf
        exact ⟨(q_12, l_11, (w64 (i_10 + (1 : Int)))), [3, 1], [], [], hL2, Nat.lt_succ_self _, wk_mk [3, 1] [] [] rfl ⟨argO (id := 3) (by (conv => lhs; whnf); all_goals rfl) rfl, argE (by (conv => lhs; whnf); all_goals rfl) rfl, argP (id := 1) (by (conv => lhs; whnf); all_goals rfl) rfl, argE (by (conv => lhs; whnf); all_goals rfl) rfl, argE (by (conv => lhs; whnf); all_goals rfl) rfl, argE (by (conv => lhs; whnf); all_goals rfl) rfl, trivial⟩ ⟨blkR (fun _ => ⟨rfl, rfl⟩) rfl rfl, boxL rfl rfl rfl ⟨(.ni _ rfl), (.ni _ rfl), (.ni _ rfl), (.ni _ rfl), (.ni _ rfl), (.ni _ rfl), (.ni _ rfl), (.ni _ rfl), (.ni _ rfl), (.ni _ rfl), (.ni _ rfl), (.ni _ rfl), (.ni _ rfl), (.ni _ rfl), (.ni _ rfl), (.ni _ rfl), (.ni _ rfl), (.ni _ rfl), (.ni _ rfl), (.ni _ rfl), (.ni _ rfl), (.ni _ rfl), (.ni _ rfl), (.ni _ rfl), (.ni _ rfl), (.ni _ rfl), (.ni _ rfl), (.ni _ rfl), (.ni _ rfl), (.ni _ rfl), trivial⟩, trivial⟩⟩
      · replace hL2 := cond_f hb_19 hL2
        conv => whnf
        obtain rfl := Option.some.inj hL2
        replace hL1 := sub_brk hL1
        try dsimp only at hL1
        refine ⟨_, rfl, ?_⟩
        conv => whnf
        refine ⟨((k_7 + 1 : Nat) : Int), wrapE (by omega) (by omega) (by omega), ?_⟩
        conv => whnf
        exact ⟨(k_7 + 1, a_9, (w64 (e_8.Number + (1 : Int)))), [0], [], [], ⟨hlt_k_7, hL1⟩, by show e_3.Held.length - (k_7 + 1) < e_3.Held.length - k_7; omega, wk_mk [0] [] [] rfl ⟨argO (id := 0) (by (conv => lhs; whnf); all_goals rfl) rfl, argE (by (conv => lhs; whnf); all_goals rfl) rfl, argE (by (conv => lhs; whnf); all_goals rfl) rfl, argE (by (conv => lhs; whnf); all_goals rfl) rfl, argE (by (conv => lhs; whnf); all_goals rfl) rfl, trivial⟩ ⟨blkR (fun _ => ⟨rfl, rfl⟩) rfl rfl, trivial⟩⟩
    · rw [drop_nil (show e_3.Held.length ≤ k_7 by have h := of_decide_eq_false h; omega), inbox_Missing_L1.eq_1] at hL1
      conv => whnf
      obtain rfl := Option.some.inj hL1
      replace hF := fin_brk hF
      try dsimp only at hF
      obtain rfl := Option.some.inj hF
      exact ret_gz [] [] [0] rfl (argOL 0 (by (conv => lhs; whnf); all_goals rfl) rfl rfl (map_ni (fun _ => ⟨rfl, rfl⟩) _)) trivial

set_option maxRecDepth 100000 in
set_option maxHeartbeats 40000000 in
theorem law05_awake_ac (r : Bool) (hF : law05_awake = some r) : AC Try.prog 17 [] [] (.bool r) [] := by
  refine ac_of tab_ok follows_ok Try.func17 rfl Try.ntmps17 rfl ?_
  unfold law05_awake at hF
  conv => whnf
  obtain ⟨r_1, h_r_1, hF⟩ := bind_some hF
  refine ⟨_, _, _, _, _, _, _, _, _, callX false [] [] 0 Try.func9 (by decide) rfl (inbox_New_ac (3 : Int) r_1 h_r_1) rfl ⟨(argE (by (conv => lhs; whnf); all_goals rfl) rfl), trivial⟩ rfl trivial rfl rfl rfl lend0 trivial rfl, ?_⟩
  conv => whnf
  obtain ⟨r_2, h_r_2, hF⟩ := bind_some hF
  refine ⟨_, _, _, _, _, _, _, _, _, callX false [] [] 0 Try.func14 (by decide) rfl (law05_numbered_ac (⟨#[65, 82, 78]⟩ : ByteArray) (2 : Int) r_2 h_r_2) rfl ⟨(argE (by (conv => lhs; whnf); all_goals rfl) rfl), (argE (by (conv => lhs; whnf); all_goals rfl) rfl), trivial⟩ rfl trivial rfl rfl rfl lend0 trivial rfl, ?_⟩
  conv => whnf
  obtain ⟨r_3, h_r_3, hF⟩ := bind_some hF
  refine ⟨_, _, _, _, _, _, _, _, _, callX false [] [] 0 Try.func13 (by decide) rfl (inbox_Receive_ac r_1.1 r_2 r_3 h_r_3) rfl ⟨(argE (by (conv => lhs; whnf); all_goals rfl) rfl), (argE (by (conv => lhs; whnf); all_goals rfl) rfl), trivial⟩ rfl trivial rfl rfl rfl lend0 trivial rfl, ?_⟩
  conv => whnf
  refine ⟨by kernel_rfl, ?_⟩
  conv => whnf
  obtain ⟨r_4, h_r_4, hF⟩ := bind_some hF
  refine ⟨_, _, _, _, _, _, _, _, _, callX false [] [] 0 Try.func14 (by decide) rfl (law05_numbered_ac (⟨#[65, 82, 78]⟩ : ByteArray) (1 : Int) r_4 h_r_4) rfl ⟨(argE (by (conv => lhs; whnf); all_goals rfl) rfl), (argE (by (conv => lhs; whnf); all_goals rfl) rfl), trivial⟩ rfl trivial rfl rfl rfl lend0 trivial rfl, ?_⟩
  conv => whnf
  obtain ⟨r_5, h_r_5, hF⟩ := bind_some hF
  refine ⟨_, _, _, _, _, _, _, _, _, callX false [] [] 0 Try.func13 (by decide) rfl (inbox_Receive_ac r_3.1 r_4 r_5 h_r_5) rfl ⟨(argE (by (conv => lhs; whnf); all_goals rfl) rfl), (argE (by (conv => lhs; whnf); all_goals rfl) rfl), trivial⟩ rfl trivial rfl rfl rfl lend0 trivial rfl, ?_⟩
  conv => whnf
  refine ⟨by kernel_rfl, ?_⟩
  conv => whnf
  refine ⟨fun hb_9 => ?_, fun hb_9 => ?_⟩
  · replace hF := cond_t hb_9 hF
    conv => whnf
    refine ⟨fun hb_10 => ?_, fun hb_10 => ?_⟩
    · replace hF := cond_t hb_10 hF
      conv => whnf
      refine ⟨fun hb_11 => ?_, fun hb_11 => ?_⟩
      · replace hF := cond_t hb_11 hF
        conv => whnf
        refine len_q (enc := encMessage) (l := r_3.2.1) rfl ?_
        conv => whnf
        refine ⟨fun hb_12 => ?_, fun hb_12 => ?_⟩
        · replace hF := cond_t hb_12 hF
          conv => whnf
          refine ⟨fun hb_13 => ?_, fun hb_13 => ?_⟩
          · replace hF := cond_t hb_13 hF
            conv => whnf
            refine ⟨fun hb_14 => ?_, fun hb_14 => ?_⟩
            · replace hF := cond_t hb_14 hF
              conv => whnf
              refine len_q (enc := encMessage) (l := r_5.2.1) rfl ?_
              conv => whnf
              refine ⟨fun hb_15 => ?_, fun hb_15 => ?_⟩
              · replace hF := cond_t hb_15 hF
                conv => whnf
                obtain ⟨e_6, h_e_6, hF⟩ := bind_some hF
                refine ix_q (enc := encMessage) (l := r_5.2.1) h_e_6 rfl (fun m_e_6 hm_e_6 hx_e_6 => ?_)
                conv => whnf
                refine ⟨fun hb_16 => ?_, fun hb_16 => ?_⟩
                · replace hF := cond_t hb_16 hF
                  conv => whnf
                  obtain ⟨r_7, h_r_7, hF⟩ := bind_some hF
                  refine ⟨_, _, _, _, _, _, _, _, _, callX false [] [] 0 Try.func16 (by decide) rfl (inbox_Missing_ac r_3.1 (⟨#[65, 82, 78]⟩ : ByteArray) r_7 h_r_7) rfl ⟨(argE (by (conv => lhs; whnf); all_goals rfl) rfl), (argE (by (conv => lhs; whnf); all_goals rfl) rfl), trivial⟩ rfl trivial rfl rfl rfl lend0 trivial rfl, ?_⟩
                  conv => whnf
                  refine len_q (enc := iA) (l := r_7) rfl ?_
                  conv => whnf
                  obtain rfl := Option.some.inj hF
                  exact ret_gz [] [] [] rfl (argE (by (conv => lhs; whnf); all_goals rfl) rfl) trivial
                · replace hF := cond_f hb_16 hF
                  conv => whnf
                  obtain rfl := Option.some.inj hF
                  exact ret_gz [] [] [] rfl (argFl (by (conv => lhs; whnf); all_goals rfl)) trivial
              · replace hF := cond_f hb_15 hF
                conv => whnf
                obtain rfl := Option.some.inj hF
                exact ret_gz [] [] [] rfl (argFl (by (conv => lhs; whnf); all_goals rfl)) trivial
            · replace hF := cond_f hb_14 hF
              conv => whnf
              obtain rfl := Option.some.inj hF
              exact ret_gz [] [] [] rfl (argFl (by (conv => lhs; whnf); all_goals rfl)) trivial
          · replace hF := cond_f hb_13 hF
            conv => whnf
            obtain rfl := Option.some.inj hF
            exact ret_gz [] [] [] rfl (argFl (by (conv => lhs; whnf); all_goals rfl)) trivial
        · replace hF := cond_f hb_12 hF
          conv => whnf
          obtain rfl := Option.some.inj hF
          exact ret_gz [] [] [] rfl (argFl (by (conv => lhs; whnf); all_goals rfl)) trivial
      · replace hF := cond_f hb_11 hF
        conv => whnf
        obtain rfl := Option.some.inj hF
        exact ret_gz [] [] [] rfl (argFl (by (conv => lhs; whnf); all_goals rfl)) trivial
    · replace hF := cond_f hb_10 hF
      conv => whnf
      obtain rfl := Option.some.inj hF
      exact ret_gz [] [] [] rfl (argFl (by (conv => lhs; whnf); all_goals rfl)) trivial
  · replace hF := cond_f hb_9 hF
    conv => whnf
    obtain rfl := Option.some.inj hF
    exact ret_gz [] [] [] rfl (argFl (by (conv => lhs; whnf); all_goals rfl)) trivial

set_option maxRecDepth 100000 in
set_option maxHeartbeats 40000000 in
theorem keep_New_ac (x_0 : (List Int)) (r : Src) (hF : keep_New x_0 = some r) : AC Try.prog 10 [.lst 1 (x_0.map iA)] [] (.ptr 0 0) [.box (encSrc r)] := by
  refine ac_of tab_ok follows_ok Try.func10 rfl Try.ntmps10 rfl ?_
  unfold keep_New at hF
  conv => whnf
  refine len_q (enc := iA) (l := x_0) rfl ?_
  conv => whnf
  refine ⟨fun hb_2 => ?_, fun hb_2 => ?_⟩
  · replace hF := cond_t hb_2 hF
    conv => whnf
    obtain ⟨l_1, h_l_1, hF⟩ := bind_some hF
    refine sl_q0 (enc := iA) (l := x_0) h_l_1 rfl ?_
    conv => whnf
    obtain rfl := Option.some.inj hF
    exact ret_gz [0] [] [] rfl (argP (id := 0) (by (conv => lhs; whnf); all_goals rfl) rfl) ⟨boxL rfl rfl rfl ⟨(.ni _ rfl), (.ni _ rfl), trivial⟩, trivial⟩
  · replace hF := cond_f hb_2 hF
    conv => whnf
    obtain rfl := Option.some.inj hF
    exact ret_gz [0] [] [] rfl (argP (id := 0) (by (conv => lhs; whnf); all_goals rfl) rfl) ⟨boxL rfl rfl rfl ⟨(.ni _ rfl), (.ni _ rfl), trivial⟩, trivial⟩

set_option maxRecDepth 100000 in
set_option maxHeartbeats 40000000 in
theorem keep_Src_Raw_ac (x_0 : Src) (r : Int × Src) (hF : keep_Src_Raw x_0 = some r) : AC Try.prog 45 [.ptr 0 0] [.box (encSrc x_0)] (.int .i64 r.1) [.box (encSrc r.2)] := by
  refine ac_of tab_ok follows_ok Try.func45 rfl Try.ntmps45 rfl ?_
  unfold keep_Src_Raw at hF
  conv => whnf
  refine len_q (enc := iA) (l := x_0.L) rfl ?_
  conv => whnf
  refine ⟨by kernel_rfl, ?_⟩
  conv => whnf
  refine ⟨fun hb_2 => ?_, fun hb_2 => ?_⟩
  · replace hF := cond_t hb_2 hF
    conv => whnf
    obtain rfl := Option.some.inj hF
    exact ret_gz [0] [] [] rfl (argE (by (conv => lhs; whnf); all_goals rfl) rfl) ⟨boxL rfl rfl rfl ⟨(.ni _ rfl), (.ni _ rfl), trivial⟩, trivial⟩
  · replace hF := cond_f hb_2 hF
    conv => whnf
    refine ⟨_, rfl, ?_⟩
    conv => whnf
    refine ⟨_, rfl, ?_⟩
    conv => whnf
    obtain ⟨e_1, h_e_1, hF⟩ := bind_some hF
    refine ix_q (enc := iA) (l := x_0.L) h_e_1 rfl (fun m_e_1 hm_e_1 hx_e_1 => ?_)
    conv => whnf
    refine ⟨by kernel_rfl, ?_⟩
    conv => whnf
    obtain rfl := Option.some.inj hF
    exact ret_gz [0] [] [] rfl (argE (by (conv => lhs; whnf); all_goals rfl) rfl) ⟨boxL rfl rfl rfl ⟨(.ni _ rfl), (.ni _ rfl), trivial⟩, trivial⟩

set_option maxRecDepth 100000 in
set_option maxHeartbeats 40000000 in
theorem keep_Mod_ac (x_0 : Int) (x_1 : Int) (r : Int) (hF : keep_Mod x_0 x_1 = some r) : AC Try.prog 8 [.int .i64 x_0, .int .i64 x_1] [] (.int .i64 r) [] := by
  refine ac_of tab_ok follows_ok Try.func8 rfl Try.ntmps8 rfl ?_
  unfold keep_Mod at hF
  conv => whnf
  refine ⟨fun hb_3 => ?_, fun hb_3 => ?_⟩
  · replace hF := cond_t hb_3 hF
    conv => whnf
    obtain rfl := Option.some.inj hF
    exact ret_gz [] [] [] rfl (argE (by (conv => lhs; whnf); all_goals rfl) rfl) trivial
  · replace hF := cond_f hb_3 hF
    conv => whnf
    obtain ⟨u_1, h_u_1, hF⟩ := bind_some hF
    refine ⟨nz_some h_u_1, _, rfl, ?_⟩
    conv => whnf
    refine ⟨fun hb_4 => ?_, fun hb_4 => ?_⟩
    · replace hF := cond_t hb_4 hF
      conv => whnf
      refine ⟨_, rfl, ?_⟩
      conv => whnf
      obtain rfl := Option.some.inj hF
      exact ret_gz [] [] [] rfl (argE (by (conv => lhs; whnf); all_goals rfl) rfl) trivial
    · replace hF := cond_f hb_4 hF
      conv => whnf
      obtain rfl := Option.some.inj hF
      exact ret_gz [] [] [] rfl (argE (by (conv => lhs; whnf); all_goals rfl) rfl) trivial

set_option maxRecDepth 100000 in
set_option maxHeartbeats 40000000 in
theorem keep_Src_N_ac (x_0 : Src) (x_1 : Int) (r : Int × Src) (hF : keep_Src_N x_0 x_1 = some r) : AC Try.prog 23 [.ptr 0 0, .int .i64 x_1] [.box (encSrc x_0)] (.int .i64 r.1) [.box (encSrc r.2)] := by
  refine ac_of tab_ok follows_ok Try.func23 rfl Try.ntmps23 rfl ?_
  unfold keep_Src_N at hF
  conv => whnf
  obtain ⟨r_1, h_r_1, hF⟩ := bind_some hF
  refine ⟨_, _, _, _, _, _, _, _, _, callX false [0] [] 0 Try.func45 (by decide) rfl (keep_Src_Raw_ac x_0 r_1 h_r_1) rfl ⟨(argP (id := 0) (by (conv => lhs; whnf); all_goals rfl) rfl), trivial⟩ rfl ⟨rfl, trivial⟩ rfl rfl rfl lend0 ⟨rfl, trivial⟩ rfl, ?_⟩
  conv => whnf
  obtain ⟨r_2, h_r_2, hF⟩ := bind_some hF
  refine ⟨_, _, _, _, _, _, _, _, _, callX false [] [] 0 Try.func8 (by decide) rfl (keep_Mod_ac r_1.1 x_1 r_2 h_r_2) rfl ⟨(argE (by (conv => lhs; whnf); all_goals rfl) rfl), (argE (by (conv => lhs; whnf); all_goals rfl) rfl), trivial⟩ rfl trivial rfl rfl rfl lend0 trivial rfl, ?_⟩
  conv => whnf
  obtain rfl := Option.some.inj hF
  exact ret_gz [0] [] [] rfl (argE (by (conv => lhs; whnf); all_goals rfl) rfl) ⟨boxL rfl rfl rfl ⟨(.ni _ rfl), (.ni _ rfl), trivial⟩, trivial⟩

set_option maxRecDepth 100000 in
set_option maxHeartbeats 40000000 in
theorem keep_Src_Range_ac (x_0 : Src) (x_1 : Int) (x_2 : Int) (r : Int × Src) (hF : keep_Src_Range x_0 x_1 x_2 = some r) : AC Try.prog 11 [.ptr 0 0, .int .i64 x_1, .int .i64 x_2] [.box (encSrc x_0)] (.int .i64 r.1) [.box (encSrc r.2)] := by
  refine ac_of tab_ok follows_ok Try.func11 rfl Try.ntmps11 rfl ?_
  unfold keep_Src_Range at hF
  conv => whnf
  refine ⟨_, rfl, ?_⟩
  conv => whnf
  refine ⟨_, rfl, ?_⟩
  conv => whnf
  obtain ⟨r_1, h_r_1, hF⟩ := bind_some hF
  refine ⟨_, _, _, _, _, _, _, _, _, callX false [0] [] 0 Try.func23 (by decide) rfl (keep_Src_N_ac x_0 (w64 ((w64 (x_2 - x_1)) + (1 : Int))) r_1 h_r_1) rfl ⟨(argP (id := 0) (by (conv => lhs; whnf); all_goals rfl) rfl), (argE (by (conv => lhs; whnf); all_goals rfl) rfl), trivial⟩ rfl ⟨rfl, trivial⟩ rfl rfl rfl lend0 ⟨rfl, trivial⟩ rfl, ?_⟩
  conv => whnf
  refine ⟨_, rfl, ?_⟩
  conv => whnf
  obtain rfl := Option.some.inj hF
  exact ret_gz [0] [] [] rfl (argE (by (conv => lhs; whnf); all_goals rfl) rfl) ⟨boxL rfl rfl rfl ⟨(.ni _ rfl), (.ni _ rfl), trivial⟩, trivial⟩

set_option maxRecDepth 100000 in
set_option maxHeartbeats 40000000 in
theorem ref04_legs_ac (x_0 : (List Leg)) (x_1 : (List Leg)) (r : Bool) (hF : ref04_legs x_0 x_1 = some r) : AC Try.prog 40 [.lst 6 (x_0.map encLeg), .lst 6 (x_1.map encLeg)] [] (.bool r) [] := by
  refine ac_of tab_ok follows_ok Try.func40 rfl Try.ntmps40 rfl ?_
  unfold ref04_legs at hF
  conv => whnf
  refine len_q (enc := encLeg) (l := x_0) rfl ?_
  conv => whnf
  refine len_q (enc := encLeg) (l := x_1) rfl ?_
  conv => whnf
  refine ⟨fun hb_8 => ?_, fun hb_8 => ?_⟩
  · replace hF := cond_t hb_8 hF
    conv => whnf
    obtain rfl := Option.some.inj hF
    exact ret_gz [] [] [] rfl (argFl (by (conv => lhs; whnf); all_goals rfl)) trivial
  · replace hF := cond_f hb_8 hF
    conv => whnf
    obtain ⟨c_1, hc_1, hF⟩ := fin_some hF
    refine sw_bv 0 (v := .lst 6 (x_0.map encLeg)) (by (conv => lhs; whnf); all_goals rfl) (fun hb => ?_)
    have hbd_k_2 : x_0.length ≤ 9223372036854775807 := bnd_len (enc := encLeg) (hb)
    refine sw_loop tab_ok follows_ok (fun y : Nat => y ≤ x_0.length ∧ ref04_legs_L1 x_1 (x_0.drop y) y = some c_1) (fun y => ⟨eL [(0, .lst 6 (x_0.map encLeg)), (1, .lst 6 (x_1.map encLeg)), (5, .int .i64 (y : Int))], hL [], 0⟩) (fun y => x_0.length - y) 0 ⟨Nat.zero_le _, hc_1⟩ (wk_mk [] [] [] rfl ⟨argE (by (conv => lhs; whnf); all_goals rfl) rfl, argE (by (conv => lhs; whnf); all_goals rfl) rfl, argE (by (conv => lhs; whnf); all_goals rfl) rfl, trivial⟩ trivial) ?_
    rintro k_2 ⟨hk_k_2, hL1⟩
    try dsimp only at hk_k_2 hL1
    show awp _ _ _ _ _ _ ⟨eL [(0, .lst 6 (x_0.map encLeg)), (1, .lst 6 (x_1.map encLeg)), (5, .int .i64 (k_2 : Int))], hL [], 0⟩
    conv => whnf
    refine len_q (enc := encLeg) (l := x_0) rfl ?_
    conv => whnf
    refine ⟨fun h => ?_, fun h => ?_⟩
    · have hlt_k_2 : k_2 < x_0.length := by have h := of_decide_eq_true h; omega
      obtain ⟨e_3, h_e_3⟩ : ∃ y, x_0[k_2]? = some y := ⟨_, List.getElem?_eq_getElem hlt_k_2⟩
      rw [drop_cons h_e_3, ref04_legs_L1.eq_2] at hL1
      conv => whnf
      refine ⟨k_2, _, rfl, ix_map h_e_3, ?_⟩
      conv => whnf
      obtain ⟨e_4, h_e_4, hL1⟩ := bind_some hL1
      refine ix_q (enc := encLeg) (l := x_1) h_e_4 rfl (fun m_e_4 hm_e_4 hx_e_4 => ?_)
      conv => whnf
      refine ⟨by kernel_rfl, ?_⟩
      conv => whnf
      refine ⟨fun hb_9 => ?_, fun hb_9 => ?_⟩
      · replace hL1 := cond_t hb_9 hL1
        conv => whnf
        obtain rfl := Option.some.inj hL1
        replace hF := fin_ret hF
        obtain rfl := Option.some.inj hF
        exact ret_gz [] [] [] rfl (argFl (by (conv => lhs; whnf); all_goals rfl)) trivial
      · replace hL1 := cond_f hb_9 hL1
        conv => whnf
        refine ⟨((k_2 + 1 : Nat) : Int), wrapE (by omega) (by omega) (by omega), ?_⟩
        conv => whnf
        exact ⟨k_2 + 1, [], [], [], ⟨hlt_k_2, hL1⟩, by show x_0.length - (k_2 + 1) < x_0.length - k_2; omega, wk_mk [] [] [] rfl ⟨argE (by (conv => lhs; whnf); all_goals rfl) rfl, argE (by (conv => lhs; whnf); all_goals rfl) rfl, argE (by (conv => lhs; whnf); all_goals rfl) rfl, trivial⟩ trivial⟩
    · rw [drop_nil (show x_0.length ≤ k_2 by have h := of_decide_eq_false h; omega), ref04_legs_L1.eq_1] at hL1
      conv => whnf
      obtain rfl := Option.some.inj hL1
      replace hF := fin_brk hF
      try dsimp only at hF
      obtain rfl := Option.some.inj hF
      exact ret_gz [] [] [] rfl (argT (by (conv => lhs; whnf); all_goals rfl)) trivial

set_option maxRecDepth 100000 in
set_option maxHeartbeats 40000000 in
theorem keep_Ints_ac (x_0 : (List Int)) (x_1 : (List Int)) (r : Bool) (hF : keep_Ints x_0 x_1 = some r) : AC Try.prog 20 [.lst 1 (x_0.map iA), .lst 1 (x_1.map iA)] [] (.bool r) [] := by
  refine ac_of tab_ok follows_ok Try.func20 rfl Try.ntmps20 rfl ?_
  unfold keep_Ints at hF
  conv => whnf
  refine len_q (enc := iA) (l := x_0) rfl ?_
  conv => whnf
  refine len_q (enc := iA) (l := x_1) rfl ?_
  conv => whnf
  refine ⟨fun hb_8 => ?_, fun hb_8 => ?_⟩
  · replace hF := cond_t hb_8 hF
    conv => whnf
    obtain rfl := Option.some.inj hF
    exact ret_gz [] [] [] rfl (argFl (by (conv => lhs; whnf); all_goals rfl)) trivial
  · replace hF := cond_f hb_8 hF
    conv => whnf
    obtain ⟨c_1, hc_1, hF⟩ := fin_some hF
    refine sw_bv 0 (v := .lst 1 (x_0.map iA)) (by (conv => lhs; whnf); all_goals rfl) (fun hb => ?_)
    have hbd_k_2 : x_0.length ≤ 9223372036854775807 := bnd_len (enc := iA) (hb)
    refine sw_loop tab_ok follows_ok (fun y : Nat => y ≤ x_0.length ∧ keep_Ints_L1 x_1 (x_0.drop y) y = some c_1) (fun y => ⟨eL [(0, .lst 1 (x_0.map iA)), (1, .lst 1 (x_1.map iA)), (5, .int .i64 (y : Int))], hL [], 0⟩) (fun y => x_0.length - y) 0 ⟨Nat.zero_le _, hc_1⟩ (wk_mk [] [] [] rfl ⟨argE (by (conv => lhs; whnf); all_goals rfl) rfl, argE (by (conv => lhs; whnf); all_goals rfl) rfl, argE (by (conv => lhs; whnf); all_goals rfl) rfl, trivial⟩ trivial) ?_
    rintro k_2 ⟨hk_k_2, hL1⟩
    try dsimp only at hk_k_2 hL1
    show awp _ _ _ _ _ _ ⟨eL [(0, .lst 1 (x_0.map iA)), (1, .lst 1 (x_1.map iA)), (5, .int .i64 (k_2 : Int))], hL [], 0⟩
    conv => whnf
    refine len_q (enc := iA) (l := x_0) rfl ?_
    conv => whnf
    refine ⟨fun h => ?_, fun h => ?_⟩
    · have hlt_k_2 : k_2 < x_0.length := by have h := of_decide_eq_true h; omega
      obtain ⟨e_3, h_e_3⟩ : ∃ y, x_0[k_2]? = some y := ⟨_, List.getElem?_eq_getElem hlt_k_2⟩
      rw [drop_cons h_e_3, keep_Ints_L1.eq_2] at hL1
      conv => whnf
      refine ⟨k_2, _, rfl, ix_map h_e_3, ?_⟩
      conv => whnf
      obtain ⟨e_4, h_e_4, hL1⟩ := bind_some hL1
      refine ix_q (enc := iA) (l := x_1) h_e_4 rfl (fun m_e_4 hm_e_4 hx_e_4 => ?_)
      conv => whnf
      refine ⟨by kernel_rfl, ?_⟩
      conv => whnf
      refine ⟨fun hb_9 => ?_, fun hb_9 => ?_⟩
      · replace hL1 := cond_t hb_9 hL1
        conv => whnf
        obtain rfl := Option.some.inj hL1
        replace hF := fin_ret hF
        obtain rfl := Option.some.inj hF
        exact ret_gz [] [] [] rfl (argFl (by (conv => lhs; whnf); all_goals rfl)) trivial
      · replace hL1 := cond_f hb_9 hL1
        conv => whnf
        refine ⟨((k_2 + 1 : Nat) : Int), wrapE (by omega) (by omega) (by omega), ?_⟩
        conv => whnf
        exact ⟨k_2 + 1, [], [], [], ⟨hlt_k_2, hL1⟩, by show x_0.length - (k_2 + 1) < x_0.length - k_2; omega, wk_mk [] [] [] rfl ⟨argE (by (conv => lhs; whnf); all_goals rfl) rfl, argE (by (conv => lhs; whnf); all_goals rfl) rfl, argE (by (conv => lhs; whnf); all_goals rfl) rfl, trivial⟩ trivial⟩
    · rw [drop_nil (show x_0.length ≤ k_2 by have h := of_decide_eq_false h; omega), keep_Ints_L1.eq_1] at hL1
      conv => whnf
      obtain rfl := Option.some.inj hL1
      replace hF := fin_brk hF
      try dsimp only at hF
      obtain rfl := Option.some.inj hF
      exact ret_gz [] [] [] rfl (argT (by (conv => lhs; whnf); all_goals rfl)) trivial

set_option maxRecDepth 100000 in
set_option maxHeartbeats 40000000 in
theorem ref04_Same_ac (x_0 : Message) (x_1 : Message) (r : Bool) (hF : ref04_Same x_0 x_1 = some r) : AC Try.prog 15 [.agg (encMessage x_0), .agg (encMessage x_1)] [] (.bool r) [] := by
  refine ac_of tab_ok follows_ok Try.func15 rfl Try.ntmps15 rfl ?_
  unfold ref04_Same at hF
  conv => whnf
  refine ⟨fun hb_18 => ?_, fun hb_18 => ?_⟩
  · replace hF := cond_t hb_18 hF
    conv => whnf
    refine ⟨fun hb_19 => ?_, fun hb_19 => ?_⟩
    · replace hF := cond_t hb_19 hF
      conv => whnf
      refine ⟨fun hb_20 => ?_, fun hb_20 => ?_⟩
      · replace hF := cond_t hb_20 hF
        conv => whnf
        refine ⟨fun hb_21 => ?_, fun hb_21 => ?_⟩
        · replace hF := cond_t hb_21 hF
          conv => whnf
          refine ⟨fun hb_22 => ?_, fun hb_22 => ?_⟩
          · replace hF := cond_t hb_22 hF
            conv => whnf
            refine ⟨fun hb_23 => ?_, fun hb_23 => ?_⟩
            · replace hF := cond_t hb_23 hF
              conv => whnf
              obtain ⟨r_1, h_r_1, hF⟩ := bind_some hF
              refine ⟨_, _, _, _, _, _, _, _, _, callX false [] [] 0 Try.func40 (by decide) rfl (ref04_legs_ac x_0.Onward x_1.Onward r_1 h_r_1) rfl ⟨(argE (by (conv => lhs; whnf); all_goals rfl) rfl), (argE (by (conv => lhs; whnf); all_goals rfl) rfl), trivial⟩ rfl trivial rfl rfl rfl lend0 trivial rfl, ?_⟩
              conv => whnf
              refine ⟨fun hb_24 => ?_, fun hb_24 => ?_⟩
              · replace hF := cond_t hb_24 hF
                conv => whnf
                refine ⟨fun hb_25 => ?_, fun hb_25 => ?_⟩
                · replace hF := cond_t hb_25 hF
                  conv => whnf
                  refine ⟨fun hb_26 => ?_, fun hb_26 => ?_⟩
                  · replace hF := cond_t hb_26 hF
                    conv => whnf
                    refine ⟨fun hb_27 => ?_, fun hb_27 => ?_⟩
                    · replace hF := cond_t hb_27 hF
                      conv => whnf
                      refine ⟨fun hb_28 => ?_, fun hb_28 => ?_⟩
                      · replace hF := cond_t hb_28 hF
                        conv => whnf
                        refine ⟨fun hb_29 => ?_, fun hb_29 => ?_⟩
                        · replace hF := cond_t hb_29 hF
                          conv => whnf
                          refine ⟨fun hb_30 => ?_, fun hb_30 => ?_⟩
                          · replace hF := cond_t hb_30 hF
                            conv => whnf
                            refine ⟨fun hb_31 => ?_, fun hb_31 => ?_⟩
                            · replace hF := cond_t hb_31 hF
                              conv => whnf
                              refine ⟨fun hb_32 => ?_, fun hb_32 => ?_⟩
                              · replace hF := cond_t hb_32 hF
                                conv => whnf
                                refine ⟨fun hb_33 => ?_, fun hb_33 => ?_⟩
                                · replace hF := cond_t hb_33 hF
                                  conv => whnf
                                  refine ⟨fun hb_34 => ?_, fun hb_34 => ?_⟩
                                  · replace hF := cond_t hb_34 hF
                                    conv => whnf
                                    obtain ⟨r_2, h_r_2, hF⟩ := bind_some hF
                                    refine ⟨_, _, _, _, _, _, _, _, _, callX false [] [] 0 Try.func20 (by decide) rfl (keep_Ints_ac x_0.List x_1.List r_2 h_r_2) rfl ⟨(argE (by (conv => lhs; whnf); all_goals rfl) rfl), (argE (by (conv => lhs; whnf); all_goals rfl) rfl), trivial⟩ rfl trivial rfl rfl rfl lend0 trivial rfl, ?_⟩
                                    conv => whnf
                                    obtain rfl := Option.some.inj hF
                                    exact ret_gz [] [] [] rfl (argE (by (conv => lhs; whnf); all_goals rfl) rfl) trivial
                                  · replace hF := cond_f hb_34 hF
                                    conv => whnf
                                    obtain rfl := Option.some.inj hF
                                    exact ret_gz [] [] [] rfl (argFl (by (conv => lhs; whnf); all_goals rfl)) trivial
                                · replace hF := cond_f hb_33 hF
                                  conv => whnf
                                  obtain rfl := Option.some.inj hF
                                  exact ret_gz [] [] [] rfl (argFl (by (conv => lhs; whnf); all_goals rfl)) trivial
                              · replace hF := cond_f hb_32 hF
                                conv => whnf
                                obtain rfl := Option.some.inj hF
                                exact ret_gz [] [] [] rfl (argFl (by (conv => lhs; whnf); all_goals rfl)) trivial
                            · replace hF := cond_f hb_31 hF
                              conv => whnf
                              obtain rfl := Option.some.inj hF
                              exact ret_gz [] [] [] rfl (argFl (by (conv => lhs; whnf); all_goals rfl)) trivial
                          · replace hF := cond_f hb_30 hF
                            conv => whnf
                            obtain rfl := Option.some.inj hF
                            exact ret_gz [] [] [] rfl (argFl (by (conv => lhs; whnf); all_goals rfl)) trivial
                        · replace hF := cond_f hb_29 hF
                          conv => whnf
                          obtain rfl := Option.some.inj hF
                          exact ret_gz [] [] [] rfl (argFl (by (conv => lhs; whnf); all_goals rfl)) trivial
                      · replace hF := cond_f hb_28 hF
                        conv => whnf
                        obtain rfl := Option.some.inj hF
                        exact ret_gz [] [] [] rfl (argFl (by (conv => lhs; whnf); all_goals rfl)) trivial
                    · replace hF := cond_f hb_27 hF
                      conv => whnf
                      obtain rfl := Option.some.inj hF
                      exact ret_gz [] [] [] rfl (argFl (by (conv => lhs; whnf); all_goals rfl)) trivial
                  · replace hF := cond_f hb_26 hF
                    conv => whnf
                    obtain rfl := Option.some.inj hF
                    exact ret_gz [] [] [] rfl (argFl (by (conv => lhs; whnf); all_goals rfl)) trivial
                · replace hF := cond_f hb_25 hF
                  conv => whnf
                  obtain rfl := Option.some.inj hF
                  exact ret_gz [] [] [] rfl (argFl (by (conv => lhs; whnf); all_goals rfl)) trivial
              · replace hF := cond_f hb_24 hF
                conv => whnf
                obtain rfl := Option.some.inj hF
                exact ret_gz [] [] [] rfl (argFl (by (conv => lhs; whnf); all_goals rfl)) trivial
            · replace hF := cond_f hb_23 hF
              conv => whnf
              obtain rfl := Option.some.inj hF
              exact ret_gz [] [] [] rfl (argFl (by (conv => lhs; whnf); all_goals rfl)) trivial
          · replace hF := cond_f hb_22 hF
            conv => whnf
            obtain rfl := Option.some.inj hF
            exact ret_gz [] [] [] rfl (argFl (by (conv => lhs; whnf); all_goals rfl)) trivial
        · replace hF := cond_f hb_21 hF
          conv => whnf
          obtain rfl := Option.some.inj hF
          exact ret_gz [] [] [] rfl (argFl (by (conv => lhs; whnf); all_goals rfl)) trivial
      · replace hF := cond_f hb_20 hF
        conv => whnf
        obtain rfl := Option.some.inj hF
        exact ret_gz [] [] [] rfl (argFl (by (conv => lhs; whnf); all_goals rfl)) trivial
    · replace hF := cond_f hb_19 hF
      conv => whnf
      obtain rfl := Option.some.inj hF
      exact ret_gz [] [] [] rfl (argFl (by (conv => lhs; whnf); all_goals rfl)) trivial
  · replace hF := cond_f hb_18 hF
    conv => whnf
    obtain rfl := Option.some.inj hF
    exact ret_gz [] [] [] rfl (argFl (by (conv => lhs; whnf); all_goals rfl)) trivial

end Go.Proofs.Ytpipggnfbgjefaa.Ex
