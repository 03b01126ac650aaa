/- The functions of the program compute what was printed; walks printed by a program. -/
import Derived.Test.YtkliakcegihikaaGreatExF
import Derived.Test.YtkliakcegihikaaGreatSq
import Derived.Test.YtkliakcegihikaaGreatExP1
import Derived.Test.YtkliakcegihikaaGreatExP3
import Derived.Test.YtkliakcegihikaaGreatExP4
import Derived.Test.YtkliakcegihikaaGreatExP5
namespace Go.Proofs.YtkliakcegihikaaGreat.Ex
open Go.RowKit Go.Proofs.YtkliakcegihikaaGreat.Ax
set_option linter.unusedVariables false
set_option linter.unusedSimpArgs false
set_option maxRecDepth 100000
set_option maxHeartbeats 40000000
theorem law06_RegistryReplays_ac (x_0 : (List Int)) (x_1 : (List Int)) (r : Bool) (hF : law06_RegistryReplays x_0 x_1 = some r) : AC Tryz.prog 3 [.lst 1 (x_0.map iA), .lst 1 (x_1.map iA)] [] (.bool r) [] := by
 refine ac_of tab_ok follows_ok Tryz.func3 rfl Tryz.ntmps3 rfl ?_
 unfold law06_RegistryReplays at hF
 conv=>whnf
 obtain ⟨r_1, hr1, hF⟩ := bs hF
 refine ⟨_,_,_,_,_,_,_,_,_,callX false [] [] 1 Tryz.func4 (by decide) rfl (keep_New_ac x_0 r_1 hr1) rfl ⟨aq,trivial⟩ rfl trivial rfl rfl rfl lend0 ⟨rfl,trivial⟩ rfl, ?_⟩
 conv=>whnf
 obtain ⟨c_1, hc_1, hF⟩ := fin_some hF
 refine sw_loop tab_ok follows_ok (fun y : Nat × (List Int) × Int × (List Message) × (List Bag) × Int => law06_RegistryReplays_L1 y.1 y.2.1 y.2.2.1 y.2.2.2.1 y.2.2.2.2.1 y.2.2.2.2.2 = some c_1) (fun y => ⟨eL [(1, .lst 1 (x_1.map iA)), (5, .ptr 0 0), (6, .osl 2), (7, .ptr 1 0), (8, .int .i64 y.2.2.2.2.2)], hL [(0, .box [.lst 1 (y.2.1.map iA), .int .i64 y.2.2.1]), (1, .box [.lst 25 (y.2.2.2.2.1.map encBag)]), (2, .row 30 (y.2.2.2.1.map encMessage))], 3⟩) (fun y => y.1) (9223372036854775807, r_1.L, r_1.At, ([] : List Message), ([] : List Bag), (1 : Int)) hc_1 (wk_mk [0, 2] [2] [] rfl ⟨aq, argP (id := 0) (by (conv=>lhs;whnf)<;>rfl) rfl, argZ (by (conv=>lhs;whnf)<;>rfl) rfl, argP (id := 2) (by (conv=>lhs;whnf)<;>rfl) rfl, aq,trivial⟩ ⟨boxL rfl rfl rfl ⟨(.ni _ rfl), (.ni _ rfl),trivial⟩, boxL rfl rfl rfl ⟨(.nils _),trivial⟩, blkZ rfl,trivial⟩) ?_
 rintro ⟨q_10, a_2, i_3, a_5, a_4, i_6⟩ hL1
 try dsimp only at hL1
 rcases q_10 with _ | q_10
 ·
  rw [law06_RegistryReplays_L1.eq_1] at hL1
  cases hL1
 rw [law06_RegistryReplays_L1.eq_2] at hL1
 show awp _ _ _ _ _ _ ⟨eL [(1, .lst 1 (x_1.map iA)), (5, .ptr 0 0), (6, .osl 2), (7, .ptr 1 0), (8, .int .i64 i_6)], hL [(0, .box [.lst 1 (a_2.map iA), .int .i64 i_3]), (1, .box [.lst 25 (a_4.map encBag)]), (2, .row 30 (a_5.map encMessage))], 3⟩
 conv=>whnf
 refine ⟨fun b89=>?_,fun b89=>?_⟩
 ·
  replace hL1 := ct b89 hL1
  conv=>whnf
  obtain ⟨r_7, hr7, hL1⟩ := bs hL1
  refine ⟨_,_,_,_,_,_,_,_,_,callX false [0] [] 0 Tryz.func5 (by decide) rfl (keep_Src_Message_ac (⟨a_2, i_3⟩ : Src) (0 : Int) r_7 hr7) rfl ⟨(argP (id := 0) (by (conv=>lhs;whnf)<;>rfl) rfl), aq,trivial⟩ rfl ⟨rfl,trivial⟩ rfl rfl rfl lend0 ⟨rfl,trivial⟩ rfl, ?_⟩
  conv=>whnf
  obtain ⟨l_8, hl8, hL1⟩ := bs hL1
  refine ap_q (enc := encMessage) (l := a_5) (y := ([(⟨r_7.1.Kind, r_7.1.Do, (⟨#[65, 82, 78]⟩ : ByteArray), i_6, r_7.1.In, r_7.1.Out, r_7.1.Onward, r_7.1.First, r_7.1.Count, r_7.1.Load, r_7.1.Status, r_7.1.Sequence, r_7.1.Weight, r_7.1.Surname, r_7.1.Given, r_7.1.Exception, r_7.1.Node, r_7.1.List⟩ : Message)] : List Message)) hl8 rfl rfl (by decide) ?_
  conv=>whnf
  obtain ⟨r_9, hr9, hL1⟩ := bs hL1
  refine ⟨_,_,_,_,_,_,_,_,_,callX false [] [] 0 Tryz.func6 (by decide) rfl (ref06_Apply_ac (⟨a_4⟩ : Registry) (⟨r_7.1.Kind, r_7.1.Do, (⟨#[65, 82, 78]⟩ : ByteArray), i_6, r_7.1.In, r_7.1.Out, r_7.1.Onward, r_7.1.First, r_7.1.Count, r_7.1.Load, r_7.1.Status, r_7.1.Sequence, r_7.1.Weight, r_7.1.Surname, r_7.1.Given, r_7.1.Exception, r_7.1.Node, r_7.1.List⟩ : Message) r_9 hr9) rfl ⟨aq, aq,trivial⟩ rfl trivial rfl rfl rfl lend0 trivial rfl, ?_⟩
  conv=>whnf
  refine ⟨fun b90=>?_,fun b90=>?_⟩
  ·
   replace hL1 := ct b90 hL1
   conv=>whnf
   refine ⟨_, rfl, ?_⟩
   conv=>whnf
   exact ⟨(q_10, r_7.2.L, r_7.2.At, l_8, r_9.1.L, (w64 (i_6 + (1 : Int)))), [0, 1, 6], [], [], hL1, Nat.lt_succ_self _, wk_mk [0, 1, 6] [] [] rfl ⟨aq, argP (id := 0) (by (conv=>lhs;whnf)<;>rfl) rfl, argO (id := 6) (by (conv=>lhs;whnf)<;>rfl) rfl, argP (id := 1) (by (conv=>lhs;whnf)<;>rfl) rfl, aq,trivial⟩ ⟨boxL rfl rfl rfl ⟨(.ni _ rfl), (.ni _ rfl),trivial⟩, boxL rfl rfl rfl ⟨(.ni _ rfl),trivial⟩, blkR (fun _ => ⟨rfl, rfl⟩) rfl rfl,trivial⟩⟩
  ·
   replace hL1 := cf b90 hL1
   conv=>whnf
   refine ⟨_, rfl, ?_⟩
   conv=>whnf
   exact ⟨(q_10, r_7.2.L, r_7.2.At, l_8, a_4, (w64 (i_6 + (1 : Int)))), [0, 1, 6], [], [], hL1, Nat.lt_succ_self _, wk_mk [0, 1, 6] [] [] rfl ⟨aq, argP (id := 0) (by (conv=>lhs;whnf)<;>rfl) rfl, argO (id := 6) (by (conv=>lhs;whnf)<;>rfl) rfl, argP (id := 1) (by (conv=>lhs;whnf)<;>rfl) rfl, aq,trivial⟩ ⟨boxL rfl rfl rfl ⟨(.ni _ rfl), (.ni _ rfl),trivial⟩, boxL rfl rfl rfl ⟨(.ni _ rfl),trivial⟩, blkR (fun _ => ⟨rfl, rfl⟩) rfl rfl,trivial⟩⟩
 ·
  replace hL1 := cf b89 hL1
  conv=>whnf
  obtain rfl := si hL1
  replace hF := fin_brk hF
  try dsimp only at hF
  obtain ⟨r_12, hr12, hF⟩ := bs hF
  refine ⟨_,_,_,_,_,_,_,_,_,callX false [] [] 0 Tryz.func7 (by decide) rfl (inbox_New_ac (4 : Int) r_12 hr12) rfl ⟨aq,trivial⟩ rfl trivial rfl rfl rfl lend0 trivial rfl, ?_⟩
  conv=>whnf
  refine ⟨fun b91=>?_,fun b91=>?_⟩
  ·
   replace hF := ct b91 hF
   conv=>whnf
   obtain rfl := si hF
   exact ret_gz [] [] [] rfl (argFl (by (conv=>lhs;whnf)<;>rfl)) trivial
  ·
   replace hF := cf b91 hF
   conv=>whnf
   obtain ⟨r_13, hr13, hF⟩ := bs hF
   refine ⟨_,_,_,_,_,_,_,_,_,callX false [] [] 1 Tryz.func4 (by decide) rfl (keep_New_ac x_1 r_13 hr13) rfl ⟨aq,trivial⟩ rfl trivial rfl rfl rfl lend0 ⟨rfl,trivial⟩ rfl, ?_⟩
   conv=>whnf
   obtain ⟨c_2, hc_2, hF⟩ := fin_some hF
   refine sw_loop tab_ok follows_ok (fun y : Nat × Int × (List Sender) × (List Bag) × (List Int) × Int × Int × Int => law06_RegistryReplays_L2 (a_5, a_4) y.1 y.2.1 y.2.2.1 y.2.2.2.1 y.2.2.2.2.1 y.2.2.2.2.2.1 y.2.2.2.2.2.2.1 y.2.2.2.2.2.2.2 = some c_2) (fun y => ⟨eL [(6, .osl 0), (7, .ptr 1 0), (12, .ptr 2 0), (14, .ptr 3 0), (15, .ptr 4 0), (16, .int .i64 y.2.2.2.2.2.2.1), (17, .int .i64 y.2.2.2.2.2.2.2)], hL [(0, .row 30 (a_5.map encMessage)), (1, .box [.lst 25 (a_4.map encBag)]), (2, .box [.int .i64 y.2.1, .lst 3 (y.2.2.1.map encSender)]), (3, .box [.lst 25 (y.2.2.2.1.map encBag)]), (4, .box [.lst 1 (y.2.2.2.2.1.map iA), .int .i64 y.2.2.2.2.2.1])], 5⟩) (fun y => y.1) (9223372036854775807, r_12.1.Window, r_12.1.L, ([] : List Bag), r_13.L, r_13.At, (1 : Int), (0 : Int)) hc_2 (wk_mk [2, 1, 4, 5, 6] [] [] rfl ⟨argO (id := 2) (by (conv=>lhs;whnf)<;>rfl) rfl, argP (id := 1) (by (conv=>lhs;whnf)<;>rfl) rfl, argP (id := 4) (by (conv=>lhs;whnf)<;>rfl) rfl, argP (id := 5) (by (conv=>lhs;whnf)<;>rfl) rfl, argP (id := 6) (by (conv=>lhs;whnf)<;>rfl) rfl, aq, aq,trivial⟩ ⟨blkR (fun _ => ⟨rfl, rfl⟩) rfl rfl, boxL rfl rfl rfl ⟨(.ni _ rfl),trivial⟩, boxL rfl rfl rfl ⟨(.ni _ rfl), (.ni _ rfl),trivial⟩, boxL rfl rfl rfl ⟨(.nils _),trivial⟩, boxL rfl rfl rfl ⟨(.ni _ rfl), (.ni _ rfl),trivial⟩,trivial⟩) ?_
   rintro ⟨q_53, i_14, a_15, a_16, a_17, i_18, i_19, i_20⟩ hL1
   try dsimp only at hL1
   rcases q_53 with _ | q_53
   ·
    rw [law06_RegistryReplays_L2.eq_1] at hL1
    cases hL1
   rw [law06_RegistryReplays_L2.eq_2] at hL1
   show awp _ _ _ _ _ _ ⟨eL [(6, .osl 0), (7, .ptr 1 0), (12, .ptr 2 0), (14, .ptr 3 0), (15, .ptr 4 0), (16, .int .i64 i_19), (17, .int .i64 i_20)], hL [(0, .row 30 (a_5.map encMessage)), (1, .box [.lst 25 (a_4.map encBag)]), (2, .box [.int .i64 i_14, .lst 3 (a_15.map encSender)]), (3, .box [.lst 25 (a_16.map encBag)]), (4, .box [.lst 1 (a_17.map iA), .int .i64 i_18])], 5⟩
   conv=>whnf
   refine ⟨fun b92=>?_,fun b92=>?_⟩
   ·
    replace hL1 := ct b92 hL1
    conv=>whnf
    refine ⟨fun b93=>?_,fun b93=>?_⟩
    ·
     replace hL1 := ct b93 hL1
     conv=>whnf
     refine ⟨_, rfl, ?_⟩
     conv=>whnf
     obtain ⟨r_21, hr21, hL1⟩ := bs hL1
     refine ⟨_,_,_,_,_,_,_,_,_,callX false [4] [] 0 Tryz.func8 (by decide) rfl (keep_Src_Range_ac (⟨a_17, i_18⟩ : Src) (1 : Int) (if (w64 (i_19 + (3 : Int))) < (8 : Int) then (w64 (i_19 + (3 : Int))) else (8 : Int)) r_21 hr21) rfl ⟨(argP (id := 4) (by (conv=>lhs;whnf)<;>rfl) rfl), aq, aq,trivial⟩ rfl ⟨rfl,trivial⟩ rfl rfl rfl lend0 ⟨rfl,trivial⟩ rfl, ?_⟩
     conv=>whnf
     refine ⟨fun b94=>?_,fun b94=>?_⟩
     ·
      replace hL1 := cf b94 hL1
      conv=>whnf
      obtain ⟨r_32, hr32, hL1⟩ := bs hL1
      refine ⟨_,_,_,_,_,_,_,_,_,callX false [] [4] 0 Tryz.func9 (by decide) rfl (keep_Src_More_ac r_21.2 r_32 hr32) rfl ⟨(argIb 4 _ (by (conv=>lhs;whnf)<;>rfl) rfl rfl rfl rfl),trivial⟩ rfl trivial rfl rfl rfl (lendF rfl) trivial rfl, ?_⟩
      conv=>whnf
      refine ⟨fun b97=>?_,fun b97=>?_⟩
      ·
       replace hL1 := ct b97 hL1
       conv=>whnf
       refine ⟨_, rfl, ?_⟩
       conv=>whnf
       obtain ⟨e_33, he33, hL1⟩ := bs hL1
       refine ixo_q (enc := encMessage) (l := a_5) he33 rfl (fun m_e_33 hm_e_33 hx_e_33=>?_)
       conv=>whnf
       refine ⟨_, ix_map (enc := encMessage) hx_e_33, ?_⟩
       conv=>whnf
       obtain ⟨r_34, hr34, hL1⟩ := bs hL1
       refine ⟨_,_,_,_,_,_,_,_,_,callX false [] [] 0 Tryz.func10 (by decide) rfl (inbox_Receive_ac (⟨i_14, a_15⟩ : Inbox) e_33 r_34 hr34) rfl ⟨aq, aq,trivial⟩ rfl trivial rfl rfl rfl lend0 trivial rfl, ?_⟩
       conv=>whnf
       refine ⟨by kernel_rfl, ?_⟩
       conv=>whnf
       refine ⟨fun b98=>?_,fun b98=>?_⟩
       ·
        replace hL1 := ct b98 hL1
        conv=>whnf
        obtain rfl := si hL1
        replace hF := fin_ret hF
        obtain rfl := si hF
        exact ret_gz [] [] [] rfl (argFl (by (conv=>lhs;whnf)<;>rfl)) trivial
       ·
        replace hL1 := cf b98 hL1
        conv=>whnf
        obtain ⟨c_3, hc_3, hL1⟩ := sub_some hL1
        refine sw_bv 20 (v := .lst 30 (r_34.2.1.map encMessage)) (by (conv=>lhs;whnf)<;>rfl) (fun hb=>?_)
        have hbd_k_38 : r_34.2.1.length ≤ 9223372036854775807 := bnd_len (enc := encMessage) (hb)
        refine sw_loop tab_ok follows_ok (fun y : Nat × (List Bag) × Int => y.1 ≤ r_34.2.1.length ∧ law06_RegistryReplays_L3 (r_34.2.1.drop y.1) y.1 y.2.1 y.2.2 = some c_3) (fun y => ⟨eL [(6, .osl 0), (7, .ptr 1 0), (12, .ptr 2 0), (14, .ptr 3 0), (15, .ptr 4 0), (16, .int .i64 y.2.2), (17, .int .i64 i_20), (20, .lst 30 (r_34.2.1.map encMessage)), (23, .int .i64 (y.1 : Int))], hL [(0, .row 30 (a_5.map encMessage)), (1, .box [.lst 25 (a_4.map encBag)]), (2, .box [.int .i64 r_34.1.Window, .lst 3 (r_34.1.L.map encSender)]), (3, .box [.lst 25 (y.2.1.map encBag)]), (4, .box [.lst 1 (r_21.2.L.map iA), .int .i64 r_21.2.At])], 5⟩) (fun y => r_34.2.1.length - y.1) (0, a_16, i_19) ⟨Nat.zero_le _, hc_3⟩ (wk_mk [0, 1, 2, 3, 4] [] [] rfl ⟨argO (id := 0) (by (conv=>lhs;whnf)<;>rfl) rfl, argP (id := 1) (by (conv=>lhs;whnf)<;>rfl) rfl, argP (id := 2) (by (conv=>lhs;whnf)<;>rfl) rfl, argP (id := 3) (by (conv=>lhs;whnf)<;>rfl) rfl, argP (id := 4) (by (conv=>lhs;whnf)<;>rfl) rfl, aq, aq, aq, aq,trivial⟩ ⟨blkR (fun _ => ⟨rfl, rfl⟩) rfl rfl, boxL rfl rfl rfl ⟨(.ni _ rfl),trivial⟩, boxL rfl rfl rfl ⟨(.ni _ rfl), (.ni _ rfl),trivial⟩, boxL rfl rfl rfl ⟨(.ni _ rfl),trivial⟩, boxL rfl rfl rfl ⟨(.ni _ rfl), (.ni _ rfl),trivial⟩,trivial⟩) ?_
        rintro ⟨k_38, a_35, i_36⟩ ⟨hk_k_38, hL2⟩
        try dsimp only at hk_k_38 hL2
        show awp _ _ _ _ _ _ ⟨eL [(6, .osl 0), (7, .ptr 1 0), (12, .ptr 2 0), (14, .ptr 3 0), (15, .ptr 4 0), (16, .int .i64 i_36), (17, .int .i64 i_20), (20, .lst 30 (r_34.2.1.map encMessage)), (23, .int .i64 (k_38 : Int))], hL [(0, .row 30 (a_5.map encMessage)), (1, .box [.lst 25 (a_4.map encBag)]), (2, .box [.int .i64 r_34.1.Window, .lst 3 (r_34.1.L.map encSender)]), (3, .box [.lst 25 (a_35.map encBag)]), (4, .box [.lst 1 (r_21.2.L.map iA), .int .i64 r_21.2.At])], 5⟩
        conv=>whnf
        refine len_q (enc := encMessage) (l := r_34.2.1) rfl ?_
        conv=>whnf
        refine ⟨fun h=>?_,fun h=>?_⟩
        ·
         have lk38 : k_38 < r_34.2.1.length := by have h := of_decide_eq_true h; omega
         obtain ⟨e_39, he39⟩ : ∃ y, r_34.2.1[k_38]? = some y := ⟨_, List.getElem?_eq_getElem lk38⟩
         rw [drop_cons he39, law06_RegistryReplays_L3.eq_2] at hL2
         conv=>whnf
         refine ⟨_, rfl, ?_⟩
         conv=>whnf
         refine ⟨k_38, _, rfl, ix_map he39, ?_⟩
         conv=>whnf
         obtain ⟨r_40, hr40, hL2⟩ := bs hL2
         refine ⟨_,_,_,_,_,_,_,_,_,callX false [] [] 0 Tryz.func11 (by decide) rfl (registry_Apply_ac (⟨a_35⟩ : Registry) e_39 r_40 hr40) rfl ⟨aq, aq,trivial⟩ rfl trivial rfl rfl rfl lend0 trivial rfl, ?_⟩
         conv=>whnf
         refine ⟨by kernel_rfl, ?_⟩
         conv=>whnf
         refine ⟨fun b99=>?_,fun b99=>?_⟩
         ·
          replace hL2 := ct b99 hL2
          conv=>whnf
          refine ⟨((k_38 + 1 : Nat) : Int), wrapE (by omega) (by omega) (by omega), ?_⟩
          conv=>whnf
          exact ⟨(k_38 + 1, r_40.1.L, (w64 (i_36 + (1 : Int)))), [0, 1, 2, 3, 4], [], [], ⟨lk38, hL2⟩, by show r_34.2.1.length - (k_38 + 1) < r_34.2.1.length - k_38; omega, wk_mk [0, 1, 2, 3, 4] [] [] rfl ⟨argO (id := 0) (by (conv=>lhs;whnf)<;>rfl) rfl, argP (id := 1) (by (conv=>lhs;whnf)<;>rfl) rfl, argP (id := 2) (by (conv=>lhs;whnf)<;>rfl) rfl, argP (id := 3) (by (conv=>lhs;whnf)<;>rfl) rfl, argP (id := 4) (by (conv=>lhs;whnf)<;>rfl) rfl, aq, aq, aq, aq,trivial⟩ ⟨blkR (fun _ => ⟨rfl, rfl⟩) rfl rfl, boxL rfl rfl rfl ⟨(.ni _ rfl),trivial⟩, boxL rfl rfl rfl ⟨(.ni _ rfl), (.ni _ rfl),trivial⟩, boxL rfl rfl rfl ⟨(.ni _ rfl),trivial⟩, boxL rfl rfl rfl ⟨(.ni _ rfl), (.ni _ rfl),trivial⟩,trivial⟩⟩
         ·
          replace hL2 := cf b99 hL2
          conv=>whnf
          refine ⟨((k_38 + 1 : Nat) : Int), wrapE (by omega) (by omega) (by omega), ?_⟩
          conv=>whnf
          exact ⟨(k_38 + 1, a_35, (w64 (i_36 + (1 : Int)))), [0, 1, 2, 3, 4], [], [], ⟨lk38, hL2⟩, by show r_34.2.1.length - (k_38 + 1) < r_34.2.1.length - k_38; omega, wk_mk [0, 1, 2, 3, 4] [] [] rfl ⟨argO (id := 0) (by (conv=>lhs;whnf)<;>rfl) rfl, argP (id := 1) (by (conv=>lhs;whnf)<;>rfl) rfl, argP (id := 2) (by (conv=>lhs;whnf)<;>rfl) rfl, argP (id := 3) (by (conv=>lhs;whnf)<;>rfl) rfl, argP (id := 4) (by (conv=>lhs;whnf)<;>rfl) rfl, aq, aq, aq, aq,trivial⟩ ⟨blkR (fun _ => ⟨rfl, rfl⟩) rfl rfl, boxL rfl rfl rfl ⟨(.ni _ rfl),trivial⟩, boxL rfl rfl rfl ⟨(.ni _ rfl), (.ni _ rfl),trivial⟩, boxL rfl rfl rfl ⟨(.ni _ rfl),trivial⟩, boxL rfl rfl rfl ⟨(.ni _ rfl), (.ni _ rfl),trivial⟩,trivial⟩⟩
        ·
         rw [drop_nil (show r_34.2.1.length ≤ k_38 by have h := of_decide_eq_false h; omega), law06_RegistryReplays_L3.eq_1] at hL2
         conv=>whnf
         obtain rfl := si hL2
         replace hL1 := sub_brk hL1
         try dsimp only at hL1
         refine ⟨_, rfl, ?_⟩
         conv=>whnf
         exact ⟨(q_53, r_34.1.Window, r_34.1.L, a_35, r_21.2.L, r_21.2.At, i_36, (w64 (i_20 + (1 : Int)))), [0, 1, 2, 3, 4], [], [], hL1, Nat.lt_succ_self _, wk_mk [0, 1, 2, 3, 4] [] [] rfl ⟨argO (id := 0) (by (conv=>lhs;whnf)<;>rfl) rfl, argP (id := 1) (by (conv=>lhs;whnf)<;>rfl) rfl, argP (id := 2) (by (conv=>lhs;whnf)<;>rfl) rfl, argP (id := 3) (by (conv=>lhs;whnf)<;>rfl) rfl, argP (id := 4) (by (conv=>lhs;whnf)<;>rfl) rfl, aq, aq,trivial⟩ ⟨blkR (fun _ => ⟨rfl, rfl⟩) rfl rfl, boxL rfl rfl rfl ⟨(.ni _ rfl),trivial⟩, boxL rfl rfl rfl ⟨(.ni _ rfl), (.ni _ rfl),trivial⟩, boxL rfl rfl rfl ⟨(.ni _ rfl),trivial⟩, boxL rfl rfl rfl ⟨(.ni _ rfl), (.ni _ rfl),trivial⟩,trivial⟩⟩
      ·
       replace hL1 := cf b97 hL1
       conv=>whnf
       refine ⟨_, rfl, ?_⟩
       conv=>whnf
       obtain ⟨e_43, he43, hL1⟩ := bs hL1
       refine ixo_q (enc := encMessage) (l := a_5) he43 rfl (fun m_e_43 hm_e_43 hx_e_43=>?_)
       conv=>whnf
       refine ⟨_, ix_map (enc := encMessage) hx_e_43, ?_⟩
       conv=>whnf
       obtain ⟨r_44, hr44, hL1⟩ := bs hL1
       refine ⟨_,_,_,_,_,_,_,_,_,callX false [] [] 0 Tryz.func10 (by decide) rfl (inbox_Receive_ac (⟨i_14, a_15⟩ : Inbox) e_43 r_44 hr44) rfl ⟨aq, aq,trivial⟩ rfl trivial rfl rfl rfl lend0 trivial rfl, ?_⟩
       conv=>whnf
       refine ⟨by kernel_rfl, ?_⟩
       conv=>whnf
       refine ⟨fun b100=>?_,fun b100=>?_⟩
       ·
        replace hL1 := ct b100 hL1
        conv=>whnf
        obtain rfl := si hL1
        replace hF := fin_ret hF
        obtain rfl := si hF
        exact ret_gz [] [] [] rfl (argFl (by (conv=>lhs;whnf)<;>rfl)) trivial
       ·
        replace hL1 := cf b100 hL1
        conv=>whnf
        obtain ⟨c_3, hc_3, hL1⟩ := sub_some hL1
        refine sw_bv 20 (v := .lst 30 (r_44.2.1.map encMessage)) (by (conv=>lhs;whnf)<;>rfl) (fun hb=>?_)
        have hbd_k_48 : r_44.2.1.length ≤ 9223372036854775807 := bnd_len (enc := encMessage) (hb)
        refine sw_loop tab_ok follows_ok (fun y : Nat × (List Bag) × Int => y.1 ≤ r_44.2.1.length ∧ law06_RegistryReplays_L3 (r_44.2.1.drop y.1) y.1 y.2.1 y.2.2 = some c_3) (fun y => ⟨eL [(6, .osl 0), (7, .ptr 1 0), (12, .ptr 2 0), (14, .ptr 3 0), (15, .ptr 4 0), (16, .int .i64 y.2.2), (17, .int .i64 i_20), (20, .lst 30 (r_44.2.1.map encMessage)), (23, .int .i64 (y.1 : Int))], hL [(0, .row 30 (a_5.map encMessage)), (1, .box [.lst 25 (a_4.map encBag)]), (2, .box [.int .i64 r_44.1.Window, .lst 3 (r_44.1.L.map encSender)]), (3, .box [.lst 25 (y.2.1.map encBag)]), (4, .box [.lst 1 (r_21.2.L.map iA), .int .i64 r_21.2.At])], 5⟩) (fun y => r_44.2.1.length - y.1) (0, a_16, i_19) ⟨Nat.zero_le _, hc_3⟩ (wk_mk [0, 1, 2, 3, 4] [] [] rfl ⟨argO (id := 0) (by (conv=>lhs;whnf)<;>rfl) rfl, argP (id := 1) (by (conv=>lhs;whnf)<;>rfl) rfl, argP (id := 2) (by (conv=>lhs;whnf)<;>rfl) rfl, argP (id := 3) (by (conv=>lhs;whnf)<;>rfl) rfl, argP (id := 4) (by (conv=>lhs;whnf)<;>rfl) rfl, aq, aq, aq, aq,trivial⟩ ⟨blkR (fun _ => ⟨rfl, rfl⟩) rfl rfl, boxL rfl rfl rfl ⟨(.ni _ rfl),trivial⟩, boxL rfl rfl rfl ⟨(.ni _ rfl), (.ni _ rfl),trivial⟩, boxL rfl rfl rfl ⟨(.ni _ rfl),trivial⟩, boxL rfl rfl rfl ⟨(.ni _ rfl), (.ni _ rfl),trivial⟩,trivial⟩) ?_
        rintro ⟨k_48, a_45, i_46⟩ ⟨hk_k_48, hL2⟩
        try dsimp only at hk_k_48 hL2
        show awp _ _ _ _ _ _ ⟨eL [(6, .osl 0), (7, .ptr 1 0), (12, .ptr 2 0), (14, .ptr 3 0), (15, .ptr 4 0), (16, .int .i64 i_46), (17, .int .i64 i_20), (20, .lst 30 (r_44.2.1.map encMessage)), (23, .int .i64 (k_48 : Int))], hL [(0, .row 30 (a_5.map encMessage)), (1, .box [.lst 25 (a_4.map encBag)]), (2, .box [.int .i64 r_44.1.Window, .lst 3 (r_44.1.L.map encSender)]), (3, .box [.lst 25 (a_45.map encBag)]), (4, .box [.lst 1 (r_21.2.L.map iA), .int .i64 r_21.2.At])], 5⟩
        conv=>whnf
        refine len_q (enc := encMessage) (l := r_44.2.1) rfl ?_
        conv=>whnf
        refine ⟨fun h=>?_,fun h=>?_⟩
        ·
         have lk48 : k_48 < r_44.2.1.length := by have h := of_decide_eq_true h; omega
         obtain ⟨e_49, he49⟩ : ∃ y, r_44.2.1[k_48]? = some y := ⟨_, List.getElem?_eq_getElem lk48⟩
         rw [drop_cons he49, law06_RegistryReplays_L3.eq_2] at hL2
         conv=>whnf
         refine ⟨_, rfl, ?_⟩
         conv=>whnf
         refine ⟨k_48, _, rfl, ix_map he49, ?_⟩
         conv=>whnf
         obtain ⟨r_50, hr50, hL2⟩ := bs hL2
         refine ⟨_,_,_,_,_,_,_,_,_,callX false [] [] 0 Tryz.func11 (by decide) rfl (registry_Apply_ac (⟨a_45⟩ : Registry) e_49 r_50 hr50) rfl ⟨aq, aq,trivial⟩ rfl trivial rfl rfl rfl lend0 trivial rfl, ?_⟩
         conv=>whnf
         refine ⟨by kernel_rfl, ?_⟩
         conv=>whnf
         refine ⟨fun b101=>?_,fun b101=>?_⟩
         ·
          replace hL2 := ct b101 hL2
          conv=>whnf
          refine ⟨((k_48 + 1 : Nat) : Int), wrapE (by omega) (by omega) (by omega), ?_⟩
          conv=>whnf
          exact ⟨(k_48 + 1, r_50.1.L, (w64 (i_46 + (1 : Int)))), [0, 1, 2, 3, 4], [], [], ⟨lk48, hL2⟩, by show r_44.2.1.length - (k_48 + 1) < r_44.2.1.length - k_48; omega, wk_mk [0, 1, 2, 3, 4] [] [] rfl ⟨argO (id := 0) (by (conv=>lhs;whnf)<;>rfl) rfl, argP (id := 1) (by (conv=>lhs;whnf)<;>rfl) rfl, argP (id := 2) (by (conv=>lhs;whnf)<;>rfl) rfl, argP (id := 3) (by (conv=>lhs;whnf)<;>rfl) rfl, argP (id := 4) (by (conv=>lhs;whnf)<;>rfl) rfl, aq, aq, aq, aq,trivial⟩ ⟨blkR (fun _ => ⟨rfl, rfl⟩) rfl rfl, boxL rfl rfl rfl ⟨(.ni _ rfl),trivial⟩, boxL rfl rfl rfl ⟨(.ni _ rfl), (.ni _ rfl),trivial⟩, boxL rfl rfl rfl ⟨(.ni _ rfl),trivial⟩, boxL rfl rfl rfl ⟨(.ni _ rfl), (.ni _ rfl),trivial⟩,trivial⟩⟩
         ·
          replace hL2 := cf b101 hL2
          conv=>whnf
          refine ⟨((k_48 + 1 : Nat) : Int), wrapE (by omega) (by omega) (by omega), ?_⟩
          conv=>whnf
          exact ⟨(k_48 + 1, a_45, (w64 (i_46 + (1 : Int)))), [0, 1, 2, 3, 4], [], [], ⟨lk48, hL2⟩, by show r_44.2.1.length - (k_48 + 1) < r_44.2.1.length - k_48; omega, wk_mk [0, 1, 2, 3, 4] [] [] rfl ⟨argO (id := 0) (by (conv=>lhs;whnf)<;>rfl) rfl, argP (id := 1) (by (conv=>lhs;whnf)<;>rfl) rfl, argP (id := 2) (by (conv=>lhs;whnf)<;>rfl) rfl, argP (id := 3) (by (conv=>lhs;whnf)<;>rfl) rfl, argP (id := 4) (by (conv=>lhs;whnf)<;>rfl) rfl, aq, aq, aq, aq,trivial⟩ ⟨blkR (fun _ => ⟨rfl, rfl⟩) rfl rfl, boxL rfl rfl rfl ⟨(.ni _ rfl),trivial⟩, boxL rfl rfl rfl ⟨(.ni _ rfl), (.ni _ rfl),trivial⟩, boxL rfl rfl rfl ⟨(.ni _ rfl),trivial⟩, boxL rfl rfl rfl ⟨(.ni _ rfl), (.ni _ rfl),trivial⟩,trivial⟩⟩
        ·
         rw [drop_nil (show r_44.2.1.length ≤ k_48 by have h := of_decide_eq_false h; omega), law06_RegistryReplays_L3.eq_1] at hL2
         conv=>whnf
         obtain rfl := si hL2
         replace hL1 := sub_brk hL1
         try dsimp only at hL1
         refine ⟨_, rfl, ?_⟩
         conv=>whnf
         exact ⟨(q_53, r_44.1.Window, r_44.1.L, a_45, r_21.2.L, r_21.2.At, i_46, (w64 (i_20 + (1 : Int)))), [0, 1, 2, 3, 4], [], [], hL1, Nat.lt_succ_self _, wk_mk [0, 1, 2, 3, 4] [] [] rfl ⟨argO (id := 0) (by (conv=>lhs;whnf)<;>rfl) rfl, argP (id := 1) (by (conv=>lhs;whnf)<;>rfl) rfl, argP (id := 2) (by (conv=>lhs;whnf)<;>rfl) rfl, argP (id := 3) (by (conv=>lhs;whnf)<;>rfl) rfl, argP (id := 4) (by (conv=>lhs;whnf)<;>rfl) rfl, aq, aq,trivial⟩ ⟨blkR (fun _ => ⟨rfl, rfl⟩) rfl rfl, boxL rfl rfl rfl ⟨(.ni _ rfl),trivial⟩, boxL rfl rfl rfl ⟨(.ni _ rfl), (.ni _ rfl),trivial⟩, boxL rfl rfl rfl ⟨(.ni _ rfl),trivial⟩, boxL rfl rfl rfl ⟨(.ni _ rfl), (.ni _ rfl),trivial⟩,trivial⟩⟩
     ·
      replace hL1 := ct b94 hL1
      conv=>whnf
      refine ⟨_, rfl, ?_⟩
      conv=>whnf
      obtain ⟨e_22, he22, hL1⟩ := bs hL1
      refine ixo_q (enc := encMessage) (l := a_5) he22 rfl (fun m_e_22 hm_e_22 hx_e_22=>?_)
      conv=>whnf
      refine ⟨_, ix_map (enc := encMessage) hx_e_22, ?_⟩
      conv=>whnf
      obtain ⟨r_23, hr23, hL1⟩ := bs hL1
      refine ⟨_,_,_,_,_,_,_,_,_,callX false [] [] 0 Tryz.func10 (by decide) rfl (inbox_Receive_ac (⟨i_14, a_15⟩ : Inbox) e_22 r_23 hr23) rfl ⟨aq, aq,trivial⟩ rfl trivial rfl rfl rfl lend0 trivial rfl, ?_⟩
      conv=>whnf
      refine ⟨by kernel_rfl, ?_⟩
      conv=>whnf
      refine ⟨fun b95=>?_,fun b95=>?_⟩
      ·
       replace hL1 := ct b95 hL1
       conv=>whnf
       obtain rfl := si hL1
       replace hF := fin_ret hF
       obtain rfl := si hF
       exact ret_gz [] [] [] rfl (argFl (by (conv=>lhs;whnf)<;>rfl)) trivial
      ·
       replace hL1 := cf b95 hL1
       conv=>whnf
       obtain ⟨c_3, hc_3, hL1⟩ := sub_some hL1
       refine sw_bv 20 (v := .lst 30 (r_23.2.1.map encMessage)) (by (conv=>lhs;whnf)<;>rfl) (fun hb=>?_)
       have hbd_k_27 : r_23.2.1.length ≤ 9223372036854775807 := bnd_len (enc := encMessage) (hb)
       refine sw_loop tab_ok follows_ok (fun y : Nat × (List Bag) × Int => y.1 ≤ r_23.2.1.length ∧ law06_RegistryReplays_L3 (r_23.2.1.drop y.1) y.1 y.2.1 y.2.2 = some c_3) (fun y => ⟨eL [(6, .osl 0), (7, .ptr 1 0), (12, .ptr 2 0), (14, .ptr 3 0), (15, .ptr 4 0), (16, .int .i64 y.2.2), (17, .int .i64 i_20), (20, .lst 30 (r_23.2.1.map encMessage)), (23, .int .i64 (y.1 : Int))], hL [(0, .row 30 (a_5.map encMessage)), (1, .box [.lst 25 (a_4.map encBag)]), (2, .box [.int .i64 r_23.1.Window, .lst 3 (r_23.1.L.map encSender)]), (3, .box [.lst 25 (y.2.1.map encBag)]), (4, .box [.lst 1 (r_21.2.L.map iA), .int .i64 r_21.2.At])], 5⟩) (fun y => r_23.2.1.length - y.1) (0, a_16, i_19) ⟨Nat.zero_le _, hc_3⟩ (wk_mk [0, 1, 2, 3, 4] [] [] rfl ⟨argO (id := 0) (by (conv=>lhs;whnf)<;>rfl) rfl, argP (id := 1) (by (conv=>lhs;whnf)<;>rfl) rfl, argP (id := 2) (by (conv=>lhs;whnf)<;>rfl) rfl, argP (id := 3) (by (conv=>lhs;whnf)<;>rfl) rfl, argP (id := 4) (by (conv=>lhs;whnf)<;>rfl) rfl, aq, aq, aq, aq,trivial⟩ ⟨blkR (fun _ => ⟨rfl, rfl⟩) rfl rfl, boxL rfl rfl rfl ⟨(.ni _ rfl),trivial⟩, boxL rfl rfl rfl ⟨(.ni _ rfl), (.ni _ rfl),trivial⟩, boxL rfl rfl rfl ⟨(.ni _ rfl),trivial⟩, boxL rfl rfl rfl ⟨(.ni _ rfl), (.ni _ rfl),trivial⟩,trivial⟩) ?_
       rintro ⟨k_27, a_24, i_25⟩ ⟨hk_k_27, hL2⟩
       try dsimp only at hk_k_27 hL2
       show awp _ _ _ _ _ _ ⟨eL [(6, .osl 0), (7, .ptr 1 0), (12, .ptr 2 0), (14, .ptr 3 0), (15, .ptr 4 0), (16, .int .i64 i_25), (17, .int .i64 i_20), (20, .lst 30 (r_23.2.1.map encMessage)), (23, .int .i64 (k_27 : Int))], hL [(0, .row 30 (a_5.map encMessage)), (1, .box [.lst 25 (a_4.map encBag)]), (2, .box [.int .i64 r_23.1.Window, .lst 3 (r_23.1.L.map encSender)]), (3, .box [.lst 25 (a_24.map encBag)]), (4, .box [.lst 1 (r_21.2.L.map iA), .int .i64 r_21.2.At])], 5⟩
       conv=>whnf
       refine len_q (enc := encMessage) (l := r_23.2.1) rfl ?_
       conv=>whnf
       refine ⟨fun h=>?_,fun h=>?_⟩
       ·
        have lk27 : k_27 < r_23.2.1.length := by have h := of_decide_eq_true h; omega
        obtain ⟨e_28, he28⟩ : ∃ y, r_23.2.1[k_27]? = some y := ⟨_, List.getElem?_eq_getElem lk27⟩
        rw [drop_cons he28, law06_RegistryReplays_L3.eq_2] at hL2
        conv=>whnf
        refine ⟨_, rfl, ?_⟩
        conv=>whnf
        refine ⟨k_27, _, rfl, ix_map he28, ?_⟩
        conv=>whnf
        obtain ⟨r_29, hr29, hL2⟩ := bs hL2
        refine ⟨_,_,_,_,_,_,_,_,_,callX false [] [] 0 Tryz.func11 (by decide) rfl (registry_Apply_ac (⟨a_24⟩ : Registry) e_28 r_29 hr29) rfl ⟨aq, aq,trivial⟩ rfl trivial rfl rfl rfl lend0 trivial rfl, ?_⟩
        conv=>whnf
        refine ⟨by kernel_rfl, ?_⟩
        conv=>whnf
        refine ⟨fun b96=>?_,fun b96=>?_⟩
        ·
         replace hL2 := ct b96 hL2
         conv=>whnf
         refine ⟨((k_27 + 1 : Nat) : Int), wrapE (by omega) (by omega) (by omega), ?_⟩
         conv=>whnf
         exact ⟨(k_27 + 1, r_29.1.L, (w64 (i_25 + (1 : Int)))), [0, 1, 2, 3, 4], [], [], ⟨lk27, hL2⟩, by show r_23.2.1.length - (k_27 + 1) < r_23.2.1.length - k_27; omega, wk_mk [0, 1, 2, 3, 4] [] [] rfl ⟨argO (id := 0) (by (conv=>lhs;whnf)<;>rfl) rfl, argP (id := 1) (by (conv=>lhs;whnf)<;>rfl) rfl, argP (id := 2) (by (conv=>lhs;whnf)<;>rfl) rfl, argP (id := 3) (by (conv=>lhs;whnf)<;>rfl) rfl, argP (id := 4) (by (conv=>lhs;whnf)<;>rfl) rfl, aq, aq, aq, aq,trivial⟩ ⟨blkR (fun _ => ⟨rfl, rfl⟩) rfl rfl, boxL rfl rfl rfl ⟨(.ni _ rfl),trivial⟩, boxL rfl rfl rfl ⟨(.ni _ rfl), (.ni _ rfl),trivial⟩, boxL rfl rfl rfl ⟨(.ni _ rfl),trivial⟩, boxL rfl rfl rfl ⟨(.ni _ rfl), (.ni _ rfl),trivial⟩,trivial⟩⟩
        ·
         replace hL2 := cf b96 hL2
         conv=>whnf
         refine ⟨((k_27 + 1 : Nat) : Int), wrapE (by omega) (by omega) (by omega), ?_⟩
         conv=>whnf
         exact ⟨(k_27 + 1, a_24, (w64 (i_25 + (1 : Int)))), [0, 1, 2, 3, 4], [], [], ⟨lk27, hL2⟩, by show r_23.2.1.length - (k_27 + 1) < r_23.2.1.length - k_27; omega, wk_mk [0, 1, 2, 3, 4] [] [] rfl ⟨argO (id := 0) (by (conv=>lhs;whnf)<;>rfl) rfl, argP (id := 1) (by (conv=>lhs;whnf)<;>rfl) rfl, argP (id := 2) (by (conv=>lhs;whnf)<;>rfl) rfl, argP (id := 3) (by (conv=>lhs;whnf)<;>rfl) rfl, argP (id := 4) (by (conv=>lhs;whnf)<;>rfl) rfl, aq, aq, aq, aq,trivial⟩ ⟨blkR (fun _ => ⟨rfl, rfl⟩) rfl rfl, boxL rfl rfl rfl ⟨(.ni _ rfl),trivial⟩, boxL rfl rfl rfl ⟨(.ni _ rfl), (.ni _ rfl),trivial⟩, boxL rfl rfl rfl ⟨(.ni _ rfl),trivial⟩, boxL rfl rfl rfl ⟨(.ni _ rfl), (.ni _ rfl),trivial⟩,trivial⟩⟩
       ·
        rw [drop_nil (show r_23.2.1.length ≤ k_27 by have h := of_decide_eq_false h; omega), law06_RegistryReplays_L3.eq_1] at hL2
        conv=>whnf
        obtain rfl := si hL2
        replace hL1 := sub_brk hL1
        try dsimp only at hL1
        refine ⟨_, rfl, ?_⟩
        conv=>whnf
        exact ⟨(q_53, r_23.1.Window, r_23.1.L, a_24, r_21.2.L, r_21.2.At, i_25, (w64 (i_20 + (1 : Int)))), [0, 1, 2, 3, 4], [], [], hL1, Nat.lt_succ_self _, wk_mk [0, 1, 2, 3, 4] [] [] rfl ⟨argO (id := 0) (by (conv=>lhs;whnf)<;>rfl) rfl, argP (id := 1) (by (conv=>lhs;whnf)<;>rfl) rfl, argP (id := 2) (by (conv=>lhs;whnf)<;>rfl) rfl, argP (id := 3) (by (conv=>lhs;whnf)<;>rfl) rfl, argP (id := 4) (by (conv=>lhs;whnf)<;>rfl) rfl, aq, aq,trivial⟩ ⟨blkR (fun _ => ⟨rfl, rfl⟩) rfl rfl, boxL rfl rfl rfl ⟨(.ni _ rfl),trivial⟩, boxL rfl rfl rfl ⟨(.ni _ rfl), (.ni _ rfl),trivial⟩, boxL rfl rfl rfl ⟨(.ni _ rfl),trivial⟩, boxL rfl rfl rfl ⟨(.ni _ rfl), (.ni _ rfl),trivial⟩,trivial⟩⟩
    ·
     replace hL1 := cf b93 hL1
     conv=>whnf
     obtain rfl := si hL1
     replace hF := fin_brk hF
     try dsimp only at hF
     refine ⟨fun b102=>?_,fun b102=>?_⟩
     ·
      replace hF := ct b102 hF
      conv=>whnf
      obtain ⟨r_55, hr55, hF⟩ := bs hF
      refine ⟨_,_,_,_,_,_,_,_,_,callX false [] [] 0 Tryz.func12 (by decide) rfl (ref06_Same_ac (⟨a_16⟩ : Registry) (⟨a_4⟩ : Registry) r_55 hr55) rfl ⟨aq, aq,trivial⟩ rfl trivial rfl rfl rfl lend0 trivial rfl, ?_⟩
      conv=>whnf
      refine ⟨fun b103=>?_,fun b103=>?_⟩
      ·
       replace hF := ct b103 hF
       conv=>whnf
       obtain ⟨r_56, hr56, hF⟩ := bs hF
       refine ⟨_,_,_,_,_,_,_,_,_,callX false [] [] 0 Tryz.func13 (by decide) rfl (law06_awake_ac r_56 hr56) rfl trivial rfl trivial rfl rfl rfl lend0 trivial rfl, ?_⟩
       conv=>whnf
       obtain rfl := si hF
       exact ret_gz [] [] [] rfl aq trivial
      ·
       replace hF := cf b103 hF
       conv=>whnf
       obtain rfl := si hF
       exact ret_gz [] [] [] rfl (argFl (by (conv=>lhs;whnf)<;>rfl)) trivial
     ·
      replace hF := cf b102 hF
      conv=>whnf
      obtain rfl := si hF
      exact ret_gz [] [] [] rfl (argFl (by (conv=>lhs;whnf)<;>rfl)) trivial
   ·
    replace hL1 := cf b92 hL1
    conv=>whnf
    obtain rfl := si hL1
    replace hF := fin_brk hF
    try dsimp only at hF
    refine ⟨fun b104=>?_,fun b104=>?_⟩
    ·
     replace hF := ct b104 hF
     conv=>whnf
     obtain ⟨r_55, hr55, hF⟩ := bs hF
     refine ⟨_,_,_,_,_,_,_,_,_,callX false [] [] 0 Tryz.func12 (by decide) rfl (ref06_Same_ac (⟨a_16⟩ : Registry) (⟨a_4⟩ : Registry) r_55 hr55) rfl ⟨aq, aq,trivial⟩ rfl trivial rfl rfl rfl lend0 trivial rfl, ?_⟩
     conv=>whnf
     refine ⟨fun b105=>?_,fun b105=>?_⟩
     ·
      replace hF := ct b105 hF
      conv=>whnf
      obtain ⟨r_56, hr56, hF⟩ := bs hF
      refine ⟨_,_,_,_,_,_,_,_,_,callX false [] [] 0 Tryz.func13 (by decide) rfl (law06_awake_ac r_56 hr56) rfl trivial rfl trivial rfl rfl rfl lend0 trivial rfl, ?_⟩
      conv=>whnf
      obtain rfl := si hF
      exact ret_gz [] [] [] rfl aq trivial
     ·
      replace hF := cf b105 hF
      conv=>whnf
      obtain rfl := si hF
      exact ret_gz [] [] [] rfl (argFl (by (conv=>lhs;whnf)<;>rfl)) trivial
    ·
     replace hF := cf b104 hF
     conv=>whnf
     obtain rfl := si hF
     exact ret_gz [] [] [] rfl (argFl (by (conv=>lhs;whnf)<;>rfl)) trivial
end Go.Proofs.YtkliakcegihikaaGreat.Ex
