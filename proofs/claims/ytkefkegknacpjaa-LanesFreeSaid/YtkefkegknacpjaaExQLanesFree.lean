/- The functions of the program compute what was printed; walks printed by a program. -/
import Derived.Test.YtkefkegknacpjaaExF
import Derived.Test.YtkefkegknacpjaaExP1
import Derived.Test.YtkefkegknacpjaaExP2
namespace Go.Proofs.Ytkefkegknacpjaa.Ex
open Go.RowKit Go.Proofs.Ytkefkegknacpjaa.Ax
set_option linter.unusedVariables false
set_option linter.unusedSimpArgs false
set_option maxRecDepth 100000 in
set_option maxHeartbeats 40000000 in
theorem law17_LanesFree_ac (x_0 : (List Int)) (r : Bool) (hF : law17_LanesFree x_0 = some r) : AC Try.prog 7 [.lst 1 (x_0.map iA)] [] (.bool r) [] := by
  refine ac_of tab_ok follows_ok Try.func7 rfl Try.ntmps7 rfl ?_
  unfold law17_LanesFree at hF
  conv => whnf
  obtain ⟨r_1, h_r_1, hF⟩ := bind_some hF
  refine ⟨_, _, _, _, _, _, _, _, _, callX false [] [] 0 Try.func10 (by decide) rfl (law17_times_ac x_0 r_1 h_r_1) rfl ⟨(argE (by (conv => lhs; whnf); all_goals rfl) rfl), trivial⟩ rfl trivial rfl rfl rfl lend0 trivial rfl, ?_⟩
  conv => whnf
  refine len_q (enc := iA) (l := r_1) rfl ?_
  conv => whnf
  refine ⟨fun hb_183 => ?_, fun hb_183 => ?_⟩
  · replace hF := cond_f hb_183 hF
    conv => whnf
    refine len_q (enc := iA) (l := r_1) rfl ?_
    conv => whnf
    refine ⟨fun hb_193 => ?_, fun hb_193 => ?_⟩
    · replace hF := cond_t hb_193 hF
      conv => whnf
      obtain ⟨r_32, h_r_32, hF⟩ := bind_some hF
      refine ⟨_, _, _, _, _, _, _, _, _, callX false [] [1] 0 Try.func14 (by decide) rfl (lanes_Count_ac ([(3 : Int), (1 : Int), (2 : Int)] : List Int) r_32 h_r_32) rfl ⟨(argOL 1 (by (conv => lhs; whnf); all_goals rfl) rfl rfl (map_ni (fun _ => ⟨rfl, rfl⟩) _)), trivial⟩ rfl trivial rfl rfl rfl (lendF rfl) trivial rfl, ?_⟩
      conv => whnf
      refine ⟨fun hb_194 => ?_, fun hb_194 => ?_⟩
      · replace hF := cond_f hb_194 hF
        conv => whnf
        refine ⟨fun hb_195 => ?_, fun hb_195 => ?_⟩
        · replace hF := cond_t hb_195 hF
          conv => whnf
          obtain rfl := Option.some.inj hF
          exact ret_gz [] [] [] rfl (argFl (by (conv => lhs; whnf); all_goals rfl)) trivial
        · replace hF := cond_f hb_195 hF
          conv => whnf
          obtain ⟨r_33, h_r_33, hF⟩ := bind_some hF
          refine ⟨_, _, _, _, _, _, _, _, _, callX false [] [] 0 Try.func23 (by decide) rfl (lanes_New_ac r_32 (20 : Int) r_33 h_r_33) rfl ⟨(argE (by (conv => lhs; whnf); all_goals rfl) rfl), (argE (by (conv => lhs; whnf); all_goals rfl) rfl), trivial⟩ rfl trivial rfl rfl rfl lend0 trivial rfl, ?_⟩
          conv => whnf
          refine ⟨fun hb_196 => ?_, fun hb_196 => ?_⟩
          · replace hF := cond_t hb_196 hF
            conv => whnf
            obtain rfl := Option.some.inj hF
            exact ret_gz [] [] [] rfl (argFl (by (conv => lhs; whnf); all_goals rfl)) trivial
          · replace hF := cond_f hb_196 hF
            conv => whnf
            obtain ⟨c_1, hc_1, hF⟩ := fin_some hF
            refine sw_br 1 (sz := 1) (xs := ([(3 : Int), (1 : Int), (2 : Int)] : List Int).map iA) (by (conv => lhs; whnf); all_goals rfl) (fun hb => ?_)
            have hbd_k_37 : ([(3 : Int), (1 : Int), (2 : Int)] : List Int).length ≤ 9223372036854775807 := bnd_len (enc := iA) (hb)
            refine sw_loop tab_ok follows_ok (fun y : Nat × Int × (List (List Stored)) => y.1 ≤ ([(3 : Int), (1 : Int), (2 : Int)] : List Int).length ∧ law17_LanesFree_L1 (([(3 : Int), (1 : Int), (2 : Int)] : List Int).drop y.1) y.1 y.2.1 y.2.2 = some c_1) (fun y => ⟨eL [(3, .osl 0), (5, .ptr 1 0), (7, .int .i64 (y.1 : Int))], hL [(0, .row 1 (([(3 : Int), (1 : Int), (2 : Int)] : List Int).map iA)), (1, .box [.int .i64 y.2.1, .lst 1 (y.2.2.map (lA 2 encStored))])], 2⟩) (fun y => ([(3 : Int), (1 : Int), (2 : Int)] : List Int).length - y.1) (0, r_33.1.Depth, r_33.1.L) ⟨Nat.zero_le _, hc_1⟩ (wk_mk [1, 4] [] [] rfl ⟨argO (id := 1) (by (conv => lhs; whnf); all_goals rfl) rfl, argP (id := 4) (by (conv => lhs; whnf); all_goals rfl) rfl, argE (by (conv => lhs; whnf); all_goals rfl) rfl, trivial⟩ ⟨blkR (fun _ => ⟨rfl, rfl⟩) rfl rfl, boxL rfl rfl rfl ⟨(.ni _ rfl), (.ni _ rfl), trivial⟩, trivial⟩) ?_
            rintro ⟨k_37, i_34, a_35⟩ ⟨hk_k_37, hL1⟩
            try dsimp only at hk_k_37 hL1
            show awp _ _ _ _ _ _ ⟨eL [(3, .osl 0), (5, .ptr 1 0), (7, .int .i64 (k_37 : Int))], hL [(0, .row 1 (([(3 : Int), (1 : Int), (2 : Int)] : List Int).map iA)), (1, .box [.int .i64 i_34, .lst 1 (a_35.map (lA 2 encStored))])], 2⟩
            conv => whnf
            refine len_q (enc := iA) (l := ([(3 : Int), (1 : Int), (2 : Int)] : List Int)) rfl ?_
            conv => whnf
            refine ⟨fun h => ?_, fun h => ?_⟩
            · have hlt_k_37 : k_37 < ([(3 : Int), (1 : Int), (2 : Int)] : List Int).length := by have h := of_decide_eq_true h; omega
              obtain ⟨e_38, h_e_38⟩ : ∃ y, ([(3 : Int), (1 : Int), (2 : Int)] : List Int)[k_37]? = some y := ⟨_, List.getElem?_eq_getElem hlt_k_37⟩
              rw [drop_cons h_e_38, law17_LanesFree_L1.eq_2] at hL1
              conv => whnf
              refine ⟨_, rfl, ?_⟩
              conv => whnf
              refine ⟨k_37, rfl, by rw [List.length_map]; exact hlt_k_37, ?_⟩
              conv => whnf
              refine ⟨_, ix_map (enc := iA) h_e_38, ?_⟩
              conv => whnf
              obtain ⟨r_39, h_r_39, hL1⟩ := bind_some hL1
              refine ⟨_, _, _, _, _, _, _, _, _, callX false [] [] 0 Try.func30 (by decide) rfl (lanes_Put_ac (⟨i_34, a_35⟩ : Lanes) (⟨(w64 ((1 : Int) + (k_37 : Int))), e_38⟩ : Stored) r_39 h_r_39) rfl ⟨(argE (by (conv => lhs; whnf); all_goals rfl) rfl), (argE (by (conv => lhs; whnf); all_goals rfl) rfl), trivial⟩ rfl trivial rfl rfl rfl lend0 trivial rfl, ?_⟩
              conv => whnf
              refine ⟨by kernel_rfl, ?_⟩
              conv => whnf
              refine ⟨fun hb_197 => ?_, fun hb_197 => ?_⟩
              · replace hL1 := cond_t hb_197 hL1
                conv => whnf
                obtain rfl := Option.some.inj hL1
                replace hF := fin_ret hF
                obtain rfl := Option.some.inj hF
                exact ret_gz [] [] [] rfl (argFl (by (conv => lhs; whnf); all_goals rfl)) trivial
              · replace hL1 := cond_f hb_197 hL1
                conv => whnf
                refine ⟨((k_37 + 1 : Nat) : Int), wrapE (by omega) (by omega) (by omega), ?_⟩
                conv => whnf
                exact ⟨(k_37 + 1, r_39.1.Depth, r_39.1.L), [0, 1], [], [], ⟨hlt_k_37, hL1⟩, by show ([(3 : Int), (1 : Int), (2 : Int)] : List Int).length - (k_37 + 1) < ([(3 : Int), (1 : Int), (2 : Int)] : List Int).length - k_37; omega, wk_mk [0, 1] [] [] rfl ⟨argO (id := 0) (by (conv => lhs; whnf); all_goals rfl) rfl, argP (id := 1) (by (conv => lhs; whnf); all_goals rfl) rfl, argE (by (conv => lhs; whnf); all_goals rfl) rfl, trivial⟩ ⟨blkR (fun _ => ⟨rfl, rfl⟩) rfl rfl, boxL rfl rfl rfl ⟨(.ni _ rfl), (.ni _ rfl), trivial⟩, trivial⟩⟩
            · rw [drop_nil (show ([(3 : Int), (1 : Int), (2 : Int)] : List Int).length ≤ k_37 by have h := of_decide_eq_false h; omega), law17_LanesFree_L1.eq_1] at hL1
              conv => whnf
              obtain rfl := Option.some.inj hL1
              replace hF := fin_brk hF
              try dsimp only at hF
              refine len_q (enc := iA) (l := ([(3 : Int), (1 : Int), (2 : Int)] : List Int)) rfl ?_
              conv => whnf
              obtain ⟨l_42, h_l_42, hF⟩ := bind_some hF
              refine mk_r h_l_42 (by decide) ?_
              conv => whnf
              obtain ⟨c_2, hc_2, hF⟩ := fin_some hF
              refine sw_br 0 (sz := 1) (xs := ([(3 : Int), (1 : Int), (2 : Int)] : List Int).map iA) (by (conv => lhs; whnf); all_goals rfl) (fun hb => ?_)
              have hbd_k_47 : ([(3 : Int), (1 : Int), (2 : Int)] : List Int).length ≤ 9223372036854775807 := bnd_len (enc := iA) (hb)
              refine sw_loop tab_ok follows_ok (fun y : Nat × Int × (List (List Stored)) × (List Bool) => y.1 ≤ ([(3 : Int), (1 : Int), (2 : Int)] : List Int).length ∧ law17_LanesFree_L2 (([(3 : Int), (1 : Int), (2 : Int)] : List Int).drop y.1) y.1 y.2.1 y.2.2.1 y.2.2.2 = some c_2) (fun y => ⟨eL [(3, .osl 0), (5, .ptr 1 0), (11, .osl 2), (12, .int .i64 (y.1 : Int))], hL [(0, .row 1 (([(3 : Int), (1 : Int), (2 : Int)] : List Int).map iA)), (1, .box [.int .i64 y.2.1, .lst 1 (y.2.2.1.map (lA 2 encStored))]), (2, .row 1 (y.2.2.2.map bA))], 3⟩) (fun y => ([(3 : Int), (1 : Int), (2 : Int)] : List Int).length - y.1) (0, i_34, a_35, l_42) ⟨Nat.zero_le _, hc_2⟩ (wk_mk [0, 1, 2] [] [] rfl ⟨argO (id := 0) (by (conv => lhs; whnf); all_goals rfl) rfl, argP (id := 1) (by (conv => lhs; whnf); all_goals rfl) rfl, argO (id := 2) (by (conv => lhs; whnf); all_goals rfl) rfl, argE (by (conv => lhs; whnf); all_goals rfl) rfl, trivial⟩ ⟨blkR (fun _ => ⟨rfl, rfl⟩) rfl rfl, boxL rfl rfl rfl ⟨(.ni _ rfl), (.ni _ rfl), trivial⟩, blk_rowsE rfl rfl (RowsA.rep _ (cellsL (c' := [.bool false]) rfl rfl ⟨.fls, trivial⟩)) (by rw [mkL_val h_l_42, List.map_replicate]; rfl), trivial⟩) ?_
              rintro ⟨k_47, i_43, a_44, a_45⟩ ⟨hk_k_47, hL1⟩
              try dsimp only at hk_k_47 hL1
              show awp _ _ _ _ _ _ ⟨eL [(3, .osl 0), (5, .ptr 1 0), (11, .osl 2), (12, .int .i64 (k_47 : Int))], hL [(0, .row 1 (([(3 : Int), (1 : Int), (2 : Int)] : List Int).map iA)), (1, .box [.int .i64 i_43, .lst 1 (a_44.map (lA 2 encStored))]), (2, .row 1 (a_45.map bA))], 3⟩
              conv => whnf
              refine len_q (enc := iA) (l := ([(3 : Int), (1 : Int), (2 : Int)] : List Int)) rfl ?_
              conv => whnf
              refine ⟨fun h => ?_, fun h => ?_⟩
              · have hlt_k_47 : k_47 < ([(3 : Int), (1 : Int), (2 : Int)] : List Int).length := by have h := of_decide_eq_true h; omega
                obtain ⟨e_48, h_e_48⟩ : ∃ y, ([(3 : Int), (1 : Int), (2 : Int)] : List Int)[k_47]? = some y := ⟨_, List.getElem?_eq_getElem hlt_k_47⟩
                rw [drop_cons h_e_48, law17_LanesFree_L2.eq_2] at hL1
                conv => whnf
                obtain ⟨c_3, hc_3, hL1⟩ := sub_some hL1
                refine sw_br 0 (sz := 1) (xs := ([(3 : Int), (1 : Int), (2 : Int)] : List Int).map iA) (by (conv => lhs; whnf); all_goals rfl) (fun hb => ?_)
                have hbd_k_51 : ([(3 : Int), (1 : Int), (2 : Int)] : List Int).length ≤ 9223372036854775807 := bnd_len (enc := iA) (hb)
                refine sw_loop tab_ok follows_ok (fun y : Nat × Int => y.1 ≤ ([(3 : Int), (1 : Int), (2 : Int)] : List Int).length ∧ law17_LanesFree_L3 a_45 (([(3 : Int), (1 : Int), (2 : Int)] : List Int).drop y.1) y.1 y.2 = some c_3) (fun y => ⟨eL [(3, .osl 0), (5, .ptr 1 0), (11, .osl 2), (12, .int .i64 (k_47 : Int)), (13, .int .i64 y.2), (14, .int .i64 (y.1 : Int))], hL [(0, .row 1 (([(3 : Int), (1 : Int), (2 : Int)] : List Int).map iA)), (1, .box [.int .i64 i_43, .lst 1 (a_44.map (lA 2 encStored))]), (2, .row 1 (a_45.map bA))], 3⟩) (fun y => ([(3 : Int), (1 : Int), (2 : Int)] : List Int).length - y.1) (0, (-1 : Int)) ⟨Nat.zero_le _, hc_3⟩ (wk_mk [0, 1, 2] [] [] rfl ⟨argO (id := 0) (by (conv => lhs; whnf); all_goals rfl) rfl, argP (id := 1) (by (conv => lhs; whnf); all_goals rfl) rfl, argO (id := 2) (by (conv => lhs; whnf); all_goals rfl) rfl, argE (by (conv => lhs; whnf); all_goals rfl) rfl, argE (by (conv => lhs; whnf); all_goals rfl) rfl, argE (by (conv => lhs; whnf); all_goals rfl) rfl, trivial⟩ ⟨blkR (fun _ => ⟨rfl, rfl⟩) rfl rfl, boxL rfl rfl rfl ⟨(.ni _ rfl), (.ni _ rfl), trivial⟩, blkR (fun _ => ⟨rfl, rfl⟩) rfl rfl, trivial⟩) ?_
                rintro ⟨k_51, i_49⟩ ⟨hk_k_51, hL2⟩
                try dsimp only at hk_k_51 hL2
                show awp _ _ _ _ _ _ ⟨eL [(3, .osl 0), (5, .ptr 1 0), (11, .osl 2), (12, .int .i64 (k_47 : Int)), (13, .int .i64 i_49), (14, .int .i64 (k_51 : Int))], hL [(0, .row 1 (([(3 : Int), (1 : Int), (2 : Int)] : List Int).map iA)), (1, .box [.int .i64 i_43, .lst 1 (a_44.map (lA 2 encStored))]), (2, .row 1 (a_45.map bA))], 3⟩
                conv => whnf
                refine len_q (enc := iA) (l := ([(3 : Int), (1 : Int), (2 : Int)] : List Int)) rfl ?_
                conv => whnf
                refine ⟨fun h => ?_, fun h => ?_⟩
                · have hlt_k_51 : k_51 < ([(3 : Int), (1 : Int), (2 : Int)] : List Int).length := by have h := of_decide_eq_true h; omega
                  obtain ⟨e_52, h_e_52⟩ : ∃ y, ([(3 : Int), (1 : Int), (2 : Int)] : List Int)[k_51]? = some y := ⟨_, List.getElem?_eq_getElem hlt_k_51⟩
                  rw [drop_cons h_e_52, law17_LanesFree_L3.eq_2] at hL2
                  conv => whnf
                  obtain ⟨e_53, h_e_53, hL2⟩ := bind_some hL2
                  refine ixo_q (enc := bA) (l := a_45) h_e_53 rfl (fun m_e_53 hm_e_53 hx_e_53 => ?_)
                  conv => whnf
                  refine ⟨_, ix_map (enc := bA) hx_e_53, ?_⟩
                  conv => whnf
                  refine ⟨fun hb_198 => ?_, fun hb_198 => ?_⟩
                  · replace hL2 := cond_t hb_198 hL2
                    conv => whnf
                    refine ⟨fun hb_199 => ?_, fun hb_199 => ?_⟩
                    · replace hL2 := cond_f hb_199 hL2
                      conv => whnf
                      refine ⟨k_51, rfl, by rw [List.length_map]; exact hlt_k_51, ?_⟩
                      conv => whnf
                      refine ⟨_, ix_map (enc := iA) h_e_52, ?_⟩
                      conv => whnf
                      obtain ⟨e_54, h_e_54, hL2⟩ := bind_some hL2
                      refine ixo_q (enc := iA) (l := ([(3 : Int), (1 : Int), (2 : Int)] : List Int)) h_e_54 rfl (fun m_e_54 hm_e_54 hx_e_54 => ?_)
                      conv => whnf
                      refine ⟨_, ix_map (enc := iA) hx_e_54, ?_⟩
                      conv => whnf
                      refine ⟨by kernel_rfl, ?_⟩
                      conv => whnf
                      refine ⟨fun hb_200 => ?_, fun hb_200 => ?_⟩
                      · replace hL2 := cond_t hb_200 hL2
                        conv => whnf
                        refine ⟨((k_51 + 1 : Nat) : Int), wrapE (by omega) (by omega) (by omega), ?_⟩
                        conv => whnf
                        exact ⟨(k_51 + 1, (k_51 : Int)), [0, 1, 2], [], [], ⟨hlt_k_51, hL2⟩, by show ([(3 : Int), (1 : Int), (2 : Int)] : List Int).length - (k_51 + 1) < ([(3 : Int), (1 : Int), (2 : Int)] : List Int).length - k_51; omega, wk_mk [0, 1, 2] [] [] rfl ⟨argO (id := 0) (by (conv => lhs; whnf); all_goals rfl) rfl, argP (id := 1) (by (conv => lhs; whnf); all_goals rfl) rfl, argO (id := 2) (by (conv => lhs; whnf); all_goals rfl) rfl, argE (by (conv => lhs; whnf); all_goals rfl) rfl, argE (by (conv => lhs; whnf); all_goals rfl) rfl, argE (by (conv => lhs; whnf); all_goals rfl) rfl, trivial⟩ ⟨blkR (fun _ => ⟨rfl, rfl⟩) rfl rfl, boxL rfl rfl rfl ⟨(.ni _ rfl), (.ni _ rfl), trivial⟩, blkR (fun _ => ⟨rfl, rfl⟩) rfl rfl, trivial⟩⟩
                      · replace hL2 := cond_f hb_200 hL2
                        conv => whnf
                        refine ⟨((k_51 + 1 : Nat) : Int), wrapE (by omega) (by omega) (by omega), ?_⟩
                        conv => whnf
                        exact ⟨(k_51 + 1, i_49), [0, 1, 2], [], [], ⟨hlt_k_51, hL2⟩, by show ([(3 : Int), (1 : Int), (2 : Int)] : List Int).length - (k_51 + 1) < ([(3 : Int), (1 : Int), (2 : Int)] : List Int).length - k_51; omega, wk_mk [0, 1, 2] [] [] rfl ⟨argO (id := 0) (by (conv => lhs; whnf); all_goals rfl) rfl, argP (id := 1) (by (conv => lhs; whnf); all_goals rfl) rfl, argO (id := 2) (by (conv => lhs; whnf); all_goals rfl) rfl, argE (by (conv => lhs; whnf); all_goals rfl) rfl, argE (by (conv => lhs; whnf); all_goals rfl) rfl, argE (by (conv => lhs; whnf); all_goals rfl) rfl, trivial⟩ ⟨blkR (fun _ => ⟨rfl, rfl⟩) rfl rfl, boxL rfl rfl rfl ⟨(.ni _ rfl), (.ni _ rfl), trivial⟩, blkR (fun _ => ⟨rfl, rfl⟩) rfl rfl, trivial⟩⟩
                    · replace hL2 := cond_t hb_199 hL2
                      conv => whnf
                      refine ⟨by kernel_rfl, ?_⟩
                      conv => whnf
                      refine ⟨((k_51 + 1 : Nat) : Int), wrapE (by omega) (by omega) (by omega), ?_⟩
                      conv => whnf
                      exact ⟨(k_51 + 1, (k_51 : Int)), [0, 1, 2], [], [], ⟨hlt_k_51, hL2⟩, by show ([(3 : Int), (1 : Int), (2 : Int)] : List Int).length - (k_51 + 1) < ([(3 : Int), (1 : Int), (2 : Int)] : List Int).length - k_51; omega, wk_mk [0, 1, 2] [] [] rfl ⟨argO (id := 0) (by (conv => lhs; whnf); all_goals rfl) rfl, argP (id := 1) (by (conv => lhs; whnf); all_goals rfl) rfl, argO (id := 2) (by (conv => lhs; whnf); all_goals rfl) rfl, argE (by (conv => lhs; whnf); all_goals rfl) rfl, argE (by (conv => lhs; whnf); all_goals rfl) rfl, argE (by (conv => lhs; whnf); all_goals rfl) rfl, trivial⟩ ⟨blkR (fun _ => ⟨rfl, rfl⟩) rfl rfl, boxL rfl rfl rfl ⟨(.ni _ rfl), (.ni _ rfl), trivial⟩, blkR (fun _ => ⟨rfl, rfl⟩) rfl rfl, trivial⟩⟩
                  · replace hL2 := cond_f hb_198 hL2
                    conv => whnf
                    refine ⟨by kernel_rfl, ?_⟩
                    conv => whnf
                    refine ⟨((k_51 + 1 : Nat) : Int), wrapE (by omega) (by omega) (by omega), ?_⟩
                    conv => whnf
                    exact ⟨(k_51 + 1, i_49), [0, 1, 2], [], [], ⟨hlt_k_51, hL2⟩, by show ([(3 : Int), (1 : Int), (2 : Int)] : List Int).length - (k_51 + 1) < ([(3 : Int), (1 : Int), (2 : Int)] : List Int).length - k_51; omega, wk_mk [0, 1, 2] [] [] rfl ⟨argO (id := 0) (by (conv => lhs; whnf); all_goals rfl) rfl, argP (id := 1) (by (conv => lhs; whnf); all_goals rfl) rfl, argO (id := 2) (by (conv => lhs; whnf); all_goals rfl) rfl, argE (by (conv => lhs; whnf); all_goals rfl) rfl, argE (by (conv => lhs; whnf); all_goals rfl) rfl, argE (by (conv => lhs; whnf); all_goals rfl) rfl, trivial⟩ ⟨blkR (fun _ => ⟨rfl, rfl⟩) rfl rfl, boxL rfl rfl rfl ⟨(.ni _ rfl), (.ni _ rfl), trivial⟩, blkR (fun _ => ⟨rfl, rfl⟩) rfl rfl, trivial⟩⟩
                · rw [drop_nil (show ([(3 : Int), (1 : Int), (2 : Int)] : List Int).length ≤ k_51 by have h := of_decide_eq_false h; omega), law17_LanesFree_L3.eq_1] at hL2
                  conv => whnf
                  obtain rfl := Option.some.inj hL2
                  replace hL1 := sub_brk hL1
                  try dsimp only at hL1
                  refine ⟨_, rfl, ?_⟩
                  conv => whnf
                  obtain ⟨r_57, h_r_57, hL1⟩ := bind_some hL1
                  refine ⟨_, _, _, _, _, _, _, _, _, callX false [] [] 0 Try.func28 (by decide) rfl (lanes_Take_ac (⟨i_43, a_44⟩ : Lanes) (w64 ((1 : Int) + i_49)) r_57 h_r_57) rfl ⟨(argE (by (conv => lhs; whnf); all_goals rfl) rfl), (argE (by (conv => lhs; whnf); all_goals rfl) rfl), trivial⟩ rfl trivial rfl rfl rfl lend0 trivial rfl, ?_⟩
                  conv => whnf
                  refine ⟨fun hb_201 => ?_, fun hb_201 => ?_⟩
                  · replace hL1 := cond_f hb_201 hL1
                    conv => whnf
                    refine len_q (enc := iA) (l := r_57.2.1) rfl ?_
                    conv => whnf
                    refine ⟨fun hb_202 => ?_, fun hb_202 => ?_⟩
                    · replace hL1 := cond_t hb_202 hL1
                      conv => whnf
                      obtain rfl := Option.some.inj hL1
                      replace hF := fin_ret hF
                      obtain rfl := Option.some.inj hF
                      exact ret_gz [] [] [] rfl (argFl (by (conv => lhs; whnf); all_goals rfl)) trivial
                    · replace hL1 := cond_f hb_202 hL1
                      conv => whnf
                      obtain ⟨e_58, h_e_58, hL1⟩ := bind_some hL1
                      refine ixo_q (enc := bA) (l := a_45) h_e_58 rfl (fun m_e_58 hm_e_58 hx_e_58 => ?_)
                      conv => whnf
                      refine st_q (enc := bA) (l := a_45) (x' := true) (i := i_49) hm_e_58 hx_e_58 rfl (Nat.le_of_ble_eq_true rfl) rfl ?_
                      conv => whnf
                      refine ⟨((k_47 + 1 : Nat) : Int), wrapE (by omega) (by omega) (by omega), ?_⟩
                      conv => whnf
                      exact ⟨(k_47 + 1, r_57.1.Depth, r_57.1.L, (a_45.set i_49.toNat true)), [0, 1, 2], [], [], ⟨hlt_k_47, hL1⟩, by show ([(3 : Int), (1 : Int), (2 : Int)] : List Int).length - (k_47 + 1) < ([(3 : Int), (1 : Int), (2 : Int)] : List Int).length - k_47; omega, wk_mk [0, 1, 2] [] [] rfl ⟨argO (id := 0) (by (conv => lhs; whnf); all_goals rfl) rfl, argP (id := 1) (by (conv => lhs; whnf); all_goals rfl) rfl, argO (id := 2) (by (conv => lhs; whnf); all_goals rfl) rfl, argE (by (conv => lhs; whnf); all_goals rfl) rfl, trivial⟩ ⟨blkR (fun _ => ⟨rfl, rfl⟩) rfl rfl, boxL rfl rfl rfl ⟨(.ni _ rfl), (.ni _ rfl), trivial⟩, blkR (fun _ => ⟨rfl, rfl⟩) rfl rfl, trivial⟩⟩
                  · replace hL1 := cond_t hb_201 hL1
                    conv => whnf
                    obtain rfl := Option.some.inj hL1
                    replace hF := fin_ret hF
                    obtain rfl := Option.some.inj hF
                    exact ret_gz [] [] [] rfl (argFl (by (conv => lhs; whnf); all_goals rfl)) trivial
              · rw [drop_nil (show ([(3 : Int), (1 : Int), (2 : Int)] : List Int).length ≤ k_47 by have h := of_decide_eq_false h; omega), law17_LanesFree_L2.eq_1] at hL1
                conv => whnf
                obtain rfl := Option.some.inj hL1
                replace hF := fin_brk hF
                try dsimp only at hF
                obtain ⟨r_61, h_r_61, hF⟩ := bind_some hF
                refine ⟨_, _, _, _, _, _, _, _, _, callX false [] [] 0 Try.func9 (by decide) rfl (law17_awake_ac r_61 h_r_61) rfl trivial rfl trivial rfl rfl rfl lend0 trivial rfl, ?_⟩
                conv => whnf
                obtain rfl := Option.some.inj hF
                exact ret_gz [] [] [] rfl (argE (by (conv => lhs; whnf); all_goals rfl) rfl) trivial
      · replace hF := cond_t hb_194 hF
        conv => whnf
        obtain rfl := Option.some.inj hF
        exact ret_gz [] [] [] rfl (argFl (by (conv => lhs; whnf); all_goals rfl)) trivial
    · replace hF := cond_f hb_193 hF
      conv => whnf
      obtain ⟨r_62, h_r_62, hF⟩ := bind_some hF
      refine ⟨_, _, _, _, _, _, _, _, _, callX false [] [] 0 Try.func14 (by decide) rfl (lanes_Count_ac r_1 r_62 h_r_62) rfl ⟨(argE (by (conv => lhs; whnf); all_goals rfl) rfl), trivial⟩ rfl trivial rfl rfl rfl lend0 trivial rfl, ?_⟩
      conv => whnf
      refine ⟨fun hb_203 => ?_, fun hb_203 => ?_⟩
      · replace hF := cond_f hb_203 hF
        conv => whnf
        refine ⟨fun hb_204 => ?_, fun hb_204 => ?_⟩
        · replace hF := cond_t hb_204 hF
          conv => whnf
          obtain rfl := Option.some.inj hF
          exact ret_gz [] [] [] rfl (argFl (by (conv => lhs; whnf); all_goals rfl)) trivial
        · replace hF := cond_f hb_204 hF
          conv => whnf
          obtain ⟨r_63, h_r_63, hF⟩ := bind_some hF
          refine ⟨_, _, _, _, _, _, _, _, _, callX false [] [] 0 Try.func23 (by decide) rfl (lanes_New_ac r_62 (20 : Int) r_63 h_r_63) rfl ⟨(argE (by (conv => lhs; whnf); all_goals rfl) rfl), (argE (by (conv => lhs; whnf); all_goals rfl) rfl), trivial⟩ rfl trivial rfl rfl rfl lend0 trivial rfl, ?_⟩
          conv => whnf
          refine ⟨fun hb_205 => ?_, fun hb_205 => ?_⟩
          · replace hF := cond_t hb_205 hF
            conv => whnf
            obtain rfl := Option.some.inj hF
            exact ret_gz [] [] [] rfl (argFl (by (conv => lhs; whnf); all_goals rfl)) trivial
          · replace hF := cond_f hb_205 hF
            conv => whnf
            obtain ⟨c_1, hc_1, hF⟩ := fin_some hF
            refine sw_bv 3 (v := .lst 1 (r_1.map iA)) (by (conv => lhs; whnf); all_goals rfl) (fun hb => ?_)
            have hbd_k_67 : r_1.length ≤ 9223372036854775807 := bnd_len (enc := iA) (hb)
            refine sw_loop tab_ok follows_ok (fun y : Nat × Int × (List (List Stored)) => y.1 ≤ r_1.length ∧ law17_LanesFree_L1 (r_1.drop y.1) y.1 y.2.1 y.2.2 = some c_1) (fun y => ⟨eL [(3, .lst 1 (r_1.map iA)), (5, .ptr 0 0), (7, .int .i64 (y.1 : Int))], hL [(0, .box [.int .i64 y.2.1, .lst 1 (y.2.2.map (lA 2 encStored))])], 1⟩) (fun y => r_1.length - y.1) (0, r_63.1.Depth, r_63.1.L) ⟨Nat.zero_le _, hc_1⟩ (wk_mk [3] [] [] rfl ⟨argE (by (conv => lhs; whnf); all_goals rfl) rfl, argP (id := 3) (by (conv => lhs; whnf); all_goals rfl) rfl, argE (by (conv => lhs; whnf); all_goals rfl) rfl, trivial⟩ ⟨boxL rfl rfl rfl ⟨(.ni _ rfl), (.ni _ rfl), trivial⟩, trivial⟩) ?_
            rintro ⟨k_67, i_64, a_65⟩ ⟨hk_k_67, hL1⟩
            try dsimp only at hk_k_67 hL1
            show awp _ _ _ _ _ _ ⟨eL [(3, .lst 1 (r_1.map iA)), (5, .ptr 0 0), (7, .int .i64 (k_67 : Int))], hL [(0, .box [.int .i64 i_64, .lst 1 (a_65.map (lA 2 encStored))])], 1⟩
            conv => whnf
            refine len_q (enc := iA) (l := r_1) rfl ?_
            conv => whnf
            refine ⟨fun h => ?_, fun h => ?_⟩
            · have hlt_k_67 : k_67 < r_1.length := by have h := of_decide_eq_true h; omega
              obtain ⟨e_68, h_e_68⟩ : ∃ y, r_1[k_67]? = some y := ⟨_, List.getElem?_eq_getElem hlt_k_67⟩
              rw [drop_cons h_e_68, law17_LanesFree_L1.eq_2] at hL1
              conv => whnf
              refine ⟨_, rfl, ?_⟩
              conv => whnf
              refine ⟨k_67, _, rfl, ix_map h_e_68, ?_⟩
              conv => whnf
              obtain ⟨r_69, h_r_69, hL1⟩ := bind_some hL1
              refine ⟨_, _, _, _, _, _, _, _, _, callX false [] [] 0 Try.func30 (by decide) rfl (lanes_Put_ac (⟨i_64, a_65⟩ : Lanes) (⟨(w64 ((1 : Int) + (k_67 : Int))), e_68⟩ : Stored) r_69 h_r_69) rfl ⟨(argE (by (conv => lhs; whnf); all_goals rfl) rfl), (argE (by (conv => lhs; whnf); all_goals rfl) rfl), trivial⟩ rfl trivial rfl rfl rfl lend0 trivial rfl, ?_⟩
              conv => whnf
              refine ⟨by kernel_rfl, ?_⟩
              conv => whnf
              refine ⟨fun hb_206 => ?_, fun hb_206 => ?_⟩
              · replace hL1 := cond_t hb_206 hL1
                conv => whnf
                obtain rfl := Option.some.inj hL1
                replace hF := fin_ret hF
                obtain rfl := Option.some.inj hF
                exact ret_gz [] [] [] rfl (argFl (by (conv => lhs; whnf); all_goals rfl)) trivial
              · replace hL1 := cond_f hb_206 hL1
                conv => whnf
                refine ⟨((k_67 + 1 : Nat) : Int), wrapE (by omega) (by omega) (by omega), ?_⟩
                conv => whnf
                exact ⟨(k_67 + 1, r_69.1.Depth, r_69.1.L), [0], [], [], ⟨hlt_k_67, hL1⟩, by show r_1.length - (k_67 + 1) < r_1.length - k_67; omega, wk_mk [0] [] [] rfl ⟨argE (by (conv => lhs; whnf); all_goals rfl) rfl, argP (id := 0) (by (conv => lhs; whnf); all_goals rfl) rfl, argE (by (conv => lhs; whnf); all_goals rfl) rfl, trivial⟩ ⟨boxL rfl rfl rfl ⟨(.ni _ rfl), (.ni _ rfl), trivial⟩, trivial⟩⟩
            · rw [drop_nil (show r_1.length ≤ k_67 by have h := of_decide_eq_false h; omega), law17_LanesFree_L1.eq_1] at hL1
              conv => whnf
              obtain rfl := Option.some.inj hL1
              replace hF := fin_brk hF
              try dsimp only at hF
              refine len_q (enc := iA) (l := r_1) rfl ?_
              conv => whnf
              obtain ⟨l_72, h_l_72, hF⟩ := bind_some hF
              refine mk_r h_l_72 (by decide) ?_
              conv => whnf
              obtain ⟨c_8, hc_8, hF⟩ := fin_some hF
              refine sw_bv 3 (v := .lst 1 (r_1.map iA)) (by (conv => lhs; whnf); all_goals rfl) (fun hb => ?_)
              have hbd_k_77 : r_1.length ≤ 9223372036854775807 := bnd_len (enc := iA) (hb)
              refine sw_loop tab_ok follows_ok (fun y : Nat × Int × (List (List Stored)) × (List Bool) => y.1 ≤ r_1.length ∧ law17_LanesFree_L8 r_1 (r_1.drop y.1) y.1 y.2.1 y.2.2.1 y.2.2.2 = some c_8) (fun y => ⟨eL [(3, .lst 1 (r_1.map iA)), (5, .ptr 0 0), (11, .osl 1), (12, .int .i64 (y.1 : Int))], hL [(0, .box [.int .i64 y.2.1, .lst 1 (y.2.2.1.map (lA 2 encStored))]), (1, .row 1 (y.2.2.2.map bA))], 2⟩) (fun y => r_1.length - y.1) (0, i_64, a_65, l_72) ⟨Nat.zero_le _, hc_8⟩ (wk_mk [0, 1] [] [] rfl ⟨argE (by (conv => lhs; whnf); all_goals rfl) rfl, argP (id := 0) (by (conv => lhs; whnf); all_goals rfl) rfl, argO (id := 1) (by (conv => lhs; whnf); all_goals rfl) rfl, argE (by (conv => lhs; whnf); all_goals rfl) rfl, trivial⟩ ⟨boxL rfl rfl rfl ⟨(.ni _ rfl), (.ni _ rfl), trivial⟩, blk_rowsE rfl rfl (RowsA.rep _ (cellsL (c' := [.bool false]) rfl rfl ⟨.fls, trivial⟩)) (by rw [mkL_val h_l_72, List.map_replicate]; rfl), trivial⟩) ?_
              rintro ⟨k_77, i_73, a_74, a_75⟩ ⟨hk_k_77, hL1⟩
              try dsimp only at hk_k_77 hL1
              show awp _ _ _ _ _ _ ⟨eL [(3, .lst 1 (r_1.map iA)), (5, .ptr 0 0), (11, .osl 1), (12, .int .i64 (k_77 : Int))], hL [(0, .box [.int .i64 i_73, .lst 1 (a_74.map (lA 2 encStored))]), (1, .row 1 (a_75.map bA))], 2⟩
              conv => whnf
              refine len_q (enc := iA) (l := r_1) rfl ?_
              conv => whnf
              refine ⟨fun h => ?_, fun h => ?_⟩
              · have hlt_k_77 : k_77 < r_1.length := by have h := of_decide_eq_true h; omega
                obtain ⟨e_78, h_e_78⟩ : ∃ y, r_1[k_77]? = some y := ⟨_, List.getElem?_eq_getElem hlt_k_77⟩
                rw [drop_cons h_e_78, law17_LanesFree_L8.eq_2] at hL1
                conv => whnf
                obtain ⟨c_9, hc_9, hL1⟩ := sub_some hL1
                refine sw_bv 3 (v := .lst 1 (r_1.map iA)) (by (conv => lhs; whnf); all_goals rfl) (fun hb => ?_)
                have hbd_k_81 : r_1.length ≤ 9223372036854775807 := bnd_len (enc := iA) (hb)
                refine sw_loop tab_ok follows_ok (fun y : Nat × Int => y.1 ≤ r_1.length ∧ law17_LanesFree_L9 r_1 a_75 (r_1.drop y.1) y.1 y.2 = some c_9) (fun y => ⟨eL [(3, .lst 1 (r_1.map iA)), (5, .ptr 0 0), (11, .osl 1), (12, .int .i64 (k_77 : Int)), (13, .int .i64 y.2), (14, .int .i64 (y.1 : Int))], hL [(0, .box [.int .i64 i_73, .lst 1 (a_74.map (lA 2 encStored))]), (1, .row 1 (a_75.map bA))], 2⟩) (fun y => r_1.length - y.1) (0, (-1 : Int)) ⟨Nat.zero_le _, hc_9⟩ (wk_mk [0, 1] [] [] rfl ⟨argE (by (conv => lhs; whnf); all_goals rfl) rfl, argP (id := 0) (by (conv => lhs; whnf); all_goals rfl) rfl, argO (id := 1) (by (conv => lhs; whnf); all_goals rfl) rfl, argE (by (conv => lhs; whnf); all_goals rfl) rfl, argE (by (conv => lhs; whnf); all_goals rfl) rfl, argE (by (conv => lhs; whnf); all_goals rfl) rfl, trivial⟩ ⟨boxL rfl rfl rfl ⟨(.ni _ rfl), (.ni _ rfl), trivial⟩, blkR (fun _ => ⟨rfl, rfl⟩) rfl rfl, trivial⟩) ?_
                rintro ⟨k_81, i_79⟩ ⟨hk_k_81, hL2⟩
                try dsimp only at hk_k_81 hL2
                show awp _ _ _ _ _ _ ⟨eL [(3, .lst 1 (r_1.map iA)), (5, .ptr 0 0), (11, .osl 1), (12, .int .i64 (k_77 : Int)), (13, .int .i64 i_79), (14, .int .i64 (k_81 : Int))], hL [(0, .box [.int .i64 i_73, .lst 1 (a_74.map (lA 2 encStored))]), (1, .row 1 (a_75.map bA))], 2⟩
                conv => whnf
                refine len_q (enc := iA) (l := r_1) rfl ?_
                conv => whnf
                refine ⟨fun h => ?_, fun h => ?_⟩
                · have hlt_k_81 : k_81 < r_1.length := by have h := of_decide_eq_true h; omega
                  obtain ⟨e_82, h_e_82⟩ : ∃ y, r_1[k_81]? = some y := ⟨_, List.getElem?_eq_getElem hlt_k_81⟩
                  rw [drop_cons h_e_82, law17_LanesFree_L9.eq_2] at hL2
                  conv => whnf
                  obtain ⟨e_83, h_e_83, hL2⟩ := bind_some hL2
                  refine ixo_q (enc := bA) (l := a_75) h_e_83 rfl (fun m_e_83 hm_e_83 hx_e_83 => ?_)
                  conv => whnf
                  refine ⟨_, ix_map (enc := bA) hx_e_83, ?_⟩
                  conv => whnf
                  refine ⟨fun hb_207 => ?_, fun hb_207 => ?_⟩
                  · replace hL2 := cond_t hb_207 hL2
                    conv => whnf
                    refine ⟨fun hb_208 => ?_, fun hb_208 => ?_⟩
                    · replace hL2 := cond_f hb_208 hL2
                      conv => whnf
                      refine ⟨k_81, _, rfl, ix_map h_e_82, ?_⟩
                      conv => whnf
                      obtain ⟨e_84, h_e_84, hL2⟩ := bind_some hL2
                      refine ix_q (enc := iA) (l := r_1) h_e_84 rfl (fun m_e_84 hm_e_84 hx_e_84 => ?_)
                      conv => whnf
                      refine ⟨by kernel_rfl, ?_⟩
                      conv => whnf
                      refine ⟨fun hb_209 => ?_, fun hb_209 => ?_⟩
                      · replace hL2 := cond_t hb_209 hL2
                        conv => whnf
                        refine ⟨((k_81 + 1 : Nat) : Int), wrapE (by omega) (by omega) (by omega), ?_⟩
                        conv => whnf
                        exact ⟨(k_81 + 1, (k_81 : Int)), [0, 1], [], [], ⟨hlt_k_81, hL2⟩, by show r_1.length - (k_81 + 1) < r_1.length - k_81; omega, wk_mk [0, 1] [] [] rfl ⟨argE (by (conv => lhs; whnf); all_goals rfl) rfl, argP (id := 0) (by (conv => lhs; whnf); all_goals rfl) rfl, argO (id := 1) (by (conv => lhs; whnf); all_goals rfl) rfl, argE (by (conv => lhs; whnf); all_goals rfl) rfl, argE (by (conv => lhs; whnf); all_goals rfl) rfl, argE (by (conv => lhs; whnf); all_goals rfl) rfl, trivial⟩ ⟨boxL rfl rfl rfl ⟨(.ni _ rfl), (.ni _ rfl), trivial⟩, blkR (fun _ => ⟨rfl, rfl⟩) rfl rfl, trivial⟩⟩
                      · replace hL2 := cond_f hb_209 hL2
                        conv => whnf
                        refine ⟨((k_81 + 1 : Nat) : Int), wrapE (by omega) (by omega) (by omega), ?_⟩
                        conv => whnf
                        exact ⟨(k_81 + 1, i_79), [0, 1], [], [], ⟨hlt_k_81, hL2⟩, by show r_1.length - (k_81 + 1) < r_1.length - k_81; omega, wk_mk [0, 1] [] [] rfl ⟨argE (by (conv => lhs; whnf); all_goals rfl) rfl, argP (id := 0) (by (conv => lhs; whnf); all_goals rfl) rfl, argO (id := 1) (by (conv => lhs; whnf); all_goals rfl) rfl, argE (by (conv => lhs; whnf); all_goals rfl) rfl, argE (by (conv => lhs; whnf); all_goals rfl) rfl, argE (by (conv => lhs; whnf); all_goals rfl) rfl, trivial⟩ ⟨boxL rfl rfl rfl ⟨(.ni _ rfl), (.ni _ rfl), trivial⟩, blkR (fun _ => ⟨rfl, rfl⟩) rfl rfl, trivial⟩⟩
                    · replace hL2 := cond_t hb_208 hL2
                      conv => whnf
                      refine ⟨by kernel_rfl, ?_⟩
                      conv => whnf
                      refine ⟨((k_81 + 1 : Nat) : Int), wrapE (by omega) (by omega) (by omega), ?_⟩
                      conv => whnf
                      exact ⟨(k_81 + 1, (k_81 : Int)), [0, 1], [], [], ⟨hlt_k_81, hL2⟩, by show r_1.length - (k_81 + 1) < r_1.length - k_81; omega, wk_mk [0, 1] [] [] rfl ⟨argE (by (conv => lhs; whnf); all_goals rfl) rfl, argP (id := 0) (by (conv => lhs; whnf); all_goals rfl) rfl, argO (id := 1) (by (conv => lhs; whnf); all_goals rfl) rfl, argE (by (conv => lhs; whnf); all_goals rfl) rfl, argE (by (conv => lhs; whnf); all_goals rfl) rfl, argE (by (conv => lhs; whnf); all_goals rfl) rfl, trivial⟩ ⟨boxL rfl rfl rfl ⟨(.ni _ rfl), (.ni _ rfl), trivial⟩, blkR (fun _ => ⟨rfl, rfl⟩) rfl rfl, trivial⟩⟩
                  · replace hL2 := cond_f hb_207 hL2
                    conv => whnf
                    refine ⟨by kernel_rfl, ?_⟩
                    conv => whnf
                    refine ⟨((k_81 + 1 : Nat) : Int), wrapE (by omega) (by omega) (by omega), ?_⟩
                    conv => whnf
                    exact ⟨(k_81 + 1, i_79), [0, 1], [], [], ⟨hlt_k_81, hL2⟩, by show r_1.length - (k_81 + 1) < r_1.length - k_81; omega, wk_mk [0, 1] [] [] rfl ⟨argE (by (conv => lhs; whnf); all_goals rfl) rfl, argP (id := 0) (by (conv => lhs; whnf); all_goals rfl) rfl, argO (id := 1) (by (conv => lhs; whnf); all_goals rfl) rfl, argE (by (conv => lhs; whnf); all_goals rfl) rfl, argE (by (conv => lhs; whnf); all_goals rfl) rfl, argE (by (conv => lhs; whnf); all_goals rfl) rfl, trivial⟩ ⟨boxL rfl rfl rfl ⟨(.ni _ rfl), (.ni _ rfl), trivial⟩, blkR (fun _ => ⟨rfl, rfl⟩) rfl rfl, trivial⟩⟩
                · rw [drop_nil (show r_1.length ≤ k_81 by have h := of_decide_eq_false h; omega), law17_LanesFree_L9.eq_1] at hL2
                  conv => whnf
                  obtain rfl := Option.some.inj hL2
                  replace hL1 := sub_brk hL1
                  try dsimp only at hL1
                  refine ⟨_, rfl, ?_⟩
                  conv => whnf
                  obtain ⟨r_87, h_r_87, hL1⟩ := bind_some hL1
                  refine ⟨_, _, _, _, _, _, _, _, _, callX false [] [] 0 Try.func28 (by decide) rfl (lanes_Take_ac (⟨i_73, a_74⟩ : Lanes) (w64 ((1 : Int) + i_79)) r_87 h_r_87) rfl ⟨(argE (by (conv => lhs; whnf); all_goals rfl) rfl), (argE (by (conv => lhs; whnf); all_goals rfl) rfl), trivial⟩ rfl trivial rfl rfl rfl lend0 trivial rfl, ?_⟩
                  conv => whnf
                  refine ⟨fun hb_210 => ?_, fun hb_210 => ?_⟩
                  · replace hL1 := cond_f hb_210 hL1
                    conv => whnf
                    refine len_q (enc := iA) (l := r_87.2.1) rfl ?_
                    conv => whnf
                    refine ⟨fun hb_211 => ?_, fun hb_211 => ?_⟩
                    · replace hL1 := cond_t hb_211 hL1
                      conv => whnf
                      obtain rfl := Option.some.inj hL1
                      replace hF := fin_ret hF
                      obtain rfl := Option.some.inj hF
                      exact ret_gz [] [] [] rfl (argFl (by (conv => lhs; whnf); all_goals rfl)) trivial
                    · replace hL1 := cond_f hb_211 hL1
                      conv => whnf
                      obtain ⟨e_88, h_e_88, hL1⟩ := bind_some hL1
                      refine ixo_q (enc := bA) (l := a_75) h_e_88 rfl (fun m_e_88 hm_e_88 hx_e_88 => ?_)
                      conv => whnf
                      refine st_q (enc := bA) (l := a_75) (x' := true) (i := i_79) hm_e_88 hx_e_88 rfl (Nat.le_of_ble_eq_true rfl) rfl ?_
                      conv => whnf
                      refine ⟨((k_77 + 1 : Nat) : Int), wrapE (by omega) (by omega) (by omega), ?_⟩
                      conv => whnf
                      exact ⟨(k_77 + 1, r_87.1.Depth, r_87.1.L, (a_75.set i_79.toNat true)), [0, 1], [], [], ⟨hlt_k_77, hL1⟩, by show r_1.length - (k_77 + 1) < r_1.length - k_77; omega, wk_mk [0, 1] [] [] rfl ⟨argE (by (conv => lhs; whnf); all_goals rfl) rfl, argP (id := 0) (by (conv => lhs; whnf); all_goals rfl) rfl, argO (id := 1) (by (conv => lhs; whnf); all_goals rfl) rfl, argE (by (conv => lhs; whnf); all_goals rfl) rfl, trivial⟩ ⟨boxL rfl rfl rfl ⟨(.ni _ rfl), (.ni _ rfl), trivial⟩, blkR (fun _ => ⟨rfl, rfl⟩) rfl rfl, trivial⟩⟩
                  · replace hL1 := cond_t hb_210 hL1
                    conv => whnf
                    obtain rfl := Option.some.inj hL1
                    replace hF := fin_ret hF
                    obtain rfl := Option.some.inj hF
                    exact ret_gz [] [] [] rfl (argFl (by (conv => lhs; whnf); all_goals rfl)) trivial
              · rw [drop_nil (show r_1.length ≤ k_77 by have h := of_decide_eq_false h; omega), law17_LanesFree_L8.eq_1] at hL1
                conv => whnf
                obtain rfl := Option.some.inj hL1
                replace hF := fin_brk hF
                try dsimp only at hF
                obtain ⟨r_91, h_r_91, hF⟩ := bind_some hF
                refine ⟨_, _, _, _, _, _, _, _, _, callX false [] [] 0 Try.func9 (by decide) rfl (law17_awake_ac r_91 h_r_91) rfl trivial rfl trivial rfl rfl rfl lend0 trivial rfl, ?_⟩
                conv => whnf
                obtain rfl := Option.some.inj hF
                exact ret_gz [] [] [] rfl (argE (by (conv => lhs; whnf); all_goals rfl) rfl) trivial
      · replace hF := cond_t hb_203 hF
        conv => whnf
        obtain rfl := Option.some.inj hF
        exact ret_gz [] [] [] rfl (argFl (by (conv => lhs; whnf); all_goals rfl)) trivial
  · replace hF := cond_t hb_183 hF
    conv => whnf
    obtain ⟨r_2, h_r_2, hF⟩ := bind_some hF
    refine ⟨_, _, _, _, _, _, _, _, _, callX false [] [1] 0 Try.func14 (by decide) rfl (lanes_Count_ac ([(3 : Int), (1 : Int), (2 : Int)] : List Int) r_2 h_r_2) rfl ⟨(argOL 1 (by (conv => lhs; whnf); all_goals rfl) rfl rfl (map_ni (fun _ => ⟨rfl, rfl⟩) _)), trivial⟩ rfl trivial rfl rfl rfl (lendF rfl) trivial rfl, ?_⟩
    conv => whnf
    refine ⟨fun hb_184 => ?_, fun hb_184 => ?_⟩
    · replace hF := cond_f hb_184 hF
      conv => whnf
      refine ⟨fun hb_185 => ?_, fun hb_185 => ?_⟩
      · replace hF := cond_t hb_185 hF
        conv => whnf
        obtain rfl := Option.some.inj hF
        exact ret_gz [] [] [] rfl (argFl (by (conv => lhs; whnf); all_goals rfl)) trivial
      · replace hF := cond_f hb_185 hF
        conv => whnf
        obtain ⟨r_3, h_r_3, hF⟩ := bind_some hF
        refine ⟨_, _, _, _, _, _, _, _, _, callX false [] [] 0 Try.func23 (by decide) rfl (lanes_New_ac r_2 (20 : Int) r_3 h_r_3) rfl ⟨(argE (by (conv => lhs; whnf); all_goals rfl) rfl), (argE (by (conv => lhs; whnf); all_goals rfl) rfl), trivial⟩ rfl trivial rfl rfl rfl lend0 trivial rfl, ?_⟩
        conv => whnf
        refine ⟨fun hb_186 => ?_, fun hb_186 => ?_⟩
        · replace hF := cond_t hb_186 hF
          conv => whnf
          obtain rfl := Option.some.inj hF
          exact ret_gz [] [] [] rfl (argFl (by (conv => lhs; whnf); all_goals rfl)) trivial
        · replace hF := cond_f hb_186 hF
          conv => whnf
          obtain ⟨c_1, hc_1, hF⟩ := fin_some hF
          refine sw_br 1 (sz := 1) (xs := ([(3 : Int), (1 : Int), (2 : Int)] : List Int).map iA) (by (conv => lhs; whnf); all_goals rfl) (fun hb => ?_)
          have hbd_k_7 : ([(3 : Int), (1 : Int), (2 : Int)] : List Int).length ≤ 9223372036854775807 := bnd_len (enc := iA) (hb)
          refine sw_loop tab_ok follows_ok (fun y : Nat × Int × (List (List Stored)) => y.1 ≤ ([(3 : Int), (1 : Int), (2 : Int)] : List Int).length ∧ law17_LanesFree_L1 (([(3 : Int), (1 : Int), (2 : Int)] : List Int).drop y.1) y.1 y.2.1 y.2.2 = some c_1) (fun y => ⟨eL [(3, .osl 0), (5, .ptr 1 0), (7, .int .i64 (y.1 : Int))], hL [(0, .row 1 (([(3 : Int), (1 : Int), (2 : Int)] : List Int).map iA)), (1, .box [.int .i64 y.2.1, .lst 1 (y.2.2.map (lA 2 encStored))])], 2⟩) (fun y => ([(3 : Int), (1 : Int), (2 : Int)] : List Int).length - y.1) (0, r_3.1.Depth, r_3.1.L) ⟨Nat.zero_le _, hc_1⟩ (wk_mk [1, 4] [] [] rfl ⟨argO (id := 1) (by (conv => lhs; whnf); all_goals rfl) rfl, argP (id := 4) (by (conv => lhs; whnf); all_goals rfl) rfl, argE (by (conv => lhs; whnf); all_goals rfl) rfl, trivial⟩ ⟨blkR (fun _ => ⟨rfl, rfl⟩) rfl rfl, boxL rfl rfl rfl ⟨(.ni _ rfl), (.ni _ rfl), trivial⟩, trivial⟩) ?_
          rintro ⟨k_7, i_4, a_5⟩ ⟨hk_k_7, hL1⟩
          try dsimp only at hk_k_7 hL1
          show awp _ _ _ _ _ _ ⟨eL [(3, .osl 0), (5, .ptr 1 0), (7, .int .i64 (k_7 : Int))], hL [(0, .row 1 (([(3 : Int), (1 : Int), (2 : Int)] : List Int).map iA)), (1, .box [.int .i64 i_4, .lst 1 (a_5.map (lA 2 encStored))])], 2⟩
          conv => whnf
          refine len_q (enc := iA) (l := ([(3 : Int), (1 : Int), (2 : Int)] : List Int)) rfl ?_
          conv => whnf
          refine ⟨fun h => ?_, fun h => ?_⟩
          · have hlt_k_7 : k_7 < ([(3 : Int), (1 : Int), (2 : Int)] : List Int).length := by have h := of_decide_eq_true h; omega
            obtain ⟨e_8, h_e_8⟩ : ∃ y, ([(3 : Int), (1 : Int), (2 : Int)] : List Int)[k_7]? = some y := ⟨_, List.getElem?_eq_getElem hlt_k_7⟩
            rw [drop_cons h_e_8, law17_LanesFree_L1.eq_2] at hL1
            conv => whnf
            refine ⟨_, rfl, ?_⟩
            conv => whnf
            refine ⟨k_7, rfl, by rw [List.length_map]; exact hlt_k_7, ?_⟩
            conv => whnf
            refine ⟨_, ix_map (enc := iA) h_e_8, ?_⟩
            conv => whnf
            obtain ⟨r_9, h_r_9, hL1⟩ := bind_some hL1
            refine ⟨_, _, _, _, _, _, _, _, _, callX false [] [] 0 Try.func30 (by decide) rfl (lanes_Put_ac (⟨i_4, a_5⟩ : Lanes) (⟨(w64 ((1 : Int) + (k_7 : Int))), e_8⟩ : Stored) r_9 h_r_9) rfl ⟨(argE (by (conv => lhs; whnf); all_goals rfl) rfl), (argE (by (conv => lhs; whnf); all_goals rfl) rfl), trivial⟩ rfl trivial rfl rfl rfl lend0 trivial rfl, ?_⟩
            conv => whnf
            refine ⟨by kernel_rfl, ?_⟩
            conv => whnf
            refine ⟨fun hb_187 => ?_, fun hb_187 => ?_⟩
            · replace hL1 := cond_t hb_187 hL1
              conv => whnf
              obtain rfl := Option.some.inj hL1
              replace hF := fin_ret hF
              obtain rfl := Option.some.inj hF
              exact ret_gz [] [] [] rfl (argFl (by (conv => lhs; whnf); all_goals rfl)) trivial
            · replace hL1 := cond_f hb_187 hL1
              conv => whnf
              refine ⟨((k_7 + 1 : Nat) : Int), wrapE (by omega) (by omega) (by omega), ?_⟩
              conv => whnf
              exact ⟨(k_7 + 1, r_9.1.Depth, r_9.1.L), [0, 1], [], [], ⟨hlt_k_7, hL1⟩, by show ([(3 : Int), (1 : Int), (2 : Int)] : List Int).length - (k_7 + 1) < ([(3 : Int), (1 : Int), (2 : Int)] : List Int).length - k_7; omega, wk_mk [0, 1] [] [] rfl ⟨argO (id := 0) (by (conv => lhs; whnf); all_goals rfl) rfl, argP (id := 1) (by (conv => lhs; whnf); all_goals rfl) rfl, argE (by (conv => lhs; whnf); all_goals rfl) rfl, trivial⟩ ⟨blkR (fun _ => ⟨rfl, rfl⟩) rfl rfl, boxL rfl rfl rfl ⟨(.ni _ rfl), (.ni _ rfl), trivial⟩, trivial⟩⟩
          · rw [drop_nil (show ([(3 : Int), (1 : Int), (2 : Int)] : List Int).length ≤ k_7 by have h := of_decide_eq_false h; omega), law17_LanesFree_L1.eq_1] at hL1
            conv => whnf
            obtain rfl := Option.some.inj hL1
            replace hF := fin_brk hF
            try dsimp only at hF
            refine len_q (enc := iA) (l := ([(3 : Int), (1 : Int), (2 : Int)] : List Int)) rfl ?_
            conv => whnf
            obtain ⟨l_12, h_l_12, hF⟩ := bind_some hF
            refine mk_r h_l_12 (by decide) ?_
            conv => whnf
            obtain ⟨c_2, hc_2, hF⟩ := fin_some hF
            refine sw_br 0 (sz := 1) (xs := ([(3 : Int), (1 : Int), (2 : Int)] : List Int).map iA) (by (conv => lhs; whnf); all_goals rfl) (fun hb => ?_)
            have hbd_k_17 : ([(3 : Int), (1 : Int), (2 : Int)] : List Int).length ≤ 9223372036854775807 := bnd_len (enc := iA) (hb)
            refine sw_loop tab_ok follows_ok (fun y : Nat × Int × (List (List Stored)) × (List Bool) => y.1 ≤ ([(3 : Int), (1 : Int), (2 : Int)] : List Int).length ∧ law17_LanesFree_L2 (([(3 : Int), (1 : Int), (2 : Int)] : List Int).drop y.1) y.1 y.2.1 y.2.2.1 y.2.2.2 = some c_2) (fun y => ⟨eL [(3, .osl 0), (5, .ptr 1 0), (11, .osl 2), (12, .int .i64 (y.1 : Int))], hL [(0, .row 1 (([(3 : Int), (1 : Int), (2 : Int)] : List Int).map iA)), (1, .box [.int .i64 y.2.1, .lst 1 (y.2.2.1.map (lA 2 encStored))]), (2, .row 1 (y.2.2.2.map bA))], 3⟩) (fun y => ([(3 : Int), (1 : Int), (2 : Int)] : List Int).length - y.1) (0, i_4, a_5, l_12) ⟨Nat.zero_le _, hc_2⟩ (wk_mk [0, 1, 2] [] [] rfl ⟨argO (id := 0) (by (conv => lhs; whnf); all_goals rfl) rfl, argP (id := 1) (by (conv => lhs; whnf); all_goals rfl) rfl, argO (id := 2) (by (conv => lhs; whnf); all_goals rfl) rfl, argE (by (conv => lhs; whnf); all_goals rfl) rfl, trivial⟩ ⟨blkR (fun _ => ⟨rfl, rfl⟩) rfl rfl, boxL rfl rfl rfl ⟨(.ni _ rfl), (.ni _ rfl), trivial⟩, blk_rowsE rfl rfl (RowsA.rep _ (cellsL (c' := [.bool false]) rfl rfl ⟨.fls, trivial⟩)) (by rw [mkL_val h_l_12, List.map_replicate]; rfl), trivial⟩) ?_
            rintro ⟨k_17, i_13, a_14, a_15⟩ ⟨hk_k_17, hL1⟩
            try dsimp only at hk_k_17 hL1
            show awp _ _ _ _ _ _ ⟨eL [(3, .osl 0), (5, .ptr 1 0), (11, .osl 2), (12, .int .i64 (k_17 : Int))], hL [(0, .row 1 (([(3 : Int), (1 : Int), (2 : Int)] : List Int).map iA)), (1, .box [.int .i64 i_13, .lst 1 (a_14.map (lA 2 encStored))]), (2, .row 1 (a_15.map bA))], 3⟩
            conv => whnf
            refine len_q (enc := iA) (l := ([(3 : Int), (1 : Int), (2 : Int)] : List Int)) rfl ?_
            conv => whnf
            refine ⟨fun h => ?_, fun h => ?_⟩
            · have hlt_k_17 : k_17 < ([(3 : Int), (1 : Int), (2 : Int)] : List Int).length := by have h := of_decide_eq_true h; omega
              obtain ⟨e_18, h_e_18⟩ : ∃ y, ([(3 : Int), (1 : Int), (2 : Int)] : List Int)[k_17]? = some y := ⟨_, List.getElem?_eq_getElem hlt_k_17⟩
              rw [drop_cons h_e_18, law17_LanesFree_L2.eq_2] at hL1
              conv => whnf
              obtain ⟨c_3, hc_3, hL1⟩ := sub_some hL1
              refine sw_br 0 (sz := 1) (xs := ([(3 : Int), (1 : Int), (2 : Int)] : List Int).map iA) (by (conv => lhs; whnf); all_goals rfl) (fun hb => ?_)
              have hbd_k_21 : ([(3 : Int), (1 : Int), (2 : Int)] : List Int).length ≤ 9223372036854775807 := bnd_len (enc := iA) (hb)
              refine sw_loop tab_ok follows_ok (fun y : Nat × Int => y.1 ≤ ([(3 : Int), (1 : Int), (2 : Int)] : List Int).length ∧ law17_LanesFree_L3 a_15 (([(3 : Int), (1 : Int), (2 : Int)] : List Int).drop y.1) y.1 y.2 = some c_3) (fun y => ⟨eL [(3, .osl 0), (5, .ptr 1 0), (11, .osl 2), (12, .int .i64 (k_17 : Int)), (13, .int .i64 y.2), (14, .int .i64 (y.1 : Int))], hL [(0, .row 1 (([(3 : Int), (1 : Int), (2 : Int)] : List Int).map iA)), (1, .box [.int .i64 i_13, .lst 1 (a_14.map (lA 2 encStored))]), (2, .row 1 (a_15.map bA))], 3⟩) (fun y => ([(3 : Int), (1 : Int), (2 : Int)] : List Int).length - y.1) (0, (-1 : Int)) ⟨Nat.zero_le _, hc_3⟩ (wk_mk [0, 1, 2] [] [] rfl ⟨argO (id := 0) (by (conv => lhs; whnf); all_goals rfl) rfl, argP (id := 1) (by (conv => lhs; whnf); all_goals rfl) rfl, argO (id := 2) (by (conv => lhs; whnf); all_goals rfl) rfl, argE (by (conv => lhs; whnf); all_goals rfl) rfl, argE (by (conv => lhs; whnf); all_goals rfl) rfl, argE (by (conv => lhs; whnf); all_goals rfl) rfl, trivial⟩ ⟨blkR (fun _ => ⟨rfl, rfl⟩) rfl rfl, boxL rfl rfl rfl ⟨(.ni _ rfl), (.ni _ rfl), trivial⟩, blkR (fun _ => ⟨rfl, rfl⟩) rfl rfl, trivial⟩) ?_
              rintro ⟨k_21, i_19⟩ ⟨hk_k_21, hL2⟩
              try dsimp only at hk_k_21 hL2
              show awp _ _ _ _ _ _ ⟨eL [(3, .osl 0), (5, .ptr 1 0), (11, .osl 2), (12, .int .i64 (k_17 : Int)), (13, .int .i64 i_19), (14, .int .i64 (k_21 : Int))], hL [(0, .row 1 (([(3 : Int), (1 : Int), (2 : Int)] : List Int).map iA)), (1, .box [.int .i64 i_13, .lst 1 (a_14.map (lA 2 encStored))]), (2, .row 1 (a_15.map bA))], 3⟩
              conv => whnf
              refine len_q (enc := iA) (l := ([(3 : Int), (1 : Int), (2 : Int)] : List Int)) rfl ?_
              conv => whnf
              refine ⟨fun h => ?_, fun h => ?_⟩
              · have hlt_k_21 : k_21 < ([(3 : Int), (1 : Int), (2 : Int)] : List Int).length := by have h := of_decide_eq_true h; omega
                obtain ⟨e_22, h_e_22⟩ : ∃ y, ([(3 : Int), (1 : Int), (2 : Int)] : List Int)[k_21]? = some y := ⟨_, List.getElem?_eq_getElem hlt_k_21⟩
                rw [drop_cons h_e_22, law17_LanesFree_L3.eq_2] at hL2
                conv => whnf
                obtain ⟨e_23, h_e_23, hL2⟩ := bind_some hL2
                refine ixo_q (enc := bA) (l := a_15) h_e_23 rfl (fun m_e_23 hm_e_23 hx_e_23 => ?_)
                conv => whnf
                refine ⟨_, ix_map (enc := bA) hx_e_23, ?_⟩
                conv => whnf
                refine ⟨fun hb_188 => ?_, fun hb_188 => ?_⟩
                · replace hL2 := cond_t hb_188 hL2
                  conv => whnf
                  refine ⟨fun hb_189 => ?_, fun hb_189 => ?_⟩
                  · replace hL2 := cond_f hb_189 hL2
                    conv => whnf
                    refine ⟨k_21, rfl, by rw [List.length_map]; exact hlt_k_21, ?_⟩
                    conv => whnf
                    refine ⟨_, ix_map (enc := iA) h_e_22, ?_⟩
                    conv => whnf
                    obtain ⟨e_24, h_e_24, hL2⟩ := bind_some hL2
                    refine ixo_q (enc := iA) (l := ([(3 : Int), (1 : Int), (2 : Int)] : List Int)) h_e_24 rfl (fun m_e_24 hm_e_24 hx_e_24 => ?_)
                    conv => whnf
                    refine ⟨_, ix_map (enc := iA) hx_e_24, ?_⟩
                    conv => whnf
                    refine ⟨by kernel_rfl, ?_⟩
                    conv => whnf
                    refine ⟨fun hb_190 => ?_, fun hb_190 => ?_⟩
                    · replace hL2 := cond_t hb_190 hL2
                      conv => whnf
                      refine ⟨((k_21 + 1 : Nat) : Int), wrapE (by omega) (by omega) (by omega), ?_⟩
                      conv => whnf
                      exact ⟨(k_21 + 1, (k_21 : Int)), [0, 1, 2], [], [], ⟨hlt_k_21, hL2⟩, by show ([(3 : Int), (1 : Int), (2 : Int)] : List Int).length - (k_21 + 1) < ([(3 : Int), (1 : Int), (2 : Int)] : List Int).length - k_21; omega, wk_mk [0, 1, 2] [] [] rfl ⟨argO (id := 0) (by (conv => lhs; whnf); all_goals rfl) rfl, argP (id := 1) (by (conv => lhs; whnf); all_goals rfl) rfl, argO (id := 2) (by (conv => lhs; whnf); all_goals rfl) rfl, argE (by (conv => lhs; whnf); all_goals rfl) rfl, argE (by (conv => lhs; whnf); all_goals rfl) rfl, argE (by (conv => lhs; whnf); all_goals rfl) rfl, trivial⟩ ⟨blkR (fun _ => ⟨rfl, rfl⟩) rfl rfl, boxL rfl rfl rfl ⟨(.ni _ rfl), (.ni _ rfl), trivial⟩, blkR (fun _ => ⟨rfl, rfl⟩) rfl rfl, trivial⟩⟩
                    · replace hL2 := cond_f hb_190 hL2
                      conv => whnf
                      refine ⟨((k_21 + 1 : Nat) : Int), wrapE (by omega) (by omega) (by omega), ?_⟩
                      conv => whnf
                      exact ⟨(k_21 + 1, i_19), [0, 1, 2], [], [], ⟨hlt_k_21, hL2⟩, by show ([(3 : Int), (1 : Int), (2 : Int)] : List Int).length - (k_21 + 1) < ([(3 : Int), (1 : Int), (2 : Int)] : List Int).length - k_21; omega, wk_mk [0, 1, 2] [] [] rfl ⟨argO (id := 0) (by (conv => lhs; whnf); all_goals rfl) rfl, argP (id := 1) (by (conv => lhs; whnf); all_goals rfl) rfl, argO (id := 2) (by (conv => lhs; whnf); all_goals rfl) rfl, argE (by (conv => lhs; whnf); all_goals rfl) rfl, argE (by (conv => lhs; whnf); all_goals rfl) rfl, argE (by (conv => lhs; whnf); all_goals rfl) rfl, trivial⟩ ⟨blkR (fun _ => ⟨rfl, rfl⟩) rfl rfl, boxL rfl rfl rfl ⟨(.ni _ rfl), (.ni _ rfl), trivial⟩, blkR (fun _ => ⟨rfl, rfl⟩) rfl rfl, trivial⟩⟩
                  · replace hL2 := cond_t hb_189 hL2
                    conv => whnf
                    refine ⟨by kernel_rfl, ?_⟩
                    conv => whnf
                    refine ⟨((k_21 + 1 : Nat) : Int), wrapE (by omega) (by omega) (by omega), ?_⟩
                    conv => whnf
                    exact ⟨(k_21 + 1, (k_21 : Int)), [0, 1, 2], [], [], ⟨hlt_k_21, hL2⟩, by show ([(3 : Int), (1 : Int), (2 : Int)] : List Int).length - (k_21 + 1) < ([(3 : Int), (1 : Int), (2 : Int)] : List Int).length - k_21; omega, wk_mk [0, 1, 2] [] [] rfl ⟨argO (id := 0) (by (conv => lhs; whnf); all_goals rfl) rfl, argP (id := 1) (by (conv => lhs; whnf); all_goals rfl) rfl, argO (id := 2) (by (conv => lhs; whnf); all_goals rfl) rfl, argE (by (conv => lhs; whnf); all_goals rfl) rfl, argE (by (conv => lhs; whnf); all_goals rfl) rfl, argE (by (conv => lhs; whnf); all_goals rfl) rfl, trivial⟩ ⟨blkR (fun _ => ⟨rfl, rfl⟩) rfl rfl, boxL rfl rfl rfl ⟨(.ni _ rfl), (.ni _ rfl), trivial⟩, blkR (fun _ => ⟨rfl, rfl⟩) rfl rfl, trivial⟩⟩
                · replace hL2 := cond_f hb_188 hL2
                  conv => whnf
                  refine ⟨by kernel_rfl, ?_⟩
                  conv => whnf
                  refine ⟨((k_21 + 1 : Nat) : Int), wrapE (by omega) (by omega) (by omega), ?_⟩
                  conv => whnf
                  exact ⟨(k_21 + 1, i_19), [0, 1, 2], [], [], ⟨hlt_k_21, hL2⟩, by show ([(3 : Int), (1 : Int), (2 : Int)] : List Int).length - (k_21 + 1) < ([(3 : Int), (1 : Int), (2 : Int)] : List Int).length - k_21; omega, wk_mk [0, 1, 2] [] [] rfl ⟨argO (id := 0) (by (conv => lhs; whnf); all_goals rfl) rfl, argP (id := 1) (by (conv => lhs; whnf); all_goals rfl) rfl, argO (id := 2) (by (conv => lhs; whnf); all_goals rfl) rfl, argE (by (conv => lhs; whnf); all_goals rfl) rfl, argE (by (conv => lhs; whnf); all_goals rfl) rfl, argE (by (conv => lhs; whnf); all_goals rfl) rfl, trivial⟩ ⟨blkR (fun _ => ⟨rfl, rfl⟩) rfl rfl, boxL rfl rfl rfl ⟨(.ni _ rfl), (.ni _ rfl), trivial⟩, blkR (fun _ => ⟨rfl, rfl⟩) rfl rfl, trivial⟩⟩
              · rw [drop_nil (show ([(3 : Int), (1 : Int), (2 : Int)] : List Int).length ≤ k_21 by have h := of_decide_eq_false h; omega), law17_LanesFree_L3.eq_1] at hL2
                conv => whnf
                obtain rfl := Option.some.inj hL2
                replace hL1 := sub_brk hL1
                try dsimp only at hL1
                refine ⟨_, rfl, ?_⟩
                conv => whnf
                obtain ⟨r_27, h_r_27, hL1⟩ := bind_some hL1
                refine ⟨_, _, _, _, _, _, _, _, _, callX false [] [] 0 Try.func28 (by decide) rfl (lanes_Take_ac (⟨i_13, a_14⟩ : Lanes) (w64 ((1 : Int) + i_19)) r_27 h_r_27) rfl ⟨(argE (by (conv => lhs; whnf); all_goals rfl) rfl), (argE (by (conv => lhs; whnf); all_goals rfl) rfl), trivial⟩ rfl trivial rfl rfl rfl lend0 trivial rfl, ?_⟩
                conv => whnf
                refine ⟨fun hb_191 => ?_, fun hb_191 => ?_⟩
                · replace hL1 := cond_f hb_191 hL1
                  conv => whnf
                  refine len_q (enc := iA) (l := r_27.2.1) rfl ?_
                  conv => whnf
                  refine ⟨fun hb_192 => ?_, fun hb_192 => ?_⟩
                  · replace hL1 := cond_t hb_192 hL1
                    conv => whnf
                    obtain rfl := Option.some.inj hL1
                    replace hF := fin_ret hF
                    obtain rfl := Option.some.inj hF
                    exact ret_gz [] [] [] rfl (argFl (by (conv => lhs; whnf); all_goals rfl)) trivial
                  · replace hL1 := cond_f hb_192 hL1
                    conv => whnf
                    obtain ⟨e_28, h_e_28, hL1⟩ := bind_some hL1
                    refine ixo_q (enc := bA) (l := a_15) h_e_28 rfl (fun m_e_28 hm_e_28 hx_e_28 => ?_)
                    conv => whnf
                    refine st_q (enc := bA) (l := a_15) (x' := true) (i := i_19) hm_e_28 hx_e_28 rfl (Nat.le_of_ble_eq_true rfl) rfl ?_
                    conv => whnf
                    refine ⟨((k_17 + 1 : Nat) : Int), wrapE (by omega) (by omega) (by omega), ?_⟩
                    conv => whnf
                    exact ⟨(k_17 + 1, r_27.1.Depth, r_27.1.L, (a_15.set i_19.toNat true)), [0, 1, 2], [], [], ⟨hlt_k_17, hL1⟩, by show ([(3 : Int), (1 : Int), (2 : Int)] : List Int).length - (k_17 + 1) < ([(3 : Int), (1 : Int), (2 : Int)] : List Int).length - k_17; omega, wk_mk [0, 1, 2] [] [] rfl ⟨argO (id := 0) (by (conv => lhs; whnf); all_goals rfl) rfl, argP (id := 1) (by (conv => lhs; whnf); all_goals rfl) rfl, argO (id := 2) (by (conv => lhs; whnf); all_goals rfl) rfl, argE (by (conv => lhs; whnf); all_goals rfl) rfl, trivial⟩ ⟨blkR (fun _ => ⟨rfl, rfl⟩) rfl rfl, boxL rfl rfl rfl ⟨(.ni _ rfl), (.ni _ rfl), trivial⟩, blkR (fun _ => ⟨rfl, rfl⟩) rfl rfl, trivial⟩⟩
                · replace hL1 := cond_t hb_191 hL1
                  conv => whnf
                  obtain rfl := Option.some.inj hL1
                  replace hF := fin_ret hF
                  obtain rfl := Option.some.inj hF
                  exact ret_gz [] [] [] rfl (argFl (by (conv => lhs; whnf); all_goals rfl)) trivial
            · rw [drop_nil (show ([(3 : Int), (1 : Int), (2 : Int)] : List Int).length ≤ k_17 by have h := of_decide_eq_false h; omega), law17_LanesFree_L2.eq_1] at hL1
              conv => whnf
              obtain rfl := Option.some.inj hL1
              replace hF := fin_brk hF
              try dsimp only at hF
              obtain ⟨r_31, h_r_31, hF⟩ := bind_some hF
              refine ⟨_, _, _, _, _, _, _, _, _, callX false [] [] 0 Try.func9 (by decide) rfl (law17_awake_ac r_31 h_r_31) rfl trivial rfl trivial rfl rfl rfl lend0 trivial rfl, ?_⟩
              conv => whnf
              obtain rfl := Option.some.inj hF
              exact ret_gz [] [] [] rfl (argE (by (conv => lhs; whnf); all_goals rfl) rfl) trivial
    · replace hF := cond_t hb_184 hF
      conv => whnf
      obtain rfl := Option.some.inj hF
      exact ret_gz [] [] [] rfl (argFl (by (conv => lhs; whnf); all_goals rfl)) trivial
end Go.Proofs.Ytkefkegknacpjaa.Ex
