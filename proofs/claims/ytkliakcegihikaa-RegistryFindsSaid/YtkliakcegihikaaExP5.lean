/- The functions of the program compute what was printed; walks printed by a program. -/
import Derived.Test.YtkliakcegihikaaExF
import Derived.Test.YtkliakcegihikaaExP3
namespace Go.Proofs.Ytkliakcegihikaa.Ex
open Go.RowKit Go.Proofs.Ytkliakcegihikaa.Ax
set_option linter.unusedVariables false
set_option linter.unusedSimpArgs false
set_option maxRecDepth 100000 in
set_option maxHeartbeats 40000000 in
theorem ref06_OfPassenger_ac (x_0 : Registry) (x_1 : Flight) (x_2 : Int) (r : (List Plate)) (hF : ref06_OfPassenger x_0 x_1 x_2 = some r) : AC Try.prog 33 [.agg (encRegistry x_0), .agg (encFlight x_1), .int .i64 x_2] [] (.lst 3 (r.map encPlate)) [] := by
  refine ac_of tab_ok follows_ok Try.func33 rfl Try.ntmps33 rfl ?_
  unfold ref06_OfPassenger at hF
  conv => whnf
  obtain ⟨c_1, hc_1, hF⟩ := fin_some hF
  refine sw_bv 0 (v := .agg [.lst 25 (x_0.L.map encBag)]) (by (conv => lhs; whnf); all_goals rfl) (fun hb => ?_)
  have hbd_k_3 : x_0.L.length ≤ 9223372036854775807 := bnd_len (enc := encBag) ((bnd_at hb.cell 0 rfl))
  refine sw_loop tab_ok follows_ok (fun y : Nat × (List Plate) => y.1 ≤ x_0.L.length ∧ ref06_OfPassenger_L1 x_0 x_1 x_2 (x_0.L.drop y.1) y.1 y.2 = some c_1) (fun y => ⟨eL [(2, .int .i64 x_2), (3, .ptr 0 0), (4, .ptr 1 0), (7, .osl 2), (8, .int .i64 (y.1 : Int))], hL [(0, .box [.lst 25 (x_0.L.map encBag)]), (1, .box [.str x_1.Carrier, .int .i64 x_1.Number, .str x_1.Suffix, .int .i64 x_1.Day]), (2, .row 3 (y.2.map encPlate))], 3⟩) (fun y => x_0.L.length - y.1) (0, ([] : List Plate)) ⟨Nat.zero_le _, hc_1⟩ (wk_mk [0, 1] [2] [] rfl ⟨argE (by (conv => lhs; whnf); all_goals rfl) rfl, argP (id := 0) (by (conv => lhs; whnf); all_goals rfl) rfl, argP (id := 1) (by (conv => lhs; whnf); all_goals rfl) rfl, argZ (by (conv => lhs; whnf); all_goals rfl) rfl, argE (by (conv => lhs; whnf); all_goals rfl) rfl, trivial⟩ ⟨boxL rfl rfl rfl ⟨(.ni _ rfl), trivial⟩, boxL rfl rfl rfl ⟨(.ni _ rfl), (.ni _ rfl), (.ni _ rfl), (.ni _ rfl), trivial⟩, blkZ rfl, trivial⟩) ?_
  rintro ⟨k_3, a_1⟩ ⟨hk_k_3, hL1⟩
  try dsimp only at hk_k_3 hL1
  show awp _ _ _ _ _ _ ⟨eL [(2, .int .i64 x_2), (3, .ptr 0 0), (4, .ptr 1 0), (7, .osl 2), (8, .int .i64 (k_3 : Int))], hL [(0, .box [.lst 25 (x_0.L.map encBag)]), (1, .box [.str x_1.Carrier, .int .i64 x_1.Number, .str x_1.Suffix, .int .i64 x_1.Day]), (2, .row 3 (a_1.map encPlate))], 3⟩
  conv => whnf
  refine len_q (enc := encBag) (l := x_0.L) rfl ?_
  conv => whnf
  refine ⟨fun h => ?_, fun h => ?_⟩
  · have hlt_k_3 : k_3 < x_0.L.length := by have h := of_decide_eq_true h; omega
    obtain ⟨e_4, h_e_4⟩ : ∃ y, x_0.L[k_3]? = some y := ⟨_, List.getElem?_eq_getElem hlt_k_3⟩
    rw [drop_cons h_e_4, ref06_OfPassenger_L1.eq_2] at hL1
    conv => whnf
    obtain ⟨r_5, h_r_5, hL1⟩ := bind_some hL1
    refine ⟨_, _, _, _, _, _, _, _, callX false [] [] Try.func18 (by decide) rfl (ref06_Validate_ac x_0 r_5 h_r_5) rfl ⟨(argE (by (conv => lhs; whnf); all_goals rfl) rfl), trivial⟩ rfl trivial rfl rfl rfl lend0 trivial, ?_⟩
    conv => whnf
    refine ⟨fun hb_15 => ?_, fun hb_15 => ?_⟩
    · replace hL1 := cond_t hb_15 hL1
      conv => whnf
      refine ⟨k_3, _, rfl, ix_map h_e_4, ?_⟩
      conv => whnf
      refine ⟨fun hb_16 => ?_, fun hb_16 => ?_⟩
      · replace hL1 := cond_t hb_16 hL1
        conv => whnf
        refine ⟨k_3, _, rfl, ix_map h_e_4, ?_⟩
        conv => whnf
        refine ⟨by kernel_rfl, ?_⟩
        conv => whnf
        refine ⟨fun hb_17 => ?_, fun hb_17 => ?_⟩
        · replace hL1 := cond_t hb_17 hL1
          conv => whnf
          refine ⟨k_3, _, rfl, ix_map h_e_4, ?_⟩
          conv => whnf
          obtain ⟨l_6, h_l_6, hL1⟩ := bind_some hL1
          refine ap_q (enc := encPlate) (l := a_1) (y := ([e_4.Plate] : List Plate)) h_l_6 rfl rfl (by decide) ?_
          conv => whnf
          refine ⟨((k_3 + 1 : Nat) : Int), wrapE (by omega) (by omega) (by omega), ?_⟩
          conv => whnf
          exact ⟨(k_3 + 1, l_6), [0, 1, 5], [], [], ⟨hlt_k_3, hL1⟩, by show x_0.L.length - (k_3 + 1) < x_0.L.length - k_3; omega, wk_mk [0, 1, 5] [] [] rfl ⟨argE (by (conv => lhs; whnf); all_goals rfl) rfl, argP (id := 0) (by (conv => lhs; whnf); all_goals rfl) rfl, argP (id := 1) (by (conv => lhs; whnf); all_goals rfl) rfl, argO (id := 5) (by (conv => lhs; whnf); all_goals rfl) rfl, argE (by (conv => lhs; whnf); all_goals rfl) rfl, trivial⟩ ⟨boxL rfl rfl rfl ⟨(.ni _ rfl), trivial⟩, boxL rfl rfl rfl ⟨(.ni _ rfl), (.ni _ rfl), (.ni _ rfl), (.ni _ rfl), trivial⟩, blkR (fun _ => ⟨rfl, rfl⟩) rfl rfl, trivial⟩⟩
        · replace hL1 := cond_f hb_17 hL1
          conv => whnf
          refine ⟨((k_3 + 1 : Nat) : Int), wrapE (by omega) (by omega) (by omega), ?_⟩
          conv => whnf
          exact ⟨(k_3 + 1, a_1), [0, 1, 2], [], [], ⟨hlt_k_3, hL1⟩, by show x_0.L.length - (k_3 + 1) < x_0.L.length - k_3; omega, wk_mk [0, 1, 2] [] [] rfl ⟨argE (by (conv => lhs; whnf); all_goals rfl) rfl, argP (id := 0) (by (conv => lhs; whnf); all_goals rfl) rfl, argP (id := 1) (by (conv => lhs; whnf); all_goals rfl) rfl, argO (id := 2) (by (conv => lhs; whnf); all_goals rfl) rfl, argE (by (conv => lhs; whnf); all_goals rfl) rfl, trivial⟩ ⟨boxL rfl rfl rfl ⟨(.ni _ rfl), trivial⟩, boxL rfl rfl rfl ⟨(.ni _ rfl), (.ni _ rfl), (.ni _ rfl), (.ni _ rfl), trivial⟩, blkR (fun _ => ⟨rfl, rfl⟩) rfl rfl, trivial⟩⟩
      · replace hL1 := cond_f hb_16 hL1
        conv => whnf
        refine ⟨by kernel_rfl, ?_⟩
        conv => whnf
        refine ⟨((k_3 + 1 : Nat) : Int), wrapE (by omega) (by omega) (by omega), ?_⟩
        conv => whnf
        exact ⟨(k_3 + 1, a_1), [0, 1, 2], [], [], ⟨hlt_k_3, hL1⟩, by show x_0.L.length - (k_3 + 1) < x_0.L.length - k_3; omega, wk_mk [0, 1, 2] [] [] rfl ⟨argE (by (conv => lhs; whnf); all_goals rfl) rfl, argP (id := 0) (by (conv => lhs; whnf); all_goals rfl) rfl, argP (id := 1) (by (conv => lhs; whnf); all_goals rfl) rfl, argO (id := 2) (by (conv => lhs; whnf); all_goals rfl) rfl, argE (by (conv => lhs; whnf); all_goals rfl) rfl, trivial⟩ ⟨boxL rfl rfl rfl ⟨(.ni _ rfl), trivial⟩, boxL rfl rfl rfl ⟨(.ni _ rfl), (.ni _ rfl), (.ni _ rfl), (.ni _ rfl), trivial⟩, blkR (fun _ => ⟨rfl, rfl⟩) rfl rfl, trivial⟩⟩
    · replace hL1 := cond_f hb_15 hL1
      conv => whnf
      obtain rfl := Option.some.inj hL1
      replace hF := fin_brk hF
      try dsimp only at hF
      obtain rfl := Option.some.inj hF
      exact ret_gz [] [] [2] rfl (argOL 2 (by (conv => lhs; whnf); all_goals rfl) rfl rfl (map_ni (fun _ => ⟨rfl, rfl⟩) _)) trivial
  · rw [drop_nil (show x_0.L.length ≤ k_3 by have h := of_decide_eq_false h; omega), ref06_OfPassenger_L1.eq_1] at hL1
    conv => whnf
    obtain rfl := Option.some.inj hL1
    replace hF := fin_brk hF
    try dsimp only at hF
    obtain rfl := Option.some.inj hF
    exact ret_gz [] [] [2] rfl (argOL 2 (by (conv => lhs; whnf); all_goals rfl) rfl rfl (map_ni (fun _ => ⟨rfl, rfl⟩) _)) trivial
end Go.Proofs.Ytkliakcegihikaa.Ex
