/- The functions of the program compute what was printed; walks printed by a program. -/
import Derived.Test.YtajmhegkkbnkcaaExF
import Derived.Test.YtajmhegkkbnkcaaExP1
import Derived.Test.YtajmhegkkbnkcaaExP2
namespace Go.Proofs.Ytajmhegkkbnkcaa.Ex
open Go.RowKit Go.Proofs.Ytajmhegkkbnkcaa.Ax
set_option linter.unusedVariables false
set_option linter.unusedSimpArgs false
set_option maxRecDepth 100000 in
set_option maxHeartbeats 40000000 in
theorem law25_spoilt_v0 (x_0 : Src) (x_1 : (List Manifest)) (r : (List Manifest) × Src) (hv_ : ∀ (z : List Manifest) (r1 r2 : Int × Src), law25_spoilt_L1 x_1 0 ([] : List Manifest) = some (Ctl.brk z) → ((z.length : Int) == (0 : Int)) = false → keep_Src_N x_0 (z.length : Int) = some r1 → keep_Src_N r1.2 (6 : Int) = some r2 → (r2.1 == (1 : Int)) = false ∧ (r2.1 == (2 : Int)) = false) (hF : law25_spoilt x_0 x_1 = some r) : AC Try.prog 13 [.ptr 0 0, .lst 7 (x_1.map encManifest)] [.box (encSrc x_0)] (.lst 7 (r.1.map encManifest)) [.box (encSrc r.2)] := by
  refine ac_of tab_ok follows_ok Try.func13 rfl Try.ntmps13 rfl ?_
  unfold law25_spoilt at hF
  conv => whnf
  refine len_q (enc := encManifest) (l := x_1) rfl ?_
  conv => whnf
  obtain ⟨c_1, hc_1, hF⟩ := fin_some hF
  refine sw_bv 1 (v := .lst 7 (x_1.map encManifest)) (by (conv => lhs; whnf); all_goals rfl) (fun hb => ?_)
  have hbd_k_3 : x_1.length ≤ 9223372036854775807 := bnd_len (enc := encManifest) (hb)
  refine sw_loop tab_ok follows_ok (fun y : Nat × (List Manifest) => y.1 ≤ x_1.length ∧ law25_spoilt_L1 (x_1.drop y.1) y.1 y.2 = some c_1) (fun y => ⟨eL [(0, .ptr 0 0), (1, .lst 7 (x_1.map encManifest)), (5, .osl 1), (9, .int .i64 (x_1.length : Int)), (10, .int .i64 (y.1 : Int))], hL [(0, .box [.lst 1 (x_0.L.map iA), .int .i64 x_0.At]), (1, .row 7 (y.2.map encManifest))], 2⟩) (fun y => x_1.length - y.1) (0, ([] : List Manifest)) ⟨Nat.zero_le _, hc_1⟩ (wk_mk [0] [1] [] rfl ⟨argP (id := 0) (by (conv => lhs; whnf); all_goals rfl) rfl, argE (by (conv => lhs; whnf); all_goals rfl) rfl, argZ (by (conv => lhs; whnf); all_goals rfl) rfl, argE (by (conv => lhs; whnf); all_goals rfl) rfl, argE (by (conv => lhs; whnf); all_goals rfl) rfl, trivial⟩ ⟨boxL rfl rfl rfl ⟨(.ni _ rfl), (.ni _ rfl), trivial⟩, blkZ rfl, trivial⟩) ?_
  rintro ⟨k_3, a_1⟩ ⟨hk_k_3, hL1⟩
  try dsimp only at hk_k_3 hL1
  show awp _ _ _ _ _ _ ⟨eL [(0, .ptr 0 0), (1, .lst 7 (x_1.map encManifest)), (5, .osl 1), (9, .int .i64 (x_1.length : Int)), (10, .int .i64 (k_3 : Int))], hL [(0, .box [.lst 1 (x_0.L.map iA), .int .i64 x_0.At]), (1, .row 7 (a_1.map encManifest))], 2⟩
  conv => whnf
  refine ⟨fun h => ?_, fun h => ?_⟩
  · have hlt_k_3 : k_3 < x_1.length := by have h := of_decide_eq_true h; omega
    obtain ⟨e_4, h_e_4⟩ : ∃ y, x_1[k_3]? = some y := ⟨_, List.getElem?_eq_getElem hlt_k_3⟩
    rw [drop_cons h_e_4, law25_spoilt_L1.eq_2] at hL1
    conv => whnf
    refine ⟨k_3, _, rfl, ix_map h_e_4, ?_⟩
    conv => whnf
    obtain ⟨r_5, h_r_5, hL1⟩ := bind_some hL1
    refine ⟨_, _, _, _, _, _, _, _, _, callX false [] [] 2 Try.func33 (by decide) rfl (ref25_Copy_v2_ac e_4 r_5 h_r_5) rfl ⟨(argE (by (conv => lhs; whnf); all_goals rfl) rfl), trivial⟩ rfl trivial rfl rfl rfl lend0 ⟨renR (fun _ => ⟨rfl, rfl⟩), renR (fun _ => ⟨rfl, rfl⟩), trivial⟩ rfl, ?_⟩
    conv => whnf
    obtain ⟨l_6, h_l_6, hL1⟩ := bind_some hL1
    refine ap_raw h_l_6 (by simp) (by simp [chunkA]) (by decide) ?_
    conv => whnf
    refine ⟨((k_3 + 1 : Nat) : Int), wrapE (by omega) (by omega) (by omega), ?_⟩
    conv => whnf
    exact ⟨(k_3 + 1, l_6), [0, 6], [], [2, 3], ⟨hlt_k_3, hL1⟩, by show x_1.length - (k_3 + 1) < x_1.length - k_3; omega, wk_mk [0, 6] [] [2, 3] rfl ⟨argP (id := 0) (by (conv => lhs; whnf); all_goals rfl) rfl, argE (by (conv => lhs; whnf); all_goals rfl) rfl, argO (id := 6) (by (conv => lhs; whnf); all_goals rfl) rfl, argE (by (conv => lhs; whnf); all_goals rfl) rfl, argE (by (conv => lhs; whnf); all_goals rfl) rfl, trivial⟩ ⟨boxL rfl rfl rfl ⟨(.ni _ rfl), (.ni _ rfl), trivial⟩, blk_rowsE rfl rfl (RowsA.app (RowsA.ni (map_ok (fun _ => ⟨rfl, rfl⟩) _)) (cellsL (c' := [.str r_5.Flight.Carrier, .int .i64 r_5.Flight.Number, .str r_5.Flight.Suffix, .int .i64 r_5.Flight.Day, .int .i64 r_5.Version, .lst 1 (r_5.Boarded.map iA), .lst 1 (r_5.Ever.map iA)]) rfl rfl ⟨(.ni _ rfl), (.ni _ rfl), (.ni _ rfl), (.ni _ rfl), (.ni _ rfl), (.osl 2 1 _ (by simp) rfl (map_ni (fun _ => ⟨rfl, rfl⟩) _)), (.osl 3 1 _ (by simp) rfl (map_ni (fun _ => ⟨rfl, rfl⟩) _)), trivial⟩)) (by rw [(apL_some h_l_6).2, List.map_append]; rfl), trivial⟩⟩
  · rw [drop_nil (show x_1.length ≤ k_3 by have h := of_decide_eq_false h; omega), law25_spoilt_L1.eq_1] at hL1
    conv => whnf
    obtain rfl := Option.some.inj hL1
    replace hF := fin_brk hF
    try dsimp only at hF
    refine len_q (enc := encManifest) (l := a_1) rfl ?_
    conv => whnf
    refine ⟨fun hb_9 => ?_, fun hb_9 => ?_⟩
    · replace hF := cond_t hb_9 hF
      conv => whnf
      obtain ⟨l_9, h_l_9, hF⟩ := bind_some hF
      refine ap_raw h_l_9 (by simp) (by simp [chunkA]) (by decide) ?_
      conv => whnf
      obtain rfl := Option.some.inj hF
      exact ret_gz [0] [] [3] rfl (argOR 3 (by (conv => lhs; whnf); all_goals rfl) rfl rfl (RowsA.app (RowsA.ni (map_ok (fun _ => ⟨rfl, rfl⟩) _)) (cellsL (c' := [.str (⟨#[]⟩ : ByteArray), .int .i64 (0 : Int), .str (⟨#[]⟩ : ByteArray), .int .i64 (0 : Int), .int .i64 (0 : Int), .lst 1 (([] : List Int).map iA), .lst 1 (([] : List Int).map iA)]) rfl rfl ⟨(.ni _ rfl), (.ni _ rfl), (.ni _ rfl), (.ni _ rfl), (.ni _ rfl), (.nils _), (.nils _), trivial⟩)) (by rw [(apL_some h_l_9).2, List.map_append]; rfl) (map_ni (fun _ => ⟨rfl, rfl⟩) _)) ⟨boxL rfl rfl rfl ⟨(.ni _ rfl), (.ni _ rfl), trivial⟩, trivial⟩
    · replace hF := cond_f hb_9 hF
      conv => whnf
      refine len_q (enc := encManifest) (l := a_1) rfl ?_
      conv => whnf
      obtain ⟨r_10, h_r_10, hF⟩ := bind_some hF
      refine ⟨_, _, _, _, _, _, _, _, _, callX false [0] [] 0 Try.func16 (by decide) rfl (keep_Src_N_ac x_0 (a_1.length : Int) r_10 h_r_10) rfl ⟨(argP (id := 0) (by (conv => lhs; whnf); all_goals rfl) rfl), (argE (by (conv => lhs; whnf); all_goals rfl) rfl), trivial⟩ rfl ⟨rfl, trivial⟩ rfl rfl rfl lend0 ⟨rfl, trivial⟩ rfl, ?_⟩
      conv => whnf
      obtain ⟨r_11, h_r_11, hF⟩ := bind_some hF
      refine ⟨_, _, _, _, _, _, _, _, _, callX false [0] [] 0 Try.func16 (by decide) rfl (keep_Src_N_ac r_10.2 (6 : Int) r_11 h_r_11) rfl ⟨(argP (id := 0) (by (conv => lhs; whnf); all_goals rfl) rfl), (argE (by (conv => lhs; whnf); all_goals rfl) rfl), trivial⟩ rfl ⟨rfl, trivial⟩ rfl rfl rfl lend0 ⟨rfl, trivial⟩ rfl, ?_⟩
      conv => whnf
      refine ⟨fun hb_10 => ?_, fun hb_10 => ?_⟩
      · replace hF := cond_t hb_10 hF
        conv => whnf
        obtain ⟨r_12, h_r_12, hF⟩ := bind_some hF
        refine ⟨_, _, _, _, _, _, _, _, _, callX true [0] [4] 0 Try.func23 (by decide) rfl (keep_Src_Pick_ac r_11.2 ([(0 : Int), (9999 : Int), (10000 : Int)] : List Int) r_12 h_r_12) rfl ⟨(argP (id := 0) (by (conv => lhs; whnf); all_goals rfl) rfl), (argOL 4 (by (conv => lhs; whnf); all_goals rfl) rfl rfl (map_ni (fun _ => ⟨rfl, rfl⟩) _)), trivial⟩ rfl ⟨rfl, trivial⟩ rfl rfl rfl giveU ⟨rfl, trivial⟩ rfl, ?_⟩
        conv => whnf
        obtain ⟨e_13, h_e_13, hF⟩ := bind_some hF
        refine ixo_q (enc := encManifest) (l := a_1) h_e_13 rfl (fun m_e_13 hm_e_13 hx_e_13 => ?_)
        conv => whnf
        refine st_q (enc := encManifest) (l := a_1) (x' := (⟨e_13.Flight, r_12.1, e_13.Boarded, e_13.Ever⟩ : Manifest)) (i := r_10.1) hm_e_13 hx_e_13 rfl (Nat.le_of_ble_eq_true rfl) rfl ?_
        conv => whnf
        obtain rfl := Option.some.inj hF
        exact ret_gz [0] [] [1] rfl (argOL 1 (by (conv => lhs; whnf); all_goals rfl) rfl rfl (map_ni (fun _ => ⟨rfl, rfl⟩) _)) ⟨boxL rfl rfl rfl ⟨(.ni _ rfl), (.ni _ rfl), trivial⟩, trivial⟩
      · replace hF := cond_f hb_10 hF
        conv => whnf
        refine ⟨fun h => ?_, fun h => ?_⟩
        · cases ((hv_ _ _ _ hc_1 hb_9 h_r_10 h_r_11).1).symm.trans h
        · replace hF := cond_f ((hv_ _ _ _ hc_1 hb_9 h_r_10 h_r_11).1) hF
          conv => whnf
          refine ⟨fun h => ?_, fun h => ?_⟩
          · cases ((hv_ _ _ _ hc_1 hb_9 h_r_10 h_r_11).2).symm.trans h
          · replace hF := cond_f ((hv_ _ _ _ hc_1 hb_9 h_r_10 h_r_11).2) hF
            conv => whnf
            refine ⟨fun hb_11 => ?_, fun hb_11 => ?_⟩
            · replace hF := cond_t hb_11 hF
              conv => whnf
              obtain ⟨e_22, h_e_22, hF⟩ := bind_some hF
              refine ixo_q (enc := encManifest) (l := a_1) h_e_22 rfl (fun m_e_22 hm_e_22 hx_e_22 => ?_)
              conv => whnf
              refine ⟨_, ix_map (enc := encManifest) hx_e_22, ?_⟩
              conv => whnf
              obtain ⟨e_23, h_e_23, hF⟩ := bind_some hF
              refine ixo_q (enc := encManifest) (l := a_1) h_e_23 rfl (fun m_e_23 hm_e_23 hx_e_23 => ?_)
              conv => whnf
              refine st_q (enc := encManifest) (l := a_1) (x' := (⟨e_22.Flight, e_23.Version, e_23.Boarded, e_23.Ever⟩ : Manifest)) (i := r_10.1) hm_e_23 hx_e_23 rfl (Nat.le_of_ble_eq_true rfl) rfl ?_
              conv => whnf
              obtain rfl := Option.some.inj hF
              exact ret_gz [0] [] [1] rfl (argOL 1 (by (conv => lhs; whnf); all_goals rfl) rfl rfl (map_ni (fun _ => ⟨rfl, rfl⟩) _)) ⟨boxL rfl rfl rfl ⟨(.ni _ rfl), (.ni _ rfl), trivial⟩, trivial⟩
            · replace hF := cond_f hb_11 hF
              conv => whnf
              refine ⟨fun hb_12 => ?_, fun hb_12 => ?_⟩
              · replace hF := cond_t hb_12 hF
                conv => whnf
                obtain ⟨e_24, h_e_24, hF⟩ := bind_some hF
                refine ixo_q (enc := encManifest) (l := a_1) h_e_24 rfl (fun m_e_24 hm_e_24 hx_e_24 => ?_)
                conv => whnf
                refine ⟨_, ix_map (enc := encManifest) hx_e_24, ?_⟩
                conv => whnf
                obtain ⟨e_25, h_e_25, hF⟩ := bind_some hF
                refine ixo_q (enc := encManifest) (l := a_1) h_e_25 rfl (fun m_e_25 hm_e_25 hx_e_25 => ?_)
                conv => whnf
                refine ⟨_, ix_map (enc := encManifest) hx_e_25, ?_⟩
                conv => whnf
                obtain ⟨e_26, h_e_26, hF⟩ := bind_some hF
                refine ixo_q (enc := encManifest) (l := a_1) h_e_26 rfl (fun m_e_26 hm_e_26 hx_e_26 => ?_)
                conv => whnf
                refine st_q (enc := encManifest) (l := a_1) (x' := e_24) (i := r_10.1) hm_e_26 hx_e_26 rfl (Nat.le_of_ble_eq_true rfl) rfl ?_
                conv => whnf
                obtain ⟨e_27, h_e_27, hF⟩ := bind_some hF
                refine ixo_q (enc := encManifest) (l := (a_1.set r_10.1.toNat e_24)) h_e_27 rfl (fun m_e_27 hm_e_27 hx_e_27 => ?_)
                conv => whnf
                refine st_q (enc := encManifest) (l := (a_1.set r_10.1.toNat e_24)) (x' := e_25) (i := (0 : Int)) hm_e_27 hx_e_27 rfl (Nat.le_of_ble_eq_true rfl) rfl ?_
                conv => whnf
                refine ⟨by kernel_rfl, ?_⟩
                conv => whnf
                obtain rfl := Option.some.inj hF
                exact ret_gz [0] [] [1] rfl (argOL 1 (by (conv => lhs; whnf); all_goals rfl) rfl rfl (map_ni (fun _ => ⟨rfl, rfl⟩) _)) ⟨boxL rfl rfl rfl ⟨(.ni _ rfl), (.ni _ rfl), trivial⟩, trivial⟩
              · replace hF := cond_f hb_12 hF
                conv => whnf
                obtain ⟨e_28, h_e_28, hF⟩ := bind_some hF
                refine ixo_q (enc := encManifest) (l := a_1) h_e_28 rfl (fun m_e_28 hm_e_28 hx_e_28 => ?_)
                conv => whnf
                refine st_q (enc := encManifest) (l := a_1) (x' := (⟨(⟨e_28.Flight.Carrier, e_28.Flight.Number, e_28.Flight.Suffix, (-1 : Int)⟩ : Flight), e_28.Version, e_28.Boarded, e_28.Ever⟩ : Manifest)) (i := r_10.1) hm_e_28 hx_e_28 rfl (Nat.le_of_ble_eq_true rfl) rfl ?_
                conv => whnf
                obtain rfl := Option.some.inj hF
                exact ret_gz [0] [] [1] rfl (argOL 1 (by (conv => lhs; whnf); all_goals rfl) rfl rfl (map_ni (fun _ => ⟨rfl, rfl⟩) _)) ⟨boxL rfl rfl rfl ⟨(.ni _ rfl), (.ni _ rfl), trivial⟩, trivial⟩

set_option maxRecDepth 100000 in
set_option maxHeartbeats 40000000 in
theorem law25_spoilt_v1 (x_0 : Src) (x_1 : (List Manifest)) (r : (List Manifest) × Src) (n_0 : Nat) (hl_ : ∀ z : List Manifest, law25_spoilt_L1 x_1 0 ([] : List Manifest) = some (Ctl.brk z) → n_0 < z.length) (hv_ : ∀ (z : List Manifest) (r1 r2 : Int × Src), law25_spoilt_L1 x_1 0 ([] : List Manifest) = some (Ctl.brk z) → ((z.length : Int) == (0 : Int)) = false → keep_Src_N x_0 (z.length : Int) = some r1 → keep_Src_N r1.2 (6 : Int) = some r2 → r1.1 = (n_0 : Int) ∧ (r2.1 == (1 : Int)) = true) (hF : law25_spoilt x_0 x_1 = some r) : AC Try.prog 13 [.ptr 0 0, .lst 7 (x_1.map encManifest)] [.box (encSrc x_0)] (.lst 7 (r.1.map encManifest)) [.box (encSrc r.2)] := by
  refine ac_of tab_ok follows_ok Try.func13 rfl Try.ntmps13 rfl ?_
  unfold law25_spoilt at hF
  conv => whnf
  refine len_q (enc := encManifest) (l := x_1) rfl ?_
  conv => whnf
  obtain ⟨c_1, hc_1, hF⟩ := fin_some hF
  have hfn_ : ∀ z, c_1 = Ctl.brk z → n_0 < z.length := by intro z hz; exact hl_ z (by rw [← hz]; exact hc_1)
  refine sw_bv 1 (v := .lst 7 (x_1.map encManifest)) (by (conv => lhs; whnf); all_goals rfl) (fun hb => ?_)
  have hbd_k_3 : x_1.length ≤ 9223372036854775807 := bnd_len (enc := encManifest) (hb)
  refine sw_loop tab_ok follows_ok (fun y : (Nat × (List Manifest)) ⊕ (Nat × (List Manifest) × Manifest × (List Manifest)) => match y with | .inl y => (y.1 ≤ x_1.length ∧ law25_spoilt_L1 (x_1.drop y.1) y.1 y.2 = some c_1) ∧ y.2.length ≤ n_0 | .inr y => (y.1 ≤ x_1.length ∧ law25_spoilt_L1 (x_1.drop y.1) y.1 (y.2.1 ++ y.2.2.1 :: y.2.2.2) = some c_1) ∧ y.2.1.length = n_0) (fun y : (Nat × (List Manifest)) ⊕ (Nat × (List Manifest) × Manifest × (List Manifest)) => match y with | .inl y => ⟨eL [(0, .ptr 0 0), (1, .lst 7 (x_1.map encManifest)), (5, .osl 1), (9, .int .i64 (x_1.length : Int)), (10, .int .i64 (y.1 : Int))], hL [(0, .box [.lst 1 (x_0.L.map iA), .int .i64 x_0.At]), (1, .row 7 (y.2.map encManifest))], 2⟩ | .inr y => ⟨eL [(0, .ptr 0 0), (1, .lst 7 (x_1.map encManifest)), (5, .osl 1), (9, .int .i64 (x_1.length : Int)), (10, .int .i64 (y.1 : Int))], hL [(0, .box [.lst 1 (x_0.L.map iA), .int .i64 x_0.At]), (1, .row 7 (focR encManifest y.2.1 [.str y.2.2.1.Flight.Carrier, .int .i64 y.2.2.1.Flight.Number, .str y.2.2.1.Flight.Suffix, .int .i64 y.2.2.1.Flight.Day, .int .i64 y.2.2.1.Version, .osl 2, .lst 1 (y.2.2.1.Ever.map iA)] y.2.2.2)), (2, .row 1 (y.2.2.1.Boarded.map iA))], 3⟩) (fun y : (Nat × (List Manifest)) ⊕ (Nat × (List Manifest) × Manifest × (List Manifest)) => match y with | .inl y => x_1.length - y.1 | .inr y => x_1.length - y.1) (.inl (0, ([] : List Manifest))) ⟨⟨Nat.zero_le _, hc_1⟩, Nat.zero_le _⟩ (wkS (σ1 := ⟨eL [(0, .ptr 0 0), (1, .lst 7 (x_1.map encManifest)), (5, .osl 1), (9, .int .i64 (x_1.length : Int)), (10, .int .i64 (0 : Int))], hL [(0, .box [.lst 1 (x_0.L.map iA), .int .i64 x_0.At]), (1, .row 7 (([] : List Manifest).map encManifest))], 2⟩) rfl (wk_mk [0] [1] [] rfl ⟨argP (id := 0) (by (conv => lhs; whnf); all_goals rfl) rfl, argE (by (conv => lhs; whnf); all_goals rfl) rfl, argZ (by (conv => lhs; whnf); all_goals rfl) rfl, argE (by (conv => lhs; whnf); all_goals rfl) rfl, argE (by (conv => lhs; whnf); all_goals rfl) rfl, trivial⟩ ⟨boxL rfl rfl rfl ⟨(.ni _ rfl), (.ni _ rfl), trivial⟩, blkZ rfl, trivial⟩)) ?_
  rintro (⟨k_3, a_1⟩ | ⟨k_3, p_29, g_30, q_31⟩) ⟨⟨hk_k_3, hL1⟩, hp_p_29⟩
  · try dsimp only at hk_k_3 hL1 hp_p_29
    show awp _ _ _ _ _ _ ⟨eL [(0, .ptr 0 0), (1, .lst 7 (x_1.map encManifest)), (5, .osl 1), (9, .int .i64 (x_1.length : Int)), (10, .int .i64 (k_3 : Int))], hL [(0, .box [.lst 1 (x_0.L.map iA), .int .i64 x_0.At]), (1, .row 7 (a_1.map encManifest))], 2⟩
    conv => whnf
    refine ⟨fun h => ?_, fun h => ?_⟩
    · have hlt_k_3 : k_3 < x_1.length := by have h := of_decide_eq_true h; omega
      obtain ⟨e_4, h_e_4⟩ : ∃ y, x_1[k_3]? = some y := ⟨_, List.getElem?_eq_getElem hlt_k_3⟩
      rw [drop_cons h_e_4, law25_spoilt_L1.eq_2] at hL1
      conv => whnf
      refine ⟨k_3, _, rfl, ix_map h_e_4, ?_⟩
      conv => whnf
      obtain ⟨r_5, h_r_5, hL1⟩ := bind_some hL1
      refine ⟨_, _, _, _, _, _, _, _, _, callX false [] [] 2 Try.func33 (by decide) rfl (ref25_Copy_v2_ac e_4 r_5 h_r_5) rfl ⟨(argE (by (conv => lhs; whnf); all_goals rfl) rfl), trivial⟩ rfl trivial rfl rfl rfl lend0 ⟨renR (fun _ => ⟨rfl, rfl⟩), renR (fun _ => ⟨rfl, rfl⟩), trivial⟩ rfl, ?_⟩
      conv => whnf
      obtain ⟨l_6, h_l_6, hL1⟩ := bind_some hL1
      refine ap_raw h_l_6 (by simp) (by simp [chunkA]) (by decide) ?_
      conv => whnf
      refine ⟨((k_3 + 1 : Nat) : Int), wrapE (by omega) (by omega) (by omega), ?_⟩
      conv => whnf
      rcases Nat.lt_or_ge a_1.length n_0 with hlt_ | hge_
      · exact ⟨.inl (k_3 + 1, l_6), [0, 6], [], [2, 3], ⟨⟨hlt_k_3, hL1⟩, foc_ap1 h_l_6 hlt_⟩, by show x_1.length - (k_3 + 1) < x_1.length - k_3; omega, wkS (σ1 := ⟨eL [(0, .ptr 0 0), (1, .lst 7 (x_1.map encManifest)), (5, .osl 1), (9, .int .i64 (x_1.length : Int)), (10, .int .i64 ((k_3 + 1) : Int))], hL [(0, .box [.lst 1 (x_0.L.map iA), .int .i64 x_0.At]), (1, .row 7 (l_6.map encManifest))], 2⟩) rfl (wk_mk [0, 6] [] [2, 3] rfl ⟨argP (id := 0) (by (conv => lhs; whnf); all_goals rfl) rfl, argE (by (conv => lhs; whnf); all_goals rfl) rfl, argO (id := 6) (by (conv => lhs; whnf); all_goals rfl) rfl, argE (by (conv => lhs; whnf); all_goals rfl) rfl, argE (by (conv => lhs; whnf); all_goals rfl) rfl, trivial⟩ ⟨boxL rfl rfl rfl ⟨(.ni _ rfl), (.ni _ rfl), trivial⟩, blk_rowsE rfl rfl (RowsA.app (RowsA.ni (map_ok (fun _ => ⟨rfl, rfl⟩) _)) (cellsL (c' := [.str r_5.Flight.Carrier, .int .i64 r_5.Flight.Number, .str r_5.Flight.Suffix, .int .i64 r_5.Flight.Day, .int .i64 r_5.Version, .lst 1 (r_5.Boarded.map iA), .lst 1 (r_5.Ever.map iA)]) rfl rfl ⟨(.ni _ rfl), (.ni _ rfl), (.ni _ rfl), (.ni _ rfl), (.ni _ rfl), (.osl 2 1 _ (by simp) rfl (map_ni (fun _ => ⟨rfl, rfl⟩) _)), (.osl 3 1 _ (by simp) rfl (map_ni (fun _ => ⟨rfl, rfl⟩) _)), trivial⟩)) (by rw [(apL_some h_l_6).2, List.map_append]; rfl), trivial⟩)⟩
      · have he_ := foc_ap2 h_l_6
        subst he_
        exact ⟨.inr (k_3 + 1, a_1, r_5, []), [0, 6, 2], [], [3], ⟨⟨hlt_k_3, hL1⟩, by show a_1.length = n_0; omega⟩, by show x_1.length - (k_3 + 1) < x_1.length - k_3; omega, wkS (σ1 := ⟨eL [(0, .ptr 0 0), (1, .lst 7 (x_1.map encManifest)), (5, .osl 1), (9, .int .i64 (x_1.length : Int)), (10, .int .i64 ((k_3 + 1) : Int))], hL [(0, .box [.lst 1 (x_0.L.map iA), .int .i64 x_0.At]), (1, .row 7 (focR encManifest a_1 [.str r_5.Flight.Carrier, .int .i64 r_5.Flight.Number, .str r_5.Flight.Suffix, .int .i64 r_5.Flight.Day, .int .i64 r_5.Version, .osl 2, .lst 1 (r_5.Ever.map iA)] [])), (2, .row 1 (r_5.Boarded.map iA))], 3⟩) rfl (wk_mk [0, 6, 2] [] [3] rfl ⟨argP (id := 0) (by (conv => lhs; whnf); all_goals rfl) rfl, argE (by (conv => lhs; whnf); all_goals rfl) rfl, argO (id := 6) (by (conv => lhs; whnf); all_goals rfl) rfl, argE (by (conv => lhs; whnf); all_goals rfl) rfl, argE (by (conv => lhs; whnf); all_goals rfl) rfl, trivial⟩ ⟨boxL rfl rfl rfl ⟨(.ni _ rfl), (.ni _ rfl), trivial⟩, blk_rowsE rfl rfl (focM (enc := encManifest) (fun _ => ⟨rfl, rfl⟩) (cellsL (c' := [.str r_5.Flight.Carrier, .int .i64 r_5.Flight.Number, .str r_5.Flight.Suffix, .int .i64 r_5.Flight.Day, .int .i64 r_5.Version, .osl 2, .lst 1 (r_5.Ever.map iA)]) rfl rfl ⟨(.ni _ rfl), (.ni _ rfl), (.ni _ rfl), (.ni _ rfl), (.ni _ rfl), (.oslg 2 2 rfl), (.osl 3 1 _ (by simp) rfl (map_ni (fun _ => ⟨rfl, rfl⟩) _)), trivial⟩)) rfl, blkR (fun _ => ⟨rfl, rfl⟩) rfl rfl, trivial⟩)⟩
    · rw [drop_nil (show x_1.length ≤ k_3 by have h := of_decide_eq_false h; omega), law25_spoilt_L1.eq_1] at hL1
      conv => whnf
      obtain rfl := Option.some.inj hL1
      exact (Nat.lt_irrefl _ (Nat.lt_of_lt_of_le (hfn_ _ rfl) hp_p_29)).elim
  · try dsimp only at hk_k_3 hL1 hp_p_29
    show awp _ _ _ _ _ _ ⟨eL [(0, .ptr 0 0), (1, .lst 7 (x_1.map encManifest)), (5, .osl 1), (9, .int .i64 (x_1.length : Int)), (10, .int .i64 (k_3 : Int))], hL [(0, .box [.lst 1 (x_0.L.map iA), .int .i64 x_0.At]), (1, .row 7 (focR encManifest p_29 [.str g_30.Flight.Carrier, .int .i64 g_30.Flight.Number, .str g_30.Flight.Suffix, .int .i64 g_30.Flight.Day, .int .i64 g_30.Version, .osl 2, .lst 1 (g_30.Ever.map iA)] q_31)), (2, .row 1 (g_30.Boarded.map iA))], 3⟩
    conv => whnf
    refine ⟨fun h => ?_, fun h => ?_⟩
    · have hlt_k_3 : k_3 < x_1.length := by have h := of_decide_eq_true h; omega
      obtain ⟨e_4, h_e_4⟩ : ∃ y, x_1[k_3]? = some y := ⟨_, List.getElem?_eq_getElem hlt_k_3⟩
      rw [drop_cons h_e_4, law25_spoilt_L1.eq_2] at hL1
      conv => whnf
      refine ⟨k_3, _, rfl, ix_map h_e_4, ?_⟩
      conv => whnf
      obtain ⟨r_5, h_r_5, hL1⟩ := bind_some hL1
      refine ⟨_, _, _, _, _, _, _, _, _, callX false [] [] 2 Try.func33 (by decide) rfl (ref25_Copy_v2_ac e_4 r_5 h_r_5) rfl ⟨(argE (by (conv => lhs; whnf); all_goals rfl) rfl), trivial⟩ rfl trivial rfl rfl rfl lend0 ⟨renR (fun _ => ⟨rfl, rfl⟩), renR (fun _ => ⟨rfl, rfl⟩), trivial⟩ rfl, ?_⟩
      conv => whnf
      obtain ⟨l_6, h_l_6, hL1⟩ := bind_some hL1
      refine ap_raw h_l_6 (by rw [foc_len]; simp; omega) (by simp [chunkA]) (by decide) ?_
      conv => whnf
      refine ⟨((k_3 + 1 : Nat) : Int), wrapE (by omega) (by omega) (by omega), ?_⟩
      conv => whnf
      have he_ := foc_ap3 h_l_6
      subst he_
      exact ⟨.inr (k_3 + 1, p_29, g_30, (q_31 ++ [r_5])), [0, 7, 2], [], [3, 4], ⟨⟨hlt_k_3, hL1⟩, hp_p_29⟩, by show x_1.length - (k_3 + 1) < x_1.length - k_3; omega, wkS (σ1 := ⟨eL [(0, .ptr 0 0), (1, .lst 7 (x_1.map encManifest)), (5, .osl 1), (9, .int .i64 (x_1.length : Int)), (10, .int .i64 ((k_3 + 1) : Int))], hL [(0, .box [.lst 1 (x_0.L.map iA), .int .i64 x_0.At]), (1, .row 7 (focR encManifest p_29 [.str g_30.Flight.Carrier, .int .i64 g_30.Flight.Number, .str g_30.Flight.Suffix, .int .i64 g_30.Flight.Day, .int .i64 g_30.Version, .osl 2, .lst 1 (g_30.Ever.map iA)] (q_31 ++ [r_5]))), (2, .row 1 (g_30.Boarded.map iA))], 3⟩) rfl (wk_mk [0, 7, 2] [] [3, 4] rfl ⟨argP (id := 0) (by (conv => lhs; whnf); all_goals rfl) rfl, argE (by (conv => lhs; whnf); all_goals rfl) rfl, argO (id := 7) (by (conv => lhs; whnf); all_goals rfl) rfl, argE (by (conv => lhs; whnf); all_goals rfl) rfl, argE (by (conv => lhs; whnf); all_goals rfl) rfl, trivial⟩ ⟨boxL rfl rfl rfl ⟨(.ni _ rfl), (.ni _ rfl), trivial⟩, blk_rowsE rfl rfl (focN (enc := encManifest) (fun _ => ⟨rfl, rfl⟩) (cellsL (c' := [.str g_30.Flight.Carrier, .int .i64 g_30.Flight.Number, .str g_30.Flight.Suffix, .int .i64 g_30.Flight.Day, .int .i64 g_30.Version, .osl 2, .lst 1 (g_30.Ever.map iA)]) rfl rfl ⟨(.ni _ rfl), (.ni _ rfl), (.ni _ rfl), (.ni _ rfl), (.ni _ rfl), (.oslg 2 2 rfl), (.ni _ rfl), trivial⟩) (cellsL (c' := [.str r_5.Flight.Carrier, .int .i64 r_5.Flight.Number, .str r_5.Flight.Suffix, .int .i64 r_5.Flight.Day, .int .i64 r_5.Version, .lst 1 (r_5.Boarded.map iA), .lst 1 (r_5.Ever.map iA)]) rfl rfl ⟨(.ni _ rfl), (.ni _ rfl), (.ni _ rfl), (.ni _ rfl), (.ni _ rfl), (.osl 3 1 _ (by simp) rfl (map_ni (fun _ => ⟨rfl, rfl⟩) _)), (.osl 4 1 _ (by simp) rfl (map_ni (fun _ => ⟨rfl, rfl⟩) _)), trivial⟩) rfl) rfl, blkR (fun _ => ⟨rfl, rfl⟩) rfl rfl, trivial⟩)⟩
    · rw [drop_nil (show x_1.length ≤ k_3 by have h := of_decide_eq_false h; omega), law25_spoilt_L1.eq_1] at hL1
      conv => whnf
      obtain rfl := Option.some.inj hL1
      replace hF := fin_brk hF
      try dsimp only at hF
      refine flen_q (enc := encManifest) (l := (p_29 ++ g_30 :: q_31)) rfl rfl ?_
      conv => whnf
      refine ⟨fun h => ?_, fun h => ?_⟩
      · cases ((foc_ne (hl_ _ hc_1))).symm.trans h
      · replace hF := cond_f ((foc_ne (hl_ _ hc_1))) hF
        conv => whnf
        refine flen_q (enc := encManifest) (l := (p_29 ++ g_30 :: q_31)) rfl rfl ?_
        conv => whnf
        obtain ⟨r_10, h_r_10, hF⟩ := bind_some hF
        refine ⟨_, _, _, _, _, _, _, _, _, callX false [0] [] 0 Try.func16 (by decide) rfl (keep_Src_N_ac x_0 ((p_29 ++ g_30 :: q_31).length : Int) r_10 h_r_10) rfl ⟨(argP (id := 0) (by (conv => lhs; whnf); all_goals rfl) rfl), (argE (by (conv => lhs; whnf); all_goals rfl) rfl), trivial⟩ rfl ⟨rfl, trivial⟩ rfl rfl rfl lend0 ⟨rfl, trivial⟩ rfl, ?_⟩
        conv => whnf
        obtain ⟨r_11, h_r_11, hF⟩ := bind_some hF
        refine ⟨_, _, _, _, _, _, _, _, _, callX false [0] [] 0 Try.func16 (by decide) rfl (keep_Src_N_ac r_10.2 (6 : Int) r_11 h_r_11) rfl ⟨(argP (id := 0) (by (conv => lhs; whnf); all_goals rfl) rfl), (argE (by (conv => lhs; whnf); all_goals rfl) rfl), trivial⟩ rfl ⟨rfl, trivial⟩ rfl rfl rfl lend0 ⟨rfl, trivial⟩ rfl, ?_⟩
        conv => whnf
        refine ⟨fun h => ?_, fun h => ?_⟩
        · cases (beq_ne (c := (0 : Int)) (hv_ _ _ _ hc_1 (foc_ne (hl_ _ hc_1)) h_r_10 h_r_11).2 rfl).symm.trans h
        · replace hF := cond_f (beq_ne (c := (0 : Int)) (hv_ _ _ _ hc_1 (foc_ne (hl_ _ hc_1)) h_r_10 h_r_11).2 rfl) hF
          conv => whnf
          refine ⟨fun h => ?_, fun h => ?_⟩
          · replace hF := cond_t ((hv_ _ _ _ hc_1 (foc_ne (hl_ _ hc_1)) h_r_10 h_r_11).2) hF
            conv => whnf
            obtain ⟨e_14, h_e_14, hF⟩ := bind_some hF
            have hi_e_14 : r_10.1 = (n_0 : Int) := (hv_ _ _ _ hc_1 (foc_ne (hl_ _ hc_1)) h_r_10 h_r_11).1
            have he_e_14 := foc_ix h_e_14 hi_e_14 hp_p_29
            subst he_e_14
            refine fix_q (enc := encManifest) hp_p_29 hi_e_14 rfl ?_
            conv => whnf
            refine fld_q (enc := encManifest) hp_p_29 rfl ?_
            conv => whnf
            obtain ⟨r_15, h_r_15, hF⟩ := bind_some hF
            refine ⟨_, _, _, _, _, _, _, _, _, callX true [0] [5] 0 Try.func23 (by decide) rfl (keep_Src_Pick_ac r_11.2 ([(0 : Int), (1 : Int), (13 : Int), (999 : Int)] : List Int) r_15 h_r_15) rfl ⟨(argP (id := 0) (by (conv => lhs; whnf); all_goals rfl) rfl), (argOL 5 (by (conv => lhs; whnf); all_goals rfl) rfl rfl (map_ni (fun _ => ⟨rfl, rfl⟩) _)), trivial⟩ rfl ⟨rfl, trivial⟩ rfl rfl rfl giveU ⟨rfl, trivial⟩ rfl, ?_⟩
            conv => whnf
            obtain ⟨l_16, h_l_16, hF⟩ := bind_some hF
            refine ap_q (enc := iA) (l := g_30.Boarded) (y := ([r_15.1] : List Int)) h_l_16 rfl rfl (by decide) ?_
            conv => whnf
            obtain ⟨e_17, h_e_17, hF⟩ := bind_some hF
            have hi_e_17 : r_10.1 = (n_0 : Int) := (hv_ _ _ _ hc_1 (foc_ne (hl_ _ hc_1)) h_r_10 h_r_11).1
            have he_e_17 := foc_ix h_e_17 hi_e_17 hp_p_29
            subst he_e_17
            refine fix_q (enc := encManifest) hp_p_29 hi_e_17 rfl ?_
            conv => whnf
            refine ⟨map_ni (fun _ => ⟨rfl, rfl⟩) _, ?_⟩
            conv => whnf
            refine fst_q (enc := encManifest) (l := (p_29 ++ g_30 :: q_31)) (x' := (⟨g_30.Flight, g_30.Version, l_16, g_30.Ever⟩ : Manifest)) rfl hp_p_29 hi_e_17 rfl (Nat.le_of_ble_eq_true rfl) rfl ?_
            conv => whnf
            refine ⟨by kernel_rfl, ?_⟩
            conv => whnf
            obtain rfl := Option.some.inj hF
            exact ret_gz [0] [] [1] rfl (argOL 1 (by (conv => lhs; whnf); all_goals rfl) rfl rfl (map_ni (fun _ => ⟨rfl, rfl⟩) _)) ⟨boxL rfl rfl rfl ⟨(.ni _ rfl), (.ni _ rfl), trivial⟩, trivial⟩
          · cases ((hv_ _ _ _ hc_1 (foc_ne (hl_ _ hc_1)) h_r_10 h_r_11).2).symm.trans h

set_option maxRecDepth 100000 in
set_option maxHeartbeats 40000000 in
theorem law25_spoilt_v2 (x_0 : Src) (x_1 : (List Manifest)) (r : (List Manifest) × Src) (n_0 : Nat) (hl_ : ∀ z : List Manifest, law25_spoilt_L1 x_1 0 ([] : List Manifest) = some (Ctl.brk z) → n_0 < z.length) (hv_ : ∀ (z : List Manifest) (r1 r2 : Int × Src), law25_spoilt_L1 x_1 0 ([] : List Manifest) = some (Ctl.brk z) → ((z.length : Int) == (0 : Int)) = false → keep_Src_N x_0 (z.length : Int) = some r1 → keep_Src_N r1.2 (6 : Int) = some r2 → r1.1 = (n_0 : Int) ∧ (r2.1 == (2 : Int)) = true) (hF : law25_spoilt x_0 x_1 = some r) : AC Try.prog 13 [.ptr 0 0, .lst 7 (x_1.map encManifest)] [.box (encSrc x_0)] (.lst 7 (r.1.map encManifest)) [.box (encSrc r.2)] := by
  refine ac_of tab_ok follows_ok Try.func13 rfl Try.ntmps13 rfl ?_
  unfold law25_spoilt at hF
  conv => whnf
  refine len_q (enc := encManifest) (l := x_1) rfl ?_
  conv => whnf
  obtain ⟨c_1, hc_1, hF⟩ := fin_some hF
  have hfn_ : ∀ z, c_1 = Ctl.brk z → n_0 < z.length := by intro z hz; exact hl_ z (by rw [← hz]; exact hc_1)
  refine sw_bv 1 (v := .lst 7 (x_1.map encManifest)) (by (conv => lhs; whnf); all_goals rfl) (fun hb => ?_)
  have hbd_k_3 : x_1.length ≤ 9223372036854775807 := bnd_len (enc := encManifest) (hb)
  refine sw_loop tab_ok follows_ok (fun y : (Nat × (List Manifest)) ⊕ (Nat × (List Manifest) × Manifest × (List Manifest)) => match y with | .inl y => (y.1 ≤ x_1.length ∧ law25_spoilt_L1 (x_1.drop y.1) y.1 y.2 = some c_1) ∧ y.2.length ≤ n_0 | .inr y => (y.1 ≤ x_1.length ∧ law25_spoilt_L1 (x_1.drop y.1) y.1 (y.2.1 ++ y.2.2.1 :: y.2.2.2) = some c_1) ∧ y.2.1.length = n_0) (fun y : (Nat × (List Manifest)) ⊕ (Nat × (List Manifest) × Manifest × (List Manifest)) => match y with | .inl y => ⟨eL [(0, .ptr 0 0), (1, .lst 7 (x_1.map encManifest)), (5, .osl 1), (9, .int .i64 (x_1.length : Int)), (10, .int .i64 (y.1 : Int))], hL [(0, .box [.lst 1 (x_0.L.map iA), .int .i64 x_0.At]), (1, .row 7 (y.2.map encManifest))], 2⟩ | .inr y => ⟨eL [(0, .ptr 0 0), (1, .lst 7 (x_1.map encManifest)), (5, .osl 1), (9, .int .i64 (x_1.length : Int)), (10, .int .i64 (y.1 : Int))], hL [(0, .box [.lst 1 (x_0.L.map iA), .int .i64 x_0.At]), (1, .row 7 (focR encManifest y.2.1 [.str y.2.2.1.Flight.Carrier, .int .i64 y.2.2.1.Flight.Number, .str y.2.2.1.Flight.Suffix, .int .i64 y.2.2.1.Flight.Day, .int .i64 y.2.2.1.Version, .lst 1 (y.2.2.1.Boarded.map iA), .osl 2] y.2.2.2)), (2, .row 1 (y.2.2.1.Ever.map iA))], 3⟩) (fun y : (Nat × (List Manifest)) ⊕ (Nat × (List Manifest) × Manifest × (List Manifest)) => match y with | .inl y => x_1.length - y.1 | .inr y => x_1.length - y.1) (.inl (0, ([] : List Manifest))) ⟨⟨Nat.zero_le _, hc_1⟩, Nat.zero_le _⟩ (wkS (σ1 := ⟨eL [(0, .ptr 0 0), (1, .lst 7 (x_1.map encManifest)), (5, .osl 1), (9, .int .i64 (x_1.length : Int)), (10, .int .i64 (0 : Int))], hL [(0, .box [.lst 1 (x_0.L.map iA), .int .i64 x_0.At]), (1, .row 7 (([] : List Manifest).map encManifest))], 2⟩) rfl (wk_mk [0] [1] [] rfl ⟨argP (id := 0) (by (conv => lhs; whnf); all_goals rfl) rfl, argE (by (conv => lhs; whnf); all_goals rfl) rfl, argZ (by (conv => lhs; whnf); all_goals rfl) rfl, argE (by (conv => lhs; whnf); all_goals rfl) rfl, argE (by (conv => lhs; whnf); all_goals rfl) rfl, trivial⟩ ⟨boxL rfl rfl rfl ⟨(.ni _ rfl), (.ni _ rfl), trivial⟩, blkZ rfl, trivial⟩)) ?_
  rintro (⟨k_3, a_1⟩ | ⟨k_3, p_29, g_30, q_31⟩) ⟨⟨hk_k_3, hL1⟩, hp_p_29⟩
  · try dsimp only at hk_k_3 hL1 hp_p_29
    show awp _ _ _ _ _ _ ⟨eL [(0, .ptr 0 0), (1, .lst 7 (x_1.map encManifest)), (5, .osl 1), (9, .int .i64 (x_1.length : Int)), (10, .int .i64 (k_3 : Int))], hL [(0, .box [.lst 1 (x_0.L.map iA), .int .i64 x_0.At]), (1, .row 7 (a_1.map encManifest))], 2⟩
    conv => whnf
    refine ⟨fun h => ?_, fun h => ?_⟩
    · have hlt_k_3 : k_3 < x_1.length := by have h := of_decide_eq_true h; omega
      obtain ⟨e_4, h_e_4⟩ : ∃ y, x_1[k_3]? = some y := ⟨_, List.getElem?_eq_getElem hlt_k_3⟩
      rw [drop_cons h_e_4, law25_spoilt_L1.eq_2] at hL1
      conv => whnf
      refine ⟨k_3, _, rfl, ix_map h_e_4, ?_⟩
      conv => whnf
      obtain ⟨r_5, h_r_5, hL1⟩ := bind_some hL1
      refine ⟨_, _, _, _, _, _, _, _, _, callX false [] [] 2 Try.func33 (by decide) rfl (ref25_Copy_v2_ac e_4 r_5 h_r_5) rfl ⟨(argE (by (conv => lhs; whnf); all_goals rfl) rfl), trivial⟩ rfl trivial rfl rfl rfl lend0 ⟨renR (fun _ => ⟨rfl, rfl⟩), renR (fun _ => ⟨rfl, rfl⟩), trivial⟩ rfl, ?_⟩
      conv => whnf
      obtain ⟨l_6, h_l_6, hL1⟩ := bind_some hL1
      refine ap_raw h_l_6 (by simp) (by simp [chunkA]) (by decide) ?_
      conv => whnf
      refine ⟨((k_3 + 1 : Nat) : Int), wrapE (by omega) (by omega) (by omega), ?_⟩
      conv => whnf
      rcases Nat.lt_or_ge a_1.length n_0 with hlt_ | hge_
      · exact ⟨.inl (k_3 + 1, l_6), [0, 6], [], [2, 3], ⟨⟨hlt_k_3, hL1⟩, foc_ap1 h_l_6 hlt_⟩, by show x_1.length - (k_3 + 1) < x_1.length - k_3; omega, wkS (σ1 := ⟨eL [(0, .ptr 0 0), (1, .lst 7 (x_1.map encManifest)), (5, .osl 1), (9, .int .i64 (x_1.length : Int)), (10, .int .i64 ((k_3 + 1) : Int))], hL [(0, .box [.lst 1 (x_0.L.map iA), .int .i64 x_0.At]), (1, .row 7 (l_6.map encManifest))], 2⟩) rfl (wk_mk [0, 6] [] [2, 3] rfl ⟨argP (id := 0) (by (conv => lhs; whnf); all_goals rfl) rfl, argE (by (conv => lhs; whnf); all_goals rfl) rfl, argO (id := 6) (by (conv => lhs; whnf); all_goals rfl) rfl, argE (by (conv => lhs; whnf); all_goals rfl) rfl, argE (by (conv => lhs; whnf); all_goals rfl) rfl, trivial⟩ ⟨boxL rfl rfl rfl ⟨(.ni _ rfl), (.ni _ rfl), trivial⟩, blk_rowsE rfl rfl (RowsA.app (RowsA.ni (map_ok (fun _ => ⟨rfl, rfl⟩) _)) (cellsL (c' := [.str r_5.Flight.Carrier, .int .i64 r_5.Flight.Number, .str r_5.Flight.Suffix, .int .i64 r_5.Flight.Day, .int .i64 r_5.Version, .lst 1 (r_5.Boarded.map iA), .lst 1 (r_5.Ever.map iA)]) rfl rfl ⟨(.ni _ rfl), (.ni _ rfl), (.ni _ rfl), (.ni _ rfl), (.ni _ rfl), (.osl 2 1 _ (by simp) rfl (map_ni (fun _ => ⟨rfl, rfl⟩) _)), (.osl 3 1 _ (by simp) rfl (map_ni (fun _ => ⟨rfl, rfl⟩) _)), trivial⟩)) (by rw [(apL_some h_l_6).2, List.map_append]; rfl), trivial⟩)⟩
      · have he_ := foc_ap2 h_l_6
        subst he_
        exact ⟨.inr (k_3 + 1, a_1, r_5, []), [0, 6, 3], [], [2], ⟨⟨hlt_k_3, hL1⟩, by show a_1.length = n_0; omega⟩, by show x_1.length - (k_3 + 1) < x_1.length - k_3; omega, wkS (σ1 := ⟨eL [(0, .ptr 0 0), (1, .lst 7 (x_1.map encManifest)), (5, .osl 1), (9, .int .i64 (x_1.length : Int)), (10, .int .i64 ((k_3 + 1) : Int))], hL [(0, .box [.lst 1 (x_0.L.map iA), .int .i64 x_0.At]), (1, .row 7 (focR encManifest a_1 [.str r_5.Flight.Carrier, .int .i64 r_5.Flight.Number, .str r_5.Flight.Suffix, .int .i64 r_5.Flight.Day, .int .i64 r_5.Version, .lst 1 (r_5.Boarded.map iA), .osl 2] [])), (2, .row 1 (r_5.Ever.map iA))], 3⟩) rfl (wk_mk [0, 6, 3] [] [2] rfl ⟨argP (id := 0) (by (conv => lhs; whnf); all_goals rfl) rfl, argE (by (conv => lhs; whnf); all_goals rfl) rfl, argO (id := 6) (by (conv => lhs; whnf); all_goals rfl) rfl, argE (by (conv => lhs; whnf); all_goals rfl) rfl, argE (by (conv => lhs; whnf); all_goals rfl) rfl, trivial⟩ ⟨boxL rfl rfl rfl ⟨(.ni _ rfl), (.ni _ rfl), trivial⟩, blk_rowsE rfl rfl (focM (enc := encManifest) (fun _ => ⟨rfl, rfl⟩) (cellsL (c' := [.str r_5.Flight.Carrier, .int .i64 r_5.Flight.Number, .str r_5.Flight.Suffix, .int .i64 r_5.Flight.Day, .int .i64 r_5.Version, .lst 1 (r_5.Boarded.map iA), .osl 2]) rfl rfl ⟨(.ni _ rfl), (.ni _ rfl), (.ni _ rfl), (.ni _ rfl), (.ni _ rfl), (.osl 2 1 _ (by simp) rfl (map_ni (fun _ => ⟨rfl, rfl⟩) _)), (.oslg 3 2 rfl), trivial⟩)) rfl, blkR (fun _ => ⟨rfl, rfl⟩) rfl rfl, trivial⟩)⟩
    · rw [drop_nil (show x_1.length ≤ k_3 by have h := of_decide_eq_false h; omega), law25_spoilt_L1.eq_1] at hL1
      conv => whnf
      obtain rfl := Option.some.inj hL1
      exact (Nat.lt_irrefl _ (Nat.lt_of_lt_of_le (hfn_ _ rfl) hp_p_29)).elim
  · try dsimp only at hk_k_3 hL1 hp_p_29
    show awp _ _ _ _ _ _ ⟨eL [(0, .ptr 0 0), (1, .lst 7 (x_1.map encManifest)), (5, .osl 1), (9, .int .i64 (x_1.length : Int)), (10, .int .i64 (k_3 : Int))], hL [(0, .box [.lst 1 (x_0.L.map iA), .int .i64 x_0.At]), (1, .row 7 (focR encManifest p_29 [.str g_30.Flight.Carrier, .int .i64 g_30.Flight.Number, .str g_30.Flight.Suffix, .int .i64 g_30.Flight.Day, .int .i64 g_30.Version, .lst 1 (g_30.Boarded.map iA), .osl 2] q_31)), (2, .row 1 (g_30.Ever.map iA))], 3⟩
    conv => whnf
    refine ⟨fun h => ?_, fun h => ?_⟩
    · have hlt_k_3 : k_3 < x_1.length := by have h := of_decide_eq_true h; omega
      obtain ⟨e_4, h_e_4⟩ : ∃ y, x_1[k_3]? = some y := ⟨_, List.getElem?_eq_getElem hlt_k_3⟩
      rw [drop_cons h_e_4, law25_spoilt_L1.eq_2] at hL1
      conv => whnf
      refine ⟨k_3, _, rfl, ix_map h_e_4, ?_⟩
      conv => whnf
      obtain ⟨r_5, h_r_5, hL1⟩ := bind_some hL1
      refine ⟨_, _, _, _, _, _, _, _, _, callX false [] [] 2 Try.func33 (by decide) rfl (ref25_Copy_v2_ac e_4 r_5 h_r_5) rfl ⟨(argE (by (conv => lhs; whnf); all_goals rfl) rfl), trivial⟩ rfl trivial rfl rfl rfl lend0 ⟨renR (fun _ => ⟨rfl, rfl⟩), renR (fun _ => ⟨rfl, rfl⟩), trivial⟩ rfl, ?_⟩
      conv => whnf
      obtain ⟨l_6, h_l_6, hL1⟩ := bind_some hL1
      refine ap_raw h_l_6 (by rw [foc_len]; simp; omega) (by simp [chunkA]) (by decide) ?_
      conv => whnf
      refine ⟨((k_3 + 1 : Nat) : Int), wrapE (by omega) (by omega) (by omega), ?_⟩
      conv => whnf
      have he_ := foc_ap3 h_l_6
      subst he_
      exact ⟨.inr (k_3 + 1, p_29, g_30, (q_31 ++ [r_5])), [0, 7, 2], [], [3, 4], ⟨⟨hlt_k_3, hL1⟩, hp_p_29⟩, by show x_1.length - (k_3 + 1) < x_1.length - k_3; omega, wkS (σ1 := ⟨eL [(0, .ptr 0 0), (1, .lst 7 (x_1.map encManifest)), (5, .osl 1), (9, .int .i64 (x_1.length : Int)), (10, .int .i64 ((k_3 + 1) : Int))], hL [(0, .box [.lst 1 (x_0.L.map iA), .int .i64 x_0.At]), (1, .row 7 (focR encManifest p_29 [.str g_30.Flight.Carrier, .int .i64 g_30.Flight.Number, .str g_30.Flight.Suffix, .int .i64 g_30.Flight.Day, .int .i64 g_30.Version, .lst 1 (g_30.Boarded.map iA), .osl 2] (q_31 ++ [r_5]))), (2, .row 1 (g_30.Ever.map iA))], 3⟩) rfl (wk_mk [0, 7, 2] [] [3, 4] rfl ⟨argP (id := 0) (by (conv => lhs; whnf); all_goals rfl) rfl, argE (by (conv => lhs; whnf); all_goals rfl) rfl, argO (id := 7) (by (conv => lhs; whnf); all_goals rfl) rfl, argE (by (conv => lhs; whnf); all_goals rfl) rfl, argE (by (conv => lhs; whnf); all_goals rfl) rfl, trivial⟩ ⟨boxL rfl rfl rfl ⟨(.ni _ rfl), (.ni _ rfl), trivial⟩, blk_rowsE rfl rfl (focN (enc := encManifest) (fun _ => ⟨rfl, rfl⟩) (cellsL (c' := [.str g_30.Flight.Carrier, .int .i64 g_30.Flight.Number, .str g_30.Flight.Suffix, .int .i64 g_30.Flight.Day, .int .i64 g_30.Version, .lst 1 (g_30.Boarded.map iA), .osl 2]) rfl rfl ⟨(.ni _ rfl), (.ni _ rfl), (.ni _ rfl), (.ni _ rfl), (.ni _ rfl), (.ni _ rfl), (.oslg 2 2 rfl), trivial⟩) (cellsL (c' := [.str r_5.Flight.Carrier, .int .i64 r_5.Flight.Number, .str r_5.Flight.Suffix, .int .i64 r_5.Flight.Day, .int .i64 r_5.Version, .lst 1 (r_5.Boarded.map iA), .lst 1 (r_5.Ever.map iA)]) rfl rfl ⟨(.ni _ rfl), (.ni _ rfl), (.ni _ rfl), (.ni _ rfl), (.ni _ rfl), (.osl 3 1 _ (by simp) rfl (map_ni (fun _ => ⟨rfl, rfl⟩) _)), (.osl 4 1 _ (by simp) rfl (map_ni (fun _ => ⟨rfl, rfl⟩) _)), trivial⟩) rfl) rfl, blkR (fun _ => ⟨rfl, rfl⟩) rfl rfl, trivial⟩)⟩
    · rw [drop_nil (show x_1.length ≤ k_3 by have h := of_decide_eq_false h; omega), law25_spoilt_L1.eq_1] at hL1
      conv => whnf
      obtain rfl := Option.some.inj hL1
      replace hF := fin_brk hF
      try dsimp only at hF
      refine flen_q (enc := encManifest) (l := (p_29 ++ g_30 :: q_31)) rfl rfl ?_
      conv => whnf
      refine ⟨fun h => ?_, fun h => ?_⟩
      · cases ((foc_ne (hl_ _ hc_1))).symm.trans h
      · replace hF := cond_f ((foc_ne (hl_ _ hc_1))) hF
        conv => whnf
        refine flen_q (enc := encManifest) (l := (p_29 ++ g_30 :: q_31)) rfl rfl ?_
        conv => whnf
        obtain ⟨r_10, h_r_10, hF⟩ := bind_some hF
        refine ⟨_, _, _, _, _, _, _, _, _, callX false [0] [] 0 Try.func16 (by decide) rfl (keep_Src_N_ac x_0 ((p_29 ++ g_30 :: q_31).length : Int) r_10 h_r_10) rfl ⟨(argP (id := 0) (by (conv => lhs; whnf); all_goals rfl) rfl), (argE (by (conv => lhs; whnf); all_goals rfl) rfl), trivial⟩ rfl ⟨rfl, trivial⟩ rfl rfl rfl lend0 ⟨rfl, trivial⟩ rfl, ?_⟩
        conv => whnf
        obtain ⟨r_11, h_r_11, hF⟩ := bind_some hF
        refine ⟨_, _, _, _, _, _, _, _, _, callX false [0] [] 0 Try.func16 (by decide) rfl (keep_Src_N_ac r_10.2 (6 : Int) r_11 h_r_11) rfl ⟨(argP (id := 0) (by (conv => lhs; whnf); all_goals rfl) rfl), (argE (by (conv => lhs; whnf); all_goals rfl) rfl), trivial⟩ rfl ⟨rfl, trivial⟩ rfl rfl rfl lend0 ⟨rfl, trivial⟩ rfl, ?_⟩
        conv => whnf
        refine ⟨fun h => ?_, fun h => ?_⟩
        · cases (beq_ne (c := (0 : Int)) (hv_ _ _ _ hc_1 (foc_ne (hl_ _ hc_1)) h_r_10 h_r_11).2 rfl).symm.trans h
        · replace hF := cond_f (beq_ne (c := (0 : Int)) (hv_ _ _ _ hc_1 (foc_ne (hl_ _ hc_1)) h_r_10 h_r_11).2 rfl) hF
          conv => whnf
          refine ⟨fun h => ?_, fun h => ?_⟩
          · cases (beq_ne (c := (1 : Int)) (hv_ _ _ _ hc_1 (foc_ne (hl_ _ hc_1)) h_r_10 h_r_11).2 rfl).symm.trans h
          · replace hF := cond_f (beq_ne (c := (1 : Int)) (hv_ _ _ _ hc_1 (foc_ne (hl_ _ hc_1)) h_r_10 h_r_11).2 rfl) hF
            conv => whnf
            refine ⟨fun h => ?_, fun h => ?_⟩
            · replace hF := cond_t ((hv_ _ _ _ hc_1 (foc_ne (hl_ _ hc_1)) h_r_10 h_r_11).2) hF
              conv => whnf
              obtain ⟨e_18, h_e_18, hF⟩ := bind_some hF
              have hi_e_18 : r_10.1 = (n_0 : Int) := (hv_ _ _ _ hc_1 (foc_ne (hl_ _ hc_1)) h_r_10 h_r_11).1
              have he_e_18 := foc_ix h_e_18 hi_e_18 hp_p_29
              subst he_e_18
              refine fix_q (enc := encManifest) hp_p_29 hi_e_18 rfl ?_
              conv => whnf
              refine fld_q (enc := encManifest) hp_p_29 rfl ?_
              conv => whnf
              obtain ⟨r_19, h_r_19, hF⟩ := bind_some hF
              refine ⟨_, _, _, _, _, _, _, _, _, callX true [0] [5] 0 Try.func23 (by decide) rfl (keep_Src_Pick_ac r_11.2 ([(12 : Int), (13 : Int), (999 : Int), (1000 : Int)] : List Int) r_19 h_r_19) rfl ⟨(argP (id := 0) (by (conv => lhs; whnf); all_goals rfl) rfl), (argOL 5 (by (conv => lhs; whnf); all_goals rfl) rfl rfl (map_ni (fun _ => ⟨rfl, rfl⟩) _)), trivial⟩ rfl ⟨rfl, trivial⟩ rfl rfl rfl giveU ⟨rfl, trivial⟩ rfl, ?_⟩
              conv => whnf
              obtain ⟨l_20, h_l_20, hF⟩ := bind_some hF
              refine ap_q (enc := iA) (l := g_30.Ever) (y := ([r_19.1] : List Int)) h_l_20 rfl rfl (by decide) ?_
              conv => whnf
              obtain ⟨e_21, h_e_21, hF⟩ := bind_some hF
              have hi_e_21 : r_10.1 = (n_0 : Int) := (hv_ _ _ _ hc_1 (foc_ne (hl_ _ hc_1)) h_r_10 h_r_11).1
              have he_e_21 := foc_ix h_e_21 hi_e_21 hp_p_29
              subst he_e_21
              refine fix_q (enc := encManifest) hp_p_29 hi_e_21 rfl ?_
              conv => whnf
              refine ⟨map_ni (fun _ => ⟨rfl, rfl⟩) _, ?_⟩
              conv => whnf
              refine fst_q (enc := encManifest) (l := (p_29 ++ g_30 :: q_31)) (x' := (⟨g_30.Flight, g_30.Version, g_30.Boarded, l_20⟩ : Manifest)) rfl hp_p_29 hi_e_21 rfl (Nat.le_of_ble_eq_true rfl) rfl ?_
              conv => whnf
              refine ⟨by kernel_rfl, ?_⟩
              conv => whnf
              obtain rfl := Option.some.inj hF
              exact ret_gz [0] [] [1] rfl (argOL 1 (by (conv => lhs; whnf); all_goals rfl) rfl rfl (map_ni (fun _ => ⟨rfl, rfl⟩) _)) ⟨boxL rfl rfl rfl ⟨(.ni _ rfl), (.ni _ rfl), trivial⟩, trivial⟩
            · cases ((hv_ _ _ _ hc_1 (foc_ne (hl_ _ hc_1)) h_r_10 h_r_11).2).symm.trans h

theorem law25_spoilt_at (x_0 : Src) (x_1 : List Manifest) (r : (List Manifest) × Src) (hF : law25_spoilt x_0 x_1 = some r) (z : List Manifest) (r1 r2 : Int × Src) (h1 : law25_spoilt_L1 x_1 0 ([] : List Manifest) = some (Ctl.brk z)) (h2 : ((z.length : Int) == (0 : Int)) = false) (h3 : keep_Src_N x_0 (z.length : Int) = some r1) (h4 : keep_Src_N r1.2 (6 : Int) = some r2) (h5 : (r2.1 == (1 : Int)) = true ∨ (r2.1 == (2 : Int)) = true) : r1.1 = (r1.1.toNat : Int) ∧ r1.1.toNat < z.length := by
  have key : ∃ e, ixL z r1.1 = some e := by
    unfold law25_spoilt at hF
    rw [h1] at hF
    replace hF := fin_brk hF
    try dsimp only at hF
    replace hF := cond_f h2 hF
    obtain ⟨q1, k1, hF⟩ := bind_some hF
    rw [h3] at k1
    obtain rfl := Option.some.inj k1
    obtain ⟨q2, k2, hF⟩ := bind_some hF
    rw [h4] at k2
    obtain rfl := Option.some.inj k2
    rcases h5 with h5 | h5
    · replace hF := cond_f (beq_ne (c := (0 : Int)) h5 rfl) hF
      replace hF := cond_t h5 hF
      obtain ⟨e, h, _⟩ := bind_some hF
      exact ⟨e, h⟩
    · replace hF := cond_f (beq_ne (c := (0 : Int)) h5 rfl) hF
      replace hF := cond_f (beq_ne (c := (1 : Int)) h5 rfl) hF
      replace hF := cond_t h5 hF
      obtain ⟨e, h, _⟩ := bind_some hF
      exact ⟨e, h⟩
  obtain ⟨e, he⟩ := key
  obtain ⟨m, hm, hx⟩ := ixL_some he
  have := (List.getElem?_eq_some_iff.1 hx).1
  omega

set_option maxRecDepth 100000 in
set_option maxHeartbeats 40000000 in
theorem law25_spoilt_ac (x_0 : Src) (x_1 : (List Manifest)) (r : (List Manifest) × Src) (hF : law25_spoilt x_0 x_1 = some r) : AC Try.prog 13 [.ptr 0 0, .lst 7 (x_1.map encManifest)] [.box (encSrc x_0)] (.lst 7 (r.1.map encManifest)) [.box (encSrc r.2)] := by
  by_cases h1 : ∃ (z : List Manifest) (r1 r2 : Int × Src), law25_spoilt_L1 x_1 0 ([] : List Manifest) = some (Ctl.brk z) ∧ ((z.length : Int) == (0 : Int)) = false ∧ keep_Src_N x_0 (z.length : Int) = some r1 ∧ keep_Src_N r1.2 (6 : Int) = some r2 ∧ ((r2.1 == (1 : Int)) = true ∨ (r2.1 == (2 : Int)) = true)
  · obtain ⟨z, r1, r2, h1, h2, h3, h4, h5⟩ := h1
    obtain ⟨h6, h7⟩ := law25_spoilt_at x_0 x_1 r hF z r1 r2 h1 h2 h3 h4 h5
    have hu : ∀ (z' : List Manifest) (q1 q2 : Int × Src), law25_spoilt_L1 x_1 0 ([] : List Manifest) = some (Ctl.brk z') → keep_Src_N x_0 (z'.length : Int) = some q1 → keep_Src_N q1.2 (6 : Int) = some q2 → z' = z ∧ q1 = r1 ∧ q2 = r2 := fun z' q1 q2 k1 k2 k3 => by (have e := Option.some.inj (k1.symm.trans h1); cases e; have e := Option.some.inj (k2.symm.trans h3); subst e; have e := Option.some.inj (k3.symm.trans h4); subst e; exact ⟨rfl, rfl, rfl⟩)
    have hl : ∀ z' : List Manifest, law25_spoilt_L1 x_1 0 ([] : List Manifest) = some (Ctl.brk z') → r1.1.toNat < z'.length := fun z' k1 => by (have e := Option.some.inj (k1.symm.trans h1); cases e; exact h7)
    rcases h5 with h5 | h5
    · exact law25_spoilt_v1 x_0 x_1 r r1.1.toNat hl (fun z' q1 q2 k1 _ k3 k4 => by (obtain ⟨rfl, rfl, rfl⟩ := hu z' q1 q2 k1 k3 k4; exact ⟨h6, h5⟩)) hF
    · exact law25_spoilt_v2 x_0 x_1 r r1.1.toNat hl (fun z' q1 q2 k1 _ k3 k4 => by (obtain ⟨rfl, rfl, rfl⟩ := hu z' q1 q2 k1 k3 k4; exact ⟨h6, h5⟩)) hF
  · refine law25_spoilt_v0 x_0 x_1 r (fun z q1 q2 k1 k2 k3 k4 => ?_) hF
    constructor
    · exact Bool.eq_false_iff.2 fun h => h1 ⟨z, q1, q2, k1, k2, k3, k4, .inl h⟩
    · exact Bool.eq_false_iff.2 fun h => h1 ⟨z, q1, q2, k1, k2, k3, k4, .inr h⟩

set_option maxRecDepth 100000 in
set_option maxHeartbeats 40000000 in
theorem ref25_find_ac (x_0 : (List Manifest)) (x_1 : Flight) (r : Int) (hF : ref25_find x_0 x_1 = some r) : AC Try.prog 40 [.lst 7 (x_0.map encManifest), .agg (encFlight x_1)] [] (.int .i64 r) [] := by
  refine ac_of tab_ok follows_ok Try.func40 rfl Try.ntmps40 rfl ?_
  unfold ref25_find at hF
  conv => whnf
  obtain ⟨c_1, hc_1, hF⟩ := fin_some hF
  refine sw_bv 0 (v := .lst 7 (x_0.map encManifest)) (by (conv => lhs; whnf); all_goals rfl) (fun hb => ?_)
  have hbd_k_2 : x_0.length ≤ 9223372036854775807 := bnd_len (enc := encManifest) (hb)
  refine sw_loop tab_ok follows_ok (fun y : Nat => y ≤ x_0.length ∧ ref25_find_L1 x_1 (x_0.drop y) y = some c_1) (fun y => ⟨eL [(0, .lst 7 (x_0.map encManifest)), (3, .ptr 0 0), (5, .int .i64 (y : Int))], hL [(0, .box [.str x_1.Carrier, .int .i64 x_1.Number, .str x_1.Suffix, .int .i64 x_1.Day])], 1⟩) (fun y => x_0.length - y) 0 ⟨Nat.zero_le _, hc_1⟩ (wk_mk [0] [] [] rfl ⟨argE (by (conv => lhs; whnf); all_goals rfl) rfl, argP (id := 0) (by (conv => lhs; whnf); all_goals rfl) rfl, argE (by (conv => lhs; whnf); all_goals rfl) rfl, trivial⟩ ⟨boxL rfl rfl rfl ⟨(.ni _ rfl), (.ni _ rfl), (.ni _ rfl), (.ni _ rfl), trivial⟩, trivial⟩) ?_
  rintro k_2 ⟨hk_k_2, hL1⟩
  try dsimp only at hk_k_2 hL1
  show awp _ _ _ _ _ _ ⟨eL [(0, .lst 7 (x_0.map encManifest)), (3, .ptr 0 0), (5, .int .i64 (k_2 : Int))], hL [(0, .box [.str x_1.Carrier, .int .i64 x_1.Number, .str x_1.Suffix, .int .i64 x_1.Day])], 1⟩
  conv => whnf
  refine len_q (enc := encManifest) (l := x_0) rfl ?_
  conv => whnf
  refine ⟨fun h => ?_, fun h => ?_⟩
  · have hlt_k_2 : k_2 < x_0.length := by have h := of_decide_eq_true h; omega
    obtain ⟨e_3, h_e_3⟩ : ∃ y, x_0[k_2]? = some y := ⟨_, List.getElem?_eq_getElem hlt_k_2⟩
    rw [drop_cons h_e_3, ref25_find_L1.eq_2] at hL1
    conv => whnf
    refine ⟨k_2, _, rfl, ix_map h_e_3, ?_⟩
    conv => whnf
    refine ⟨by kernel_rfl, ?_⟩
    conv => whnf
    refine ⟨fun hb_7 => ?_, fun hb_7 => ?_⟩
    · replace hL1 := cond_t hb_7 hL1
      conv => whnf
      obtain rfl := Option.some.inj hL1
      replace hF := fin_ret hF
      obtain rfl := Option.some.inj hF
      exact ret_gz [] [] [] rfl (argE (by (conv => lhs; whnf); all_goals rfl) rfl) trivial
    · replace hL1 := cond_f hb_7 hL1
      conv => whnf
      refine ⟨((k_2 + 1 : Nat) : Int), wrapE (by omega) (by omega) (by omega), ?_⟩
      conv => whnf
      exact ⟨k_2 + 1, [0], [], [], ⟨hlt_k_2, hL1⟩, by show x_0.length - (k_2 + 1) < x_0.length - k_2; omega, wk_mk [0] [] [] rfl ⟨argE (by (conv => lhs; whnf); all_goals rfl) rfl, argP (id := 0) (by (conv => lhs; whnf); all_goals rfl) rfl, argE (by (conv => lhs; whnf); all_goals rfl) rfl, trivial⟩ ⟨boxL rfl rfl rfl ⟨(.ni _ rfl), (.ni _ rfl), (.ni _ rfl), (.ni _ rfl), trivial⟩, trivial⟩⟩
  · rw [drop_nil (show x_0.length ≤ k_2 by have h := of_decide_eq_false h; omega), ref25_find_L1.eq_1] at hL1
    conv => whnf
    obtain rfl := Option.some.inj hL1
    replace hF := fin_brk hF
    try dsimp only at hF
    obtain rfl := Option.some.inj hF
    exact ret_gz [] [] [] rfl (argE (by (conv => lhs; whnf); all_goals rfl) rfl) trivial

set_option maxRecDepth 100000 in
set_option maxHeartbeats 40000000 in
theorem ref25_Status_ac (x_0 : (List Manifest)) (x_1 : Flight) (x_2 : Int) (x_3 : Int) (r : Int) (hF : ref25_Status x_0 x_1 x_2 x_3 = some r) : AC Try.prog 19 [.lst 7 (x_0.map encManifest), .agg (encFlight x_1), .int .i64 x_2, .int .i64 x_3] [] (.int .i64 r) [] := by
  refine ac_of tab_ok follows_ok Try.func19 rfl Try.ntmps19 rfl ?_
  unfold ref25_Status at hF
  conv => whnf
  obtain ⟨r_1, h_r_1, hF⟩ := bind_some hF
  refine ⟨_, _, _, _, _, _, _, _, _, callX false [] [] 0 Try.func40 (by decide) rfl (ref25_find_ac x_0 x_1 r_1 h_r_1) rfl ⟨(argE (by (conv => lhs; whnf); all_goals rfl) rfl), (argE (by (conv => lhs; whnf); all_goals rfl) rfl), trivial⟩ rfl trivial rfl rfl rfl lend0 trivial rfl, ?_⟩
  conv => whnf
  refine ⟨fun hb_4 => ?_, fun hb_4 => ?_⟩
  · replace hF := cond_t hb_4 hF
    conv => whnf
    obtain rfl := Option.some.inj hF
    exact ret_gz [] [] [] rfl (argE (by (conv => lhs; whnf); all_goals rfl) rfl) trivial
  · replace hF := cond_f hb_4 hF
    conv => whnf
    obtain ⟨e_2, h_e_2, hF⟩ := bind_some hF
    refine ix_q (enc := encManifest) (l := x_0) h_e_2 rfl (fun m_e_2 hm_e_2 hx_e_2 => ?_)
    conv => whnf
    obtain ⟨r_3, h_r_3, hF⟩ := bind_some hF
    refine ⟨_, _, _, _, _, _, _, _, _, callX false [] [] 0 Try.func41 (by decide) rfl (ref25_in_ac e_2.Boarded x_2 r_3 h_r_3) rfl ⟨(argE (by (conv => lhs; whnf); all_goals rfl) rfl), (argE (by (conv => lhs; whnf); all_goals rfl) rfl), trivial⟩ rfl trivial rfl rfl rfl lend0 trivial rfl, ?_⟩
    conv => whnf
    refine ⟨fun hb_5 => ?_, fun hb_5 => ?_⟩
    · replace hF := cond_t hb_5 hF
      conv => whnf
      obtain rfl := Option.some.inj hF
      exact ret_gz [] [] [] rfl (argE (by (conv => lhs; whnf); all_goals rfl) rfl) trivial
    · replace hF := cond_f hb_5 hF
      conv => whnf
      obtain ⟨e_4, h_e_4, hF⟩ := bind_some hF
      refine ix_q (enc := encManifest) (l := x_0) h_e_4 rfl (fun m_e_4 hm_e_4 hx_e_4 => ?_)
      conv => whnf
      obtain ⟨r_5, h_r_5, hF⟩ := bind_some hF
      refine ⟨_, _, _, _, _, _, _, _, _, callX false [] [] 0 Try.func41 (by decide) rfl (ref25_in_ac e_4.Ever x_2 r_5 h_r_5) rfl ⟨(argE (by (conv => lhs; whnf); all_goals rfl) rfl), (argE (by (conv => lhs; whnf); all_goals rfl) rfl), trivial⟩ rfl trivial rfl rfl rfl lend0 trivial rfl, ?_⟩
      conv => whnf
      refine ⟨fun hb_6 => ?_, fun hb_6 => ?_⟩
      · replace hF := cond_t hb_6 hF
        conv => whnf
        obtain rfl := Option.some.inj hF
        exact ret_gz [] [] [] rfl (argE (by (conv => lhs; whnf); all_goals rfl) rfl) trivial
      · replace hF := cond_f hb_6 hF
        conv => whnf
        obtain rfl := Option.some.inj hF
        exact ret_gz [] [] [] rfl (argE (by (conv => lhs; whnf); all_goals rfl) rfl) trivial

set_option maxRecDepth 100000 in
set_option maxHeartbeats 40000000 in
theorem ref04_in_ac (x_0 : Int) (x_1 : Int) (x_2 : Int) (r : Bool) (hF : ref04_in x_0 x_1 x_2 = some r) : AC Try.prog 63 [.int .i64 x_0, .int .i64 x_1, .int .i64 x_2] [] (.bool r) [] := by
  refine ac_of tab_ok follows_ok Try.func63 rfl Try.ntmps63 rfl ?_
  unfold ref04_in at hF
  conv => whnf
  refine ⟨fun hb_2 => ?_, fun hb_2 => ?_⟩
  · replace hF := cond_t hb_2 hF
    conv => whnf
    obtain rfl := Option.some.inj hF
    exact ret_gz [] [] [] rfl (argE (by (conv => lhs; whnf); all_goals rfl) rfl) trivial
  · replace hF := cond_f hb_2 hF
    conv => whnf
    obtain rfl := Option.some.inj hF
    exact ret_gz [] [] [] rfl (argFl (by (conv => lhs; whnf); all_goals rfl)) trivial

set_option maxRecDepth 100000 in
set_option maxHeartbeats 40000000 in
theorem ref04_Bag_ac (x_0 : Int) (r : Bool) (hF : ref04_Bag x_0 = some r) : AC Try.prog 90 [.int .i64 x_0] [] (.bool r) [] := by
  refine ac_of tab_ok follows_ok Try.func90 rfl Try.ntmps90 rfl ?_
  unfold ref04_Bag at hF
  conv => whnf
  refine ⟨fun hb_2 => ?_, fun hb_2 => ?_⟩
  · replace hF := cond_f hb_2 hF
    conv => whnf
    obtain rfl := Option.some.inj hF
    exact ret_gz [] [] [] rfl (argE (by (conv => lhs; whnf); all_goals rfl) rfl) trivial
  · replace hF := cond_t hb_2 hF
    conv => whnf
    obtain rfl := Option.some.inj hF
    exact ret_gz [] [] [] rfl (argT (by (conv => lhs; whnf); all_goals rfl)) trivial

set_option maxRecDepth 100000 in
set_option maxHeartbeats 40000000 in
theorem ref04_own_ac (x_0 : Message) (r : Message) (hF : ref04_own x_0 = some r) : AC Try.prog 65 [.agg (encMessage x_0)] [] (.agg (encMessage r)) [] := by
  refine ac_of tab_ok follows_ok Try.func65 rfl Try.ntmps65 rfl ?_
  unfold ref04_own at hF
  conv => whnf
  obtain ⟨r_1, h_r_1, hF⟩ := bind_some hF
  refine ⟨_, _, _, _, _, _, _, _, _, callX false [] [] 0 Try.func90 (by decide) rfl (ref04_Bag_ac x_0.Kind r_1 h_r_1) rfl ⟨(argE (by (conv => lhs; whnf); all_goals rfl) rfl), trivial⟩ rfl trivial rfl rfl rfl lend0 trivial rfl, ?_⟩
  conv => whnf
  refine ⟨fun hb_8 => ?_, fun hb_8 => ?_⟩
  · replace hF := cond_t hb_8 hF
    conv => whnf
    refine ⟨fun hb_9 => ?_, fun hb_9 => ?_⟩
    · replace hF := cond_t hb_9 hF
      conv => whnf
      obtain rfl := Option.some.inj hF
      exact ret_gz [] [] [] rfl (argA (c := [.int .i64 x_0.Kind, .int .i64 x_0.Do, .str x_0.Port, .int .i64 x_0.Number, .str (⟨#[]⟩ : ByteArray), .int .i64 (0 : Int), .str (⟨#[]⟩ : ByteArray), .int .i64 (0 : Int), .str (⟨#[]⟩ : ByteArray), .str (⟨#[]⟩ : ByteArray), .str x_0.Out.Flight.Carrier, .int .i64 x_0.Out.Flight.Number, .str x_0.Out.Flight.Suffix, .int .i64 x_0.Out.Flight.Day, .str x_0.Out.Port, .str x_0.Out.Class, .lst 6 (x_0.Onward.map encLeg), .int .i64 x_0.First.Lead, .int .i64 x_0.First.Airline, .int .i64 x_0.First.Serial, .int .i64 x_0.Count, .bool x_0.Load, .int .i64 x_0.Status, .int .i64 x_0.Sequence, .int .i64 x_0.Weight, .str x_0.Surname, .str x_0.Given, .int .i64 x_0.Exception, .str (⟨#[]⟩ : ByteArray), .nils]) (by (conv => lhs; whnf); all_goals rfl) rfl ⟨(.ni _ rfl), (.ni _ rfl), (.ni _ rfl), (.ni _ rfl), (.ni _ rfl), (.ni _ rfl), (.ni _ rfl), (.ni _ rfl), (.ni _ rfl), (.ni _ rfl), (.ni _ rfl), (.ni _ rfl), (.ni _ rfl), (.ni _ rfl), (.ni _ rfl), (.ni _ rfl), (.ni _ rfl), (.ni _ rfl), (.ni _ rfl), (.ni _ rfl), (.ni _ rfl), (.ni _ rfl), (.ni _ rfl), (.ni _ rfl), (.ni _ rfl), (.ni _ rfl), (.ni _ rfl), (.ni _ rfl), (.ni _ rfl), (.nils _), trivial⟩) trivial
    · replace hF := cond_f hb_9 hF
      conv => whnf
      obtain rfl := Option.some.inj hF
      exact ret_gz [] [] [] rfl (argA (c := [.int .i64 x_0.Kind, .int .i64 x_0.Do, .str x_0.Port, .int .i64 x_0.Number, .str x_0.In.Flight.Carrier, .int .i64 x_0.In.Flight.Number, .str x_0.In.Flight.Suffix, .int .i64 x_0.In.Flight.Day, .str x_0.In.Port, .str x_0.In.Class, .str x_0.Out.Flight.Carrier, .int .i64 x_0.Out.Flight.Number, .str x_0.Out.Flight.Suffix, .int .i64 x_0.Out.Flight.Day, .str x_0.Out.Port, .str x_0.Out.Class, .lst 6 (x_0.Onward.map encLeg), .int .i64 x_0.First.Lead, .int .i64 x_0.First.Airline, .int .i64 x_0.First.Serial, .int .i64 x_0.Count, .bool x_0.Load, .int .i64 x_0.Status, .int .i64 x_0.Sequence, .int .i64 x_0.Weight, .str x_0.Surname, .str x_0.Given, .int .i64 x_0.Exception, .str (⟨#[]⟩ : ByteArray), .nils]) (by (conv => lhs; whnf); all_goals rfl) rfl ⟨(.ni _ rfl), (.ni _ rfl), (.ni _ rfl), (.ni _ rfl), (.ni _ rfl), (.ni _ rfl), (.ni _ rfl), (.ni _ rfl), (.ni _ rfl), (.ni _ rfl), (.ni _ rfl), (.ni _ rfl), (.ni _ rfl), (.ni _ rfl), (.ni _ rfl), (.ni _ rfl), (.ni _ rfl), (.ni _ rfl), (.ni _ rfl), (.ni _ rfl), (.ni _ rfl), (.ni _ rfl), (.ni _ rfl), (.ni _ rfl), (.ni _ rfl), (.ni _ rfl), (.ni _ rfl), (.ni _ rfl), (.ni _ rfl), (.nils _), trivial⟩) trivial
  · replace hF := cond_f hb_8 hF
    conv => whnf
    refine ⟨fun hb_10 => ?_, fun hb_10 => ?_⟩
    · replace hF := cond_t hb_10 hF
      conv => whnf
      refine ⟨by kernel_rfl, ?_⟩
      conv => whnf
      refine ⟨fun hb_11 => ?_, fun hb_11 => ?_⟩
      · replace hF := cond_t hb_11 hF
        conv => whnf
        obtain rfl := Option.some.inj hF
        exact ret_gz [] [] [] rfl (argA (c := [.int .i64 x_0.Kind, .int .i64 (0 : Int), .str x_0.Port, .int .i64 x_0.Number, .str (⟨#[]⟩ : ByteArray), .int .i64 (0 : Int), .str (⟨#[]⟩ : ByteArray), .int .i64 (0 : Int), .str (⟨#[]⟩ : ByteArray), .str (⟨#[]⟩ : ByteArray), .str (⟨#[]⟩ : ByteArray), .int .i64 (0 : Int), .str (⟨#[]⟩ : ByteArray), .int .i64 (0 : Int), .str (⟨#[]⟩ : ByteArray), .str (⟨#[]⟩ : ByteArray), .nils, .int .i64 x_0.First.Lead, .int .i64 x_0.First.Airline, .int .i64 x_0.First.Serial, .int .i64 x_0.Count, .fls, .int .i64 (0 : Int), .int .i64 (0 : Int), .int .i64 (0 : Int), .str (⟨#[]⟩ : ByteArray), .str (⟨#[]⟩ : ByteArray), .int .i64 (0 : Int), .str x_0.Node, .nils]) (by (conv => lhs; whnf); all_goals rfl) rfl ⟨(.ni _ rfl), (.ni _ rfl), (.ni _ rfl), (.ni _ rfl), (.ni _ rfl), (.ni _ rfl), (.ni _ rfl), (.ni _ rfl), (.ni _ rfl), (.ni _ rfl), (.ni _ rfl), (.ni _ rfl), (.ni _ rfl), (.ni _ rfl), (.ni _ rfl), (.ni _ rfl), (.nils _), (.ni _ rfl), (.ni _ rfl), (.ni _ rfl), (.ni _ rfl), .fls, (.ni _ rfl), (.ni _ rfl), (.ni _ rfl), (.ni _ rfl), (.ni _ rfl), (.ni _ rfl), (.ni _ rfl), (.nils _), trivial⟩) trivial
      · replace hF := cond_f hb_11 hF
        conv => whnf
        refine ⟨fun hb_12 => ?_, fun hb_12 => ?_⟩
        · replace hF := cond_t hb_12 hF
          conv => whnf
          obtain rfl := Option.some.inj hF
          exact ret_gz [] [] [] rfl (argA (c := [.int .i64 x_0.Kind, .int .i64 (0 : Int), .str x_0.Port, .int .i64 x_0.Number, .str (⟨#[]⟩ : ByteArray), .int .i64 (0 : Int), .str (⟨#[]⟩ : ByteArray), .int .i64 (0 : Int), .str (⟨#[]⟩ : ByteArray), .str (⟨#[]⟩ : ByteArray), .str x_0.Out.Flight.Carrier, .int .i64 x_0.Out.Flight.Number, .str x_0.Out.Flight.Suffix, .int .i64 x_0.Out.Flight.Day, .str x_0.Out.Port, .str x_0.Out.Class, .nils, .int .i64 x_0.First.Lead, .int .i64 x_0.First.Airline, .int .i64 x_0.First.Serial, .int .i64 x_0.Count, .fls, .int .i64 (0 : Int), .int .i64 (0 : Int), .int .i64 (0 : Int), .str (⟨#[]⟩ : ByteArray), .str (⟨#[]⟩ : ByteArray), .int .i64 (0 : Int), .str (⟨#[]⟩ : ByteArray), .nils]) (by (conv => lhs; whnf); all_goals rfl) rfl ⟨(.ni _ rfl), (.ni _ rfl), (.ni _ rfl), (.ni _ rfl), (.ni _ rfl), (.ni _ rfl), (.ni _ rfl), (.ni _ rfl), (.ni _ rfl), (.ni _ rfl), (.ni _ rfl), (.ni _ rfl), (.ni _ rfl), (.ni _ rfl), (.ni _ rfl), (.ni _ rfl), (.nils _), (.ni _ rfl), (.ni _ rfl), (.ni _ rfl), (.ni _ rfl), .fls, (.ni _ rfl), (.ni _ rfl), (.ni _ rfl), (.ni _ rfl), (.ni _ rfl), (.ni _ rfl), (.ni _ rfl), (.nils _), trivial⟩) trivial
        · replace hF := cond_f hb_12 hF
          conv => whnf
          refine ⟨by kernel_rfl, ?_⟩
          conv => whnf
          obtain rfl := Option.some.inj hF
          exact ret_gz [] [] [] rfl (argA (c := [.int .i64 x_0.Kind, .int .i64 (0 : Int), .str x_0.Port, .int .i64 x_0.Number, .str (⟨#[]⟩ : ByteArray), .int .i64 (0 : Int), .str (⟨#[]⟩ : ByteArray), .int .i64 (0 : Int), .str (⟨#[]⟩ : ByteArray), .str (⟨#[]⟩ : ByteArray), .str x_0.Out.Flight.Carrier, .int .i64 x_0.Out.Flight.Number, .str x_0.Out.Flight.Suffix, .int .i64 x_0.Out.Flight.Day, .str x_0.Out.Port, .str x_0.Out.Class, .nils, .int .i64 x_0.First.Lead, .int .i64 x_0.First.Airline, .int .i64 x_0.First.Serial, .int .i64 x_0.Count, .fls, .int .i64 (0 : Int), .int .i64 (0 : Int), .int .i64 (0 : Int), .str (⟨#[]⟩ : ByteArray), .str (⟨#[]⟩ : ByteArray), .int .i64 (0 : Int), .str (⟨#[]⟩ : ByteArray), .lst 1 (x_0.List.map iA)]) (by (conv => lhs; whnf); all_goals rfl) rfl ⟨(.ni _ rfl), (.ni _ rfl), (.ni _ rfl), (.ni _ rfl), (.ni _ rfl), (.ni _ rfl), (.ni _ rfl), (.ni _ rfl), (.ni _ rfl), (.ni _ rfl), (.ni _ rfl), (.ni _ rfl), (.ni _ rfl), (.ni _ rfl), (.ni _ rfl), (.ni _ rfl), (.nils _), (.ni _ rfl), (.ni _ rfl), (.ni _ rfl), (.ni _ rfl), .fls, (.ni _ rfl), (.ni _ rfl), (.ni _ rfl), (.ni _ rfl), (.ni _ rfl), (.ni _ rfl), (.ni _ rfl), (.ni _ rfl), trivial⟩) trivial
    · replace hF := cond_f hb_10 hF
      conv => whnf
      refine ⟨fun hb_13 => ?_, fun hb_13 => ?_⟩
      · replace hF := cond_t hb_13 hF
        conv => whnf
        obtain rfl := Option.some.inj hF
        exact ret_gz [] [] [] rfl (argA (c := [.int .i64 x_0.Kind, .int .i64 (0 : Int), .str x_0.Port, .int .i64 x_0.Number, .str (⟨#[]⟩ : ByteArray), .int .i64 (0 : Int), .str (⟨#[]⟩ : ByteArray), .int .i64 (0 : Int), .str (⟨#[]⟩ : ByteArray), .str (⟨#[]⟩ : ByteArray), .str (⟨#[]⟩ : ByteArray), .int .i64 (0 : Int), .str (⟨#[]⟩ : ByteArray), .int .i64 (0 : Int), .str (⟨#[]⟩ : ByteArray), .str (⟨#[]⟩ : ByteArray), .nils, .int .i64 (0 : Int), .int .i64 (0 : Int), .int .i64 (0 : Int), .int .i64 (0 : Int), .fls, .int .i64 (0 : Int), .int .i64 (0 : Int), .int .i64 (0 : Int), .str (⟨#[]⟩ : ByteArray), .str (⟨#[]⟩ : ByteArray), .int .i64 (0 : Int), .str x_0.Node, .nils]) (by (conv => lhs; whnf); all_goals rfl) rfl ⟨(.ni _ rfl), (.ni _ rfl), (.ni _ rfl), (.ni _ rfl), (.ni _ rfl), (.ni _ rfl), (.ni _ rfl), (.ni _ rfl), (.ni _ rfl), (.ni _ rfl), (.ni _ rfl), (.ni _ rfl), (.ni _ rfl), (.ni _ rfl), (.ni _ rfl), (.ni _ rfl), (.nils _), (.ni _ rfl), (.ni _ rfl), (.ni _ rfl), (.ni _ rfl), .fls, (.ni _ rfl), (.ni _ rfl), (.ni _ rfl), (.ni _ rfl), (.ni _ rfl), (.ni _ rfl), (.ni _ rfl), (.nils _), trivial⟩) trivial
      · replace hF := cond_f hb_13 hF
        conv => whnf
        refine ⟨fun hb_14 => ?_, fun hb_14 => ?_⟩
        · replace hF := cond_t hb_14 hF
          conv => whnf
          obtain rfl := Option.some.inj hF
          exact ret_gz [] [] [] rfl (argA (c := [.int .i64 x_0.Kind, .int .i64 (0 : Int), .str x_0.Port, .int .i64 x_0.Number, .str (⟨#[]⟩ : ByteArray), .int .i64 (0 : Int), .str (⟨#[]⟩ : ByteArray), .int .i64 (0 : Int), .str (⟨#[]⟩ : ByteArray), .str (⟨#[]⟩ : ByteArray), .str x_0.Out.Flight.Carrier, .int .i64 x_0.Out.Flight.Number, .str x_0.Out.Flight.Suffix, .int .i64 x_0.Out.Flight.Day, .str x_0.Out.Port, .str x_0.Out.Class, .nils, .int .i64 (0 : Int), .int .i64 (0 : Int), .int .i64 (0 : Int), .int .i64 (0 : Int), .fls, .int .i64 (0 : Int), .int .i64 (0 : Int), .int .i64 (0 : Int), .str (⟨#[]⟩ : ByteArray), .str (⟨#[]⟩ : ByteArray), .int .i64 (0 : Int), .str (⟨#[]⟩ : ByteArray), .nils]) (by (conv => lhs; whnf); all_goals rfl) rfl ⟨(.ni _ rfl), (.ni _ rfl), (.ni _ rfl), (.ni _ rfl), (.ni _ rfl), (.ni _ rfl), (.ni _ rfl), (.ni _ rfl), (.ni _ rfl), (.ni _ rfl), (.ni _ rfl), (.ni _ rfl), (.ni _ rfl), (.ni _ rfl), (.ni _ rfl), (.ni _ rfl), (.nils _), (.ni _ rfl), (.ni _ rfl), (.ni _ rfl), (.ni _ rfl), .fls, (.ni _ rfl), (.ni _ rfl), (.ni _ rfl), (.ni _ rfl), (.ni _ rfl), (.ni _ rfl), (.ni _ rfl), (.nils _), trivial⟩) trivial
        · replace hF := cond_f hb_14 hF
          conv => whnf
          refine ⟨by kernel_rfl, ?_⟩
          conv => whnf
          obtain rfl := Option.some.inj hF
          exact ret_gz [] [] [] rfl (argA (c := [.int .i64 x_0.Kind, .int .i64 (0 : Int), .str x_0.Port, .int .i64 x_0.Number, .str (⟨#[]⟩ : ByteArray), .int .i64 (0 : Int), .str (⟨#[]⟩ : ByteArray), .int .i64 (0 : Int), .str (⟨#[]⟩ : ByteArray), .str (⟨#[]⟩ : ByteArray), .str x_0.Out.Flight.Carrier, .int .i64 x_0.Out.Flight.Number, .str x_0.Out.Flight.Suffix, .int .i64 x_0.Out.Flight.Day, .str x_0.Out.Port, .str x_0.Out.Class, .nils, .int .i64 (0 : Int), .int .i64 (0 : Int), .int .i64 (0 : Int), .int .i64 (0 : Int), .fls, .int .i64 (0 : Int), .int .i64 (0 : Int), .int .i64 (0 : Int), .str (⟨#[]⟩ : ByteArray), .str (⟨#[]⟩ : ByteArray), .int .i64 (0 : Int), .str (⟨#[]⟩ : ByteArray), .lst 1 (x_0.List.map iA)]) (by (conv => lhs; whnf); all_goals rfl) rfl ⟨(.ni _ rfl), (.ni _ rfl), (.ni _ rfl), (.ni _ rfl), (.ni _ rfl), (.ni _ rfl), (.ni _ rfl), (.ni _ rfl), (.ni _ rfl), (.ni _ rfl), (.ni _ rfl), (.ni _ rfl), (.ni _ rfl), (.ni _ rfl), (.ni _ rfl), (.ni _ rfl), (.nils _), (.ni _ rfl), (.ni _ rfl), (.ni _ rfl), (.ni _ rfl), .fls, (.ni _ rfl), (.ni _ rfl), (.ni _ rfl), (.ni _ rfl), (.ni _ rfl), (.ni _ rfl), (.ni _ rfl), (.ni _ rfl), trivial⟩) trivial

set_option maxRecDepth 100000 in
set_option maxHeartbeats 40000000 in
theorem ref04_legs_ac (x_0 : (List Leg)) (x_1 : (List Leg)) (r : Bool) (hF : ref04_legs x_0 x_1 = some r) : AC Try.prog 88 [.lst 6 (x_0.map encLeg), .lst 6 (x_1.map encLeg)] [] (.bool r) [] := by
  refine ac_of tab_ok follows_ok Try.func88 rfl Try.ntmps88 rfl ?_
  unfold ref04_legs at hF
  conv => whnf
  refine len_q (enc := encLeg) (l := x_0) rfl ?_
  conv => whnf
  refine len_q (enc := encLeg) (l := x_1) rfl ?_
  conv => whnf
  refine ⟨fun hb_8 => ?_, fun hb_8 => ?_⟩
  · replace hF := cond_t hb_8 hF
    conv => whnf
    obtain rfl := Option.some.inj hF
    exact ret_gz [] [] [] rfl (argFl (by (conv => lhs; whnf); all_goals rfl)) trivial
  · replace hF := cond_f hb_8 hF
    conv => whnf
    obtain ⟨c_1, hc_1, hF⟩ := fin_some hF
    refine sw_bv 0 (v := .lst 6 (x_0.map encLeg)) (by (conv => lhs; whnf); all_goals rfl) (fun hb => ?_)
    have hbd_k_2 : x_0.length ≤ 9223372036854775807 := bnd_len (enc := encLeg) (hb)
    refine sw_loop tab_ok follows_ok (fun y : Nat => y ≤ x_0.length ∧ ref04_legs_L1 x_1 (x_0.drop y) y = some c_1) (fun y => ⟨eL [(0, .lst 6 (x_0.map encLeg)), (1, .lst 6 (x_1.map encLeg)), (5, .int .i64 (y : Int))], hL [], 0⟩) (fun y => x_0.length - y) 0 ⟨Nat.zero_le _, hc_1⟩ (wk_mk [] [] [] rfl ⟨argE (by (conv => lhs; whnf); all_goals rfl) rfl, argE (by (conv => lhs; whnf); all_goals rfl) rfl, argE (by (conv => lhs; whnf); all_goals rfl) rfl, trivial⟩ trivial) ?_
    rintro k_2 ⟨hk_k_2, hL1⟩
    try dsimp only at hk_k_2 hL1
    show awp _ _ _ _ _ _ ⟨eL [(0, .lst 6 (x_0.map encLeg)), (1, .lst 6 (x_1.map encLeg)), (5, .int .i64 (k_2 : Int))], hL [], 0⟩
    conv => whnf
    refine len_q (enc := encLeg) (l := x_0) rfl ?_
    conv => whnf
    refine ⟨fun h => ?_, fun h => ?_⟩
    · have hlt_k_2 : k_2 < x_0.length := by have h := of_decide_eq_true h; omega
      obtain ⟨e_3, h_e_3⟩ : ∃ y, x_0[k_2]? = some y := ⟨_, List.getElem?_eq_getElem hlt_k_2⟩
      rw [drop_cons h_e_3, ref04_legs_L1.eq_2] at hL1
      conv => whnf
      refine ⟨k_2, _, rfl, ix_map h_e_3, ?_⟩
      conv => whnf
      obtain ⟨e_4, h_e_4, hL1⟩ := bind_some hL1
      refine ix_q (enc := encLeg) (l := x_1) h_e_4 rfl (fun m_e_4 hm_e_4 hx_e_4 => ?_)
      conv => whnf
      refine ⟨by kernel_rfl, ?_⟩
      conv => whnf
      refine ⟨fun hb_9 => ?_, fun hb_9 => ?_⟩
      · replace hL1 := cond_t hb_9 hL1
        conv => whnf
        obtain rfl := Option.some.inj hL1
        replace hF := fin_ret hF
        obtain rfl := Option.some.inj hF
        exact ret_gz [] [] [] rfl (argFl (by (conv => lhs; whnf); all_goals rfl)) trivial
      · replace hL1 := cond_f hb_9 hL1
        conv => whnf
        refine ⟨((k_2 + 1 : Nat) : Int), wrapE (by omega) (by omega) (by omega), ?_⟩
        conv => whnf
        exact ⟨k_2 + 1, [], [], [], ⟨hlt_k_2, hL1⟩, by show x_0.length - (k_2 + 1) < x_0.length - k_2; omega, wk_mk [] [] [] rfl ⟨argE (by (conv => lhs; whnf); all_goals rfl) rfl, argE (by (conv => lhs; whnf); all_goals rfl) rfl, argE (by (conv => lhs; whnf); all_goals rfl) rfl, trivial⟩ trivial⟩
    · rw [drop_nil (show x_0.length ≤ k_2 by have h := of_decide_eq_false h; omega), ref04_legs_L1.eq_1] at hL1
      conv => whnf
      obtain rfl := Option.some.inj hL1
      replace hF := fin_brk hF
      try dsimp only at hF
      obtain rfl := Option.some.inj hF
      exact ret_gz [] [] [] rfl (argT (by (conv => lhs; whnf); all_goals rfl)) trivial

set_option maxRecDepth 100000 in
set_option maxHeartbeats 40000000 in
theorem keep_Ints_ac (x_0 : (List Int)) (x_1 : (List Int)) (r : Bool) (hF : keep_Ints x_0 x_1 = some r) : AC Try.prog 89 [.lst 1 (x_0.map iA), .lst 1 (x_1.map iA)] [] (.bool r) [] := by
  refine ac_of tab_ok follows_ok Try.func89 rfl Try.ntmps89 rfl ?_
  unfold keep_Ints at hF
  conv => whnf
  refine len_q (enc := iA) (l := x_0) rfl ?_
  conv => whnf
  refine len_q (enc := iA) (l := x_1) rfl ?_
  conv => whnf
  refine ⟨fun hb_8 => ?_, fun hb_8 => ?_⟩
  · replace hF := cond_t hb_8 hF
    conv => whnf
    obtain rfl := Option.some.inj hF
    exact ret_gz [] [] [] rfl (argFl (by (conv => lhs; whnf); all_goals rfl)) trivial
  · replace hF := cond_f hb_8 hF
    conv => whnf
    obtain ⟨c_1, hc_1, hF⟩ := fin_some hF
    refine sw_bv 0 (v := .lst 1 (x_0.map iA)) (by (conv => lhs; whnf); all_goals rfl) (fun hb => ?_)
    have hbd_k_2 : x_0.length ≤ 9223372036854775807 := bnd_len (enc := iA) (hb)
    refine sw_loop tab_ok follows_ok (fun y : Nat => y ≤ x_0.length ∧ keep_Ints_L1 x_1 (x_0.drop y) y = some c_1) (fun y => ⟨eL [(0, .lst 1 (x_0.map iA)), (1, .lst 1 (x_1.map iA)), (5, .int .i64 (y : Int))], hL [], 0⟩) (fun y => x_0.length - y) 0 ⟨Nat.zero_le _, hc_1⟩ (wk_mk [] [] [] rfl ⟨argE (by (conv => lhs; whnf); all_goals rfl) rfl, argE (by (conv => lhs; whnf); all_goals rfl) rfl, argE (by (conv => lhs; whnf); all_goals rfl) rfl, trivial⟩ trivial) ?_
    rintro k_2 ⟨hk_k_2, hL1⟩
    try dsimp only at hk_k_2 hL1
    show awp _ _ _ _ _ _ ⟨eL [(0, .lst 1 (x_0.map iA)), (1, .lst 1 (x_1.map iA)), (5, .int .i64 (k_2 : Int))], hL [], 0⟩
    conv => whnf
    refine len_q (enc := iA) (l := x_0) rfl ?_
    conv => whnf
    refine ⟨fun h => ?_, fun h => ?_⟩
    · have hlt_k_2 : k_2 < x_0.length := by have h := of_decide_eq_true h; omega
      obtain ⟨e_3, h_e_3⟩ : ∃ y, x_0[k_2]? = some y := ⟨_, List.getElem?_eq_getElem hlt_k_2⟩
      rw [drop_cons h_e_3, keep_Ints_L1.eq_2] at hL1
      conv => whnf
      refine ⟨k_2, _, rfl, ix_map h_e_3, ?_⟩
      conv => whnf
      obtain ⟨e_4, h_e_4, hL1⟩ := bind_some hL1
      refine ix_q (enc := iA) (l := x_1) h_e_4 rfl (fun m_e_4 hm_e_4 hx_e_4 => ?_)
      conv => whnf
      refine ⟨by kernel_rfl, ?_⟩
      conv => whnf
      refine ⟨fun hb_9 => ?_, fun hb_9 => ?_⟩
      · replace hL1 := cond_t hb_9 hL1
        conv => whnf
        obtain rfl := Option.some.inj hL1
        replace hF := fin_ret hF
        obtain rfl := Option.some.inj hF
        exact ret_gz [] [] [] rfl (argFl (by (conv => lhs; whnf); all_goals rfl)) trivial
      · replace hL1 := cond_f hb_9 hL1
        conv => whnf
        refine ⟨((k_2 + 1 : Nat) : Int), wrapE (by omega) (by omega) (by omega), ?_⟩
        conv => whnf
        exact ⟨k_2 + 1, [], [], [], ⟨hlt_k_2, hL1⟩, by show x_0.length - (k_2 + 1) < x_0.length - k_2; omega, wk_mk [] [] [] rfl ⟨argE (by (conv => lhs; whnf); all_goals rfl) rfl, argE (by (conv => lhs; whnf); all_goals rfl) rfl, argE (by (conv => lhs; whnf); all_goals rfl) rfl, trivial⟩ trivial⟩
    · rw [drop_nil (show x_0.length ≤ k_2 by have h := of_decide_eq_false h; omega), keep_Ints_L1.eq_1] at hL1
      conv => whnf
      obtain rfl := Option.some.inj hL1
      replace hF := fin_brk hF
      try dsimp only at hF
      obtain rfl := Option.some.inj hF
      exact ret_gz [] [] [] rfl (argT (by (conv => lhs; whnf); all_goals rfl)) trivial

set_option maxRecDepth 100000 in
set_option maxHeartbeats 40000000 in
theorem ref04_Same_ac (x_0 : Message) (x_1 : Message) (r : Bool) (hF : ref04_Same x_0 x_1 = some r) : AC Try.prog 64 [.agg (encMessage x_0), .agg (encMessage x_1)] [] (.bool r) [] := by
  refine ac_of tab_ok follows_ok Try.func64 rfl Try.ntmps64 rfl ?_
  unfold ref04_Same at hF
  conv => whnf
  refine ⟨fun hb_18 => ?_, fun hb_18 => ?_⟩
  · replace hF := cond_t hb_18 hF
    conv => whnf
    refine ⟨fun hb_19 => ?_, fun hb_19 => ?_⟩
    · replace hF := cond_t hb_19 hF
      conv => whnf
      refine ⟨fun hb_20 => ?_, fun hb_20 => ?_⟩
      · replace hF := cond_t hb_20 hF
        conv => whnf
        refine ⟨fun hb_21 => ?_, fun hb_21 => ?_⟩
        · replace hF := cond_t hb_21 hF
          conv => whnf
          refine ⟨fun hb_22 => ?_, fun hb_22 => ?_⟩
          · replace hF := cond_t hb_22 hF
            conv => whnf
            refine ⟨fun hb_23 => ?_, fun hb_23 => ?_⟩
            · replace hF := cond_t hb_23 hF
              conv => whnf
              obtain ⟨r_1, h_r_1, hF⟩ := bind_some hF
              refine ⟨_, _, _, _, _, _, _, _, _, callX false [] [] 0 Try.func88 (by decide) rfl (ref04_legs_ac x_0.Onward x_1.Onward r_1 h_r_1) rfl ⟨(argE (by (conv => lhs; whnf); all_goals rfl) rfl), (argE (by (conv => lhs; whnf); all_goals rfl) rfl), trivial⟩ rfl trivial rfl rfl rfl lend0 trivial rfl, ?_⟩
              conv => whnf
              refine ⟨fun hb_24 => ?_, fun hb_24 => ?_⟩
              · replace hF := cond_t hb_24 hF
                conv => whnf
                refine ⟨fun hb_25 => ?_, fun hb_25 => ?_⟩
                · replace hF := cond_t hb_25 hF
                  conv => whnf
                  refine ⟨fun hb_26 => ?_, fun hb_26 => ?_⟩
                  · replace hF := cond_t hb_26 hF
                    conv => whnf
                    refine ⟨fun hb_27 => ?_, fun hb_27 => ?_⟩
                    · replace hF := cond_t hb_27 hF
                      conv => whnf
                      refine ⟨fun hb_28 => ?_, fun hb_28 => ?_⟩
                      · replace hF := cond_t hb_28 hF
                        conv => whnf
                        refine ⟨fun hb_29 => ?_, fun hb_29 => ?_⟩
                        · replace hF := cond_t hb_29 hF
                          conv => whnf
                          refine ⟨fun hb_30 => ?_, fun hb_30 => ?_⟩
                          · replace hF := cond_t hb_30 hF
                            conv => whnf
                            refine ⟨fun hb_31 => ?_, fun hb_31 => ?_⟩
                            · replace hF := cond_t hb_31 hF
                              conv => whnf
                              refine ⟨fun hb_32 => ?_, fun hb_32 => ?_⟩
                              · replace hF := cond_t hb_32 hF
                                conv => whnf
                                refine ⟨fun hb_33 => ?_, fun hb_33 => ?_⟩
                                · replace hF := cond_t hb_33 hF
                                  conv => whnf
                                  refine ⟨fun hb_34 => ?_, fun hb_34 => ?_⟩
                                  · replace hF := cond_t hb_34 hF
                                    conv => whnf
                                    obtain ⟨r_2, h_r_2, hF⟩ := bind_some hF
                                    refine ⟨_, _, _, _, _, _, _, _, _, callX false [] [] 0 Try.func89 (by decide) rfl (keep_Ints_ac x_0.List x_1.List r_2 h_r_2) rfl ⟨(argE (by (conv => lhs; whnf); all_goals rfl) rfl), (argE (by (conv => lhs; whnf); all_goals rfl) rfl), trivial⟩ rfl trivial rfl rfl rfl lend0 trivial rfl, ?_⟩
                                    conv => whnf
                                    obtain rfl := Option.some.inj hF
                                    exact ret_gz [] [] [] rfl (argE (by (conv => lhs; whnf); all_goals rfl) rfl) trivial
                                  · replace hF := cond_f hb_34 hF
                                    conv => whnf
                                    obtain rfl := Option.some.inj hF
                                    exact ret_gz [] [] [] rfl (argFl (by (conv => lhs; whnf); all_goals rfl)) trivial
                                · replace hF := cond_f hb_33 hF
                                  conv => whnf
                                  obtain rfl := Option.some.inj hF
                                  exact ret_gz [] [] [] rfl (argFl (by (conv => lhs; whnf); all_goals rfl)) trivial
                              · replace hF := cond_f hb_32 hF
                                conv => whnf
                                obtain rfl := Option.some.inj hF
                                exact ret_gz [] [] [] rfl (argFl (by (conv => lhs; whnf); all_goals rfl)) trivial
                            · replace hF := cond_f hb_31 hF
                              conv => whnf
                              obtain rfl := Option.some.inj hF
                              exact ret_gz [] [] [] rfl (argFl (by (conv => lhs; whnf); all_goals rfl)) trivial
                          · replace hF := cond_f hb_30 hF
                            conv => whnf
                            obtain rfl := Option.some.inj hF
                            exact ret_gz [] [] [] rfl (argFl (by (conv => lhs; whnf); all_goals rfl)) trivial
                        · replace hF := cond_f hb_29 hF
                          conv => whnf
                          obtain rfl := Option.some.inj hF
                          exact ret_gz [] [] [] rfl (argFl (by (conv => lhs; whnf); all_goals rfl)) trivial
                      · replace hF := cond_f hb_28 hF
                        conv => whnf
                        obtain rfl := Option.some.inj hF
                        exact ret_gz [] [] [] rfl (argFl (by (conv => lhs; whnf); all_goals rfl)) trivial
                    · replace hF := cond_f hb_27 hF
                      conv => whnf
                      obtain rfl := Option.some.inj hF
                      exact ret_gz [] [] [] rfl (argFl (by (conv => lhs; whnf); all_goals rfl)) trivial
                  · replace hF := cond_f hb_26 hF
                    conv => whnf
                    obtain rfl := Option.some.inj hF
                    exact ret_gz [] [] [] rfl (argFl (by (conv => lhs; whnf); all_goals rfl)) trivial
                · replace hF := cond_f hb_25 hF
                  conv => whnf
                  obtain rfl := Option.some.inj hF
                  exact ret_gz [] [] [] rfl (argFl (by (conv => lhs; whnf); all_goals rfl)) trivial
              · replace hF := cond_f hb_24 hF
                conv => whnf
                obtain rfl := Option.some.inj hF
                exact ret_gz [] [] [] rfl (argFl (by (conv => lhs; whnf); all_goals rfl)) trivial
            · replace hF := cond_f hb_23 hF
              conv => whnf
              obtain rfl := Option.some.inj hF
              exact ret_gz [] [] [] rfl (argFl (by (conv => lhs; whnf); all_goals rfl)) trivial
          · replace hF := cond_f hb_22 hF
            conv => whnf
            obtain rfl := Option.some.inj hF
            exact ret_gz [] [] [] rfl (argFl (by (conv => lhs; whnf); all_goals rfl)) trivial
        · replace hF := cond_f hb_21 hF
          conv => whnf
          obtain rfl := Option.some.inj hF
          exact ret_gz [] [] [] rfl (argFl (by (conv => lhs; whnf); all_goals rfl)) trivial
      · replace hF := cond_f hb_20 hF
        conv => whnf
        obtain rfl := Option.some.inj hF
        exact ret_gz [] [] [] rfl (argFl (by (conv => lhs; whnf); all_goals rfl)) trivial
    · replace hF := cond_f hb_19 hF
      conv => whnf
      obtain rfl := Option.some.inj hF
      exact ret_gz [] [] [] rfl (argFl (by (conv => lhs; whnf); all_goals rfl)) trivial
  · replace hF := cond_f hb_18 hF
    conv => whnf
    obtain rfl := Option.some.inj hF
    exact ret_gz [] [] [] rfl (argFl (by (conv => lhs; whnf); all_goals rfl)) trivial

set_option maxRecDepth 100000 in
set_option maxHeartbeats 40000000 in
theorem ref02_ValidPort_ac (x_0 : ByteArray) (r : Bool) (hF : ref02_ValidPort x_0 = some r) : AC Try.prog 91 [.str x_0] [] (.bool r) [] := by
  refine ac_of tab_ok follows_ok Try.func91 rfl Try.ntmps91 rfl ?_
  unfold ref02_ValidPort at hF
  conv => whnf
  refine ⟨fun hb_4 => ?_, fun hb_4 => ?_⟩
  · replace hF := cond_t hb_4 hF
    conv => whnf
    obtain ⟨b_1, h_b_1, hF⟩ := bind_some hF
    refine ixs_q h_b_1 (fun m_b_1 u_b_1 hm_b_1 hb_b_1 hz_b_1 => ?_)
    subst hz_b_1
    conv => whnf
    obtain ⟨r_2, h_r_2, hF⟩ := bind_some hF
    refine ⟨_, _, _, _, _, _, _, _, _, callX false [] [] 0 Try.func99 (by decide) rfl (ref02_Letter_ac ((u_b_1.toNat : Nat) : Int) r_2 h_r_2) rfl ⟨(argE (by (conv => lhs; whnf); all_goals rfl) rfl), trivial⟩ rfl trivial rfl rfl rfl lend0 trivial rfl, ?_⟩
    conv => whnf
    refine ⟨fun hb_5 => ?_, fun hb_5 => ?_⟩
    · replace hF := cond_t hb_5 hF
      conv => whnf
      obtain ⟨b_3, h_b_3, hF⟩ := bind_some hF
      refine ixs_q h_b_3 (fun m_b_3 u_b_3 hm_b_3 hb_b_3 hz_b_3 => ?_)
      subst hz_b_3
      conv => whnf
      obtain ⟨r_4, h_r_4, hF⟩ := bind_some hF
      refine ⟨_, _, _, _, _, _, _, _, _, callX false [] [] 0 Try.func99 (by decide) rfl (ref02_Letter_ac ((u_b_3.toNat : Nat) : Int) r_4 h_r_4) rfl ⟨(argE (by (conv => lhs; whnf); all_goals rfl) rfl), trivial⟩ rfl trivial rfl rfl rfl lend0 trivial rfl, ?_⟩
      conv => whnf
      refine ⟨fun hb_6 => ?_, fun hb_6 => ?_⟩
      · replace hF := cond_t hb_6 hF
        conv => whnf
        obtain ⟨b_5, h_b_5, hF⟩ := bind_some hF
        refine ixs_q h_b_5 (fun m_b_5 u_b_5 hm_b_5 hb_b_5 hz_b_5 => ?_)
        subst hz_b_5
        conv => whnf
        obtain ⟨r_6, h_r_6, hF⟩ := bind_some hF
        refine ⟨_, _, _, _, _, _, _, _, _, callX false [] [] 0 Try.func99 (by decide) rfl (ref02_Letter_ac ((u_b_5.toNat : Nat) : Int) r_6 h_r_6) rfl ⟨(argE (by (conv => lhs; whnf); all_goals rfl) rfl), trivial⟩ rfl trivial rfl rfl rfl lend0 trivial rfl, ?_⟩
        conv => whnf
        obtain rfl := Option.some.inj hF
        exact ret_gz [] [] [] rfl (argE (by (conv => lhs; whnf); all_goals rfl) rfl) trivial
      · replace hF := cond_f hb_6 hF
        conv => whnf
        obtain rfl := Option.some.inj hF
        exact ret_gz [] [] [] rfl (argFl (by (conv => lhs; whnf); all_goals rfl)) trivial
    · replace hF := cond_f hb_5 hF
      conv => whnf
      obtain rfl := Option.some.inj hF
      exact ret_gz [] [] [] rfl (argFl (by (conv => lhs; whnf); all_goals rfl)) trivial
  · replace hF := cond_f hb_4 hF
    conv => whnf
    obtain rfl := Option.some.inj hF
    exact ret_gz [] [] [] rfl (argFl (by (conv => lhs; whnf); all_goals rfl)) trivial

set_option maxRecDepth 100000 in
set_option maxHeartbeats 40000000 in
theorem ref02_ValidClass_ac (x_0 : ByteArray) (r : Bool) (hF : ref02_ValidClass x_0 = some r) : AC Try.prog 104 [.str x_0] [] (.bool r) [] := by
  refine ac_of tab_ok follows_ok Try.func104 rfl Try.ntmps104 rfl ?_
  unfold ref02_ValidClass at hF
  conv => whnf
  refine ⟨fun hb_3 => ?_, fun hb_3 => ?_⟩
  · replace hF := cond_f hb_3 hF
    conv => whnf
    refine ⟨fun hb_4 => ?_, fun hb_4 => ?_⟩
    · replace hF := cond_f hb_4 hF
      conv => whnf
      obtain rfl := Option.some.inj hF
      exact ret_gz [] [] [] rfl (argE (by (conv => lhs; whnf); all_goals rfl) rfl) trivial
    · replace hF := cond_t hb_4 hF
      conv => whnf
      obtain rfl := Option.some.inj hF
      exact ret_gz [] [] [] rfl (argT (by (conv => lhs; whnf); all_goals rfl)) trivial
  · replace hF := cond_t hb_3 hF
    conv => whnf
    obtain rfl := Option.some.inj hF
    exact ret_gz [] [] [] rfl (argT (by (conv => lhs; whnf); all_goals rfl)) trivial

set_option maxRecDepth 100000 in
set_option maxHeartbeats 40000000 in
theorem ref02_ValidLeg_ac (x_0 : Leg) (r : Bool) (hF : ref02_ValidLeg x_0 = some r) : AC Try.prog 92 [.agg (encLeg x_0)] [] (.bool r) [] := by
  refine ac_of tab_ok follows_ok Try.func92 rfl Try.ntmps92 rfl ?_
  unfold ref02_ValidLeg at hF
  conv => whnf
  obtain ⟨r_1, h_r_1, hF⟩ := bind_some hF
  refine ⟨_, _, _, _, _, _, _, _, _, callX false [] [] 0 Try.func53 (by decide) rfl (ref02_Valid_ac x_0.Flight r_1 h_r_1) rfl ⟨(argE (by (conv => lhs; whnf); all_goals rfl) rfl), trivial⟩ rfl trivial rfl rfl rfl lend0 trivial rfl, ?_⟩
  conv => whnf
  refine ⟨fun hb_3 => ?_, fun hb_3 => ?_⟩
  · replace hF := cond_t hb_3 hF
    conv => whnf
    obtain ⟨r_2, h_r_2, hF⟩ := bind_some hF
    refine ⟨_, _, _, _, _, _, _, _, _, callX false [] [] 0 Try.func91 (by decide) rfl (ref02_ValidPort_ac x_0.Port r_2 h_r_2) rfl ⟨(argE (by (conv => lhs; whnf); all_goals rfl) rfl), trivial⟩ rfl trivial rfl rfl rfl lend0 trivial rfl, ?_⟩
    conv => whnf
    refine ⟨fun hb_4 => ?_, fun hb_4 => ?_⟩
    · replace hF := cond_t hb_4 hF
      conv => whnf
      obtain ⟨r_3, h_r_3, hF⟩ := bind_some hF
      refine ⟨_, _, _, _, _, _, _, _, _, callX false [] [] 0 Try.func104 (by decide) rfl (ref02_ValidClass_ac x_0.Class r_3 h_r_3) rfl ⟨(argE (by (conv => lhs; whnf); all_goals rfl) rfl), trivial⟩ rfl trivial rfl rfl rfl lend0 trivial rfl, ?_⟩
      conv => whnf
      obtain rfl := Option.some.inj hF
      exact ret_gz [] [] [] rfl (argE (by (conv => lhs; whnf); all_goals rfl) rfl) trivial
    · replace hF := cond_f hb_4 hF
      conv => whnf
      obtain rfl := Option.some.inj hF
      exact ret_gz [] [] [] rfl (argFl (by (conv => lhs; whnf); all_goals rfl)) trivial
  · replace hF := cond_f hb_3 hF
    conv => whnf
    obtain rfl := Option.some.inj hF
    exact ret_gz [] [] [] rfl (argFl (by (conv => lhs; whnf); all_goals rfl)) trivial

set_option maxRecDepth 100000 in
set_option maxHeartbeats 40000000 in
theorem ref04_letters_ac (x_0 : ByteArray) (x_1 : Int) (r : Bool) (hF : ref04_letters x_0 x_1 = some r) : AC Try.prog 94 [.str x_0, .int .i64 x_1] [] (.bool r) [] := by
  refine ac_of tab_ok follows_ok Try.func94 rfl Try.ntmps94 rfl ?_
  unfold ref04_letters at hF
  conv => whnf
  obtain ⟨c_1, hc_1, hF⟩ := fin_some hF
  refine sw_loop tab_ok follows_ok (fun y : Nat × Int => ref04_letters_L1 x_0 y.1 y.2 = some c_1) (fun y => ⟨eL [(0, .str x_0), (1, .int .i64 x_1), (5, .int .i64 y.2)], hL [], 0⟩) (fun y => y.1) (9223372036854775808, (0 : Int)) hc_1 (wk_mk [] [] [] rfl ⟨argE (by (conv => lhs; whnf); all_goals rfl) rfl, argE (by (conv => lhs; whnf); all_goals rfl) rfl, argE (by (conv => lhs; whnf); all_goals rfl) rfl, trivial⟩ trivial) ?_
  rintro ⟨q_4, i_1⟩ hL1
  try dsimp only at hL1
  rcases q_4 with _ | q_4
  · rw [ref04_letters_L1.eq_1] at hL1
    cases hL1
  rw [ref04_letters_L1.eq_2] at hL1
  show awp _ _ _ _ _ _ ⟨eL [(0, .str x_0), (1, .int .i64 x_1), (5, .int .i64 i_1)], hL [], 0⟩
  conv => whnf
  refine ⟨fun hb_10 => ?_, fun hb_10 => ?_⟩
  · replace hL1 := cond_t hb_10 hL1
    conv => whnf
    obtain ⟨b_2, h_b_2, hL1⟩ := bind_some hL1
    refine ixs_q h_b_2 (fun m_b_2 u_b_2 hm_b_2 hb_b_2 hz_b_2 => ?_)
    subst hz_b_2
    conv => whnf
    obtain ⟨r_3, h_r_3, hL1⟩ := bind_some hL1
    refine ⟨_, _, _, _, _, _, _, _, _, callX false [] [] 0 Try.func99 (by decide) rfl (ref02_Letter_ac ((u_b_2.toNat : Nat) : Int) r_3 h_r_3) rfl ⟨(argE (by (conv => lhs; whnf); all_goals rfl) rfl), trivial⟩ rfl trivial rfl rfl rfl lend0 trivial rfl, ?_⟩
    conv => whnf
    refine ⟨fun hb_11 => ?_, fun hb_11 => ?_⟩
    · replace hL1 := cond_t hb_11 hL1
      conv => whnf
      obtain rfl := Option.some.inj hL1
      replace hF := fin_ret hF
      obtain rfl := Option.some.inj hF
      exact ret_gz [] [] [] rfl (argFl (by (conv => lhs; whnf); all_goals rfl)) trivial
    · replace hL1 := cond_f hb_11 hL1
      conv => whnf
      refine ⟨_, rfl, ?_⟩
      conv => whnf
      exact ⟨(q_4, (w64 (i_1 + (1 : Int)))), [], [], [], hL1, Nat.lt_succ_self _, wk_mk [] [] [] rfl ⟨argE (by (conv => lhs; whnf); all_goals rfl) rfl, argE (by (conv => lhs; whnf); all_goals rfl) rfl, argE (by (conv => lhs; whnf); all_goals rfl) rfl, trivial⟩ trivial⟩
  · replace hL1 := cond_f hb_10 hL1
    conv => whnf
    obtain rfl := Option.some.inj hL1
    replace hF := fin_brk hF
    try dsimp only at hF
    refine ⟨fun hb_12 => ?_, fun hb_12 => ?_⟩
    · replace hF := cond_t hb_12 hF
      conv => whnf
      obtain rfl := Option.some.inj hF
      exact ret_gz [] [] [] rfl (argE (by (conv => lhs; whnf); all_goals rfl) rfl) trivial
    · replace hF := cond_f hb_12 hF
      conv => whnf
      obtain rfl := Option.some.inj hF
      exact ret_gz [] [] [] rfl (argFl (by (conv => lhs; whnf); all_goals rfl)) trivial

set_option maxRecDepth 100000 in
set_option maxHeartbeats 40000000 in
theorem ref04_Name_ac (x_0 : ByteArray) (r : Bool) (hF : ref04_Name x_0 = some r) : AC Try.prog 93 [.str x_0] [] (.bool r) [] := by
  refine ac_of tab_ok follows_ok Try.func93 rfl Try.ntmps93 rfl ?_
  unfold ref04_Name at hF
  conv => whnf
  refine ⟨fun hb_16 => ?_, fun hb_16 => ?_⟩
  · replace hF := cond_f hb_16 hF
    conv => whnf
    refine ⟨fun hb_17 => ?_, fun hb_17 => ?_⟩
    · replace hF := cond_f hb_17 hF
      conv => whnf
      obtain ⟨b_1, h_b_1, hF⟩ := bind_some hF
      refine ixs_q h_b_1 (fun m_b_1 u_b_1 hm_b_1 hb_b_1 hz_b_1 => ?_)
      subst hz_b_1
      conv => whnf
      obtain ⟨r_2, h_r_2, hF⟩ := bind_some hF
      refine ⟨_, _, _, _, _, _, _, _, _, callX false [] [] 0 Try.func99 (by decide) rfl (ref02_Letter_ac ((u_b_1.toNat : Nat) : Int) r_2 h_r_2) rfl ⟨(argE (by (conv => lhs; whnf); all_goals rfl) rfl), trivial⟩ rfl trivial rfl rfl rfl lend0 trivial rfl, ?_⟩
      conv => whnf
      refine ⟨fun hb_18 => ?_, fun hb_18 => ?_⟩
      · replace hF := cond_t hb_18 hF
        conv => whnf
        obtain rfl := Option.some.inj hF
        exact ret_gz [] [] [] rfl (argFl (by (conv => lhs; whnf); all_goals rfl)) trivial
      · replace hF := cond_f hb_18 hF
        conv => whnf
        obtain ⟨c_1, hc_1, hF⟩ := fin_some hF
        refine sw_loop tab_ok follows_ok (fun y : Nat × Int => ref04_Name_L1 x_0 y.1 y.2 = some c_1) (fun y => ⟨eL [(0, .str x_0), (3, .int .i64 y.2)], hL [], 0⟩) (fun y => y.1) (9223372036854775807, (0 : Int)) hc_1 (wk_mk [] [] [] rfl ⟨argE (by (conv => lhs; whnf); all_goals rfl) rfl, argE (by (conv => lhs; whnf); all_goals rfl) rfl, trivial⟩ trivial) ?_
        rintro ⟨q_8, i_3⟩ hL1
        try dsimp only at hL1
        rcases q_8 with _ | q_8
        · rw [ref04_Name_L1.eq_1] at hL1
          cases hL1
        rw [ref04_Name_L1.eq_2] at hL1
        show awp _ _ _ _ _ _ ⟨eL [(0, .str x_0), (3, .int .i64 i_3)], hL [], 0⟩
        conv => whnf
        refine ⟨fun hb_19 => ?_, fun hb_19 => ?_⟩
        · replace hL1 := cond_t hb_19 hL1
          conv => whnf
          obtain ⟨b_4, h_b_4, hL1⟩ := bind_some hL1
          refine ixs_q h_b_4 (fun m_b_4 u_b_4 hm_b_4 hb_b_4 hz_b_4 => ?_)
          subst hz_b_4
          conv => whnf
          obtain ⟨r_5, h_r_5, hL1⟩ := bind_some hL1
          refine ⟨_, _, _, _, _, _, _, _, _, callX false [] [] 0 Try.func99 (by decide) rfl (ref02_Letter_ac ((u_b_4.toNat : Nat) : Int) r_5 h_r_5) rfl ⟨(argE (by (conv => lhs; whnf); all_goals rfl) rfl), trivial⟩ rfl trivial rfl rfl rfl lend0 trivial rfl, ?_⟩
          conv => whnf
          refine ⟨fun hb_20 => ?_, fun hb_20 => ?_⟩
          · replace hL1 := cond_t hb_20 hL1
            conv => whnf
            obtain ⟨b_6, h_b_6, hL1⟩ := bind_some hL1
            refine ixs_q h_b_6 (fun m_b_6 u_b_6 hm_b_6 hb_b_6 hz_b_6 => ?_)
            subst hz_b_6
            conv => whnf
            obtain ⟨r_7, h_r_7, hL1⟩ := bind_some hL1
            refine ⟨_, _, _, _, _, _, _, _, _, callX false [] [] 0 Try.func100 (by decide) rfl (ref02_Digit_ac ((u_b_6.toNat : Nat) : Int) r_7 h_r_7) rfl ⟨(argE (by (conv => lhs; whnf); all_goals rfl) rfl), trivial⟩ rfl trivial rfl rfl rfl lend0 trivial rfl, ?_⟩
            conv => whnf
            refine ⟨fun hb_21 => ?_, fun hb_21 => ?_⟩
            · replace hL1 := cond_t hb_21 hL1
              conv => whnf
              obtain rfl := Option.some.inj hL1
              replace hF := fin_ret hF
              obtain rfl := Option.some.inj hF
              exact ret_gz [] [] [] rfl (argFl (by (conv => lhs; whnf); all_goals rfl)) trivial
            · replace hL1 := cond_f hb_21 hL1
              conv => whnf
              refine ⟨_, rfl, ?_⟩
              conv => whnf
              exact ⟨(q_8, (w64 (i_3 + (1 : Int)))), [], [], [], hL1, Nat.lt_succ_self _, wk_mk [] [] [] rfl ⟨argE (by (conv => lhs; whnf); all_goals rfl) rfl, argE (by (conv => lhs; whnf); all_goals rfl) rfl, trivial⟩ trivial⟩
          · replace hL1 := cond_f hb_20 hL1
            conv => whnf
            refine ⟨_, rfl, ?_⟩
            conv => whnf
            exact ⟨(q_8, (w64 (i_3 + (1 : Int)))), [], [], [], hL1, Nat.lt_succ_self _, wk_mk [] [] [] rfl ⟨argE (by (conv => lhs; whnf); all_goals rfl) rfl, argE (by (conv => lhs; whnf); all_goals rfl) rfl, trivial⟩ trivial⟩
        · replace hL1 := cond_f hb_19 hL1
          conv => whnf
          obtain rfl := Option.some.inj hL1
          replace hF := fin_brk hF
          try dsimp only at hF
          obtain rfl := Option.some.inj hF
          exact ret_gz [] [] [] rfl (argT (by (conv => lhs; whnf); all_goals rfl)) trivial
    · replace hF := cond_t hb_17 hF
      conv => whnf
      obtain rfl := Option.some.inj hF
      exact ret_gz [] [] [] rfl (argFl (by (conv => lhs; whnf); all_goals rfl)) trivial
  · replace hF := cond_t hb_16 hF
    conv => whnf
    obtain rfl := Option.some.inj hF
    exact ret_gz [] [] [] rfl (argFl (by (conv => lhs; whnf); all_goals rfl)) trivial

set_option maxRecDepth 100000 in
set_option maxHeartbeats 40000000 in
theorem ref04_spelled_ac (x_0 : Message) (r : Bool) (hF : ref04_spelled x_0 = some r) : AC Try.prog 66 [.agg (encMessage x_0)] [] (.bool r) [] := by
  refine ac_of tab_ok follows_ok Try.func66 rfl Try.ntmps66 rfl ?_
  unfold ref04_spelled at hF
  conv => whnf
  obtain ⟨r_1, h_r_1, hF⟩ := bind_some hF
  refine ⟨_, _, _, _, _, _, _, _, _, callX false [] [] 0 Try.func91 (by decide) rfl (ref02_ValidPort_ac x_0.Port r_1 h_r_1) rfl ⟨(argE (by (conv => lhs; whnf); all_goals rfl) rfl), trivial⟩ rfl trivial rfl rfl rfl lend0 trivial rfl, ?_⟩
  conv => whnf
  refine ⟨fun hb_60 => ?_, fun hb_60 => ?_⟩
  · replace hF := cond_f hb_60 hF
    conv => whnf
    refine ⟨fun hb_61 => ?_, fun hb_61 => ?_⟩
    · replace hF := cond_t hb_61 hF
      conv => whnf
      obtain ⟨r_2, h_r_2, hF⟩ := bind_some hF
      refine ⟨_, _, _, _, _, _, _, _, _, callX false [] [] 0 Try.func92 (by decide) rfl (ref02_ValidLeg_ac x_0.Out r_2 h_r_2) rfl ⟨(argE (by (conv => lhs; whnf); all_goals rfl) rfl), trivial⟩ rfl trivial rfl rfl rfl lend0 trivial rfl, ?_⟩
      conv => whnf
      refine ⟨fun hb_62 => ?_, fun hb_62 => ?_⟩
      · replace hF := cond_f hb_62 hF
        conv => whnf
        refine ⟨fun hb_63 => ?_, fun hb_63 => ?_⟩
        · replace hF := cond_t hb_63 hF
          conv => whnf
          obtain ⟨r_3, h_r_3, hF⟩ := bind_some hF
          refine ⟨_, _, _, _, _, _, _, _, _, callX false [] [] 0 Try.func92 (by decide) rfl (ref02_ValidLeg_ac x_0.In r_3 h_r_3) rfl ⟨(argE (by (conv => lhs; whnf); all_goals rfl) rfl), trivial⟩ rfl trivial rfl rfl rfl lend0 trivial rfl, ?_⟩
          conv => whnf
          refine ⟨fun hb_64 => ?_, fun hb_64 => ?_⟩
          · replace hF := cond_f hb_64 hF
            conv => whnf
            refine ⟨fun h => ?_, fun h => ?_⟩
            · cases (beq_ne (c := (3 : Int)) hb_63 rfl).symm.trans h
            · conv => whnf
              obtain ⟨c_1, hc_1, hF⟩ := fin_some hF
              refine sw_bv 0 (v := .agg [.int .i64 x_0.Kind, .int .i64 x_0.Do, .str x_0.Port, .int .i64 x_0.Number, .str x_0.In.Flight.Carrier, .int .i64 x_0.In.Flight.Number, .str x_0.In.Flight.Suffix, .int .i64 x_0.In.Flight.Day, .str x_0.In.Port, .str x_0.In.Class, .str x_0.Out.Flight.Carrier, .int .i64 x_0.Out.Flight.Number, .str x_0.Out.Flight.Suffix, .int .i64 x_0.Out.Flight.Day, .str x_0.Out.Port, .str x_0.Out.Class, .lst 6 (x_0.Onward.map encLeg), .int .i64 x_0.First.Lead, .int .i64 x_0.First.Airline, .int .i64 x_0.First.Serial, .int .i64 x_0.Count, .bool x_0.Load, .int .i64 x_0.Status, .int .i64 x_0.Sequence, .int .i64 x_0.Weight, .str x_0.Surname, .str x_0.Given, .int .i64 x_0.Exception, .str x_0.Node, .lst 1 (x_0.List.map iA)]) (by (conv => lhs; whnf); all_goals rfl) (fun hb => ?_)
              have hbd_k_5 : x_0.Onward.length ≤ 9223372036854775807 := bnd_len (enc := encLeg) ((bnd_at hb.cell 16 rfl))
              refine sw_loop tab_ok follows_ok (fun y : Nat => y ≤ x_0.Onward.length ∧ ref04_spelled_L1 (x_0.Onward.drop y) y = some c_1) (fun y => ⟨eL [(1, .ptr 0 0), (3, .int .i64 (y : Int))], hL [(0, .box [.int .i64 x_0.Kind, .int .i64 x_0.Do, .str x_0.Port, .int .i64 x_0.Number, .str x_0.In.Flight.Carrier, .int .i64 x_0.In.Flight.Number, .str x_0.In.Flight.Suffix, .int .i64 x_0.In.Flight.Day, .str x_0.In.Port, .str x_0.In.Class, .str x_0.Out.Flight.Carrier, .int .i64 x_0.Out.Flight.Number, .str x_0.Out.Flight.Suffix, .int .i64 x_0.Out.Flight.Day, .str x_0.Out.Port, .str x_0.Out.Class, .lst 6 (x_0.Onward.map encLeg), .int .i64 x_0.First.Lead, .int .i64 x_0.First.Airline, .int .i64 x_0.First.Serial, .int .i64 x_0.Count, .bool x_0.Load, .int .i64 x_0.Status, .int .i64 x_0.Sequence, .int .i64 x_0.Weight, .str x_0.Surname, .str x_0.Given, .int .i64 x_0.Exception, .str x_0.Node, .lst 1 (x_0.List.map iA)])], 1⟩) (fun y => x_0.Onward.length - y) 0 ⟨Nat.zero_le _, hc_1⟩ (wk_mk [0] [] [] rfl ⟨argP (id := 0) (by (conv => lhs; whnf); all_goals rfl) rfl, argE (by (conv => lhs; whnf); all_goals rfl) rfl, trivial⟩ ⟨boxL rfl rfl rfl ⟨(.ni _ rfl), (.ni _ rfl), (.ni _ rfl), (.ni _ rfl), (.ni _ rfl), (.ni _ rfl), (.ni _ rfl), (.ni _ rfl), (.ni _ rfl), (.ni _ rfl), (.ni _ rfl), (.ni _ rfl), (.ni _ rfl), (.ni _ rfl), (.ni _ rfl), (.ni _ rfl), (.ni _ rfl), (.ni _ rfl), (.ni _ rfl), (.ni _ rfl), (.ni _ rfl), (.ni _ rfl), (.ni _ rfl), (.ni _ rfl), (.ni _ rfl), (.ni _ rfl), (.ni _ rfl), (.ni _ rfl), (.ni _ rfl), (.ni _ rfl), trivial⟩, trivial⟩) ?_
              rintro k_5 ⟨hk_k_5, hL1⟩
              try dsimp only at hk_k_5 hL1
              show awp _ _ _ _ _ _ ⟨eL [(1, .ptr 0 0), (3, .int .i64 (k_5 : Int))], hL [(0, .box [.int .i64 x_0.Kind, .int .i64 x_0.Do, .str x_0.Port, .int .i64 x_0.Number, .str x_0.In.Flight.Carrier, .int .i64 x_0.In.Flight.Number, .str x_0.In.Flight.Suffix, .int .i64 x_0.In.Flight.Day, .str x_0.In.Port, .str x_0.In.Class, .str x_0.Out.Flight.Carrier, .int .i64 x_0.Out.Flight.Number, .str x_0.Out.Flight.Suffix, .int .i64 x_0.Out.Flight.Day, .str x_0.Out.Port, .str x_0.Out.Class, .lst 6 (x_0.Onward.map encLeg), .int .i64 x_0.First.Lead, .int .i64 x_0.First.Airline, .int .i64 x_0.First.Serial, .int .i64 x_0.Count, .bool x_0.Load, .int .i64 x_0.Status, .int .i64 x_0.Sequence, .int .i64 x_0.Weight, .str x_0.Surname, .str x_0.Given, .int .i64 x_0.Exception, .str x_0.Node, .lst 1 (x_0.List.map iA)])], 1⟩
              conv => whnf
              refine len_q (enc := encLeg) (l := x_0.Onward) rfl ?_
              conv => whnf
              refine ⟨fun h => ?_, fun h => ?_⟩
              · have hlt_k_5 : k_5 < x_0.Onward.length := by have h := of_decide_eq_true h; omega
                obtain ⟨e_6, h_e_6⟩ : ∃ y, x_0.Onward[k_5]? = some y := ⟨_, List.getElem?_eq_getElem hlt_k_5⟩
                rw [drop_cons h_e_6, ref04_spelled_L1.eq_2] at hL1
                conv => whnf
                refine ⟨k_5, _, rfl, ix_map h_e_6, ?_⟩
                conv => whnf
                obtain ⟨r_7, h_r_7, hL1⟩ := bind_some hL1
                refine ⟨_, _, _, _, _, _, _, _, _, callX false [] [] 0 Try.func92 (by decide) rfl (ref02_ValidLeg_ac e_6 r_7 h_r_7) rfl ⟨(argE (by (conv => lhs; whnf); all_goals rfl) rfl), trivial⟩ rfl trivial rfl rfl rfl lend0 trivial rfl, ?_⟩
                conv => whnf
                refine ⟨fun hb_65 => ?_, fun hb_65 => ?_⟩
                · replace hL1 := cond_t hb_65 hL1
                  conv => whnf
                  obtain rfl := Option.some.inj hL1
                  replace hF := fin_ret hF
                  obtain rfl := Option.some.inj hF
                  exact ret_gz [] [] [] rfl (argFl (by (conv => lhs; whnf); all_goals rfl)) trivial
                · replace hL1 := cond_f hb_65 hL1
                  conv => whnf
                  refine ⟨((k_5 + 1 : Nat) : Int), wrapE (by omega) (by omega) (by omega), ?_⟩
                  conv => whnf
                  exact ⟨k_5 + 1, [0], [], [], ⟨hlt_k_5, hL1⟩, by show x_0.Onward.length - (k_5 + 1) < x_0.Onward.length - k_5; omega, wk_mk [0] [] [] rfl ⟨argP (id := 0) (by (conv => lhs; whnf); all_goals rfl) rfl, argE (by (conv => lhs; whnf); all_goals rfl) rfl, trivial⟩ ⟨boxL rfl rfl rfl ⟨(.ni _ rfl), (.ni _ rfl), (.ni _ rfl), (.ni _ rfl), (.ni _ rfl), (.ni _ rfl), (.ni _ rfl), (.ni _ rfl), (.ni _ rfl), (.ni _ rfl), (.ni _ rfl), (.ni _ rfl), (.ni _ rfl), (.ni _ rfl), (.ni _ rfl), (.ni _ rfl), (.ni _ rfl), (.ni _ rfl), (.ni _ rfl), (.ni _ rfl), (.ni _ rfl), (.ni _ rfl), (.ni _ rfl), (.ni _ rfl), (.ni _ rfl), (.ni _ rfl), (.ni _ rfl), (.ni _ rfl), (.ni _ rfl), (.ni _ rfl), trivial⟩, trivial⟩⟩
              · rw [drop_nil (show x_0.Onward.length ≤ k_5 by have h := of_decide_eq_false h; omega), ref04_spelled_L1.eq_1] at hL1
                conv => whnf
                obtain rfl := Option.some.inj hL1
                replace hF := fin_brk hF
                try dsimp only at hF
                obtain ⟨r_10, h_r_10, hF⟩ := bind_some hF
                refine ⟨_, _, _, _, _, _, _, _, _, callX false [] [] 0 Try.func90 (by decide) rfl (ref04_Bag_ac x_0.Kind r_10 h_r_10) rfl ⟨(argE (by (conv => lhs; whnf); all_goals rfl) rfl), trivial⟩ rfl trivial rfl rfl rfl lend0 trivial rfl, ?_⟩
                conv => whnf
                refine ⟨fun hb_66 => ?_, fun hb_66 => ?_⟩
                · replace hF := cond_f hb_66 hF
                  conv => whnf
                  obtain ⟨r_11, h_r_11, hF⟩ := bind_some hF
                  refine ⟨_, _, _, _, _, _, _, _, _, callX false [] [] 0 Try.func94 (by decide) rfl (ref04_letters_ac x_0.Surname (1 : Int) r_11 h_r_11) rfl ⟨(argE (by (conv => lhs; whnf); all_goals rfl) rfl), (argE (by (conv => lhs; whnf); all_goals rfl) rfl), trivial⟩ rfl trivial rfl rfl rfl lend0 trivial rfl, ?_⟩
                  conv => whnf
                  refine ⟨fun hb_67 => ?_, fun hb_67 => ?_⟩
                  · replace hF := cond_t hb_67 hF
                    conv => whnf
                    obtain ⟨r_12, h_r_12, hF⟩ := bind_some hF
                    refine ⟨_, _, _, _, _, _, _, _, _, callX false [] [] 0 Try.func94 (by decide) rfl (ref04_letters_ac x_0.Given (0 : Int) r_12 h_r_12) rfl ⟨(argE (by (conv => lhs; whnf); all_goals rfl) rfl), (argE (by (conv => lhs; whnf); all_goals rfl) rfl), trivial⟩ rfl trivial rfl rfl rfl lend0 trivial rfl, ?_⟩
                    conv => whnf
                    obtain rfl := Option.some.inj hF
                    exact ret_gz [] [] [] rfl (argE (by (conv => lhs; whnf); all_goals rfl) rfl) trivial
                  · replace hF := cond_f hb_67 hF
                    conv => whnf
                    obtain rfl := Option.some.inj hF
                    exact ret_gz [] [] [] rfl (argFl (by (conv => lhs; whnf); all_goals rfl)) trivial
                · replace hF := cond_t hb_66 hF
                  conv => whnf
                  obtain rfl := Option.some.inj hF
                  exact ret_gz [] [] [] rfl (argT (by (conv => lhs; whnf); all_goals rfl)) trivial
          · replace hF := cond_t hb_64 hF
            conv => whnf
            obtain rfl := Option.some.inj hF
            exact ret_gz [] [] [] rfl (argFl (by (conv => lhs; whnf); all_goals rfl)) trivial
        · replace hF := cond_f hb_63 hF
          conv => whnf
          refine ⟨fun hb_68 => ?_, fun hb_68 => ?_⟩
          · replace hF := cond_t hb_68 hF
            conv => whnf
            obtain ⟨r_13, h_r_13, hF⟩ := bind_some hF
            refine ⟨_, _, _, _, _, _, _, _, _, callX false [] [] 0 Try.func93 (by decide) rfl (ref04_Name_ac x_0.Node r_13 h_r_13) rfl ⟨(argE (by (conv => lhs; whnf); all_goals rfl) rfl), trivial⟩ rfl trivial rfl rfl rfl lend0 trivial rfl, ?_⟩
            conv => whnf
            refine ⟨fun hb_69 => ?_, fun hb_69 => ?_⟩
            · replace hF := cond_t hb_69 hF
              conv => whnf
              obtain rfl := Option.some.inj hF
              exact ret_gz [] [] [] rfl (argFl (by (conv => lhs; whnf); all_goals rfl)) trivial
            · replace hF := cond_f hb_69 hF
              conv => whnf
              obtain ⟨c_1, hc_1, hF⟩ := fin_some hF
              refine sw_bv 0 (v := .agg [.int .i64 x_0.Kind, .int .i64 x_0.Do, .str x_0.Port, .int .i64 x_0.Number, .str x_0.In.Flight.Carrier, .int .i64 x_0.In.Flight.Number, .str x_0.In.Flight.Suffix, .int .i64 x_0.In.Flight.Day, .str x_0.In.Port, .str x_0.In.Class, .str x_0.Out.Flight.Carrier, .int .i64 x_0.Out.Flight.Number, .str x_0.Out.Flight.Suffix, .int .i64 x_0.Out.Flight.Day, .str x_0.Out.Port, .str x_0.Out.Class, .lst 6 (x_0.Onward.map encLeg), .int .i64 x_0.First.Lead, .int .i64 x_0.First.Airline, .int .i64 x_0.First.Serial, .int .i64 x_0.Count, .bool x_0.Load, .int .i64 x_0.Status, .int .i64 x_0.Sequence, .int .i64 x_0.Weight, .str x_0.Surname, .str x_0.Given, .int .i64 x_0.Exception, .str x_0.Node, .lst 1 (x_0.List.map iA)]) (by (conv => lhs; whnf); all_goals rfl) (fun hb => ?_)
              have hbd_k_15 : x_0.Onward.length ≤ 9223372036854775807 := bnd_len (enc := encLeg) ((bnd_at hb.cell 16 rfl))
              refine sw_loop tab_ok follows_ok (fun y : Nat => y ≤ x_0.Onward.length ∧ ref04_spelled_L1 (x_0.Onward.drop y) y = some c_1) (fun y => ⟨eL [(1, .ptr 0 0), (3, .int .i64 (y : Int))], hL [(0, .box [.int .i64 x_0.Kind, .int .i64 x_0.Do, .str x_0.Port, .int .i64 x_0.Number, .str x_0.In.Flight.Carrier, .int .i64 x_0.In.Flight.Number, .str x_0.In.Flight.Suffix, .int .i64 x_0.In.Flight.Day, .str x_0.In.Port, .str x_0.In.Class, .str x_0.Out.Flight.Carrier, .int .i64 x_0.Out.Flight.Number, .str x_0.Out.Flight.Suffix, .int .i64 x_0.Out.Flight.Day, .str x_0.Out.Port, .str x_0.Out.Class, .lst 6 (x_0.Onward.map encLeg), .int .i64 x_0.First.Lead, .int .i64 x_0.First.Airline, .int .i64 x_0.First.Serial, .int .i64 x_0.Count, .bool x_0.Load, .int .i64 x_0.Status, .int .i64 x_0.Sequence, .int .i64 x_0.Weight, .str x_0.Surname, .str x_0.Given, .int .i64 x_0.Exception, .str x_0.Node, .lst 1 (x_0.List.map iA)])], 1⟩) (fun y => x_0.Onward.length - y) 0 ⟨Nat.zero_le _, hc_1⟩ (wk_mk [0] [] [] rfl ⟨argP (id := 0) (by (conv => lhs; whnf); all_goals rfl) rfl, argE (by (conv => lhs; whnf); all_goals rfl) rfl, trivial⟩ ⟨boxL rfl rfl rfl ⟨(.ni _ rfl), (.ni _ rfl), (.ni _ rfl), (.ni _ rfl), (.ni _ rfl), (.ni _ rfl), (.ni _ rfl), (.ni _ rfl), (.ni _ rfl), (.ni _ rfl), (.ni _ rfl), (.ni _ rfl), (.ni _ rfl), (.ni _ rfl), (.ni _ rfl), (.ni _ rfl), (.ni _ rfl), (.ni _ rfl), (.ni _ rfl), (.ni _ rfl), (.ni _ rfl), (.ni _ rfl), (.ni _ rfl), (.ni _ rfl), (.ni _ rfl), (.ni _ rfl), (.ni _ rfl), (.ni _ rfl), (.ni _ rfl), (.ni _ rfl), trivial⟩, trivial⟩) ?_
              rintro k_15 ⟨hk_k_15, hL1⟩
              try dsimp only at hk_k_15 hL1
              show awp _ _ _ _ _ _ ⟨eL [(1, .ptr 0 0), (3, .int .i64 (k_15 : Int))], hL [(0, .box [.int .i64 x_0.Kind, .int .i64 x_0.Do, .str x_0.Port, .int .i64 x_0.Number, .str x_0.In.Flight.Carrier, .int .i64 x_0.In.Flight.Number, .str x_0.In.Flight.Suffix, .int .i64 x_0.In.Flight.Day, .str x_0.In.Port, .str x_0.In.Class, .str x_0.Out.Flight.Carrier, .int .i64 x_0.Out.Flight.Number, .str x_0.Out.Flight.Suffix, .int .i64 x_0.Out.Flight.Day, .str x_0.Out.Port, .str x_0.Out.Class, .lst 6 (x_0.Onward.map encLeg), .int .i64 x_0.First.Lead, .int .i64 x_0.First.Airline, .int .i64 x_0.First.Serial, .int .i64 x_0.Count, .bool x_0.Load, .int .i64 x_0.Status, .int .i64 x_0.Sequence, .int .i64 x_0.Weight, .str x_0.Surname, .str x_0.Given, .int .i64 x_0.Exception, .str x_0.Node, .lst 1 (x_0.List.map iA)])], 1⟩
              conv => whnf
              refine len_q (enc := encLeg) (l := x_0.Onward) rfl ?_
              conv => whnf
              refine ⟨fun h => ?_, fun h => ?_⟩
              · have hlt_k_15 : k_15 < x_0.Onward.length := by have h := of_decide_eq_true h; omega
                obtain ⟨e_16, h_e_16⟩ : ∃ y, x_0.Onward[k_15]? = some y := ⟨_, List.getElem?_eq_getElem hlt_k_15⟩
                rw [drop_cons h_e_16, ref04_spelled_L1.eq_2] at hL1
                conv => whnf
                refine ⟨k_15, _, rfl, ix_map h_e_16, ?_⟩
                conv => whnf
                obtain ⟨r_17, h_r_17, hL1⟩ := bind_some hL1
                refine ⟨_, _, _, _, _, _, _, _, _, callX false [] [] 0 Try.func92 (by decide) rfl (ref02_ValidLeg_ac e_16 r_17 h_r_17) rfl ⟨(argE (by (conv => lhs; whnf); all_goals rfl) rfl), trivial⟩ rfl trivial rfl rfl rfl lend0 trivial rfl, ?_⟩
                conv => whnf
                refine ⟨fun hb_70 => ?_, fun hb_70 => ?_⟩
                · replace hL1 := cond_t hb_70 hL1
                  conv => whnf
                  obtain rfl := Option.some.inj hL1
                  replace hF := fin_ret hF
                  obtain rfl := Option.some.inj hF
                  exact ret_gz [] [] [] rfl (argFl (by (conv => lhs; whnf); all_goals rfl)) trivial
                · replace hL1 := cond_f hb_70 hL1
                  conv => whnf
                  refine ⟨((k_15 + 1 : Nat) : Int), wrapE (by omega) (by omega) (by omega), ?_⟩
                  conv => whnf
                  exact ⟨k_15 + 1, [0], [], [], ⟨hlt_k_15, hL1⟩, by show x_0.Onward.length - (k_15 + 1) < x_0.Onward.length - k_15; omega, wk_mk [0] [] [] rfl ⟨argP (id := 0) (by (conv => lhs; whnf); all_goals rfl) rfl, argE (by (conv => lhs; whnf); all_goals rfl) rfl, trivial⟩ ⟨boxL rfl rfl rfl ⟨(.ni _ rfl), (.ni _ rfl), (.ni _ rfl), (.ni _ rfl), (.ni _ rfl), (.ni _ rfl), (.ni _ rfl), (.ni _ rfl), (.ni _ rfl), (.ni _ rfl), (.ni _ rfl), (.ni _ rfl), (.ni _ rfl), (.ni _ rfl), (.ni _ rfl), (.ni _ rfl), (.ni _ rfl), (.ni _ rfl), (.ni _ rfl), (.ni _ rfl), (.ni _ rfl), (.ni _ rfl), (.ni _ rfl), (.ni _ rfl), (.ni _ rfl), (.ni _ rfl), (.ni _ rfl), (.ni _ rfl), (.ni _ rfl), (.ni _ rfl), trivial⟩, trivial⟩⟩
              · rw [drop_nil (show x_0.Onward.length ≤ k_15 by have h := of_decide_eq_false h; omega), ref04_spelled_L1.eq_1] at hL1
                conv => whnf
                obtain rfl := Option.some.inj hL1
                replace hF := fin_brk hF
                try dsimp only at hF
                obtain ⟨r_20, h_r_20, hF⟩ := bind_some hF
                refine ⟨_, _, _, _, _, _, _, _, _, callX false [] [] 0 Try.func90 (by decide) rfl (ref04_Bag_ac x_0.Kind r_20 h_r_20) rfl ⟨(argE (by (conv => lhs; whnf); all_goals rfl) rfl), trivial⟩ rfl trivial rfl rfl rfl lend0 trivial rfl, ?_⟩
                conv => whnf
                refine ⟨fun hb_71 => ?_, fun hb_71 => ?_⟩
                · replace hF := cond_f hb_71 hF
                  conv => whnf
                  obtain ⟨r_21, h_r_21, hF⟩ := bind_some hF
                  refine ⟨_, _, _, _, _, _, _, _, _, callX false [] [] 0 Try.func94 (by decide) rfl (ref04_letters_ac x_0.Surname (1 : Int) r_21 h_r_21) rfl ⟨(argE (by (conv => lhs; whnf); all_goals rfl) rfl), (argE (by (conv => lhs; whnf); all_goals rfl) rfl), trivial⟩ rfl trivial rfl rfl rfl lend0 trivial rfl, ?_⟩
                  conv => whnf
                  refine ⟨fun hb_72 => ?_, fun hb_72 => ?_⟩
                  · replace hF := cond_t hb_72 hF
                    conv => whnf
                    obtain ⟨r_22, h_r_22, hF⟩ := bind_some hF
                    refine ⟨_, _, _, _, _, _, _, _, _, callX false [] [] 0 Try.func94 (by decide) rfl (ref04_letters_ac x_0.Given (0 : Int) r_22 h_r_22) rfl ⟨(argE (by (conv => lhs; whnf); all_goals rfl) rfl), (argE (by (conv => lhs; whnf); all_goals rfl) rfl), trivial⟩ rfl trivial rfl rfl rfl lend0 trivial rfl, ?_⟩
                    conv => whnf
                    obtain rfl := Option.some.inj hF
                    exact ret_gz [] [] [] rfl (argE (by (conv => lhs; whnf); all_goals rfl) rfl) trivial
                  · replace hF := cond_f hb_72 hF
                    conv => whnf
                    obtain rfl := Option.some.inj hF
                    exact ret_gz [] [] [] rfl (argFl (by (conv => lhs; whnf); all_goals rfl)) trivial
                · replace hF := cond_t hb_71 hF
                  conv => whnf
                  obtain rfl := Option.some.inj hF
                  exact ret_gz [] [] [] rfl (argT (by (conv => lhs; whnf); all_goals rfl)) trivial
          · replace hF := cond_f hb_68 hF
            conv => whnf
            obtain ⟨c_1, hc_1, hF⟩ := fin_some hF
            refine sw_bv 0 (v := .agg [.int .i64 x_0.Kind, .int .i64 x_0.Do, .str x_0.Port, .int .i64 x_0.Number, .str x_0.In.Flight.Carrier, .int .i64 x_0.In.Flight.Number, .str x_0.In.Flight.Suffix, .int .i64 x_0.In.Flight.Day, .str x_0.In.Port, .str x_0.In.Class, .str x_0.Out.Flight.Carrier, .int .i64 x_0.Out.Flight.Number, .str x_0.Out.Flight.Suffix, .int .i64 x_0.Out.Flight.Day, .str x_0.Out.Port, .str x_0.Out.Class, .lst 6 (x_0.Onward.map encLeg), .int .i64 x_0.First.Lead, .int .i64 x_0.First.Airline, .int .i64 x_0.First.Serial, .int .i64 x_0.Count, .bool x_0.Load, .int .i64 x_0.Status, .int .i64 x_0.Sequence, .int .i64 x_0.Weight, .str x_0.Surname, .str x_0.Given, .int .i64 x_0.Exception, .str x_0.Node, .lst 1 (x_0.List.map iA)]) (by (conv => lhs; whnf); all_goals rfl) (fun hb => ?_)
            have hbd_k_24 : x_0.Onward.length ≤ 9223372036854775807 := bnd_len (enc := encLeg) ((bnd_at hb.cell 16 rfl))
            refine sw_loop tab_ok follows_ok (fun y : Nat => y ≤ x_0.Onward.length ∧ ref04_spelled_L1 (x_0.Onward.drop y) y = some c_1) (fun y => ⟨eL [(1, .ptr 0 0), (3, .int .i64 (y : Int))], hL [(0, .box [.int .i64 x_0.Kind, .int .i64 x_0.Do, .str x_0.Port, .int .i64 x_0.Number, .str x_0.In.Flight.Carrier, .int .i64 x_0.In.Flight.Number, .str x_0.In.Flight.Suffix, .int .i64 x_0.In.Flight.Day, .str x_0.In.Port, .str x_0.In.Class, .str x_0.Out.Flight.Carrier, .int .i64 x_0.Out.Flight.Number, .str x_0.Out.Flight.Suffix, .int .i64 x_0.Out.Flight.Day, .str x_0.Out.Port, .str x_0.Out.Class, .lst 6 (x_0.Onward.map encLeg), .int .i64 x_0.First.Lead, .int .i64 x_0.First.Airline, .int .i64 x_0.First.Serial, .int .i64 x_0.Count, .bool x_0.Load, .int .i64 x_0.Status, .int .i64 x_0.Sequence, .int .i64 x_0.Weight, .str x_0.Surname, .str x_0.Given, .int .i64 x_0.Exception, .str x_0.Node, .lst 1 (x_0.List.map iA)])], 1⟩) (fun y => x_0.Onward.length - y) 0 ⟨Nat.zero_le _, hc_1⟩ (wk_mk [0] [] [] rfl ⟨argP (id := 0) (by (conv => lhs; whnf); all_goals rfl) rfl, argE (by (conv => lhs; whnf); all_goals rfl) rfl, trivial⟩ ⟨boxL rfl rfl rfl ⟨(.ni _ rfl), (.ni _ rfl), (.ni _ rfl), (.ni _ rfl), (.ni _ rfl), (.ni _ rfl), (.ni _ rfl), (.ni _ rfl), (.ni _ rfl), (.ni _ rfl), (.ni _ rfl), (.ni _ rfl), (.ni _ rfl), (.ni _ rfl), (.ni _ rfl), (.ni _ rfl), (.ni _ rfl), (.ni _ rfl), (.ni _ rfl), (.ni _ rfl), (.ni _ rfl), (.ni _ rfl), (.ni _ rfl), (.ni _ rfl), (.ni _ rfl), (.ni _ rfl), (.ni _ rfl), (.ni _ rfl), (.ni _ rfl), (.ni _ rfl), trivial⟩, trivial⟩) ?_
            rintro k_24 ⟨hk_k_24, hL1⟩
            try dsimp only at hk_k_24 hL1
            show awp _ _ _ _ _ _ ⟨eL [(1, .ptr 0 0), (3, .int .i64 (k_24 : Int))], hL [(0, .box [.int .i64 x_0.Kind, .int .i64 x_0.Do, .str x_0.Port, .int .i64 x_0.Number, .str x_0.In.Flight.Carrier, .int .i64 x_0.In.Flight.Number, .str x_0.In.Flight.Suffix, .int .i64 x_0.In.Flight.Day, .str x_0.In.Port, .str x_0.In.Class, .str x_0.Out.Flight.Carrier, .int .i64 x_0.Out.Flight.Number, .str x_0.Out.Flight.Suffix, .int .i64 x_0.Out.Flight.Day, .str x_0.Out.Port, .str x_0.Out.Class, .lst 6 (x_0.Onward.map encLeg), .int .i64 x_0.First.Lead, .int .i64 x_0.First.Airline, .int .i64 x_0.First.Serial, .int .i64 x_0.Count, .bool x_0.Load, .int .i64 x_0.Status, .int .i64 x_0.Sequence, .int .i64 x_0.Weight, .str x_0.Surname, .str x_0.Given, .int .i64 x_0.Exception, .str x_0.Node, .lst 1 (x_0.List.map iA)])], 1⟩
            conv => whnf
            refine len_q (enc := encLeg) (l := x_0.Onward) rfl ?_
            conv => whnf
            refine ⟨fun h => ?_, fun h => ?_⟩
            · have hlt_k_24 : k_24 < x_0.Onward.length := by have h := of_decide_eq_true h; omega
              obtain ⟨e_25, h_e_25⟩ : ∃ y, x_0.Onward[k_24]? = some y := ⟨_, List.getElem?_eq_getElem hlt_k_24⟩
              rw [drop_cons h_e_25, ref04_spelled_L1.eq_2] at hL1
              conv => whnf
              refine ⟨k_24, _, rfl, ix_map h_e_25, ?_⟩
              conv => whnf
              obtain ⟨r_26, h_r_26, hL1⟩ := bind_some hL1
              refine ⟨_, _, _, _, _, _, _, _, _, callX false [] [] 0 Try.func92 (by decide) rfl (ref02_ValidLeg_ac e_25 r_26 h_r_26) rfl ⟨(argE (by (conv => lhs; whnf); all_goals rfl) rfl), trivial⟩ rfl trivial rfl rfl rfl lend0 trivial rfl, ?_⟩
              conv => whnf
              refine ⟨fun hb_73 => ?_, fun hb_73 => ?_⟩
              · replace hL1 := cond_t hb_73 hL1
                conv => whnf
                obtain rfl := Option.some.inj hL1
                replace hF := fin_ret hF
                obtain rfl := Option.some.inj hF
                exact ret_gz [] [] [] rfl (argFl (by (conv => lhs; whnf); all_goals rfl)) trivial
              · replace hL1 := cond_f hb_73 hL1
                conv => whnf
                refine ⟨((k_24 + 1 : Nat) : Int), wrapE (by omega) (by omega) (by omega), ?_⟩
                conv => whnf
                exact ⟨k_24 + 1, [0], [], [], ⟨hlt_k_24, hL1⟩, by show x_0.Onward.length - (k_24 + 1) < x_0.Onward.length - k_24; omega, wk_mk [0] [] [] rfl ⟨argP (id := 0) (by (conv => lhs; whnf); all_goals rfl) rfl, argE (by (conv => lhs; whnf); all_goals rfl) rfl, trivial⟩ ⟨boxL rfl rfl rfl ⟨(.ni _ rfl), (.ni _ rfl), (.ni _ rfl), (.ni _ rfl), (.ni _ rfl), (.ni _ rfl), (.ni _ rfl), (.ni _ rfl), (.ni _ rfl), (.ni _ rfl), (.ni _ rfl), (.ni _ rfl), (.ni _ rfl), (.ni _ rfl), (.ni _ rfl), (.ni _ rfl), (.ni _ rfl), (.ni _ rfl), (.ni _ rfl), (.ni _ rfl), (.ni _ rfl), (.ni _ rfl), (.ni _ rfl), (.ni _ rfl), (.ni _ rfl), (.ni _ rfl), (.ni _ rfl), (.ni _ rfl), (.ni _ rfl), (.ni _ rfl), trivial⟩, trivial⟩⟩
            · rw [drop_nil (show x_0.Onward.length ≤ k_24 by have h := of_decide_eq_false h; omega), ref04_spelled_L1.eq_1] at hL1
              conv => whnf
              obtain rfl := Option.some.inj hL1
              replace hF := fin_brk hF
              try dsimp only at hF
              obtain ⟨r_29, h_r_29, hF⟩ := bind_some hF
              refine ⟨_, _, _, _, _, _, _, _, _, callX false [] [] 0 Try.func90 (by decide) rfl (ref04_Bag_ac x_0.Kind r_29 h_r_29) rfl ⟨(argE (by (conv => lhs; whnf); all_goals rfl) rfl), trivial⟩ rfl trivial rfl rfl rfl lend0 trivial rfl, ?_⟩
              conv => whnf
              refine ⟨fun hb_74 => ?_, fun hb_74 => ?_⟩
              · replace hF := cond_f hb_74 hF
                conv => whnf
                obtain ⟨r_30, h_r_30, hF⟩ := bind_some hF
                refine ⟨_, _, _, _, _, _, _, _, _, callX false [] [] 0 Try.func94 (by decide) rfl (ref04_letters_ac x_0.Surname (1 : Int) r_30 h_r_30) rfl ⟨(argE (by (conv => lhs; whnf); all_goals rfl) rfl), (argE (by (conv => lhs; whnf); all_goals rfl) rfl), trivial⟩ rfl trivial rfl rfl rfl lend0 trivial rfl, ?_⟩
                conv => whnf
                refine ⟨fun hb_75 => ?_, fun hb_75 => ?_⟩
                · replace hF := cond_t hb_75 hF
                  conv => whnf
                  obtain ⟨r_31, h_r_31, hF⟩ := bind_some hF
                  refine ⟨_, _, _, _, _, _, _, _, _, callX false [] [] 0 Try.func94 (by decide) rfl (ref04_letters_ac x_0.Given (0 : Int) r_31 h_r_31) rfl ⟨(argE (by (conv => lhs; whnf); all_goals rfl) rfl), (argE (by (conv => lhs; whnf); all_goals rfl) rfl), trivial⟩ rfl trivial rfl rfl rfl lend0 trivial rfl, ?_⟩
                  conv => whnf
                  obtain rfl := Option.some.inj hF
                  exact ret_gz [] [] [] rfl (argE (by (conv => lhs; whnf); all_goals rfl) rfl) trivial
                · replace hF := cond_f hb_75 hF
                  conv => whnf
                  obtain rfl := Option.some.inj hF
                  exact ret_gz [] [] [] rfl (argFl (by (conv => lhs; whnf); all_goals rfl)) trivial
              · replace hF := cond_t hb_74 hF
                conv => whnf
                obtain rfl := Option.some.inj hF
                exact ret_gz [] [] [] rfl (argT (by (conv => lhs; whnf); all_goals rfl)) trivial
      · replace hF := cond_t hb_62 hF
        conv => whnf
        obtain rfl := Option.some.inj hF
        exact ret_gz [] [] [] rfl (argFl (by (conv => lhs; whnf); all_goals rfl)) trivial
    · replace hF := cond_f hb_61 hF
      conv => whnf
      refine ⟨fun hb_76 => ?_, fun hb_76 => ?_⟩
      · replace hF := cond_t hb_76 hF
        conv => whnf
        obtain ⟨r_32, h_r_32, hF⟩ := bind_some hF
        refine ⟨_, _, _, _, _, _, _, _, _, callX false [] [] 0 Try.func92 (by decide) rfl (ref02_ValidLeg_ac x_0.In r_32 h_r_32) rfl ⟨(argE (by (conv => lhs; whnf); all_goals rfl) rfl), trivial⟩ rfl trivial rfl rfl rfl lend0 trivial rfl, ?_⟩
        conv => whnf
        refine ⟨fun hb_77 => ?_, fun hb_77 => ?_⟩
        · replace hF := cond_f hb_77 hF
          conv => whnf
          refine ⟨fun h => ?_, fun h => ?_⟩
          · cases (beq_ne (c := (3 : Int)) hb_76 rfl).symm.trans h
          · conv => whnf
            obtain ⟨c_1, hc_1, hF⟩ := fin_some hF
            refine sw_bv 0 (v := .agg [.int .i64 x_0.Kind, .int .i64 x_0.Do, .str x_0.Port, .int .i64 x_0.Number, .str x_0.In.Flight.Carrier, .int .i64 x_0.In.Flight.Number, .str x_0.In.Flight.Suffix, .int .i64 x_0.In.Flight.Day, .str x_0.In.Port, .str x_0.In.Class, .str x_0.Out.Flight.Carrier, .int .i64 x_0.Out.Flight.Number, .str x_0.Out.Flight.Suffix, .int .i64 x_0.Out.Flight.Day, .str x_0.Out.Port, .str x_0.Out.Class, .lst 6 (x_0.Onward.map encLeg), .int .i64 x_0.First.Lead, .int .i64 x_0.First.Airline, .int .i64 x_0.First.Serial, .int .i64 x_0.Count, .bool x_0.Load, .int .i64 x_0.Status, .int .i64 x_0.Sequence, .int .i64 x_0.Weight, .str x_0.Surname, .str x_0.Given, .int .i64 x_0.Exception, .str x_0.Node, .lst 1 (x_0.List.map iA)]) (by (conv => lhs; whnf); all_goals rfl) (fun hb => ?_)
            have hbd_k_34 : x_0.Onward.length ≤ 9223372036854775807 := bnd_len (enc := encLeg) ((bnd_at hb.cell 16 rfl))
            refine sw_loop tab_ok follows_ok (fun y : Nat => y ≤ x_0.Onward.length ∧ ref04_spelled_L1 (x_0.Onward.drop y) y = some c_1) (fun y => ⟨eL [(1, .ptr 0 0), (3, .int .i64 (y : Int))], hL [(0, .box [.int .i64 x_0.Kind, .int .i64 x_0.Do, .str x_0.Port, .int .i64 x_0.Number, .str x_0.In.Flight.Carrier, .int .i64 x_0.In.Flight.Number, .str x_0.In.Flight.Suffix, .int .i64 x_0.In.Flight.Day, .str x_0.In.Port, .str x_0.In.Class, .str x_0.Out.Flight.Carrier, .int .i64 x_0.Out.Flight.Number, .str x_0.Out.Flight.Suffix, .int .i64 x_0.Out.Flight.Day, .str x_0.Out.Port, .str x_0.Out.Class, .lst 6 (x_0.Onward.map encLeg), .int .i64 x_0.First.Lead, .int .i64 x_0.First.Airline, .int .i64 x_0.First.Serial, .int .i64 x_0.Count, .bool x_0.Load, .int .i64 x_0.Status, .int .i64 x_0.Sequence, .int .i64 x_0.Weight, .str x_0.Surname, .str x_0.Given, .int .i64 x_0.Exception, .str x_0.Node, .lst 1 (x_0.List.map iA)])], 1⟩) (fun y => x_0.Onward.length - y) 0 ⟨Nat.zero_le _, hc_1⟩ (wk_mk [0] [] [] rfl ⟨argP (id := 0) (by (conv => lhs; whnf); all_goals rfl) rfl, argE (by (conv => lhs; whnf); all_goals rfl) rfl, trivial⟩ ⟨boxL rfl rfl rfl ⟨(.ni _ rfl), (.ni _ rfl), (.ni _ rfl), (.ni _ rfl), (.ni _ rfl), (.ni _ rfl), (.ni _ rfl), (.ni _ rfl), (.ni _ rfl), (.ni _ rfl), (.ni _ rfl), (.ni _ rfl), (.ni _ rfl), (.ni _ rfl), (.ni _ rfl), (.ni _ rfl), (.ni _ rfl), (.ni _ rfl), (.ni _ rfl), (.ni _ rfl), (.ni _ rfl), (.ni _ rfl), (.ni _ rfl), (.ni _ rfl), (.ni _ rfl), (.ni _ rfl), (.ni _ rfl), (.ni _ rfl), (.ni _ rfl), (.ni _ rfl), trivial⟩, trivial⟩) ?_
            rintro k_34 ⟨hk_k_34, hL1⟩
            try dsimp only at hk_k_34 hL1
            show awp _ _ _ _ _ _ ⟨eL [(1, .ptr 0 0), (3, .int .i64 (k_34 : Int))], hL [(0, .box [.int .i64 x_0.Kind, .int .i64 x_0.Do, .str x_0.Port, .int .i64 x_0.Number, .str x_0.In.Flight.Carrier, .int .i64 x_0.In.Flight.Number, .str x_0.In.Flight.Suffix, .int .i64 x_0.In.Flight.Day, .str x_0.In.Port, .str x_0.In.Class, .str x_0.Out.Flight.Carrier, .int .i64 x_0.Out.Flight.Number, .str x_0.Out.Flight.Suffix, .int .i64 x_0.Out.Flight.Day, .str x_0.Out.Port, .str x_0.Out.Class, .lst 6 (x_0.Onward.map encLeg), .int .i64 x_0.First.Lead, .int .i64 x_0.First.Airline, .int .i64 x_0.First.Serial, .int .i64 x_0.Count, .bool x_0.Load, .int .i64 x_0.Status, .int .i64 x_0.Sequence, .int .i64 x_0.Weight, .str x_0.Surname, .str x_0.Given, .int .i64 x_0.Exception, .str x_0.Node, .lst 1 (x_0.List.map iA)])], 1⟩
            conv => whnf
            refine len_q (enc := encLeg) (l := x_0.Onward) rfl ?_
            conv => whnf
            refine ⟨fun h => ?_, fun h => ?_⟩
            · have hlt_k_34 : k_34 < x_0.Onward.length := by have h := of_decide_eq_true h; omega
              obtain ⟨e_35, h_e_35⟩ : ∃ y, x_0.Onward[k_34]? = some y := ⟨_, List.getElem?_eq_getElem hlt_k_34⟩
              rw [drop_cons h_e_35, ref04_spelled_L1.eq_2] at hL1
              conv => whnf
              refine ⟨k_34, _, rfl, ix_map h_e_35, ?_⟩
              conv => whnf
              obtain ⟨r_36, h_r_36, hL1⟩ := bind_some hL1
              refine ⟨_, _, _, _, _, _, _, _, _, callX false [] [] 0 Try.func92 (by decide) rfl (ref02_ValidLeg_ac e_35 r_36 h_r_36) rfl ⟨(argE (by (conv => lhs; whnf); all_goals rfl) rfl), trivial⟩ rfl trivial rfl rfl rfl lend0 trivial rfl, ?_⟩
              conv => whnf
              refine ⟨fun hb_78 => ?_, fun hb_78 => ?_⟩
              · replace hL1 := cond_t hb_78 hL1
                conv => whnf
                obtain rfl := Option.some.inj hL1
                replace hF := fin_ret hF
                obtain rfl := Option.some.inj hF
                exact ret_gz [] [] [] rfl (argFl (by (conv => lhs; whnf); all_goals rfl)) trivial
              · replace hL1 := cond_f hb_78 hL1
                conv => whnf
                refine ⟨((k_34 + 1 : Nat) : Int), wrapE (by omega) (by omega) (by omega), ?_⟩
                conv => whnf
                exact ⟨k_34 + 1, [0], [], [], ⟨hlt_k_34, hL1⟩, by show x_0.Onward.length - (k_34 + 1) < x_0.Onward.length - k_34; omega, wk_mk [0] [] [] rfl ⟨argP (id := 0) (by (conv => lhs; whnf); all_goals rfl) rfl, argE (by (conv => lhs; whnf); all_goals rfl) rfl, trivial⟩ ⟨boxL rfl rfl rfl ⟨(.ni _ rfl), (.ni _ rfl), (.ni _ rfl), (.ni _ rfl), (.ni _ rfl), (.ni _ rfl), (.ni _ rfl), (.ni _ rfl), (.ni _ rfl), (.ni _ rfl), (.ni _ rfl), (.ni _ rfl), (.ni _ rfl), (.ni _ rfl), (.ni _ rfl), (.ni _ rfl), (.ni _ rfl), (.ni _ rfl), (.ni _ rfl), (.ni _ rfl), (.ni _ rfl), (.ni _ rfl), (.ni _ rfl), (.ni _ rfl), (.ni _ rfl), (.ni _ rfl), (.ni _ rfl), (.ni _ rfl), (.ni _ rfl), (.ni _ rfl), trivial⟩, trivial⟩⟩
            · rw [drop_nil (show x_0.Onward.length ≤ k_34 by have h := of_decide_eq_false h; omega), ref04_spelled_L1.eq_1] at hL1
              conv => whnf
              obtain rfl := Option.some.inj hL1
              replace hF := fin_brk hF
              try dsimp only at hF
              obtain ⟨r_39, h_r_39, hF⟩ := bind_some hF
              refine ⟨_, _, _, _, _, _, _, _, _, callX false [] [] 0 Try.func90 (by decide) rfl (ref04_Bag_ac x_0.Kind r_39 h_r_39) rfl ⟨(argE (by (conv => lhs; whnf); all_goals rfl) rfl), trivial⟩ rfl trivial rfl rfl rfl lend0 trivial rfl, ?_⟩
              conv => whnf
              refine ⟨fun hb_79 => ?_, fun hb_79 => ?_⟩
              · replace hF := cond_f hb_79 hF
                conv => whnf
                obtain ⟨r_40, h_r_40, hF⟩ := bind_some hF
                refine ⟨_, _, _, _, _, _, _, _, _, callX false [] [] 0 Try.func94 (by decide) rfl (ref04_letters_ac x_0.Surname (1 : Int) r_40 h_r_40) rfl ⟨(argE (by (conv => lhs; whnf); all_goals rfl) rfl), (argE (by (conv => lhs; whnf); all_goals rfl) rfl), trivial⟩ rfl trivial rfl rfl rfl lend0 trivial rfl, ?_⟩
                conv => whnf
                refine ⟨fun hb_80 => ?_, fun hb_80 => ?_⟩
                · replace hF := cond_t hb_80 hF
                  conv => whnf
                  obtain ⟨r_41, h_r_41, hF⟩ := bind_some hF
                  refine ⟨_, _, _, _, _, _, _, _, _, callX false [] [] 0 Try.func94 (by decide) rfl (ref04_letters_ac x_0.Given (0 : Int) r_41 h_r_41) rfl ⟨(argE (by (conv => lhs; whnf); all_goals rfl) rfl), (argE (by (conv => lhs; whnf); all_goals rfl) rfl), trivial⟩ rfl trivial rfl rfl rfl lend0 trivial rfl, ?_⟩
                  conv => whnf
                  obtain rfl := Option.some.inj hF
                  exact ret_gz [] [] [] rfl (argE (by (conv => lhs; whnf); all_goals rfl) rfl) trivial
                · replace hF := cond_f hb_80 hF
                  conv => whnf
                  obtain rfl := Option.some.inj hF
                  exact ret_gz [] [] [] rfl (argFl (by (conv => lhs; whnf); all_goals rfl)) trivial
              · replace hF := cond_t hb_79 hF
                conv => whnf
                obtain rfl := Option.some.inj hF
                exact ret_gz [] [] [] rfl (argT (by (conv => lhs; whnf); all_goals rfl)) trivial
        · replace hF := cond_t hb_77 hF
          conv => whnf
          obtain rfl := Option.some.inj hF
          exact ret_gz [] [] [] rfl (argFl (by (conv => lhs; whnf); all_goals rfl)) trivial
      · replace hF := cond_f hb_76 hF
        conv => whnf
        refine ⟨fun hb_81 => ?_, fun hb_81 => ?_⟩
        · replace hF := cond_t hb_81 hF
          conv => whnf
          obtain ⟨r_42, h_r_42, hF⟩ := bind_some hF
          refine ⟨_, _, _, _, _, _, _, _, _, callX false [] [] 0 Try.func93 (by decide) rfl (ref04_Name_ac x_0.Node r_42 h_r_42) rfl ⟨(argE (by (conv => lhs; whnf); all_goals rfl) rfl), trivial⟩ rfl trivial rfl rfl rfl lend0 trivial rfl, ?_⟩
          conv => whnf
          refine ⟨fun hb_82 => ?_, fun hb_82 => ?_⟩
          · replace hF := cond_t hb_82 hF
            conv => whnf
            obtain rfl := Option.some.inj hF
            exact ret_gz [] [] [] rfl (argFl (by (conv => lhs; whnf); all_goals rfl)) trivial
          · replace hF := cond_f hb_82 hF
            conv => whnf
            obtain ⟨c_1, hc_1, hF⟩ := fin_some hF
            refine sw_bv 0 (v := .agg [.int .i64 x_0.Kind, .int .i64 x_0.Do, .str x_0.Port, .int .i64 x_0.Number, .str x_0.In.Flight.Carrier, .int .i64 x_0.In.Flight.Number, .str x_0.In.Flight.Suffix, .int .i64 x_0.In.Flight.Day, .str x_0.In.Port, .str x_0.In.Class, .str x_0.Out.Flight.Carrier, .int .i64 x_0.Out.Flight.Number, .str x_0.Out.Flight.Suffix, .int .i64 x_0.Out.Flight.Day, .str x_0.Out.Port, .str x_0.Out.Class, .lst 6 (x_0.Onward.map encLeg), .int .i64 x_0.First.Lead, .int .i64 x_0.First.Airline, .int .i64 x_0.First.Serial, .int .i64 x_0.Count, .bool x_0.Load, .int .i64 x_0.Status, .int .i64 x_0.Sequence, .int .i64 x_0.Weight, .str x_0.Surname, .str x_0.Given, .int .i64 x_0.Exception, .str x_0.Node, .lst 1 (x_0.List.map iA)]) (by (conv => lhs; whnf); all_goals rfl) (fun hb => ?_)
            have hbd_k_44 : x_0.Onward.length ≤ 9223372036854775807 := bnd_len (enc := encLeg) ((bnd_at hb.cell 16 rfl))
            refine sw_loop tab_ok follows_ok (fun y : Nat => y ≤ x_0.Onward.length ∧ ref04_spelled_L1 (x_0.Onward.drop y) y = some c_1) (fun y => ⟨eL [(1, .ptr 0 0), (3, .int .i64 (y : Int))], hL [(0, .box [.int .i64 x_0.Kind, .int .i64 x_0.Do, .str x_0.Port, .int .i64 x_0.Number, .str x_0.In.Flight.Carrier, .int .i64 x_0.In.Flight.Number, .str x_0.In.Flight.Suffix, .int .i64 x_0.In.Flight.Day, .str x_0.In.Port, .str x_0.In.Class, .str x_0.Out.Flight.Carrier, .int .i64 x_0.Out.Flight.Number, .str x_0.Out.Flight.Suffix, .int .i64 x_0.Out.Flight.Day, .str x_0.Out.Port, .str x_0.Out.Class, .lst 6 (x_0.Onward.map encLeg), .int .i64 x_0.First.Lead, .int .i64 x_0.First.Airline, .int .i64 x_0.First.Serial, .int .i64 x_0.Count, .bool x_0.Load, .int .i64 x_0.Status, .int .i64 x_0.Sequence, .int .i64 x_0.Weight, .str x_0.Surname, .str x_0.Given, .int .i64 x_0.Exception, .str x_0.Node, .lst 1 (x_0.List.map iA)])], 1⟩) (fun y => x_0.Onward.length - y) 0 ⟨Nat.zero_le _, hc_1⟩ (wk_mk [0] [] [] rfl ⟨argP (id := 0) (by (conv => lhs; whnf); all_goals rfl) rfl, argE (by (conv => lhs; whnf); all_goals rfl) rfl, trivial⟩ ⟨boxL rfl rfl rfl ⟨(.ni _ rfl), (.ni _ rfl), (.ni _ rfl), (.ni _ rfl), (.ni _ rfl), (.ni _ rfl), (.ni _ rfl), (.ni _ rfl), (.ni _ rfl), (.ni _ rfl), (.ni _ rfl), (.ni _ rfl), (.ni _ rfl), (.ni _ rfl), (.ni _ rfl), (.ni _ rfl), (.ni _ rfl), (.ni _ rfl), (.ni _ rfl), (.ni _ rfl), (.ni _ rfl), (.ni _ rfl), (.ni _ rfl), (.ni _ rfl), (.ni _ rfl), (.ni _ rfl), (.ni _ rfl), (.ni _ rfl), (.ni _ rfl), (.ni _ rfl), trivial⟩, trivial⟩) ?_
            rintro k_44 ⟨hk_k_44, hL1⟩
            try dsimp only at hk_k_44 hL1
            show awp _ _ _ _ _ _ ⟨eL [(1, .ptr 0 0), (3, .int .i64 (k_44 : Int))], hL [(0, .box [.int .i64 x_0.Kind, .int .i64 x_0.Do, .str x_0.Port, .int .i64 x_0.Number, .str x_0.In.Flight.Carrier, .int .i64 x_0.In.Flight.Number, .str x_0.In.Flight.Suffix, .int .i64 x_0.In.Flight.Day, .str x_0.In.Port, .str x_0.In.Class, .str x_0.Out.Flight.Carrier, .int .i64 x_0.Out.Flight.Number, .str x_0.Out.Flight.Suffix, .int .i64 x_0.Out.Flight.Day, .str x_0.Out.Port, .str x_0.Out.Class, .lst 6 (x_0.Onward.map encLeg), .int .i64 x_0.First.Lead, .int .i64 x_0.First.Airline, .int .i64 x_0.First.Serial, .int .i64 x_0.Count, .bool x_0.Load, .int .i64 x_0.Status, .int .i64 x_0.Sequence, .int .i64 x_0.Weight, .str x_0.Surname, .str x_0.Given, .int .i64 x_0.Exception, .str x_0.Node, .lst 1 (x_0.List.map iA)])], 1⟩
            conv => whnf
            refine len_q (enc := encLeg) (l := x_0.Onward) rfl ?_
            conv => whnf
            refine ⟨fun h => ?_, fun h => ?_⟩
            · have hlt_k_44 : k_44 < x_0.Onward.length := by have h := of_decide_eq_true h; omega
              obtain ⟨e_45, h_e_45⟩ : ∃ y, x_0.Onward[k_44]? = some y := ⟨_, List.getElem?_eq_getElem hlt_k_44⟩
              rw [drop_cons h_e_45, ref04_spelled_L1.eq_2] at hL1
              conv => whnf
              refine ⟨k_44, _, rfl, ix_map h_e_45, ?_⟩
              conv => whnf
              obtain ⟨r_46, h_r_46, hL1⟩ := bind_some hL1
              refine ⟨_, _, _, _, _, _, _, _, _, callX false [] [] 0 Try.func92 (by decide) rfl (ref02_ValidLeg_ac e_45 r_46 h_r_46) rfl ⟨(argE (by (conv => lhs; whnf); all_goals rfl) rfl), trivial⟩ rfl trivial rfl rfl rfl lend0 trivial rfl, ?_⟩
              conv => whnf
              refine ⟨fun hb_83 => ?_, fun hb_83 => ?_⟩
              · replace hL1 := cond_t hb_83 hL1
                conv => whnf
                obtain rfl := Option.some.inj hL1
                replace hF := fin_ret hF
                obtain rfl := Option.some.inj hF
                exact ret_gz [] [] [] rfl (argFl (by (conv => lhs; whnf); all_goals rfl)) trivial
              · replace hL1 := cond_f hb_83 hL1
                conv => whnf
                refine ⟨((k_44 + 1 : Nat) : Int), wrapE (by omega) (by omega) (by omega), ?_⟩
                conv => whnf
                exact ⟨k_44 + 1, [0], [], [], ⟨hlt_k_44, hL1⟩, by show x_0.Onward.length - (k_44 + 1) < x_0.Onward.length - k_44; omega, wk_mk [0] [] [] rfl ⟨argP (id := 0) (by (conv => lhs; whnf); all_goals rfl) rfl, argE (by (conv => lhs; whnf); all_goals rfl) rfl, trivial⟩ ⟨boxL rfl rfl rfl ⟨(.ni _ rfl), (.ni _ rfl), (.ni _ rfl), (.ni _ rfl), (.ni _ rfl), (.ni _ rfl), (.ni _ rfl), (.ni _ rfl), (.ni _ rfl), (.ni _ rfl), (.ni _ rfl), (.ni _ rfl), (.ni _ rfl), (.ni _ rfl), (.ni _ rfl), (.ni _ rfl), (.ni _ rfl), (.ni _ rfl), (.ni _ rfl), (.ni _ rfl), (.ni _ rfl), (.ni _ rfl), (.ni _ rfl), (.ni _ rfl), (.ni _ rfl), (.ni _ rfl), (.ni _ rfl), (.ni _ rfl), (.ni _ rfl), (.ni _ rfl), trivial⟩, trivial⟩⟩
            · rw [drop_nil (show x_0.Onward.length ≤ k_44 by have h := of_decide_eq_false h; omega), ref04_spelled_L1.eq_1] at hL1
              conv => whnf
              obtain rfl := Option.some.inj hL1
              replace hF := fin_brk hF
              try dsimp only at hF
              obtain ⟨r_49, h_r_49, hF⟩ := bind_some hF
              refine ⟨_, _, _, _, _, _, _, _, _, callX false [] [] 0 Try.func90 (by decide) rfl (ref04_Bag_ac x_0.Kind r_49 h_r_49) rfl ⟨(argE (by (conv => lhs; whnf); all_goals rfl) rfl), trivial⟩ rfl trivial rfl rfl rfl lend0 trivial rfl, ?_⟩
              conv => whnf
              refine ⟨fun hb_84 => ?_, fun hb_84 => ?_⟩
              · replace hF := cond_f hb_84 hF
                conv => whnf
                obtain ⟨r_50, h_r_50, hF⟩ := bind_some hF
                refine ⟨_, _, _, _, _, _, _, _, _, callX false [] [] 0 Try.func94 (by decide) rfl (ref04_letters_ac x_0.Surname (1 : Int) r_50 h_r_50) rfl ⟨(argE (by (conv => lhs; whnf); all_goals rfl) rfl), (argE (by (conv => lhs; whnf); all_goals rfl) rfl), trivial⟩ rfl trivial rfl rfl rfl lend0 trivial rfl, ?_⟩
                conv => whnf
                refine ⟨fun hb_85 => ?_, fun hb_85 => ?_⟩
                · replace hF := cond_t hb_85 hF
                  conv => whnf
                  obtain ⟨r_51, h_r_51, hF⟩ := bind_some hF
                  refine ⟨_, _, _, _, _, _, _, _, _, callX false [] [] 0 Try.func94 (by decide) rfl (ref04_letters_ac x_0.Given (0 : Int) r_51 h_r_51) rfl ⟨(argE (by (conv => lhs; whnf); all_goals rfl) rfl), (argE (by (conv => lhs; whnf); all_goals rfl) rfl), trivial⟩ rfl trivial rfl rfl rfl lend0 trivial rfl, ?_⟩
                  conv => whnf
                  obtain rfl := Option.some.inj hF
                  exact ret_gz [] [] [] rfl (argE (by (conv => lhs; whnf); all_goals rfl) rfl) trivial
                · replace hF := cond_f hb_85 hF
                  conv => whnf
                  obtain rfl := Option.some.inj hF
                  exact ret_gz [] [] [] rfl (argFl (by (conv => lhs; whnf); all_goals rfl)) trivial
              · replace hF := cond_t hb_84 hF
                conv => whnf
                obtain rfl := Option.some.inj hF
                exact ret_gz [] [] [] rfl (argT (by (conv => lhs; whnf); all_goals rfl)) trivial
        · replace hF := cond_f hb_81 hF
          conv => whnf
          obtain ⟨c_1, hc_1, hF⟩ := fin_some hF
          refine sw_bv 0 (v := .agg [.int .i64 x_0.Kind, .int .i64 x_0.Do, .str x_0.Port, .int .i64 x_0.Number, .str x_0.In.Flight.Carrier, .int .i64 x_0.In.Flight.Number, .str x_0.In.Flight.Suffix, .int .i64 x_0.In.Flight.Day, .str x_0.In.Port, .str x_0.In.Class, .str x_0.Out.Flight.Carrier, .int .i64 x_0.Out.Flight.Number, .str x_0.Out.Flight.Suffix, .int .i64 x_0.Out.Flight.Day, .str x_0.Out.Port, .str x_0.Out.Class, .lst 6 (x_0.Onward.map encLeg), .int .i64 x_0.First.Lead, .int .i64 x_0.First.Airline, .int .i64 x_0.First.Serial, .int .i64 x_0.Count, .bool x_0.Load, .int .i64 x_0.Status, .int .i64 x_0.Sequence, .int .i64 x_0.Weight, .str x_0.Surname, .str x_0.Given, .int .i64 x_0.Exception, .str x_0.Node, .lst 1 (x_0.List.map iA)]) (by (conv => lhs; whnf); all_goals rfl) (fun hb => ?_)
          have hbd_k_53 : x_0.Onward.length ≤ 9223372036854775807 := bnd_len (enc := encLeg) ((bnd_at hb.cell 16 rfl))
          refine sw_loop tab_ok follows_ok (fun y : Nat => y ≤ x_0.Onward.length ∧ ref04_spelled_L1 (x_0.Onward.drop y) y = some c_1) (fun y => ⟨eL [(1, .ptr 0 0), (3, .int .i64 (y : Int))], hL [(0, .box [.int .i64 x_0.Kind, .int .i64 x_0.Do, .str x_0.Port, .int .i64 x_0.Number, .str x_0.In.Flight.Carrier, .int .i64 x_0.In.Flight.Number, .str x_0.In.Flight.Suffix, .int .i64 x_0.In.Flight.Day, .str x_0.In.Port, .str x_0.In.Class, .str x_0.Out.Flight.Carrier, .int .i64 x_0.Out.Flight.Number, .str x_0.Out.Flight.Suffix, .int .i64 x_0.Out.Flight.Day, .str x_0.Out.Port, .str x_0.Out.Class, .lst 6 (x_0.Onward.map encLeg), .int .i64 x_0.First.Lead, .int .i64 x_0.First.Airline, .int .i64 x_0.First.Serial, .int .i64 x_0.Count, .bool x_0.Load, .int .i64 x_0.Status, .int .i64 x_0.Sequence, .int .i64 x_0.Weight, .str x_0.Surname, .str x_0.Given, .int .i64 x_0.Exception, .str x_0.Node, .lst 1 (x_0.List.map iA)])], 1⟩) (fun y => x_0.Onward.length - y) 0 ⟨Nat.zero_le _, hc_1⟩ (wk_mk [0] [] [] rfl ⟨argP (id := 0) (by (conv => lhs; whnf); all_goals rfl) rfl, argE (by (conv => lhs; whnf); all_goals rfl) rfl, trivial⟩ ⟨boxL rfl rfl rfl ⟨(.ni _ rfl), (.ni _ rfl), (.ni _ rfl), (.ni _ rfl), (.ni _ rfl), (.ni _ rfl), (.ni _ rfl), (.ni _ rfl), (.ni _ rfl), (.ni _ rfl), (.ni _ rfl), (.ni _ rfl), (.ni _ rfl), (.ni _ rfl), (.ni _ rfl), (.ni _ rfl), (.ni _ rfl), (.ni _ rfl), (.ni _ rfl), (.ni _ rfl), (.ni _ rfl), (.ni _ rfl), (.ni _ rfl), (.ni _ rfl), (.ni _ rfl), (.ni _ rfl), (.ni _ rfl), (.ni _ rfl), (.ni _ rfl), (.ni _ rfl), trivial⟩, trivial⟩) ?_
          rintro k_53 ⟨hk_k_53, hL1⟩
          try dsimp only at hk_k_53 hL1
          show awp _ _ _ _ _ _ ⟨eL [(1, .ptr 0 0), (3, .int .i64 (k_53 : Int))], hL [(0, .box [.int .i64 x_0.Kind, .int .i64 x_0.Do, .str x_0.Port, .int .i64 x_0.Number, .str x_0.In.Flight.Carrier, .int .i64 x_0.In.Flight.Number, .str x_0.In.Flight.Suffix, .int .i64 x_0.In.Flight.Day, .str x_0.In.Port, .str x_0.In.Class, .str x_0.Out.Flight.Carrier, .int .i64 x_0.Out.Flight.Number, .str x_0.Out.Flight.Suffix, .int .i64 x_0.Out.Flight.Day, .str x_0.Out.Port, .str x_0.Out.Class, .lst 6 (x_0.Onward.map encLeg), .int .i64 x_0.First.Lead, .int .i64 x_0.First.Airline, .int .i64 x_0.First.Serial, .int .i64 x_0.Count, .bool x_0.Load, .int .i64 x_0.Status, .int .i64 x_0.Sequence, .int .i64 x_0.Weight, .str x_0.Surname, .str x_0.Given, .int .i64 x_0.Exception, .str x_0.Node, .lst 1 (x_0.List.map iA)])], 1⟩
          conv => whnf
          refine len_q (enc := encLeg) (l := x_0.Onward) rfl ?_
          conv => whnf
          refine ⟨fun h => ?_, fun h => ?_⟩
          · have hlt_k_53 : k_53 < x_0.Onward.length := by have h := of_decide_eq_true h; omega
            obtain ⟨e_54, h_e_54⟩ : ∃ y, x_0.Onward[k_53]? = some y := ⟨_, List.getElem?_eq_getElem hlt_k_53⟩
            rw [drop_cons h_e_54, ref04_spelled_L1.eq_2] at hL1
            conv => whnf
            refine ⟨k_53, _, rfl, ix_map h_e_54, ?_⟩
            conv => whnf
            obtain ⟨r_55, h_r_55, hL1⟩ := bind_some hL1
            refine ⟨_, _, _, _, _, _, _, _, _, callX false [] [] 0 Try.func92 (by decide) rfl (ref02_ValidLeg_ac e_54 r_55 h_r_55) rfl ⟨(argE (by (conv => lhs; whnf); all_goals rfl) rfl), trivial⟩ rfl trivial rfl rfl rfl lend0 trivial rfl, ?_⟩
            conv => whnf
            refine ⟨fun hb_86 => ?_, fun hb_86 => ?_⟩
            · replace hL1 := cond_t hb_86 hL1
              conv => whnf
              obtain rfl := Option.some.inj hL1
              replace hF := fin_ret hF
              obtain rfl := Option.some.inj hF
              exact ret_gz [] [] [] rfl (argFl (by (conv => lhs; whnf); all_goals rfl)) trivial
            · replace hL1 := cond_f hb_86 hL1
              conv => whnf
              refine ⟨((k_53 + 1 : Nat) : Int), wrapE (by omega) (by omega) (by omega), ?_⟩
              conv => whnf
              exact ⟨k_53 + 1, [0], [], [], ⟨hlt_k_53, hL1⟩, by show x_0.Onward.length - (k_53 + 1) < x_0.Onward.length - k_53; omega, wk_mk [0] [] [] rfl ⟨argP (id := 0) (by (conv => lhs; whnf); all_goals rfl) rfl, argE (by (conv => lhs; whnf); all_goals rfl) rfl, trivial⟩ ⟨boxL rfl rfl rfl ⟨(.ni _ rfl), (.ni _ rfl), (.ni _ rfl), (.ni _ rfl), (.ni _ rfl), (.ni _ rfl), (.ni _ rfl), (.ni _ rfl), (.ni _ rfl), (.ni _ rfl), (.ni _ rfl), (.ni _ rfl), (.ni _ rfl), (.ni _ rfl), (.ni _ rfl), (.ni _ rfl), (.ni _ rfl), (.ni _ rfl), (.ni _ rfl), (.ni _ rfl), (.ni _ rfl), (.ni _ rfl), (.ni _ rfl), (.ni _ rfl), (.ni _ rfl), (.ni _ rfl), (.ni _ rfl), (.ni _ rfl), (.ni _ rfl), (.ni _ rfl), trivial⟩, trivial⟩⟩
          · rw [drop_nil (show x_0.Onward.length ≤ k_53 by have h := of_decide_eq_false h; omega), ref04_spelled_L1.eq_1] at hL1
            conv => whnf
            obtain rfl := Option.some.inj hL1
            replace hF := fin_brk hF
            try dsimp only at hF
            obtain ⟨r_58, h_r_58, hF⟩ := bind_some hF
            refine ⟨_, _, _, _, _, _, _, _, _, callX false [] [] 0 Try.func90 (by decide) rfl (ref04_Bag_ac x_0.Kind r_58 h_r_58) rfl ⟨(argE (by (conv => lhs; whnf); all_goals rfl) rfl), trivial⟩ rfl trivial rfl rfl rfl lend0 trivial rfl, ?_⟩
            conv => whnf
            refine ⟨fun hb_87 => ?_, fun hb_87 => ?_⟩
            · replace hF := cond_f hb_87 hF
              conv => whnf
              obtain ⟨r_59, h_r_59, hF⟩ := bind_some hF
              refine ⟨_, _, _, _, _, _, _, _, _, callX false [] [] 0 Try.func94 (by decide) rfl (ref04_letters_ac x_0.Surname (1 : Int) r_59 h_r_59) rfl ⟨(argE (by (conv => lhs; whnf); all_goals rfl) rfl), (argE (by (conv => lhs; whnf); all_goals rfl) rfl), trivial⟩ rfl trivial rfl rfl rfl lend0 trivial rfl, ?_⟩
              conv => whnf
              refine ⟨fun hb_88 => ?_, fun hb_88 => ?_⟩
              · replace hF := cond_t hb_88 hF
                conv => whnf
                obtain ⟨r_60, h_r_60, hF⟩ := bind_some hF
                refine ⟨_, _, _, _, _, _, _, _, _, callX false [] [] 0 Try.func94 (by decide) rfl (ref04_letters_ac x_0.Given (0 : Int) r_60 h_r_60) rfl ⟨(argE (by (conv => lhs; whnf); all_goals rfl) rfl), (argE (by (conv => lhs; whnf); all_goals rfl) rfl), trivial⟩ rfl trivial rfl rfl rfl lend0 trivial rfl, ?_⟩
                conv => whnf
                obtain rfl := Option.some.inj hF
                exact ret_gz [] [] [] rfl (argE (by (conv => lhs; whnf); all_goals rfl) rfl) trivial
              · replace hF := cond_f hb_88 hF
                conv => whnf
                obtain rfl := Option.some.inj hF
                exact ret_gz [] [] [] rfl (argFl (by (conv => lhs; whnf); all_goals rfl)) trivial
            · replace hF := cond_t hb_87 hF
              conv => whnf
              obtain rfl := Option.some.inj hF
              exact ret_gz [] [] [] rfl (argT (by (conv => lhs; whnf); all_goals rfl)) trivial
  · replace hF := cond_t hb_60 hF
    conv => whnf
    obtain rfl := Option.some.inj hF
    exact ret_gz [] [] [] rfl (argFl (by (conv => lhs; whnf); all_goals rfl)) trivial

set_option maxRecDepth 100000 in
set_option maxHeartbeats 40000000 in
theorem ref01_Valid_ac (x_0 : Plate) (r : Bool) (hF : ref01_Valid x_0 = some r) : AC Try.prog 95 [.agg (encPlate x_0)] [] (.bool r) [] := by
  refine ac_of tab_ok follows_ok Try.func95 rfl Try.ntmps95 rfl ?_
  unfold ref01_Valid at hF
  conv => whnf
  refine ⟨fun hb_6 => ?_, fun hb_6 => ?_⟩
  · replace hF := cond_t hb_6 hF
    conv => whnf
    refine ⟨fun hb_7 => ?_, fun hb_7 => ?_⟩
    · replace hF := cond_t hb_7 hF
      conv => whnf
      refine ⟨fun hb_8 => ?_, fun hb_8 => ?_⟩
      · replace hF := cond_t hb_8 hF
        conv => whnf
        refine ⟨fun hb_9 => ?_, fun hb_9 => ?_⟩
        · replace hF := cond_t hb_9 hF
          conv => whnf
          refine ⟨fun hb_10 => ?_, fun hb_10 => ?_⟩
          · replace hF := cond_t hb_10 hF
            conv => whnf
            obtain rfl := Option.some.inj hF
            exact ret_gz [] [] [] rfl (argE (by (conv => lhs; whnf); all_goals rfl) rfl) trivial
          · replace hF := cond_f hb_10 hF
            conv => whnf
            obtain rfl := Option.some.inj hF
            exact ret_gz [] [] [] rfl (argFl (by (conv => lhs; whnf); all_goals rfl)) trivial
        · replace hF := cond_f hb_9 hF
          conv => whnf
          obtain rfl := Option.some.inj hF
          exact ret_gz [] [] [] rfl (argFl (by (conv => lhs; whnf); all_goals rfl)) trivial
      · replace hF := cond_f hb_8 hF
        conv => whnf
        obtain rfl := Option.some.inj hF
        exact ret_gz [] [] [] rfl (argFl (by (conv => lhs; whnf); all_goals rfl)) trivial
    · replace hF := cond_f hb_7 hF
      conv => whnf
      obtain rfl := Option.some.inj hF
      exact ret_gz [] [] [] rfl (argFl (by (conv => lhs; whnf); all_goals rfl)) trivial
  · replace hF := cond_f hb_6 hF
    conv => whnf
    obtain rfl := Option.some.inj hF
    exact ret_gz [] [] [] rfl (argFl (by (conv => lhs; whnf); all_goals rfl)) trivial
end Go.Proofs.Ytajmhegkkbnkcaa.Ex
