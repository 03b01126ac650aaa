/- The functions of the program compute what was printed; walks printed by a program. -/
import Derived.Test.YtkliakcegihikaaGreatExF
import Derived.Test.YtkliakcegihikaaGreatSq
import Derived.Test.YtkliakcegihikaaGreatExP4
namespace Go.Proofs.YtkliakcegihikaaGreat.Ex
open Go.RowKit Go.Proofs.YtkliakcegihikaaGreat.Ax
set_option linter.unusedVariables false
set_option linter.unusedSimpArgs false
set_option maxRecDepth 100000
set_option maxHeartbeats 40000000
theorem registry_Validate_ac (x_0 : Registry) (r : Int) (hF : registry_Validate x_0 = some r) : AC Tryz.prog 40 [.agg (encRegistry x_0)] [] (.int .i64 r) [] := by
 refine ac_of tab_ok follows_ok Tryz.func40 rfl Tryz.ntmps40 rfl ?_
 unfold registry_Validate at hF
 conv=>whnf
 refine len_q (enc := encBag) (l := x_0.L) rfl ?_
 conv=>whnf
 refine ⟨fun b16=>?_,fun b16=>?_⟩
 ·
  replace hF := ct b16 hF
  conv=>whnf
  obtain rfl := si hF
  exact ret_gz [] [] [] rfl aq trivial
 ·
  replace hF := cf b16 hF
  conv=>whnf
  refine len_q (enc := encBag) (l := x_0.L) rfl ?_
  conv=>whnf
  obtain ⟨c_1, hc_1, hF⟩ := fin_some hF
  refine sw_bv 0 (v := .agg [.lst 25 (x_0.L.map encBag)]) (by (conv=>lhs;whnf)<;>rfl) (fun hb=>?_)
  have hbd_k_2 : x_0.L.length ≤ 9223372036854775807 := bnd_len (enc := encBag) ((bnd_at hb.cell 0 rfl))
  refine sw_loop tab_ok follows_ok (fun y : Nat => y ≤ x_0.L.length ∧ registry_Validate_L1 (x_0.L.drop y) y = some c_1) (fun y => ⟨eL [(1, .ptr 0 0), (11, .lst 25 (x_0.L.map encBag)), (12, .int .i64 (x_0.L.length : Int)), (13, .int .i64 (y : Int))], hL [(0, .box [.lst 25 (x_0.L.map encBag)])], 1⟩) (fun y => x_0.L.length - y) 0 ⟨Nat.zero_le _, hc_1⟩ (wk_mk [0] [] [] rfl ⟨argP (id := 0) (by (conv=>lhs;whnf)<;>rfl) rfl, aq, aq, aq,trivial⟩ ⟨boxL rfl rfl rfl ⟨(.ni _ rfl),trivial⟩,trivial⟩) ?_
  rintro k_2 ⟨hk_k_2, hL1⟩
  try dsimp only at hk_k_2 hL1
  show awp _ _ _ _ _ _ ⟨eL [(1, .ptr 0 0), (11, .lst 25 (x_0.L.map encBag)), (12, .int .i64 (x_0.L.length : Int)), (13, .int .i64 (k_2 : Int))], hL [(0, .box [.lst 25 (x_0.L.map encBag)])], 1⟩
  conv=>whnf
  refine ⟨fun h=>?_,fun h=>?_⟩
  ·
   have lk2 : k_2 < x_0.L.length := by have h := of_decide_eq_true h; omega
   obtain ⟨e_3, he3⟩ : ∃ y, x_0.L[k_2]? = some y := ⟨_, List.getElem?_eq_getElem lk2⟩
   rw [drop_cons he3, registry_Validate_L1.eq_2] at hL1
   conv=>whnf
   refine ⟨k_2, _, rfl, ix_map he3, ?_⟩
   conv=>whnf
   obtain ⟨r_4, hr4, hL1⟩ := bs hL1
   refine ⟨_,_,_,_,_,_,_,_,_,callX false [] [] 0 Tryz.func79 (by decide) rfl (plate_Valid_ac e_3.Plate r_4 hr4) rfl ⟨aq,trivial⟩ rfl trivial rfl rfl rfl lend0 trivial rfl, ?_⟩
   conv=>whnf
   refine ⟨fun b17=>?_,fun b17=>?_⟩
   ·
    replace hL1 := ct b17 hL1
    conv=>whnf
    obtain rfl := si hL1
    replace hF := fin_ret hF
    obtain rfl := si hF
    exact ret_gz [] [] [] rfl aq trivial
   ·
    replace hL1 := cf b17 hL1
    conv=>whnf
    refine ⟨((k_2 + 1 : Nat) : Int), wrapE (by omega) (by omega) (by omega), ?_⟩
    conv=>whnf
    exact ⟨k_2 + 1, [0], [], [], ⟨lk2, hL1⟩, by show x_0.L.length - (k_2 + 1) < x_0.L.length - k_2; omega, wk_mk [0] [] [] rfl ⟨argP (id := 0) (by (conv=>lhs;whnf)<;>rfl) rfl, aq, aq, aq,trivial⟩ ⟨boxL rfl rfl rfl ⟨(.ni _ rfl),trivial⟩,trivial⟩⟩
  ·
   rw [drop_nil (show x_0.L.length ≤ k_2 by have h := of_decide_eq_false h; omega), registry_Validate_L1.eq_1] at hL1
   conv=>whnf
   obtain rfl := si hL1
   replace hF := fin_brk hF
   try dsimp only at hF
   obtain ⟨c_2, hc_2, hF⟩ := fin_some hF
   refine sw_loop tab_ok follows_ok (fun y : Nat × Int => registry_Validate_L2 x_0 y.1 y.2 = some c_2) (fun y => ⟨eL [(1, .ptr 0 0), (5, .int .i64 y.2)], hL [(0, .box [.lst 25 (x_0.L.map encBag)])], 1⟩) (fun y => y.1) (9223372036854775807, (1 : Int)) hc_2 (wk_mk [0] [] [] rfl ⟨argP (id := 0) (by (conv=>lhs;whnf)<;>rfl) rfl, aq,trivial⟩ ⟨boxL rfl rfl rfl ⟨(.ni _ rfl),trivial⟩,trivial⟩) ?_
   rintro ⟨q_11, i_7⟩ hL1
   try dsimp only at hL1
   rcases q_11 with _ | q_11
   ·
    rw [registry_Validate_L2.eq_1] at hL1
    cases hL1
   rw [registry_Validate_L2.eq_2] at hL1
   show awp _ _ _ _ _ _ ⟨eL [(1, .ptr 0 0), (5, .int .i64 i_7)], hL [(0, .box [.lst 25 (x_0.L.map encBag)])], 1⟩
   conv=>whnf
   refine len_q (enc := encBag) (l := x_0.L) rfl ?_
   conv=>whnf
   refine ⟨fun b18=>?_,fun b18=>?_⟩
   ·
    replace hL1 := ct b18 hL1
    conv=>whnf
    refine ⟨_, rfl, ?_⟩
    conv=>whnf
    obtain ⟨e_8, he8, hL1⟩ := bs hL1
    refine ix_q (enc := encBag) (l := x_0.L) he8 rfl (fun m_e_8 hm_e_8 hx_e_8=>?_)
    conv=>whnf
    obtain ⟨e_9, he9, hL1⟩ := bs hL1
    refine ix_q (enc := encBag) (l := x_0.L) he9 rfl (fun m_e_9 hm_e_9 hx_e_9=>?_)
    conv=>whnf
    obtain ⟨r_10, hr10, hL1⟩ := bs hL1
    refine ⟨_,_,_,_,_,_,_,_,_,callX false [] [] 0 Tryz.func80 (by decide) rfl (plate_Compare_ac e_8.Plate e_9.Plate r_10 hr10) rfl ⟨aq, aq,trivial⟩ rfl trivial rfl rfl rfl lend0 trivial rfl, ?_⟩
    conv=>whnf
    refine ⟨by kernel_rfl, ?_⟩
    conv=>whnf
    refine ⟨fun b19=>?_,fun b19=>?_⟩
    ·
     replace hL1 := ct b19 hL1
     conv=>whnf
     obtain rfl := si hL1
     replace hF := fin_ret hF
     obtain rfl := si hF
     exact ret_gz [] [] [] rfl aq trivial
    ·
     replace hL1 := cf b19 hL1
     conv=>whnf
     refine ⟨_, rfl, ?_⟩
     conv=>whnf
     exact ⟨(q_11, (w64 (i_7 + (1 : Int)))), [0], [], [], hL1, Nat.lt_succ_self _, wk_mk [0] [] [] rfl ⟨argP (id := 0) (by (conv=>lhs;whnf)<;>rfl) rfl, aq,trivial⟩ ⟨boxL rfl rfl rfl ⟨(.ni _ rfl),trivial⟩,trivial⟩⟩
   ·
    replace hL1 := cf b18 hL1
    conv=>whnf
    obtain rfl := si hL1
    replace hF := fin_brk hF
    try dsimp only at hF
    obtain rfl := si hF
    exact ret_gz [] [] [] rfl aq trivial

theorem registry_copied_ac (x_0 : Bag) (r : Bag) (hF : registry_copied x_0 = some r) : AC Tryz.prog 81 [.agg (encBag x_0)] [] (.agg (encBag r)) [] := by
 refine ac_of tab_ok follows_ok Tryz.func81 rfl Tryz.ntmps81 rfl ?_
 unfold registry_copied at hF
 conv=>whnf
 obtain ⟨r_1, hr1, hF⟩ := bs hF
 refine ⟨_,_,_,_,_,_,_,_,_,callX false [] [] 1 Tryz.func76 (by decide) rfl (slices_Clone_Leg_ac x_0.Onward r_1 hr1) rfl ⟨aq,trivial⟩ rfl trivial rfl rfl rfl lend0 ⟨renR (fun _ => ⟨rfl, rfl⟩),trivial⟩ rfl, ?_⟩
 conv=>whnf
 obtain rfl := si hF
 exact ret_gz [] [] [2] rfl (argA (c := [.int .i64 x_0.Plate.Lead, .int .i64 x_0.Plate.Airline, .int .i64 x_0.Plate.Serial, .str x_0.In.Flight.Carrier, .int .i64 x_0.In.Flight.Number, .str x_0.In.Flight.Suffix, .int .i64 x_0.In.Flight.Day, .str x_0.In.Port, .str x_0.In.Class, .str x_0.Out.Flight.Carrier, .int .i64 x_0.Out.Flight.Number, .str x_0.Out.Flight.Suffix, .int .i64 x_0.Out.Flight.Day, .str x_0.Out.Port, .str x_0.Out.Class, .osl 2, .int .i64 x_0.Sequence, .int .i64 x_0.Status, .int .i64 x_0.Weight, .bool x_0.Load, .str x_0.Surname, .str x_0.Given, .int .i64 x_0.Exception, .str x_0.Node, .bool x_0.Unloaded]) (by (conv=>lhs;whnf)<;>rfl) rfl ⟨(.ni _ rfl), (.ni _ rfl), (.ni _ rfl), (.ni _ rfl), (.ni _ rfl), (.ni _ rfl), (.ni _ rfl), (.ni _ rfl), (.ni _ rfl), (.ni _ rfl), (.ni _ rfl), (.ni _ rfl), (.ni _ rfl), (.ni _ rfl), (.ni _ rfl), (.osl 2 6 _ (by simp) rfl (map_ni (fun _ => ⟨rfl, rfl⟩) _)), (.ni _ rfl), (.ni _ rfl), (.ni _ rfl), (.ni _ rfl), (.ni _ rfl), (.ni _ rfl), (.ni _ rfl), (.ni _ rfl), (.ni _ rfl),trivial⟩) trivial

theorem registry_clone_ac (x_0 : (List Bag)) (r : (List Bag)) (hF : registry_clone x_0 = some r) : AC Tryz.prog 41 [.lst 25 (x_0.map encBag)] [] (.osl 0) [.row 25 (r.map encBag)] := by
 refine ac_of tab_ok follows_ok Tryz.func41 rfl Tryz.ntmps41 rfl ?_
 unfold registry_clone at hF
 conv=>whnf
 refine len_q (enc := encBag) (l := x_0) rfl ?_
 conv=>whnf
 obtain ⟨c_1, hc_1, hF⟩ := fin_some hF
 refine sw_bv 0 (v := .lst 25 (x_0.map encBag)) (by (conv=>lhs;whnf)<;>rfl) (fun hb=>?_)
 have hbd_k_3 : x_0.length ≤ 9223372036854775807 := bnd_len (enc := encBag) (hb)
 refine sw_loop tab_ok follows_ok (fun y : Nat × (List Bag) => y.1 ≤ x_0.length ∧ registry_clone_L1 (x_0.drop y.1) y.1 y.2 = some c_1) (fun y => ⟨eL [(3, .osl 0), (6, .lst 25 (x_0.map encBag)), (7, .int .i64 (x_0.length : Int)), (8, .int .i64 (y.1 : Int))], hL [(0, .row 25 (y.2.map encBag))], 1⟩) (fun y => x_0.length - y.1) (0, ([] : List Bag)) ⟨Nat.zero_le _, hc_1⟩ (wk_mk [] [0] [] rfl ⟨argZ (by (conv=>lhs;whnf)<;>rfl) rfl, aq, aq, aq,trivial⟩ ⟨blkZ rfl,trivial⟩) ?_
 rintro ⟨k_3, a_1⟩ ⟨hk_k_3, hL1⟩
 try dsimp only at hk_k_3 hL1
 show awp _ _ _ _ _ _ ⟨eL [(3, .osl 0), (6, .lst 25 (x_0.map encBag)), (7, .int .i64 (x_0.length : Int)), (8, .int .i64 (k_3 : Int))], hL [(0, .row 25 (a_1.map encBag))], 1⟩
 conv=>whnf
 refine ⟨fun h=>?_,fun h=>?_⟩
 ·
  have lk3 : k_3 < x_0.length := by have h := of_decide_eq_true h; omega
  obtain ⟨e_4, he4⟩ : ∃ y, x_0[k_3]? = some y := ⟨_, List.getElem?_eq_getElem lk3⟩
  rw [drop_cons he4, registry_clone_L1.eq_2] at hL1
  conv=>whnf
  refine ⟨k_3, _, rfl, ix_map he4, ?_⟩
  conv=>whnf
  obtain ⟨r_5, hr5, hL1⟩ := bs hL1
  refine ⟨_,_,_,_,_,_,_,_,_,callX false [] [] 0 Tryz.func81 (by decide) rfl (registry_copied_ac e_4 r_5 hr5) rfl ⟨aq,trivial⟩ rfl trivial rfl rfl rfl lend0 trivial rfl, ?_⟩
  conv=>whnf
  obtain ⟨l_6, hl6, hL1⟩ := bs hL1
  refine ap_q (enc := encBag) (l := a_1) (y := ([r_5] : List Bag)) hl6 rfl rfl (by decide) ?_
  conv=>whnf
  refine ⟨((k_3 + 1 : Nat) : Int), wrapE (by omega) (by omega) (by omega), ?_⟩
  conv=>whnf
  exact ⟨(k_3 + 1, l_6), [4], [], [], ⟨lk3, hL1⟩, by show x_0.length - (k_3 + 1) < x_0.length - k_3; omega, wk_mk [4] [] [] rfl ⟨argO (id := 4) (by (conv=>lhs;whnf)<;>rfl) rfl, aq, aq, aq,trivial⟩ ⟨blkR (fun _ => ⟨rfl, rfl⟩) rfl rfl,trivial⟩⟩
 ·
  rw [drop_nil (show x_0.length ≤ k_3 by have h := of_decide_eq_false h; omega), registry_clone_L1.eq_1] at hL1
  conv=>whnf
  obtain rfl := si hL1
  replace hF := fin_brk hF
  try dsimp only at hF
  obtain rfl := si hF
  exact ret_gz [0] [] [] rfl (argO (id := 0) (by (conv=>lhs;whnf)<;>rfl) rfl) ⟨blkR (fun _ => ⟨rfl, rfl⟩) rfl rfl,trivial⟩

theorem plate_Run_ac (x_0 : Plate) (x_1 : Int) (r : (List Plate) × Int) (hF : plate_Run x_0 x_1 = some r) : AC Tryz.prog 82 [.agg (encPlate x_0), .int .i64 x_1] [] (.tup [.lst 3 (r.1.map encPlate), .int .i64 r.2]) [] := by
 refine ac_of tab_ok follows_ok Tryz.func82 rfl Tryz.ntmps82 rfl ?_
 unfold plate_Run at hF
 conv=>whnf
 obtain ⟨r_1, hr1, hF⟩ := bs hF
 refine ⟨_,_,_,_,_,_,_,_,_,callX false [] [] 0 Tryz.func79 (by decide) rfl (plate_Valid_ac x_0 r_1 hr1) rfl ⟨aq,trivial⟩ rfl trivial rfl rfl rfl lend0 trivial rfl, ?_⟩
 conv=>whnf
 refine ⟨fun b8=>?_,fun b8=>?_⟩
 ·
  replace hF := cf b8 hF
  conv=>whnf
  refine ⟨fun b9=>?_,fun b9=>?_⟩
  ·
   replace hF := cf b9 hF
   conv=>whnf
   refine ⟨fun b10=>?_,fun b10=>?_⟩
   ·
    replace hF := ct b10 hF
    conv=>whnf
    obtain rfl := si hF
    exact ret_gz [] [] [] rfl (tupL rfl ⟨(argN (by (conv=>lhs;whnf)<;>rfl)), aq,trivial⟩) trivial
   ·
    replace hF := cf b10 hF
    conv=>whnf
    obtain ⟨c_1, hc_1, hF⟩ := fin_some hF
    refine sw_loop tab_ok follows_ok (fun y : Nat × (List Plate) × Int => plate_Run_L1 x_0 x_1 y.1 y.2.1 y.2.2 = some c_1) (fun y => ⟨eL [(2, .ptr 0 0), (6, .osl 1), (19, .int .i64 x_1), (20, .int .i64 y.2.2)], hL [(0, .box [.int .i64 x_0.Lead, .int .i64 x_0.Airline, .int .i64 x_0.Serial]), (1, .row 3 (y.2.1.map encPlate))], 2⟩) (fun y => y.1) (9223372036854775807, ([] : List Plate), (0 : Int)) hc_1 (wk_mk [0] [1] [] rfl ⟨argP (id := 0) (by (conv=>lhs;whnf)<;>rfl) rfl, argZ (by (conv=>lhs;whnf)<;>rfl) rfl, aq, aq,trivial⟩ ⟨boxL rfl rfl rfl ⟨(.ni _ rfl), (.ni _ rfl), (.ni _ rfl),trivial⟩, blkZ rfl,trivial⟩) ?_
    rintro ⟨q_5, a_2, i_3⟩ hL1
    try dsimp only at hL1
    rcases q_5 with _ | q_5
    ·
     rw [plate_Run_L1.eq_1] at hL1
     cases hL1
    rw [plate_Run_L1.eq_2] at hL1
    show awp _ _ _ _ _ _ ⟨eL [(2, .ptr 0 0), (6, .osl 1), (19, .int .i64 x_1), (20, .int .i64 i_3)], hL [(0, .box [.int .i64 x_0.Lead, .int .i64 x_0.Airline, .int .i64 x_0.Serial]), (1, .row 3 (a_2.map encPlate))], 2⟩
    conv=>whnf
    refine ⟨fun b11=>?_,fun b11=>?_⟩
    ·
     replace hL1 := ct b11 hL1
     conv=>whnf
     refine ⟨_, rfl, ?_⟩
     conv=>whnf
     refine ⟨by decide, _, rfl, ?_⟩
     conv=>whnf
     obtain ⟨l_4, hl4, hL1⟩ := bs hL1
     refine ap_q (enc := encPlate) (l := a_2) (y := ([(⟨x_0.Lead, x_0.Airline, ((w64 (x_0.Serial + i_3)).tmod (1000000 : Int))⟩ : Plate)] : List Plate)) hl4 rfl rfl (by decide) ?_
     conv=>whnf
     refine ⟨_, rfl, ?_⟩
     conv=>whnf
     exact ⟨(q_5, l_4, (w64 (i_3 + (1 : Int)))), [0, 3], [], [], hL1, Nat.lt_succ_self _, wk_mk [0, 3] [] [] rfl ⟨argP (id := 0) (by (conv=>lhs;whnf)<;>rfl) rfl, argO (id := 3) (by (conv=>lhs;whnf)<;>rfl) rfl, aq, aq,trivial⟩ ⟨boxL rfl rfl rfl ⟨(.ni _ rfl), (.ni _ rfl), (.ni _ rfl),trivial⟩, blkR (fun _ => ⟨rfl, rfl⟩) rfl rfl,trivial⟩⟩
    ·
     replace hL1 := cf b11 hL1
     conv=>whnf
     obtain rfl := si hL1
     replace hF := fin_brk hF
     try dsimp only at hF
     obtain rfl := si hF
     exact ret_gz [] [] [1] rfl (tupL rfl ⟨(argOL 1 (by (conv=>lhs;whnf)<;>rfl) rfl rfl (map_ni (fun _ => ⟨rfl, rfl⟩) _)), aq,trivial⟩) trivial
  ·
   replace hF := ct b9 hF
   conv=>whnf
   obtain rfl := si hF
   exact ret_gz [] [] [] rfl (tupL rfl ⟨(argN (by (conv=>lhs;whnf)<;>rfl)), aq,trivial⟩) trivial
 ·
  replace hF := ct b8 hF
  conv=>whnf
  obtain rfl := si hF
  exact ret_gz [] [] [] rfl (tupL rfl ⟨(argN (by (conv=>lhs;whnf)<;>rfl)), aq,trivial⟩) trivial

theorem message_Plates_ac (x_0 : Message) (r : (List Plate)) (hF : message_Plates x_0 = some r) : AC Tryz.prog 42 [.agg (encMessage x_0)] [] (.lst 3 (r.map encPlate)) [] := by
 refine ac_of tab_ok follows_ok Tryz.func42 rfl Tryz.ntmps42 rfl ?_
 unfold message_Plates at hF
 conv=>whnf
 obtain ⟨r_1, hr1, hF⟩ := bs hF
 refine ⟨_,_,_,_,_,_,_,_,_,callX false [] [] 0 Tryz.func82 (by decide) rfl (plate_Run_ac x_0.First x_0.Count r_1 hr1) rfl ⟨aq, aq,trivial⟩ rfl trivial rfl rfl rfl lend0 trivial rfl, ?_⟩
 conv=>whnf
 obtain rfl := si hF
 exact ret_gz [] [] [] rfl aq trivial

theorem registry_at_f1_ac (x_0 : Int) (x_1 : (List Bag)) (x_2 : Plate) (r : Bool) (hF : registry_at_f1 x_0 x_1 x_2 = some r) : AC Tryz.prog 85 [.int .i64 x_0, .iptr [.lst 25 (x_1.map encBag)], .iptr [.int .i64 x_2.Lead, .int .i64 x_2.Airline, .int .i64 x_2.Serial]] [] (.bool r) [] := by
 refine ac_of tab_ok follows_ok Tryz.func85 rfl Tryz.ntmps85 rfl ?_
 unfold registry_at_f1 at hF
 conv=>whnf
 obtain ⟨e_1, he1, hF⟩ := bs hF
 refine ix_q (enc := encBag) (l := x_1) he1 rfl (fun m_e_1 hm_e_1 hx_e_1=>?_)
 conv=>whnf
 obtain ⟨r_2, hr2, hF⟩ := bs hF
 refine ⟨_,_,_,_,_,_,_,_,_,callX false [] [] 0 Tryz.func80 (by decide) rfl (plate_Compare_ac e_1.Plate x_2 r_2 hr2) rfl ⟨aq, aq,trivial⟩ rfl trivial rfl rfl rfl lend0 trivial rfl, ?_⟩
 conv=>whnf
 refine ⟨by kernel_rfl, ?_⟩
 conv=>whnf
 obtain rfl := si hF
 exact ret_gz [] [] [] rfl aq trivial

theorem sort_Search_ac (x_0 : Int) (x_1 : (List Bag)) (x_2 : Plate) (r : Int × (List Bag) × Plate) (hF : sort_Search x_0 x_1 x_2 = some r) : AC Tryz.prog 84 [.int .i64 x_0, .fn 85 [.ptr 0 0, .ptr 1 0]] [.box ([.lst 25 (x_1.map encBag)]), .box (encPlate x_2)] (.int .i64 r.1) [.box ([.lst 25 (r.2.1.map encBag)]), .box (encPlate r.2.2)] := by
 refine ac_of tab_ok follows_ok Tryz.func84 rfl Tryz.ntmps84 rfl ?_
 unfold sort_Search at hF
 conv=>whnf
 obtain ⟨c_1, hc_1, hF⟩ := fin_some hF
 refine sw_loop tab_ok follows_ok (fun y : Nat × Int × Int => sort_Search_L1 x_1 x_2 y.1 y.2.1 y.2.2 = some c_1) (fun y => ⟨eL [(1, .fn 85 [.ptr 0 0, .ptr 1 0]), (5, .int .i64 y.2.1), (6, .int .i64 y.2.2)], hL [(0, .box [.lst 25 (x_1.map encBag)]), (1, .box [.int .i64 x_2.Lead, .int .i64 x_2.Airline, .int .i64 x_2.Serial])], 2⟩) (fun y => y.1) (9223372036854775807, (0 : Int), x_0) hc_1 (wk_mk [0, 1] [] [] rfl ⟨argFn (c := [.ptr 0 0, .ptr 1 0]) (by (conv=>lhs;whnf)<;>rfl) rfl ⟨(.ptr 0 0 0 rfl), (.ptr 1 0 1 rfl),trivial⟩, aq, aq,trivial⟩ ⟨boxL rfl rfl rfl ⟨(.ni _ rfl),trivial⟩, boxL rfl rfl rfl ⟨(.ni _ rfl), (.ni _ rfl), (.ni _ rfl),trivial⟩,trivial⟩) ?_
 rintro ⟨q_4, i_1, i_2⟩ hL1
 try dsimp only at hL1
 rcases q_4 with _ | q_4
 ·
  rw [sort_Search_L1.eq_1] at hL1
  cases hL1
 rw [sort_Search_L1.eq_2] at hL1
 show awp _ _ _ _ _ _ ⟨eL [(1, .fn 85 [.ptr 0 0, .ptr 1 0]), (5, .int .i64 i_1), (6, .int .i64 i_2)], hL [(0, .box [.lst 25 (x_1.map encBag)]), (1, .box [.int .i64 x_2.Lead, .int .i64 x_2.Airline, .int .i64 x_2.Serial])], 2⟩
 conv=>whnf
 refine ⟨fun b9=>?_,fun b9=>?_⟩
 ·
  replace hL1 := ct b9 hL1
  conv=>whnf
  refine ⟨_, rfl, ?_⟩
  conv=>whnf
  refine ⟨_, rfl, ?_⟩
  conv=>whnf
  refine ⟨_, shr_q (by decide), ?_⟩
  conv=>whnf
  refine ⟨_, rfl, ?_⟩
  conv=>whnf
  obtain ⟨r_3, hr3, hL1⟩ := bs hL1
  refine ⟨_,_,_,_,_,_,_,_,_,callX false [] [0, 1] 0 Tryz.func85 (by decide) rfl (registry_at_f1_ac (IntKind.i64.wrap (shrF .u64 (IntKind.u64.wrap (w64 (i_1 + i_2))) (1 : Int))) x_1 x_2 r_3 hr3) rfl ⟨aq, (argIb 0 _ (by (conv=>lhs;whnf)<;>rfl) rfl rfl rfl rfl), (argIb 1 _ (by (conv=>lhs;whnf)<;>rfl) rfl rfl rfl rfl),trivial⟩ rfl trivial rfl rfl rfl (lendF rfl) trivial rfl, ?_⟩
  conv=>whnf
  refine ⟨fun b10=>?_,fun b10=>?_⟩
  ·
   replace hL1 := ct b10 hL1
   conv=>whnf
   refine ⟨_, rfl, ?_⟩
   conv=>whnf
   exact ⟨(q_4, (w64 ((IntKind.i64.wrap (shrF .u64 (IntKind.u64.wrap (w64 (i_1 + i_2))) (1 : Int))) + (1 : Int))), i_2), [0, 1], [], [], hL1, Nat.lt_succ_self _, wk_mk [0, 1] [] [] rfl ⟨argFn (c := [.ptr 0 0, .ptr 1 0]) (by (conv=>lhs;whnf)<;>rfl) rfl ⟨(.ptr 0 0 0 rfl), (.ptr 1 0 1 rfl),trivial⟩, aq, aq,trivial⟩ ⟨boxL rfl rfl rfl ⟨(.ni _ rfl),trivial⟩, boxL rfl rfl rfl ⟨(.ni _ rfl), (.ni _ rfl), (.ni _ rfl),trivial⟩,trivial⟩⟩
  ·
   replace hL1 := cf b10 hL1
   conv=>whnf
   exact ⟨(q_4, i_1, (IntKind.i64.wrap (shrF .u64 (IntKind.u64.wrap (w64 (i_1 + i_2))) (1 : Int)))), [0, 1], [], [], hL1, Nat.lt_succ_self _, wk_mk [0, 1] [] [] rfl ⟨argFn (c := [.ptr 0 0, .ptr 1 0]) (by (conv=>lhs;whnf)<;>rfl) rfl ⟨(.ptr 0 0 0 rfl), (.ptr 1 0 1 rfl),trivial⟩, aq, aq,trivial⟩ ⟨boxL rfl rfl rfl ⟨(.ni _ rfl),trivial⟩, boxL rfl rfl rfl ⟨(.ni _ rfl), (.ni _ rfl), (.ni _ rfl),trivial⟩,trivial⟩⟩
 ·
  replace hL1 := cf b9 hL1
  conv=>whnf
  obtain rfl := si hL1
  replace hF := fin_brk hF
  try dsimp only at hF
  obtain rfl := si hF
  exact ret_gz [0, 1] [] [] rfl aq ⟨boxL rfl rfl rfl ⟨(.ni _ rfl),trivial⟩, boxL rfl rfl rfl ⟨(.ni _ rfl), (.ni _ rfl), (.ni _ rfl),trivial⟩,trivial⟩

theorem registry_at_ac (x_0 : (List Bag)) (x_1 : Plate) (r : Int × Bool) (hF : registry_at x_0 x_1 = some r) : AC Tryz.prog 44 [.lst 25 (x_0.map encBag), .agg (encPlate x_1)] [] (.tup [.int .i64 r.1, .bool r.2]) [] := by
 refine ac_of tab_ok follows_ok Tryz.func44 rfl Tryz.ntmps44 rfl ?_
 unfold registry_at at hF
 conv=>whnf
 refine len_q (enc := encBag) (l := x_0) rfl ?_
 conv=>whnf
 obtain ⟨r_1, hr1, hF⟩ := bs hF
 refine ⟨_,_,_,_,_,_,_,_,_,callX false [0, 1] [] 0 Tryz.func84 (by decide) rfl (sort_Search_ac (x_0.length : Int) x_0 x_1 r_1 hr1) rfl ⟨aq, (argFn (c := [.ptr 0 0, .ptr 1 0]) (by (conv=>lhs;whnf)<;>rfl) rfl ⟨(.ptr 0 0 0 rfl), (.ptr 1 0 1 rfl),trivial⟩),trivial⟩ rfl ⟨rfl, rfl,trivial⟩ rfl rfl rfl lend0 ⟨rfl, rfl,trivial⟩ rfl, ?_⟩
 conv=>whnf
 refine len_q (enc := encBag) (l := r_1.2.1) rfl ?_
 conv=>whnf
 refine ⟨fun b2=>?_,fun b2=>?_⟩
 ·
  replace hF := ct b2 hF
  conv=>whnf
  obtain ⟨e_2, he2, hF⟩ := bs hF
  refine ix_q (enc := encBag) (l := r_1.2.1) he2 rfl (fun m_e_2 hm_e_2 hx_e_2=>?_)
  conv=>whnf
  refine ⟨by kernel_rfl, ?_⟩
  conv=>whnf
  obtain rfl := si hF
  exact ret_gz [] [] [] rfl (tupL rfl ⟨aq, aq,trivial⟩) trivial
 ·
  replace hF := cf b2 hF
  conv=>whnf
  refine ⟨by kernel_rfl, ?_⟩
  conv=>whnf
  obtain rfl := si hF
  exact ret_gz [] [] [] rfl (tupL rfl ⟨aq, (argFl (by (conv=>lhs;whnf)<;>rfl)),trivial⟩) trivial

theorem registry_fresh_ac (x_0 : Message) (r : Bool) (hF : registry_fresh x_0 = some r) : AC Tryz.prog 83 [.agg (encMessage x_0)] [] (.bool r) [] := by
 refine ac_of tab_ok follows_ok Tryz.func83 rfl Tryz.ntmps83 rfl ?_
 unfold registry_fresh at hF
 conv=>whnf
 refine ⟨fun b3=>?_,fun b3=>?_⟩
 ·
  replace hF := cf b3 hF
  conv=>whnf
  refine ⟨fun b4=>?_,fun b4=>?_⟩
  ·
   replace hF := ct b4 hF
   conv=>whnf
   obtain rfl := si hF
   exact ret_gz [] [] [] rfl aq trivial
  ·
   replace hF := cf b4 hF
   conv=>whnf
   obtain rfl := si hF
   exact ret_gz [] [] [] rfl (argFl (by (conv=>lhs;whnf)<;>rfl)) trivial
 ·
  replace hF := ct b3 hF
  conv=>whnf
  obtain rfl := si hF
  exact ret_gz [] [] [] rfl aq trivial

theorem registry_refused_ac (x_0 : (List Bag)) (x_1 : Message) (x_2 : (List Plate)) (r : Int) (hF : registry_refused x_0 x_1 x_2 = some r) : AC Tryz.prog 43 [.lst 25 (x_0.map encBag), .agg (encMessage x_1), .lst 3 (x_2.map encPlate)] [] (.int .i64 r) [] := by
 refine ac_of tab_ok follows_ok Tryz.func43 rfl Tryz.ntmps43 rfl ?_
 unfold registry_refused at hF
 conv=>whnf
 refine len_q (enc := encPlate) (l := x_2) rfl ?_
 conv=>whnf
 obtain ⟨c_1, hc_1, hF⟩ := fin_some hF
 refine sw_bv 2 (v := .lst 3 (x_2.map encPlate)) (by (conv=>lhs;whnf)<;>rfl) (fun hb=>?_)
 have hbd_k_3 : x_2.length ≤ 9223372036854775807 := bnd_len (enc := encPlate) (hb)
 refine sw_loop tab_ok follows_ok (fun y : Nat × Int => y.1 ≤ x_2.length ∧ registry_refused_L1 x_0 x_1 (x_2.drop y.1) y.1 y.2 = some c_1) (fun y => ⟨eL [(0, .lst 25 (x_0.map encBag)), (2, .lst 3 (x_2.map encPlate)), (4, .ptr 0 0), (7, .int .i64 y.2), (12, .lst 3 (x_2.map encPlate)), (13, .int .i64 (x_2.length : Int)), (14, .int .i64 (y.1 : Int))], hL [(0, .box [.int .i64 x_1.Kind, .int .i64 x_1.Do, .str x_1.Port, .int .i64 x_1.Number, .str x_1.In.Flight.Carrier, .int .i64 x_1.In.Flight.Number, .str x_1.In.Flight.Suffix, .int .i64 x_1.In.Flight.Day, .str x_1.In.Port, .str x_1.In.Class, .str x_1.Out.Flight.Carrier, .int .i64 x_1.Out.Flight.Number, .str x_1.Out.Flight.Suffix, .int .i64 x_1.Out.Flight.Day, .str x_1.Out.Port, .str x_1.Out.Class, .lst 6 (x_1.Onward.map encLeg), .int .i64 x_1.First.Lead, .int .i64 x_1.First.Airline, .int .i64 x_1.First.Serial, .int .i64 x_1.Count, .bool x_1.Load, .int .i64 x_1.Status, .int .i64 x_1.Sequence, .int .i64 x_1.Weight, .str x_1.Surname, .str x_1.Given, .int .i64 x_1.Exception, .str x_1.Node, .lst 1 (x_1.List.map iA)])], 1⟩) (fun y => x_2.length - y.1) (0, (0 : Int)) ⟨Nat.zero_le _, hc_1⟩ (wk_mk [0] [] [] rfl ⟨aq, aq, argP (id := 0) (by (conv=>lhs;whnf)<;>rfl) rfl, aq, aq, aq, aq,trivial⟩ ⟨boxL rfl rfl rfl ⟨(.ni _ rfl), (.ni _ rfl), (.ni _ rfl), (.ni _ rfl), (.ni _ rfl), (.ni _ rfl), (.ni _ rfl), (.ni _ rfl), (.ni _ rfl), (.ni _ rfl), (.ni _ rfl), (.ni _ rfl), (.ni _ rfl), (.ni _ rfl), (.ni _ rfl), (.ni _ rfl), (.ni _ rfl), (.ni _ rfl), (.ni _ rfl), (.ni _ rfl), (.ni _ rfl), (.ni _ rfl), (.ni _ rfl), (.ni _ rfl), (.ni _ rfl), (.ni _ rfl), (.ni _ rfl), (.ni _ rfl), (.ni _ rfl), (.ni _ rfl),trivial⟩,trivial⟩) ?_
 rintro ⟨k_3, i_1⟩ ⟨hk_k_3, hL1⟩
 try dsimp only at hk_k_3 hL1
 show awp _ _ _ _ _ _ ⟨eL [(0, .lst 25 (x_0.map encBag)), (2, .lst 3 (x_2.map encPlate)), (4, .ptr 0 0), (7, .int .i64 i_1), (12, .lst 3 (x_2.map encPlate)), (13, .int .i64 (x_2.length : Int)), (14, .int .i64 (k_3 : Int))], hL [(0, .box [.int .i64 x_1.Kind, .int .i64 x_1.Do, .str x_1.Port, .int .i64 x_1.Number, .str x_1.In.Flight.Carrier, .int .i64 x_1.In.Flight.Number, .str x_1.In.Flight.Suffix, .int .i64 x_1.In.Flight.Day, .str x_1.In.Port, .str x_1.In.Class, .str x_1.Out.Flight.Carrier, .int .i64 x_1.Out.Flight.Number, .str x_1.Out.Flight.Suffix, .int .i64 x_1.Out.Flight.Day, .str x_1.Out.Port, .str x_1.Out.Class, .lst 6 (x_1.Onward.map encLeg), .int .i64 x_1.First.Lead, .int .i64 x_1.First.Airline, .int .i64 x_1.First.Serial, .int .i64 x_1.Count, .bool x_1.Load, .int .i64 x_1.Status, .int .i64 x_1.Sequence, .int .i64 x_1.Weight, .str x_1.Surname, .str x_1.Given, .int .i64 x_1.Exception, .str x_1.Node, .lst 1 (x_1.List.map iA)])], 1⟩
 conv=>whnf
 refine ⟨fun h=>?_,fun h=>?_⟩
 ·
  have lk3 : k_3 < x_2.length := by have h := of_decide_eq_true h; omega
  obtain ⟨e_4, he4⟩ : ∃ y, x_2[k_3]? = some y := ⟨_, List.getElem?_eq_getElem lk3⟩
  rw [drop_cons he4, registry_refused_L1.eq_2] at hL1
  conv=>whnf
  refine ⟨k_3, _, rfl, ix_map he4, ?_⟩
  conv=>whnf
  obtain ⟨r_5, hr5, hL1⟩ := bs hL1
  refine ⟨_,_,_,_,_,_,_,_,_,callX false [] [] 0 Tryz.func44 (by decide) rfl (registry_at_ac x_0 e_4 r_5 hr5) rfl ⟨aq, aq,trivial⟩ rfl trivial rfl rfl rfl lend0 trivial rfl, ?_⟩
  conv=>whnf
  refine ⟨fun b25=>?_,fun b25=>?_⟩
  ·
   replace hL1 := ct b25 hL1
   conv=>whnf
   obtain ⟨r_6, hr6, hL1⟩ := bs hL1
   refine ⟨_,_,_,_,_,_,_,_,_,callX false [] [] 0 Tryz.func83 (by decide) rfl (registry_fresh_ac x_1 r_6 hr6) rfl ⟨aq,trivial⟩ rfl trivial rfl rfl rfl lend0 trivial rfl, ?_⟩
   conv=>whnf
   refine ⟨fun b26=>?_,fun b26=>?_⟩
   ·
    replace hL1 := ct b26 hL1
    conv=>whnf
    obtain rfl := si hL1
    replace hF := fin_ret hF
    obtain rfl := si hF
    exact ret_gz [] [] [] rfl aq trivial
   ·
    replace hL1 := cf b26 hL1
    conv=>whnf
    refine ⟨fun h=>?_,fun h=>?_⟩
    ·
     cases (not_kn (b25)).symm.trans h
    ·
     conv=>whnf
     refine ⟨fun h=>?_,fun h=>?_⟩
     ·
      conv=>whnf
      refine ⟨fun b27=>?_,fun b27=>?_⟩
      ·
       replace hL1 := ct b27 hL1
       conv=>whnf
       obtain ⟨e_7, he7, hL1⟩ := bs hL1
       refine ix_q (enc := encBag) (l := x_0) he7 rfl (fun m_e_7 hm_e_7 hx_e_7=>?_)
       conv=>whnf
       refine ⟨by kernel_rfl, ?_⟩
       conv=>whnf
       refine ⟨fun b28=>?_,fun b28=>?_⟩
       ·
        replace hL1 := ct b28 hL1
        conv=>whnf
        refine ⟨((k_3 + 1 : Nat) : Int), wrapE (by omega) (by omega) (by omega), ?_⟩
        conv=>whnf
        exact ⟨(k_3 + 1, (7 : Int)), [0], [], [], ⟨lk3, hL1⟩, by show x_2.length - (k_3 + 1) < x_2.length - k_3; omega, wk_mk [0] [] [] rfl ⟨aq, aq, argP (id := 0) (by (conv=>lhs;whnf)<;>rfl) rfl, aq, aq, aq, aq,trivial⟩ ⟨boxL rfl rfl rfl ⟨(.ni _ rfl), (.ni _ rfl), (.ni _ rfl), (.ni _ rfl), (.ni _ rfl), (.ni _ rfl), (.ni _ rfl), (.ni _ rfl), (.ni _ rfl), (.ni _ rfl), (.ni _ rfl), (.ni _ rfl), (.ni _ rfl), (.ni _ rfl), (.ni _ rfl), (.ni _ rfl), (.ni _ rfl), (.ni _ rfl), (.ni _ rfl), (.ni _ rfl), (.ni _ rfl), (.ni _ rfl), (.ni _ rfl), (.ni _ rfl), (.ni _ rfl), (.ni _ rfl), (.ni _ rfl), (.ni _ rfl), (.ni _ rfl), (.ni _ rfl),trivial⟩,trivial⟩⟩
       ·
        replace hL1 := cf b28 hL1
        conv=>whnf
        refine ⟨((k_3 + 1 : Nat) : Int), wrapE (by omega) (by omega) (by omega), ?_⟩
        conv=>whnf
        exact ⟨(k_3 + 1, i_1), [0], [], [], ⟨lk3, hL1⟩, by show x_2.length - (k_3 + 1) < x_2.length - k_3; omega, wk_mk [0] [] [] rfl ⟨aq, aq, argP (id := 0) (by (conv=>lhs;whnf)<;>rfl) rfl, aq, aq, aq, aq,trivial⟩ ⟨boxL rfl rfl rfl ⟨(.ni _ rfl), (.ni _ rfl), (.ni _ rfl), (.ni _ rfl), (.ni _ rfl), (.ni _ rfl), (.ni _ rfl), (.ni _ rfl), (.ni _ rfl), (.ni _ rfl), (.ni _ rfl), (.ni _ rfl), (.ni _ rfl), (.ni _ rfl), (.ni _ rfl), (.ni _ rfl), (.ni _ rfl), (.ni _ rfl), (.ni _ rfl), (.ni _ rfl), (.ni _ rfl), (.ni _ rfl), (.ni _ rfl), (.ni _ rfl), (.ni _ rfl), (.ni _ rfl), (.ni _ rfl), (.ni _ rfl), (.ni _ rfl), (.ni _ rfl),trivial⟩,trivial⟩⟩
      ·
       replace hL1 := cf b27 hL1
       conv=>whnf
       refine ⟨by kernel_rfl, ?_⟩
       conv=>whnf
       refine ⟨((k_3 + 1 : Nat) : Int), wrapE (by omega) (by omega) (by omega), ?_⟩
       conv=>whnf
       exact ⟨(k_3 + 1, i_1), [0], [], [], ⟨lk3, hL1⟩, by show x_2.length - (k_3 + 1) < x_2.length - k_3; omega, wk_mk [0] [] [] rfl ⟨aq, aq, argP (id := 0) (by (conv=>lhs;whnf)<;>rfl) rfl, aq, aq, aq, aq,trivial⟩ ⟨boxL rfl rfl rfl ⟨(.ni _ rfl), (.ni _ rfl), (.ni _ rfl), (.ni _ rfl), (.ni _ rfl), (.ni _ rfl), (.ni _ rfl), (.ni _ rfl), (.ni _ rfl), (.ni _ rfl), (.ni _ rfl), (.ni _ rfl), (.ni _ rfl), (.ni _ rfl), (.ni _ rfl), (.ni _ rfl), (.ni _ rfl), (.ni _ rfl), (.ni _ rfl), (.ni _ rfl), (.ni _ rfl), (.ni _ rfl), (.ni _ rfl), (.ni _ rfl), (.ni _ rfl), (.ni _ rfl), (.ni _ rfl), (.ni _ rfl), (.ni _ rfl), (.ni _ rfl),trivial⟩,trivial⟩⟩
     ·
      cases (b25).symm.trans h
  ·
   replace hL1 := cf b25 hL1
   conv=>whnf
   refine ⟨fun h=>?_,fun h=>?_⟩
   ·
    conv=>whnf
    obtain ⟨r_8, hr8, hL1⟩ := bs hL1
    refine ⟨_,_,_,_,_,_,_,_,_,callX false [] [] 0 Tryz.func83 (by decide) rfl (registry_fresh_ac x_1 r_8 hr8) rfl ⟨aq,trivial⟩ rfl trivial rfl rfl rfl lend0 trivial rfl, ?_⟩
    conv=>whnf
    refine ⟨fun b29=>?_,fun b29=>?_⟩
    ·
     replace hL1 := ct b29 hL1
     conv=>whnf
     obtain rfl := si hL1
     replace hF := fin_ret hF
     obtain rfl := si hF
     exact ret_gz [] [] [] rfl aq trivial
    ·
     replace hL1 := cf b29 hL1
     conv=>whnf
     refine ⟨fun h=>?_,fun h=>?_⟩
     ·
      cases (b25).symm.trans h
     ·
      conv=>whnf
      refine ⟨by kernel_rfl, ?_⟩
      conv=>whnf
      refine ⟨((k_3 + 1 : Nat) : Int), wrapE (by omega) (by omega) (by omega), ?_⟩
      conv=>whnf
      exact ⟨(k_3 + 1, i_1), [0], [], [], ⟨lk3, hL1⟩, by show x_2.length - (k_3 + 1) < x_2.length - k_3; omega, wk_mk [0] [] [] rfl ⟨aq, aq, argP (id := 0) (by (conv=>lhs;whnf)<;>rfl) rfl, aq, aq, aq, aq,trivial⟩ ⟨boxL rfl rfl rfl ⟨(.ni _ rfl), (.ni _ rfl), (.ni _ rfl), (.ni _ rfl), (.ni _ rfl), (.ni _ rfl), (.ni _ rfl), (.ni _ rfl), (.ni _ rfl), (.ni _ rfl), (.ni _ rfl), (.ni _ rfl), (.ni _ rfl), (.ni _ rfl), (.ni _ rfl), (.ni _ rfl), (.ni _ rfl), (.ni _ rfl), (.ni _ rfl), (.ni _ rfl), (.ni _ rfl), (.ni _ rfl), (.ni _ rfl), (.ni _ rfl), (.ni _ rfl), (.ni _ rfl), (.ni _ rfl), (.ni _ rfl), (.ni _ rfl), (.ni _ rfl),trivial⟩,trivial⟩⟩
   ·
    cases (not_kn (b25)).symm.trans h
 ·
  rw [drop_nil (show x_2.length ≤ k_3 by have h := of_decide_eq_false h; omega), registry_refused_L1.eq_1] at hL1
  conv=>whnf
  obtain rfl := si hL1
  replace hF := fin_brk hF
  try dsimp only at hF
  obtain ⟨r_11, hr11, hF⟩ := bs hF
  refine ⟨_,_,_,_,_,_,_,_,_,callX false [] [] 0 Tryz.func83 (by decide) rfl (registry_fresh_ac x_1 r_11 hr11) rfl ⟨aq,trivial⟩ rfl trivial rfl rfl rfl lend0 trivial rfl, ?_⟩
  conv=>whnf
  refine ⟨fun b30=>?_,fun b30=>?_⟩
  ·
   replace hF := ct b30 hF
   conv=>whnf
   refine len_q (enc := encBag) (l := x_0) rfl ?_
   conv=>whnf
   refine len_q (enc := encPlate) (l := x_2) rfl ?_
   conv=>whnf
   refine ⟨_, rfl, ?_⟩
   conv=>whnf
   refine ⟨fun b31=>?_,fun b31=>?_⟩
   ·
    replace hF := ct b31 hF
    conv=>whnf
    obtain rfl := si hF
    exact ret_gz [] [] [] rfl aq trivial
   ·
    replace hF := cf b31 hF
    conv=>whnf
    obtain rfl := si hF
    exact ret_gz [] [] [] rfl aq trivial
  ·
   replace hF := cf b30 hF
   conv=>whnf
   obtain rfl := si hF
   exact ret_gz [] [] [] rfl aq trivial

theorem registry_described_ac (x_0 : Message) (x_1 : Plate) (r : Bag) (hF : registry_described x_0 x_1 = some r) : AC Tryz.prog 45 [.agg (encMessage x_0), .agg (encPlate x_1)] [] (.agg (encBag r)) [] := by
 refine ac_of tab_ok follows_ok Tryz.func45 rfl Tryz.ntmps45 rfl ?_
 unfold registry_described at hF
 conv=>whnf
 obtain ⟨r_1, hr1, hF⟩ := bs hF
 refine ⟨_,_,_,_,_,_,_,_,_,callX false [] [] 0 Tryz.func81 (by decide) rfl (registry_copied_ac (⟨x_1, x_0.In, x_0.Out, x_0.Onward, x_0.Sequence, x_0.Status, x_0.Weight, x_0.Load, x_0.Surname, x_0.Given, x_0.Exception, (⟨#[]⟩ : ByteArray), false⟩ : Bag) r_1 hr1) rfl ⟨(argA (c := [.int .i64 x_1.Lead, .int .i64 x_1.Airline, .int .i64 x_1.Serial, .str x_0.In.Flight.Carrier, .int .i64 x_0.In.Flight.Number, .str x_0.In.Flight.Suffix, .int .i64 x_0.In.Flight.Day, .str x_0.In.Port, .str x_0.In.Class, .str x_0.Out.Flight.Carrier, .int .i64 x_0.Out.Flight.Number, .str x_0.Out.Flight.Suffix, .int .i64 x_0.Out.Flight.Day, .str x_0.Out.Port, .str x_0.Out.Class, .lst 6 (x_0.Onward.map encLeg), .int .i64 x_0.Sequence, .int .i64 x_0.Status, .int .i64 x_0.Weight, .bool x_0.Load, .str x_0.Surname, .str x_0.Given, .int .i64 x_0.Exception, .str (⟨#[]⟩ : ByteArray), .fls]) (by (conv=>lhs;whnf)<;>rfl) rfl ⟨(.ni _ rfl), (.ni _ rfl), (.ni _ rfl), (.ni _ rfl), (.ni _ rfl), (.ni _ rfl), (.ni _ rfl), (.ni _ rfl), (.ni _ rfl), (.ni _ rfl), (.ni _ rfl), (.ni _ rfl), (.ni _ rfl), (.ni _ rfl), (.ni _ rfl), (.ni _ rfl), (.ni _ rfl), (.ni _ rfl), (.ni _ rfl), (.ni _ rfl), (.ni _ rfl), (.ni _ rfl), (.ni _ rfl), (.ni _ rfl), .fls,trivial⟩),trivial⟩ rfl trivial rfl rfl rfl lend0 trivial rfl, ?_⟩
 conv=>whnf
 obtain rfl := si hF
 exact ret_gz [] [] [] rfl aq trivial

theorem registry_change_ac (x_0 : Bag) (x_1 : Message) (r : Bag) (hF : registry_change x_0 x_1 = some r) : AC Tryz.prog 46 [.agg (encBag x_0), .agg (encMessage x_1)] [] (.agg (encBag r)) [] := by
 refine ac_of tab_ok follows_ok Tryz.func46 rfl Tryz.ntmps46 rfl ?_
 unfold registry_change at hF
 conv=>whnf
 refine ⟨fun b3=>?_,fun b3=>?_⟩
 ·
  replace hF := ct b3 hF
  conv=>whnf
  obtain rfl := si hF
  exact ret_gz [] [] [] rfl aq trivial
 ·
  replace hF := cf b3 hF
  conv=>whnf
  refine ⟨fun b4=>?_,fun b4=>?_⟩
  ·
   replace hF := ct b4 hF
   conv=>whnf
   obtain rfl := si hF
   exact ret_gz [] [] [] rfl (argA (c := [.int .i64 x_0.Plate.Lead, .int .i64 x_0.Plate.Airline, .int .i64 x_0.Plate.Serial, .str x_0.In.Flight.Carrier, .int .i64 x_0.In.Flight.Number, .str x_0.In.Flight.Suffix, .int .i64 x_0.In.Flight.Day, .str x_0.In.Port, .str x_0.In.Class, .str x_0.Out.Flight.Carrier, .int .i64 x_0.Out.Flight.Number, .str x_0.Out.Flight.Suffix, .int .i64 x_0.Out.Flight.Day, .str x_0.Out.Port, .str x_0.Out.Class, .lst 6 (x_0.Onward.map encLeg), .int .i64 x_0.Sequence, .int .i64 x_0.Status, .int .i64 x_0.Weight, .fls, .str x_0.Surname, .str x_0.Given, .int .i64 x_0.Exception, .str x_0.Node, .tru]) (by (conv=>lhs;whnf)<;>rfl) rfl ⟨(.ni _ rfl), (.ni _ rfl), (.ni _ rfl), (.ni _ rfl), (.ni _ rfl), (.ni _ rfl), (.ni _ rfl), (.ni _ rfl), (.ni _ rfl), (.ni _ rfl), (.ni _ rfl), (.ni _ rfl), (.ni _ rfl), (.ni _ rfl), (.ni _ rfl), (.ni _ rfl), (.ni _ rfl), (.ni _ rfl), (.ni _ rfl), .fls, (.ni _ rfl), (.ni _ rfl), (.ni _ rfl), (.ni _ rfl), .tru,trivial⟩) trivial
  ·
   replace hF := cf b4 hF
   conv=>whnf
   obtain ⟨r_1, hr1, hF⟩ := bs hF
   refine ⟨_,_,_,_,_,_,_,_,_,callX false [] [] 0 Tryz.func45 (by decide) rfl (registry_described_ac x_1 x_0.Plate r_1 hr1) rfl ⟨aq, aq,trivial⟩ rfl trivial rfl rfl rfl lend0 trivial rfl, ?_⟩
   conv=>whnf
   refine ⟨by kernel_rfl, ?_⟩
   conv=>whnf
   obtain rfl := si hF
   exact ret_gz [] [] [] rfl aq trivial

theorem registry_Apply_ac (x_0 : Registry) (x_1 : Message) (r : Registry × Int) (hF : registry_Apply x_0 x_1 = some r) : AC Tryz.prog 11 [.agg (encRegistry x_0), .agg (encMessage x_1)] [] (.tup [.agg (encRegistry r.1), .int .i64 r.2]) [] := by
 refine ac_of tab_ok follows_ok Tryz.func11 rfl Tryz.ntmps11 rfl ?_
 unfold registry_Apply at hF
 conv=>whnf
 obtain ⟨r_1, hr1, hF⟩ := bs hF
 refine ⟨_,_,_,_,_,_,_,_,_,callX false [] [] 0 Tryz.func40 (by decide) rfl (registry_Validate_ac x_0 r_1 hr1) rfl ⟨aq,trivial⟩ rfl trivial rfl rfl rfl lend0 trivial rfl, ?_⟩
 conv=>whnf
 refine ⟨fun b15=>?_,fun b15=>?_⟩
 ·
  replace hF := ct b15 hF
  conv=>whnf
  obtain rfl := si hF
  exact ret_gz [] [] [] rfl (tupL rfl ⟨(argA (c := [.nils]) (by (conv=>lhs;whnf)<;>rfl) rfl ⟨(.nils _),trivial⟩), aq,trivial⟩) trivial
 ·
  replace hF := cf b15 hF
  conv=>whnf
  obtain ⟨r_2, hr2, hF⟩ := bs hF
  refine ⟨_,_,_,_,_,_,_,_,_,callX false [] [] 0 Tryz.func29 (by decide) rfl (message_Validate_ac x_1 r_2 hr2) rfl ⟨aq,trivial⟩ rfl trivial rfl rfl rfl lend0 trivial rfl, ?_⟩
  conv=>whnf
  refine ⟨fun b16=>?_,fun b16=>?_⟩
  ·
   replace hF := ct b16 hF
   conv=>whnf
   obtain rfl := si hF
   exact ret_gz [] [] [] rfl (tupL rfl ⟨(argA (c := [.nils]) (by (conv=>lhs;whnf)<;>rfl) rfl ⟨(.nils _),trivial⟩), aq,trivial⟩) trivial
  ·
   replace hF := cf b16 hF
   conv=>whnf
   obtain ⟨r_3, hr3, hF⟩ := bs hF
   refine ⟨_,_,_,_,_,_,_,_,_,callX false [] [] 1 Tryz.func41 (by decide) rfl (registry_clone_ac x_0.L r_3 hr3) rfl ⟨aq,trivial⟩ rfl trivial rfl rfl rfl lend0 ⟨renR (fun _ => ⟨rfl, rfl⟩),trivial⟩ rfl, ?_⟩
   conv=>whnf
   refine ⟨fun b17=>?_,fun b17=>?_⟩
   ·
    replace hF := ct b17 hF
    conv=>whnf
    obtain rfl := si hF
    exact ret_gz [] [] [5] rfl (tupL rfl ⟨(argA (c := [.osl 5]) (by (conv=>lhs;whnf)<;>rfl) rfl ⟨(.osl 5 25 _ (by simp) rfl (map_ni (fun _ => ⟨rfl, rfl⟩) _)),trivial⟩), aq,trivial⟩) trivial
   ·
    replace hF := cf b17 hF
    conv=>whnf
    obtain ⟨r_4, hr4, hF⟩ := bs hF
    refine ⟨_,_,_,_,_,_,_,_,_,callX false [] [] 0 Tryz.func42 (by decide) rfl (message_Plates_ac x_1 r_4 hr4) rfl ⟨aq,trivial⟩ rfl trivial rfl rfl rfl lend0 trivial rfl, ?_⟩
    conv=>whnf
    obtain ⟨r_5, hr5, hF⟩ := bs hF
    refine ⟨_,_,_,_,_,_,_,_,_,callX false [] [5] 0 Tryz.func43 (by decide) rfl (registry_refused_ac r_3 x_1 r_4 r_5 hr5) rfl ⟨(argOL 5 (by (conv=>lhs;whnf)<;>rfl) rfl rfl (map_ni (fun _ => ⟨rfl, rfl⟩) _)), aq, aq,trivial⟩ rfl trivial rfl rfl rfl (lendF rfl) trivial rfl, ?_⟩
    conv=>whnf
    refine ⟨fun b18=>?_,fun b18=>?_⟩
    ·
     replace hF := ct b18 hF
     conv=>whnf
     obtain rfl := si hF
     exact ret_gz [] [] [] rfl (tupL rfl ⟨(argA (c := [.nils]) (by (conv=>lhs;whnf)<;>rfl) rfl ⟨(.nils _),trivial⟩), aq,trivial⟩) trivial
    ·
     replace hF := cf b18 hF
     conv=>whnf
     refine len_q (enc := encPlate) (l := r_4) rfl ?_
     conv=>whnf
     obtain ⟨c_1, hc_1, hF⟩ := fin_some hF
     refine sw_bv 9 (v := .lst 3 (r_4.map encPlate)) (by (conv=>lhs;whnf)<;>rfl) (fun hb=>?_)
     have hbd_k_8 : r_4.length ≤ 9223372036854775807 := bnd_len (enc := encPlate) (hb)
     refine sw_loop tab_ok follows_ok (fun y : Nat × (List Bag) => y.1 ≤ r_4.length ∧ registry_Apply_L1 x_1 (r_4.drop y.1) y.1 y.2 = some c_1) (fun y => ⟨eL [(3, .ptr 0 0), (4, .ptr 1 0), (8, .osl 2), (45, .lst 3 (r_4.map encPlate)), (46, .int .i64 (r_4.length : Int)), (47, .int .i64 (y.1 : Int))], hL [(0, .box [.int .i64 x_1.Kind, .int .i64 x_1.Do, .str x_1.Port, .int .i64 x_1.Number, .str x_1.In.Flight.Carrier, .int .i64 x_1.In.Flight.Number, .str x_1.In.Flight.Suffix, .int .i64 x_1.In.Flight.Day, .str x_1.In.Port, .str x_1.In.Class, .str x_1.Out.Flight.Carrier, .int .i64 x_1.Out.Flight.Number, .str x_1.Out.Flight.Suffix, .int .i64 x_1.Out.Flight.Day, .str x_1.Out.Port, .str x_1.Out.Class, .lst 6 (x_1.Onward.map encLeg), .int .i64 x_1.First.Lead, .int .i64 x_1.First.Airline, .int .i64 x_1.First.Serial, .int .i64 x_1.Count, .bool x_1.Load, .int .i64 x_1.Status, .int .i64 x_1.Sequence, .int .i64 x_1.Weight, .str x_1.Surname, .str x_1.Given, .int .i64 x_1.Exception, .str x_1.Node, .lst 1 (x_1.List.map iA)]), (1, .box [.nils]), (2, .row 25 (y.2.map encBag))], 3⟩) (fun y => r_4.length - y.1) (0, r_3) ⟨Nat.zero_le _, hc_1⟩ (wk_mk [1, 2, 5] [] [] rfl ⟨argP (id := 1) (by (conv=>lhs;whnf)<;>rfl) rfl, argP (id := 2) (by (conv=>lhs;whnf)<;>rfl) rfl, argO (id := 5) (by (conv=>lhs;whnf)<;>rfl) rfl, aq, aq, aq,trivial⟩ ⟨boxL rfl rfl rfl ⟨(.ni _ rfl), (.ni _ rfl), (.ni _ rfl), (.ni _ rfl), (.ni _ rfl), (.ni _ rfl), (.ni _ rfl), (.ni _ rfl), (.ni _ rfl), (.ni _ rfl), (.ni _ rfl), (.ni _ rfl), (.ni _ rfl), (.ni _ rfl), (.ni _ rfl), (.ni _ rfl), (.ni _ rfl), (.ni _ rfl), (.ni _ rfl), (.ni _ rfl), (.ni _ rfl), (.ni _ rfl), (.ni _ rfl), (.ni _ rfl), (.ni _ rfl), (.ni _ rfl), (.ni _ rfl), (.ni _ rfl), (.ni _ rfl), (.ni _ rfl),trivial⟩, boxL rfl rfl rfl ⟨(.ni _ rfl),trivial⟩, blkR (fun _ => ⟨rfl, rfl⟩) rfl rfl,trivial⟩) ?_
     rintro ⟨k_8, a_6⟩ ⟨hk_k_8, hL1⟩
     try dsimp only at hk_k_8 hL1
     show awp _ _ _ _ _ _ ⟨eL [(3, .ptr 0 0), (4, .ptr 1 0), (8, .osl 2), (45, .lst 3 (r_4.map encPlate)), (46, .int .i64 (r_4.length : Int)), (47, .int .i64 (k_8 : Int))], hL [(0, .box [.int .i64 x_1.Kind, .int .i64 x_1.Do, .str x_1.Port, .int .i64 x_1.Number, .str x_1.In.Flight.Carrier, .int .i64 x_1.In.Flight.Number, .str x_1.In.Flight.Suffix, .int .i64 x_1.In.Flight.Day, .str x_1.In.Port, .str x_1.In.Class, .str x_1.Out.Flight.Carrier, .int .i64 x_1.Out.Flight.Number, .str x_1.Out.Flight.Suffix, .int .i64 x_1.Out.Flight.Day, .str x_1.Out.Port, .str x_1.Out.Class, .lst 6 (x_1.Onward.map encLeg), .int .i64 x_1.First.Lead, .int .i64 x_1.First.Airline, .int .i64 x_1.First.Serial, .int .i64 x_1.Count, .bool x_1.Load, .int .i64 x_1.Status, .int .i64 x_1.Sequence, .int .i64 x_1.Weight, .str x_1.Surname, .str x_1.Given, .int .i64 x_1.Exception, .str x_1.Node, .lst 1 (x_1.List.map iA)]), (1, .box [.nils]), (2, .row 25 (a_6.map encBag))], 3⟩
     conv=>whnf
     refine ⟨fun h=>?_,fun h=>?_⟩
     ·
      have lk8 : k_8 < r_4.length := by have h := of_decide_eq_true h; omega
      obtain ⟨e_9, he9⟩ : ∃ y, r_4[k_8]? = some y := ⟨_, List.getElem?_eq_getElem lk8⟩
      rw [drop_cons he9, registry_Apply_L1.eq_2] at hL1
      conv=>whnf
      refine ⟨k_8, _, rfl, ix_map he9, ?_⟩
      conv=>whnf
      obtain ⟨r_10, hr10, hL1⟩ := bs hL1
      refine ⟨_,_,_,_,_,_,_,_,_,callX false [] [2] 0 Tryz.func44 (by decide) rfl (registry_at_ac a_6 e_9 r_10 hr10) rfl ⟨(argOL 2 (by (conv=>lhs;whnf)<;>rfl) rfl rfl (map_ni (fun _ => ⟨rfl, rfl⟩) _)), aq,trivial⟩ rfl trivial rfl rfl rfl (lendF rfl) trivial rfl, ?_⟩
      conv=>whnf
      refine ⟨fun b19=>?_,fun b19=>?_⟩
      ·
       replace hL1 := ct b19 hL1
       conv=>whnf
       obtain ⟨l_11, hl11, hL1⟩ := bs hL1
       refine sub_q01m (enc := encBag) (l := a_6) hl11 rfl (fun m_l_11 f_l_11=>?_)
       conv=>whnf
       obtain ⟨r_12, hr12, hL1⟩ := bs hL1
       refine ⟨_,_,_,_,_,_,_,_,_,callX false [] [] 0 Tryz.func45 (by decide) rfl (registry_described_ac x_1 e_9 r_12 hr12) rfl ⟨aq, aq,trivial⟩ rfl trivial rfl rfl rfl lend0 trivial rfl, ?_⟩
       conv=>whnf
       obtain ⟨l_13, hl13, hL1⟩ := bs hL1
       refine sub_q10 (enc := encBag) (l := a_6) hl13 rfl (fun n_l_13 f_l_13=>?_)
       conv=>whnf
       obtain ⟨l_14, hl14, hL1⟩ := bs hL1
       refine ⟨sub_lo f_l_13, sub_le f_l_13, (fun m e => by cases e), ?_⟩
       conv=>whnf
       refine ap_q (enc := encBag) (l := ([r_12] : List Bag)) (y := l_13) hl14 rfl (sub_part f_l_13) (by decide) ?_
       conv=>whnf
       obtain ⟨l_15, hl15, hL1⟩ := bs hL1
       refine ⟨rfl, rfl, sub_le f_l_11, ?_⟩
       conv=>whnf
       refine ap_q (enc := encBag) (l := l_11) (y := l_14) hl15 (sub_take f_l_11) rfl (by decide) ?_
       conv=>whnf
       refine ⟨by kernel_rfl, ?_⟩
       conv=>whnf
       refine ⟨((k_8 + 1 : Nat) : Int), wrapE (by omega) (by omega) (by omega), ?_⟩
       conv=>whnf
       exact ⟨(k_8 + 1, l_15), [0, 1, 8], [], [], ⟨lk8, hL1⟩, by show r_4.length - (k_8 + 1) < r_4.length - k_8; omega, wk_mk [0, 1, 8] [] [] rfl ⟨argP (id := 0) (by (conv=>lhs;whnf)<;>rfl) rfl, argP (id := 1) (by (conv=>lhs;whnf)<;>rfl) rfl, argO (id := 8) (by (conv=>lhs;whnf)<;>rfl) rfl, aq, aq, aq,trivial⟩ ⟨boxL rfl rfl rfl ⟨(.ni _ rfl), (.ni _ rfl), (.ni _ rfl), (.ni _ rfl), (.ni _ rfl), (.ni _ rfl), (.ni _ rfl), (.ni _ rfl), (.ni _ rfl), (.ni _ rfl), (.ni _ rfl), (.ni _ rfl), (.ni _ rfl), (.ni _ rfl), (.ni _ rfl), (.ni _ rfl), (.ni _ rfl), (.ni _ rfl), (.ni _ rfl), (.ni _ rfl), (.ni _ rfl), (.ni _ rfl), (.ni _ rfl), (.ni _ rfl), (.ni _ rfl), (.ni _ rfl), (.ni _ rfl), (.ni _ rfl), (.ni _ rfl), (.ni _ rfl),trivial⟩, boxL rfl rfl rfl ⟨(.ni _ rfl),trivial⟩, blkR (fun _ => ⟨rfl, rfl⟩) rfl rfl,trivial⟩⟩
      ·
       replace hL1 := cf b19 hL1
       conv=>whnf
       refine ⟨fun b20=>?_,fun b20=>?_⟩
       ·
        replace hL1 := ct b20 hL1
        conv=>whnf
        obtain ⟨l_16, hl16, hL1⟩ := bs hL1
        refine sub_q01m (enc := encBag) (l := a_6) hl16 rfl (fun m_l_16 f_l_16=>?_)
        conv=>whnf
        refine ⟨_, rfl, ?_⟩
        conv=>whnf
        obtain ⟨l_17, hl17, hL1⟩ := bs hL1
        refine sub_q10 (enc := encBag) (l := a_6) hl17 rfl (fun n_l_17 f_l_17=>?_)
        conv=>whnf
        obtain ⟨l_18, hl18, hL1⟩ := bs hL1
        refine ⟨rfl, rfl, sub_le f_l_16, ?_⟩
        conv=>whnf
        refine ⟨sub_lo f_l_17, sub_le f_l_17, (fun m e => by cases e), ?_⟩
        conv=>whnf
        refine ap_q (enc := encBag) (l := l_16) (y := l_17) hl18 (sub_take f_l_16) (sub_part f_l_17) (by decide) ?_
        conv=>whnf
        refine ⟨by kernel_rfl, ?_⟩
        conv=>whnf
        refine ⟨((k_8 + 1 : Nat) : Int), wrapE (by omega) (by omega) (by omega), ?_⟩
        conv=>whnf
        exact ⟨(k_8 + 1, l_18), [0, 1, 5], [], [], ⟨lk8, hL1⟩, by show r_4.length - (k_8 + 1) < r_4.length - k_8; omega, wk_mk [0, 1, 5] [] [] rfl ⟨argP (id := 0) (by (conv=>lhs;whnf)<;>rfl) rfl, argP (id := 1) (by (conv=>lhs;whnf)<;>rfl) rfl, argO (id := 5) (by (conv=>lhs;whnf)<;>rfl) rfl, aq, aq, aq,trivial⟩ ⟨boxL rfl rfl rfl ⟨(.ni _ rfl), (.ni _ rfl), (.ni _ rfl), (.ni _ rfl), (.ni _ rfl), (.ni _ rfl), (.ni _ rfl), (.ni _ rfl), (.ni _ rfl), (.ni _ rfl), (.ni _ rfl), (.ni _ rfl), (.ni _ rfl), (.ni _ rfl), (.ni _ rfl), (.ni _ rfl), (.ni _ rfl), (.ni _ rfl), (.ni _ rfl), (.ni _ rfl), (.ni _ rfl), (.ni _ rfl), (.ni _ rfl), (.ni _ rfl), (.ni _ rfl), (.ni _ rfl), (.ni _ rfl), (.ni _ rfl), (.ni _ rfl), (.ni _ rfl),trivial⟩, boxL rfl rfl rfl ⟨(.ni _ rfl),trivial⟩, blkR (fun _ => ⟨rfl, rfl⟩) rfl rfl,trivial⟩⟩
       ·
        replace hL1 := cf b20 hL1
        conv=>whnf
        obtain ⟨e_19, he19, hL1⟩ := bs hL1
        refine ixo_q (enc := encBag) (l := a_6) he19 rfl (fun m_e_19 hm_e_19 hx_e_19=>?_)
        conv=>whnf
        refine ⟨_, ix_map (enc := encBag) hx_e_19, ?_⟩
        conv=>whnf
        obtain ⟨r_20, hr20, hL1⟩ := bs hL1
        refine ⟨_,_,_,_,_,_,_,_,_,callX false [] [] 0 Tryz.func46 (by decide) rfl (registry_change_ac e_19 x_1 r_20 hr20) rfl ⟨aq, aq,trivial⟩ rfl trivial rfl rfl rfl lend0 trivial rfl, ?_⟩
        conv=>whnf
        obtain ⟨e_21, he21, hL1⟩ := bs hL1
        refine ixo_q (enc := encBag) (l := a_6) he21 rfl (fun m_e_21 hm_e_21 hx_e_21=>?_)
        conv=>whnf
        refine st_q (enc := encBag) (l := a_6) (x' := r_20) (i := r_10.1) hm_e_21 hx_e_21 rfl (Nat.le_of_ble_eq_true rfl) rfl ?_
        conv=>whnf
        refine ⟨by kernel_rfl, ?_⟩
        conv=>whnf
        refine ⟨((k_8 + 1 : Nat) : Int), wrapE (by omega) (by omega) (by omega), ?_⟩
        conv=>whnf
        exact ⟨(k_8 + 1, (a_6.set r_10.1.toNat r_20)), [0, 1, 2], [], [], ⟨lk8, hL1⟩, by show r_4.length - (k_8 + 1) < r_4.length - k_8; omega, wk_mk [0, 1, 2] [] [] rfl ⟨argP (id := 0) (by (conv=>lhs;whnf)<;>rfl) rfl, argP (id := 1) (by (conv=>lhs;whnf)<;>rfl) rfl, argO (id := 2) (by (conv=>lhs;whnf)<;>rfl) rfl, aq, aq, aq,trivial⟩ ⟨boxL rfl rfl rfl ⟨(.ni _ rfl), (.ni _ rfl), (.ni _ rfl), (.ni _ rfl), (.ni _ rfl), (.ni _ rfl), (.ni _ rfl), (.ni _ rfl), (.ni _ rfl), (.ni _ rfl), (.ni _ rfl), (.ni _ rfl), (.ni _ rfl), (.ni _ rfl), (.ni _ rfl), (.ni _ rfl), (.ni _ rfl), (.ni _ rfl), (.ni _ rfl), (.ni _ rfl), (.ni _ rfl), (.ni _ rfl), (.ni _ rfl), (.ni _ rfl), (.ni _ rfl), (.ni _ rfl), (.ni _ rfl), (.ni _ rfl), (.ni _ rfl), (.ni _ rfl),trivial⟩, boxL rfl rfl rfl ⟨(.ni _ rfl),trivial⟩, blkR (fun _ => ⟨rfl, rfl⟩) rfl rfl,trivial⟩⟩
     ·
      rw [drop_nil (show r_4.length ≤ k_8 by have h := of_decide_eq_false h; omega), registry_Apply_L1.eq_1] at hL1
      conv=>whnf
      obtain rfl := si hL1
      replace hF := fin_brk hF
      try dsimp only at hF
      obtain rfl := si hF
      exact ret_gz [] [] [2] rfl (tupL rfl ⟨(argA (c := [.osl 2]) (by (conv=>lhs;whnf)<;>rfl) rfl ⟨(.osl 2 25 _ (by simp) rfl (map_ni (fun _ => ⟨rfl, rfl⟩) _)),trivial⟩), aq,trivial⟩) trivial

theorem ref06_SameBag_ac (x_0 : Bag) (x_1 : Bag) (r : Bool) (hF : ref06_SameBag x_0 x_1 = some r) : AC Tryz.prog 47 [.agg (encBag x_0), .agg (encBag x_1)] [] (.bool r) [] := by
 refine ac_of tab_ok follows_ok Tryz.func47 rfl Tryz.ntmps47 rfl ?_
 unfold ref06_SameBag at hF
 conv=>whnf
 refine len_q (enc := encLeg) (l := x_0.Onward) rfl ?_
 conv=>whnf
 refine len_q (enc := encLeg) (l := x_1.Onward) rfl ?_
 conv=>whnf
 refine ⟨fun b19=>?_,fun b19=>?_⟩
 ·
  replace hF := ct b19 hF
  conv=>whnf
  obtain rfl := si hF
  exact ret_gz [] [] [] rfl (argFl (by (conv=>lhs;whnf)<;>rfl)) trivial
 ·
  replace hF := cf b19 hF
  conv=>whnf
  obtain ⟨c_1, hc_1, hF⟩ := fin_some hF
  refine sw_bv 0 (v := .agg [.int .i64 x_0.Plate.Lead, .int .i64 x_0.Plate.Airline, .int .i64 x_0.Plate.Serial, .str x_0.In.Flight.Carrier, .int .i64 x_0.In.Flight.Number, .str x_0.In.Flight.Suffix, .int .i64 x_0.In.Flight.Day, .str x_0.In.Port, .str x_0.In.Class, .str x_0.Out.Flight.Carrier, .int .i64 x_0.Out.Flight.Number, .str x_0.Out.Flight.Suffix, .int .i64 x_0.Out.Flight.Day, .str x_0.Out.Port, .str x_0.Out.Class, .lst 6 (x_0.Onward.map encLeg), .int .i64 x_0.Sequence, .int .i64 x_0.Status, .int .i64 x_0.Weight, .bool x_0.Load, .str x_0.Surname, .str x_0.Given, .int .i64 x_0.Exception, .str x_0.Node, .bool x_0.Unloaded]) (by (conv=>lhs;whnf)<;>rfl) (fun hb=>?_)
  have hbd_k_2 : x_0.Onward.length ≤ 9223372036854775807 := bnd_len (enc := encLeg) ((bnd_at hb.cell 15 rfl))
  refine sw_loop tab_ok follows_ok (fun y : Nat => y ≤ x_0.Onward.length ∧ ref06_SameBag_L1 x_1 (x_0.Onward.drop y) y = some c_1) (fun y => ⟨eL [(2, .ptr 0 0), (3, .ptr 1 0), (5, .int .i64 (y : Int))], hL [(0, .box [.int .i64 x_0.Plate.Lead, .int .i64 x_0.Plate.Airline, .int .i64 x_0.Plate.Serial, .str x_0.In.Flight.Carrier, .int .i64 x_0.In.Flight.Number, .str x_0.In.Flight.Suffix, .int .i64 x_0.In.Flight.Day, .str x_0.In.Port, .str x_0.In.Class, .str x_0.Out.Flight.Carrier, .int .i64 x_0.Out.Flight.Number, .str x_0.Out.Flight.Suffix, .int .i64 x_0.Out.Flight.Day, .str x_0.Out.Port, .str x_0.Out.Class, .lst 6 (x_0.Onward.map encLeg), .int .i64 x_0.Sequence, .int .i64 x_0.Status, .int .i64 x_0.Weight, .bool x_0.Load, .str x_0.Surname, .str x_0.Given, .int .i64 x_0.Exception, .str x_0.Node, .bool x_0.Unloaded]), (1, .box [.int .i64 x_1.Plate.Lead, .int .i64 x_1.Plate.Airline, .int .i64 x_1.Plate.Serial, .str x_1.In.Flight.Carrier, .int .i64 x_1.In.Flight.Number, .str x_1.In.Flight.Suffix, .int .i64 x_1.In.Flight.Day, .str x_1.In.Port, .str x_1.In.Class, .str x_1.Out.Flight.Carrier, .int .i64 x_1.Out.Flight.Number, .str x_1.Out.Flight.Suffix, .int .i64 x_1.Out.Flight.Day, .str x_1.Out.Port, .str x_1.Out.Class, .lst 6 (x_1.Onward.map encLeg), .int .i64 x_1.Sequence, .int .i64 x_1.Status, .int .i64 x_1.Weight, .bool x_1.Load, .str x_1.Surname, .str x_1.Given, .int .i64 x_1.Exception, .str x_1.Node, .bool x_1.Unloaded])], 2⟩) (fun y => x_0.Onward.length - y) 0 ⟨Nat.zero_le _, hc_1⟩ (wk_mk [0, 1] [] [] rfl ⟨argP (id := 0) (by (conv=>lhs;whnf)<;>rfl) rfl, argP (id := 1) (by (conv=>lhs;whnf)<;>rfl) rfl, aq,trivial⟩ ⟨boxL rfl rfl rfl ⟨(.ni _ rfl), (.ni _ rfl), (.ni _ rfl), (.ni _ rfl), (.ni _ rfl), (.ni _ rfl), (.ni _ rfl), (.ni _ rfl), (.ni _ rfl), (.ni _ rfl), (.ni _ rfl), (.ni _ rfl), (.ni _ rfl), (.ni _ rfl), (.ni _ rfl), (.ni _ rfl), (.ni _ rfl), (.ni _ rfl), (.ni _ rfl), (.ni _ rfl), (.ni _ rfl), (.ni _ rfl), (.ni _ rfl), (.ni _ rfl), (.ni _ rfl),trivial⟩, boxL rfl rfl rfl ⟨(.ni _ rfl), (.ni _ rfl), (.ni _ rfl), (.ni _ rfl), (.ni _ rfl), (.ni _ rfl), (.ni _ rfl), (.ni _ rfl), (.ni _ rfl), (.ni _ rfl), (.ni _ rfl), (.ni _ rfl), (.ni _ rfl), (.ni _ rfl), (.ni _ rfl), (.ni _ rfl), (.ni _ rfl), (.ni _ rfl), (.ni _ rfl), (.ni _ rfl), (.ni _ rfl), (.ni _ rfl), (.ni _ rfl), (.ni _ rfl), (.ni _ rfl),trivial⟩,trivial⟩) ?_
  rintro k_2 ⟨hk_k_2, hL1⟩
  try dsimp only at hk_k_2 hL1
  show awp _ _ _ _ _ _ ⟨eL [(2, .ptr 0 0), (3, .ptr 1 0), (5, .int .i64 (k_2 : Int))], hL [(0, .box [.int .i64 x_0.Plate.Lead, .int .i64 x_0.Plate.Airline, .int .i64 x_0.Plate.Serial, .str x_0.In.Flight.Carrier, .int .i64 x_0.In.Flight.Number, .str x_0.In.Flight.Suffix, .int .i64 x_0.In.Flight.Day, .str x_0.In.Port, .str x_0.In.Class, .str x_0.Out.Flight.Carrier, .int .i64 x_0.Out.Flight.Number, .str x_0.Out.Flight.Suffix, .int .i64 x_0.Out.Flight.Day, .str x_0.Out.Port, .str x_0.Out.Class, .lst 6 (x_0.Onward.map encLeg), .int .i64 x_0.Sequence, .int .i64 x_0.Status, .int .i64 x_0.Weight, .bool x_0.Load, .str x_0.Surname, .str x_0.Given, .int .i64 x_0.Exception, .str x_0.Node, .bool x_0.Unloaded]), (1, .box [.int .i64 x_1.Plate.Lead, .int .i64 x_1.Plate.Airline, .int .i64 x_1.Plate.Serial, .str x_1.In.Flight.Carrier, .int .i64 x_1.In.Flight.Number, .str x_1.In.Flight.Suffix, .int .i64 x_1.In.Flight.Day, .str x_1.In.Port, .str x_1.In.Class, .str x_1.Out.Flight.Carrier, .int .i64 x_1.Out.Flight.Number, .str x_1.Out.Flight.Suffix, .int .i64 x_1.Out.Flight.Day, .str x_1.Out.Port, .str x_1.Out.Class, .lst 6 (x_1.Onward.map encLeg), .int .i64 x_1.Sequence, .int .i64 x_1.Status, .int .i64 x_1.Weight, .bool x_1.Load, .str x_1.Surname, .str x_1.Given, .int .i64 x_1.Exception, .str x_1.Node, .bool x_1.Unloaded])], 2⟩
  conv=>whnf
  refine len_q (enc := encLeg) (l := x_0.Onward) rfl ?_
  conv=>whnf
  refine ⟨fun h=>?_,fun h=>?_⟩
  ·
   have lk2 : k_2 < x_0.Onward.length := by have h := of_decide_eq_true h; omega
   obtain ⟨e_3, he3⟩ : ∃ y, x_0.Onward[k_2]? = some y := ⟨_, List.getElem?_eq_getElem lk2⟩
   rw [drop_cons he3, ref06_SameBag_L1.eq_2] at hL1
   conv=>whnf
   refine ⟨k_2, _, rfl, ix_map he3, ?_⟩
   conv=>whnf
   obtain ⟨e_4, he4, hL1⟩ := bs hL1
   refine ix_q (enc := encLeg) (l := x_1.Onward) he4 rfl (fun m_e_4 hm_e_4 hx_e_4=>?_)
   conv=>whnf
   refine ⟨by kernel_rfl, ?_⟩
   conv=>whnf
   refine ⟨fun b20=>?_,fun b20=>?_⟩
   ·
    replace hL1 := ct b20 hL1
    conv=>whnf
    obtain rfl := si hL1
    replace hF := fin_ret hF
    obtain rfl := si hF
    exact ret_gz [] [] [] rfl (argFl (by (conv=>lhs;whnf)<;>rfl)) trivial
   ·
    replace hL1 := cf b20 hL1
    conv=>whnf
    refine ⟨((k_2 + 1 : Nat) : Int), wrapE (by omega) (by omega) (by omega), ?_⟩
    conv=>whnf
    exact ⟨k_2 + 1, [0, 1], [], [], ⟨lk2, hL1⟩, by show x_0.Onward.length - (k_2 + 1) < x_0.Onward.length - k_2; omega, wk_mk [0, 1] [] [] rfl ⟨argP (id := 0) (by (conv=>lhs;whnf)<;>rfl) rfl, argP (id := 1) (by (conv=>lhs;whnf)<;>rfl) rfl, aq,trivial⟩ ⟨boxL rfl rfl rfl ⟨(.ni _ rfl), (.ni _ rfl), (.ni _ rfl), (.ni _ rfl), (.ni _ rfl), (.ni _ rfl), (.ni _ rfl), (.ni _ rfl), (.ni _ rfl), (.ni _ rfl), (.ni _ rfl), (.ni _ rfl), (.ni _ rfl), (.ni _ rfl), (.ni _ rfl), (.ni _ rfl), (.ni _ rfl), (.ni _ rfl), (.ni _ rfl), (.ni _ rfl), (.ni _ rfl), (.ni _ rfl), (.ni _ rfl), (.ni _ rfl), (.ni _ rfl),trivial⟩, boxL rfl rfl rfl ⟨(.ni _ rfl), (.ni _ rfl), (.ni _ rfl), (.ni _ rfl), (.ni _ rfl), (.ni _ rfl), (.ni _ rfl), (.ni _ rfl), (.ni _ rfl), (.ni _ rfl), (.ni _ rfl), (.ni _ rfl), (.ni _ rfl), (.ni _ rfl), (.ni _ rfl), (.ni _ rfl), (.ni _ rfl), (.ni _ rfl), (.ni _ rfl), (.ni _ rfl), (.ni _ rfl), (.ni _ rfl), (.ni _ rfl), (.ni _ rfl), (.ni _ rfl),trivial⟩,trivial⟩⟩
  ·
   rw [drop_nil (show x_0.Onward.length ≤ k_2 by have h := of_decide_eq_false h; omega), ref06_SameBag_L1.eq_1] at hL1
   conv=>whnf
   obtain rfl := si hL1
   replace hF := fin_brk hF
   try dsimp only at hF
   refine ⟨fun b21=>?_,fun b21=>?_⟩
   ·
    replace hF := ct b21 hF
    conv=>whnf
    refine ⟨fun b22=>?_,fun b22=>?_⟩
    ·
     replace hF := ct b22 hF
     conv=>whnf
     refine ⟨fun b23=>?_,fun b23=>?_⟩
     ·
      replace hF := ct b23 hF
      conv=>whnf
      refine ⟨fun b24=>?_,fun b24=>?_⟩
      ·
       replace hF := ct b24 hF
       conv=>whnf
       refine ⟨fun b25=>?_,fun b25=>?_⟩
       ·
        replace hF := ct b25 hF
        conv=>whnf
        refine ⟨fun b26=>?_,fun b26=>?_⟩
        ·
         replace hF := ct b26 hF
         conv=>whnf
         refine ⟨fun b27=>?_,fun b27=>?_⟩
         ·
          replace hF := ct b27 hF
          conv=>whnf
          refine ⟨fun b28=>?_,fun b28=>?_⟩
          ·
           replace hF := ct b28 hF
           conv=>whnf
           refine ⟨fun b29=>?_,fun b29=>?_⟩
           ·
            replace hF := ct b29 hF
            conv=>whnf
            refine ⟨fun b30=>?_,fun b30=>?_⟩
            ·
             replace hF := ct b30 hF
             conv=>whnf
             refine ⟨fun b31=>?_,fun b31=>?_⟩
             ·
              replace hF := ct b31 hF
              conv=>whnf
              obtain rfl := si hF
              exact ret_gz [] [] [] rfl aq trivial
             ·
              replace hF := cf b31 hF
              conv=>whnf
              obtain rfl := si hF
              exact ret_gz [] [] [] rfl (argFl (by (conv=>lhs;whnf)<;>rfl)) trivial
            ·
             replace hF := cf b30 hF
             conv=>whnf
             obtain rfl := si hF
             exact ret_gz [] [] [] rfl (argFl (by (conv=>lhs;whnf)<;>rfl)) trivial
           ·
            replace hF := cf b29 hF
            conv=>whnf
            obtain rfl := si hF
            exact ret_gz [] [] [] rfl (argFl (by (conv=>lhs;whnf)<;>rfl)) trivial
          ·
           replace hF := cf b28 hF
           conv=>whnf
           obtain rfl := si hF
           exact ret_gz [] [] [] rfl (argFl (by (conv=>lhs;whnf)<;>rfl)) trivial
         ·
          replace hF := cf b27 hF
          conv=>whnf
          obtain rfl := si hF
          exact ret_gz [] [] [] rfl (argFl (by (conv=>lhs;whnf)<;>rfl)) trivial
        ·
         replace hF := cf b26 hF
         conv=>whnf
         obtain rfl := si hF
         exact ret_gz [] [] [] rfl (argFl (by (conv=>lhs;whnf)<;>rfl)) trivial
       ·
        replace hF := cf b25 hF
        conv=>whnf
        obtain rfl := si hF
        exact ret_gz [] [] [] rfl (argFl (by (conv=>lhs;whnf)<;>rfl)) trivial
      ·
       replace hF := cf b24 hF
       conv=>whnf
       obtain rfl := si hF
       exact ret_gz [] [] [] rfl (argFl (by (conv=>lhs;whnf)<;>rfl)) trivial
     ·
      replace hF := cf b23 hF
      conv=>whnf
      obtain rfl := si hF
      exact ret_gz [] [] [] rfl (argFl (by (conv=>lhs;whnf)<;>rfl)) trivial
    ·
     replace hF := cf b22 hF
     conv=>whnf
     obtain rfl := si hF
     exact ret_gz [] [] [] rfl (argFl (by (conv=>lhs;whnf)<;>rfl)) trivial
   ·
    replace hF := cf b21 hF
    conv=>whnf
    obtain rfl := si hF
    exact ret_gz [] [] [] rfl (argFl (by (conv=>lhs;whnf)<;>rfl)) trivial

theorem ref06_Same_ac (x_0 : Registry) (x_1 : Registry) (r : Bool) (hF : ref06_Same x_0 x_1 = some r) : AC Tryz.prog 12 [.agg (encRegistry x_0), .agg (encRegistry x_1)] [] (.bool r) [] := by
 refine ac_of tab_ok follows_ok Tryz.func12 rfl Tryz.ntmps12 rfl ?_
 unfold ref06_Same at hF
 conv=>whnf
 refine len_q (enc := encBag) (l := x_0.L) rfl ?_
 conv=>whnf
 refine len_q (enc := encBag) (l := x_1.L) rfl ?_
 conv=>whnf
 refine ⟨fun b8=>?_,fun b8=>?_⟩
 ·
  replace hF := ct b8 hF
  conv=>whnf
  obtain rfl := si hF
  exact ret_gz [] [] [] rfl (argFl (by (conv=>lhs;whnf)<;>rfl)) trivial
 ·
  replace hF := cf b8 hF
  conv=>whnf
  obtain ⟨c_1, hc_1, hF⟩ := fin_some hF
  refine sw_bv 0 (v := .agg [.lst 25 (x_0.L.map encBag)]) (by (conv=>lhs;whnf)<;>rfl) (fun hb=>?_)
  have hbd_k_2 : x_0.L.length ≤ 9223372036854775807 := bnd_len (enc := encBag) ((bnd_at hb.cell 0 rfl))
  refine sw_loop tab_ok follows_ok (fun y : Nat => y ≤ x_0.L.length ∧ ref06_Same_L1 x_1 (x_0.L.drop y) y = some c_1) (fun y => ⟨eL [(2, .ptr 0 0), (3, .ptr 1 0), (5, .int .i64 (y : Int))], hL [(0, .box [.lst 25 (x_0.L.map encBag)]), (1, .box [.lst 25 (x_1.L.map encBag)])], 2⟩) (fun y => x_0.L.length - y) 0 ⟨Nat.zero_le _, hc_1⟩ (wk_mk [0, 1] [] [] rfl ⟨argP (id := 0) (by (conv=>lhs;whnf)<;>rfl) rfl, argP (id := 1) (by (conv=>lhs;whnf)<;>rfl) rfl, aq,trivial⟩ ⟨boxL rfl rfl rfl ⟨(.ni _ rfl),trivial⟩, boxL rfl rfl rfl ⟨(.ni _ rfl),trivial⟩,trivial⟩) ?_
  rintro k_2 ⟨hk_k_2, hL1⟩
  try dsimp only at hk_k_2 hL1
  show awp _ _ _ _ _ _ ⟨eL [(2, .ptr 0 0), (3, .ptr 1 0), (5, .int .i64 (k_2 : Int))], hL [(0, .box [.lst 25 (x_0.L.map encBag)]), (1, .box [.lst 25 (x_1.L.map encBag)])], 2⟩
  conv=>whnf
  refine len_q (enc := encBag) (l := x_0.L) rfl ?_
  conv=>whnf
  refine ⟨fun h=>?_,fun h=>?_⟩
  ·
   have lk2 : k_2 < x_0.L.length := by have h := of_decide_eq_true h; omega
   obtain ⟨e_3, he3⟩ : ∃ y, x_0.L[k_2]? = some y := ⟨_, List.getElem?_eq_getElem lk2⟩
   rw [drop_cons he3, ref06_Same_L1.eq_2] at hL1
   conv=>whnf
   refine ⟨k_2, _, rfl, ix_map he3, ?_⟩
   conv=>whnf
   obtain ⟨e_4, he4, hL1⟩ := bs hL1
   refine ix_q (enc := encBag) (l := x_1.L) he4 rfl (fun m_e_4 hm_e_4 hx_e_4=>?_)
   conv=>whnf
   obtain ⟨r_5, hr5, hL1⟩ := bs hL1
   refine ⟨_,_,_,_,_,_,_,_,_,callX false [] [] 0 Tryz.func47 (by decide) rfl (ref06_SameBag_ac e_3 e_4 r_5 hr5) rfl ⟨aq, aq,trivial⟩ rfl trivial rfl rfl rfl lend0 trivial rfl, ?_⟩
   conv=>whnf
   refine ⟨by kernel_rfl, ?_⟩
   conv=>whnf
   refine ⟨fun b9=>?_,fun b9=>?_⟩
   ·
    replace hL1 := ct b9 hL1
    conv=>whnf
    obtain rfl := si hL1
    replace hF := fin_ret hF
    obtain rfl := si hF
    exact ret_gz [] [] [] rfl (argFl (by (conv=>lhs;whnf)<;>rfl)) trivial
   ·
    replace hL1 := cf b9 hL1
    conv=>whnf
    refine ⟨((k_2 + 1 : Nat) : Int), wrapE (by omega) (by omega) (by omega), ?_⟩
    conv=>whnf
    exact ⟨k_2 + 1, [0, 1], [], [], ⟨lk2, hL1⟩, by show x_0.L.length - (k_2 + 1) < x_0.L.length - k_2; omega, wk_mk [0, 1] [] [] rfl ⟨argP (id := 0) (by (conv=>lhs;whnf)<;>rfl) rfl, argP (id := 1) (by (conv=>lhs;whnf)<;>rfl) rfl, aq,trivial⟩ ⟨boxL rfl rfl rfl ⟨(.ni _ rfl),trivial⟩, boxL rfl rfl rfl ⟨(.ni _ rfl),trivial⟩,trivial⟩⟩
  ·
   rw [drop_nil (show x_0.L.length ≤ k_2 by have h := of_decide_eq_false h; omega), ref06_Same_L1.eq_1] at hL1
   conv=>whnf
   obtain rfl := si hL1
   replace hF := fin_brk hF
   try dsimp only at hF
   obtain rfl := si hF
   exact ret_gz [] [] [] rfl (argT (by (conv=>lhs;whnf)<;>rfl)) trivial

theorem law06_source_ac (x_0 : Plate) (x_1 : Int) (r : Message) (hF : law06_source x_0 x_1 = some r) : AC Tryz.prog 48 [.agg (encPlate x_0), .int .i64 x_1] [] (.agg (encMessage r)) [] := by
 refine ac_of tab_ok follows_ok Tryz.func48 rfl Tryz.ntmps48 rfl ?_
 unfold law06_source at hF
 conv=>whnf
 obtain rfl := si hF
 exact ret_gz [] [] [] rfl (argA (c := [.int .i64 (1 : Int), .int .i64 (0 : Int), .str (⟨#[65, 82, 78]⟩ : ByteArray), .int .i64 (1 : Int), .str (⟨#[]⟩ : ByteArray), .int .i64 (0 : Int), .str (⟨#[]⟩ : ByteArray), .int .i64 (0 : Int), .str (⟨#[]⟩ : ByteArray), .str (⟨#[]⟩ : ByteArray), .str (⟨#[83, 75]⟩ : ByteArray), .int .i64 (123 : Int), .str (⟨#[]⟩ : ByteArray), .int .i64 (7 : Int), .str (⟨#[67, 80, 72]⟩ : ByteArray), .str (⟨#[89]⟩ : ByteArray), .nils, .int .i64 x_0.Lead, .int .i64 x_0.Airline, .int .i64 x_0.Serial, .int .i64 x_1, .tru, .int .i64 (1 : Int), .int .i64 (4 : Int), .int .i64 (20 : Int), .str (⟨#[68, 79, 69]⟩ : ByteArray), .str (⟨#[]⟩ : ByteArray), .int .i64 (0 : Int), .str (⟨#[]⟩ : ByteArray), .nils]) (by (conv=>lhs;whnf)<;>rfl) rfl ⟨(.ni _ rfl), (.ni _ rfl), (.ni _ rfl), (.ni _ rfl), (.ni _ rfl), (.ni _ rfl), (.ni _ rfl), (.ni _ rfl), (.ni _ rfl), (.ni _ rfl), (.ni _ rfl), (.ni _ rfl), (.ni _ rfl), (.ni _ rfl), (.ni _ rfl), (.ni _ rfl), (.nils _), (.ni _ rfl), (.ni _ rfl), (.ni _ rfl), (.ni _ rfl), .tru, (.ni _ rfl), (.ni _ rfl), (.ni _ rfl), (.ni _ rfl), (.ni _ rfl), (.ni _ rfl), (.ni _ rfl), (.nils _),trivial⟩) trivial

theorem registry_Find_ac (x_0 : Registry) (x_1 : Plate) (r : Bag × Bool) (hF : registry_Find x_0 x_1 = some r) : AC Tryz.prog 49 [.agg (encRegistry x_0), .agg (encPlate x_1)] [] (.tup [.agg (encBag r.1), .bool r.2]) [] := by
 refine ac_of tab_ok follows_ok Tryz.func49 rfl Tryz.ntmps49 rfl ?_
 unfold registry_Find at hF
 conv=>whnf
 obtain ⟨r_1, hr1, hF⟩ := bs hF
 refine ⟨_,_,_,_,_,_,_,_,_,callX false [] [] 0 Tryz.func40 (by decide) rfl (registry_Validate_ac x_0 r_1 hr1) rfl ⟨aq,trivial⟩ rfl trivial rfl rfl rfl lend0 trivial rfl, ?_⟩
 conv=>whnf
 refine ⟨fun b3=>?_,fun b3=>?_⟩
 ·
  replace hF := ct b3 hF
  conv=>whnf
  obtain rfl := si hF
  exact ret_gz [] [] [] rfl (tupL rfl ⟨(argA (c := [.int .i64 (0 : Int), .int .i64 (0 : Int), .int .i64 (0 : Int), .str (⟨#[]⟩ : ByteArray), .int .i64 (0 : Int), .str (⟨#[]⟩ : ByteArray), .int .i64 (0 : Int), .str (⟨#[]⟩ : ByteArray), .str (⟨#[]⟩ : ByteArray), .str (⟨#[]⟩ : ByteArray), .int .i64 (0 : Int), .str (⟨#[]⟩ : ByteArray), .int .i64 (0 : Int), .str (⟨#[]⟩ : ByteArray), .str (⟨#[]⟩ : ByteArray), .nils, .int .i64 (0 : Int), .int .i64 (0 : Int), .int .i64 (0 : Int), .fls, .str (⟨#[]⟩ : ByteArray), .str (⟨#[]⟩ : ByteArray), .int .i64 (0 : Int), .str (⟨#[]⟩ : ByteArray), .fls]) (by (conv=>lhs;whnf)<;>rfl) rfl ⟨(.ni _ rfl), (.ni _ rfl), (.ni _ rfl), (.ni _ rfl), (.ni _ rfl), (.ni _ rfl), (.ni _ rfl), (.ni _ rfl), (.ni _ rfl), (.ni _ rfl), (.ni _ rfl), (.ni _ rfl), (.ni _ rfl), (.ni _ rfl), (.ni _ rfl), (.nils _), (.ni _ rfl), (.ni _ rfl), (.ni _ rfl), .fls, (.ni _ rfl), (.ni _ rfl), (.ni _ rfl), (.ni _ rfl), .fls,trivial⟩), (argFl (by (conv=>lhs;whnf)<;>rfl)),trivial⟩) trivial
 ·
  replace hF := cf b3 hF
  conv=>whnf
  obtain ⟨r_2, hr2, hF⟩ := bs hF
  refine ⟨_,_,_,_,_,_,_,_,_,callX false [] [] 0 Tryz.func44 (by decide) rfl (registry_at_ac x_0.L x_1 r_2 hr2) rfl ⟨aq, aq,trivial⟩ rfl trivial rfl rfl rfl lend0 trivial rfl, ?_⟩
  conv=>whnf
  refine ⟨fun b4=>?_,fun b4=>?_⟩
  ·
   replace hF := ct b4 hF
   conv=>whnf
   obtain rfl := si hF
   exact ret_gz [] [] [] rfl (tupL rfl ⟨(argA (c := [.int .i64 (0 : Int), .int .i64 (0 : Int), .int .i64 (0 : Int), .str (⟨#[]⟩ : ByteArray), .int .i64 (0 : Int), .str (⟨#[]⟩ : ByteArray), .int .i64 (0 : Int), .str (⟨#[]⟩ : ByteArray), .str (⟨#[]⟩ : ByteArray), .str (⟨#[]⟩ : ByteArray), .int .i64 (0 : Int), .str (⟨#[]⟩ : ByteArray), .int .i64 (0 : Int), .str (⟨#[]⟩ : ByteArray), .str (⟨#[]⟩ : ByteArray), .nils, .int .i64 (0 : Int), .int .i64 (0 : Int), .int .i64 (0 : Int), .fls, .str (⟨#[]⟩ : ByteArray), .str (⟨#[]⟩ : ByteArray), .int .i64 (0 : Int), .str (⟨#[]⟩ : ByteArray), .fls]) (by (conv=>lhs;whnf)<;>rfl) rfl ⟨(.ni _ rfl), (.ni _ rfl), (.ni _ rfl), (.ni _ rfl), (.ni _ rfl), (.ni _ rfl), (.ni _ rfl), (.ni _ rfl), (.ni _ rfl), (.ni _ rfl), (.ni _ rfl), (.ni _ rfl), (.ni _ rfl), (.ni _ rfl), (.ni _ rfl), (.nils _), (.ni _ rfl), (.ni _ rfl), (.ni _ rfl), .fls, (.ni _ rfl), (.ni _ rfl), (.ni _ rfl), (.ni _ rfl), .fls,trivial⟩), (argFl (by (conv=>lhs;whnf)<;>rfl)),trivial⟩) trivial
  ·
   replace hF := cf b4 hF
   conv=>whnf
   obtain ⟨e_3, he3, hF⟩ := bs hF
   refine ix_q (enc := encBag) (l := x_0.L) he3 rfl (fun m_e_3 hm_e_3 hx_e_3=>?_)
   conv=>whnf
   obtain ⟨r_4, hr4, hF⟩ := bs hF
   refine ⟨_,_,_,_,_,_,_,_,_,callX false [] [] 0 Tryz.func81 (by decide) rfl (registry_copied_ac e_3 r_4 hr4) rfl ⟨aq,trivial⟩ rfl trivial rfl rfl rfl lend0 trivial rfl, ?_⟩
   conv=>whnf
   obtain rfl := si hF
   exact ret_gz [] [] [] rfl (tupL rfl ⟨aq, (argT (by (conv=>lhs;whnf)<;>rfl)),trivial⟩) trivial

theorem law06_awake_ac (r : Bool) (hF : law06_awake = some r) : AC Tryz.prog 13 [] [] (.bool r) [] := by
 refine ac_of tab_ok follows_ok Tryz.func13 rfl Tryz.ntmps13 rfl ?_
 unfold law06_awake at hF
 conv=>whnf
 obtain ⟨r_1, hr1, hF⟩ := bs hF
 refine ⟨_,_,_,_,_,_,_,_,_,callX false [] [] 0 Tryz.func48 (by decide) rfl (law06_source_ac (⟨(0 : Int), (117 : Int), (1 : Int)⟩ : Plate) (2 : Int) r_1 hr1) rfl ⟨aq, aq,trivial⟩ rfl trivial rfl rfl rfl lend0 trivial rfl, ?_⟩
 conv=>whnf
 obtain ⟨r_2, hr2, hF⟩ := bs hF
 refine ⟨_,_,_,_,_,_,_,_,_,callX false [] [] 0 Tryz.func11 (by decide) rfl (registry_Apply_ac (⟨([] : (List Bag))⟩ : Registry) r_1 r_2 hr2) rfl ⟨(argA (c := [.nils]) (by (conv=>lhs;whnf)<;>rfl) rfl ⟨(.nils _),trivial⟩), aq,trivial⟩ rfl trivial rfl rfl rfl lend0 trivial rfl, ?_⟩
 conv=>whnf
 obtain ⟨r_3, hr3, hF⟩ := bs hF
 refine ⟨_,_,_,_,_,_,_,_,_,callX false [] [] 0 Tryz.func49 (by decide) rfl (registry_Find_ac r_2.1 (⟨(0 : Int), (117 : Int), (2 : Int)⟩ : Plate) r_3 hr3) rfl ⟨aq, aq,trivial⟩ rfl trivial rfl rfl rfl lend0 trivial rfl, ?_⟩
 conv=>whnf
 refine ⟨fun b5=>?_,fun b5=>?_⟩
 ·
  replace hF := ct b5 hF
  conv=>whnf
  refine len_q (enc := encBag) (l := r_2.1.L) rfl ?_
  conv=>whnf
  refine ⟨fun b6=>?_,fun b6=>?_⟩
  ·
   replace hF := ct b6 hF
   conv=>whnf
   refine ⟨fun b7=>?_,fun b7=>?_⟩
   ·
    replace hF := ct b7 hF
    conv=>whnf
    refine ⟨fun b8=>?_,fun b8=>?_⟩
    ·
     replace hF := ct b8 hF
     conv=>whnf
     obtain rfl := si hF
     exact ret_gz [] [] [] rfl aq trivial
    ·
     replace hF := cf b8 hF
     conv=>whnf
     obtain rfl := si hF
     exact ret_gz [] [] [] rfl (argFl (by (conv=>lhs;whnf)<;>rfl)) trivial
   ·
    replace hF := cf b7 hF
    conv=>whnf
    obtain rfl := si hF
    exact ret_gz [] [] [] rfl (argFl (by (conv=>lhs;whnf)<;>rfl)) trivial
  ·
   replace hF := cf b6 hF
   conv=>whnf
   obtain rfl := si hF
   exact ret_gz [] [] [] rfl (argFl (by (conv=>lhs;whnf)<;>rfl)) trivial
 ·
  replace hF := cf b5 hF
  conv=>whnf
  obtain rfl := si hF
  exact ret_gz [] [] [] rfl (argFl (by (conv=>lhs;whnf)<;>rfl)) trivial
end Go.Proofs.YtkliakcegihikaaGreat.Ex
