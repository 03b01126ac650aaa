/- The functions of the program compute what was printed; walks printed by a program. -/
import Derived.Test.YtajmhegkkbnkcaaExF
import Derived.Test.YtajmhegkkbnkcaaExP1
import Derived.Test.YtajmhegkkbnkcaaExP2
namespace Go.Proofs.Ytajmhegkkbnkcaa.Ex
open Go.RowKit Go.Proofs.Ytajmhegkkbnkcaa.Ax
set_option linter.unusedVariables false
set_option linter.unusedSimpArgs false
set_option maxRecDepth 100000 in
set_option maxHeartbeats 40000000 in
theorem law25_BoardingSingle_ac (x_0 : (List Int)) (r : Bool) (hF : law25_BoardingSingle x_0 = some r) : AC Try.prog 9 [.lst 1 (x_0.map iA)] [] (.bool r) [] := by
  refine ac_of tab_ok follows_ok Try.func9 rfl Try.ntmps9 rfl ?_
  unfold law25_BoardingSingle at hF
  conv => whnf
  obtain ⟨r_1, h_r_1, hF⟩ := bind_some hF
  refine ⟨_, _, _, _, _, _, _, _, callX false [] [] Try.func11 (by decide) rfl (keep_New_ac x_0 r_1 h_r_1) rfl ⟨(argE (by (conv => lhs; whnf); all_goals rfl) rfl), trivial⟩ rfl trivial rfl rfl rfl lend0 ⟨rfl, trivial⟩, ?_⟩
  conv => whnf
  obtain ⟨r_2, h_r_2, hF⟩ := bind_some hF
  refine ⟨_, _, _, _, _, _, _, _, callX false [0] [] Try.func12 (by decide) rfl (keep_Src_Manifests_ac r_1 r_2 h_r_2) rfl ⟨(argP (id := 0) (by (conv => lhs; whnf); all_goals rfl) rfl), trivial⟩ rfl ⟨rfl, trivial⟩ rfl rfl rfl lend0 ⟨rfl, trivial⟩, ?_⟩
  conv => whnf
  obtain ⟨r_3, h_r_3, hF⟩ := bind_some hF
  refine ⟨_, _, _, _, _, _, _, _, callX false [0] [] Try.func21 (by decide) rfl (keep_Src_List_ac r_2.2 r_3 h_r_3) rfl ⟨(argP (id := 0) (by (conv => lhs; whnf); all_goals rfl) rfl), trivial⟩ rfl ⟨rfl, trivial⟩ rfl rfl rfl lend0 ⟨rfl, trivial⟩, ?_⟩
  conv => whnf
  obtain ⟨r_4, h_r_4, hF⟩ := bind_some hF
  refine ⟨_, _, _, _, _, _, _, _, callX false [] [] Try.func25 (by decide) rfl (boarding_Apply_ac ([] : (List Manifest)) r_3.1 r_4 h_r_4) rfl ⟨(argN (by (conv => lhs; whnf); all_goals rfl)), (argE (by (conv => lhs; whnf); all_goals rfl) rfl), trivial⟩ rfl trivial rfl rfl rfl lend0 trivial, ?_⟩
  conv => whnf
  obtain ⟨r_5, h_r_5, hF⟩ := bind_some hF
  refine ⟨_, _, _, _, _, _, _, _, callX false [] [] Try.func25 (by decide) rfl (boarding_Apply_ac r_2.1 r_3.1 r_5 h_r_5) rfl ⟨(argE (by (conv => lhs; whnf); all_goals rfl) rfl), (argE (by (conv => lhs; whnf); all_goals rfl) rfl), trivial⟩ rfl trivial rfl rfl rfl lend0 trivial, ?_⟩
  conv => whnf
  obtain ⟨r_6, h_r_6, hF⟩ := bind_some hF
  refine ⟨_, _, _, _, _, _, _, _, callX false [] [] Try.func30 (by decide) rfl (boarding_Join_ac r_2.1 r_4.1 r_6 h_r_6) rfl ⟨(argE (by (conv => lhs; whnf); all_goals rfl) rfl), (argE (by (conv => lhs; whnf); all_goals rfl) rfl), trivial⟩ rfl trivial rfl rfl rfl lend0 trivial, ?_⟩
  conv => whnf
  refine ⟨fun hb_6 => ?_, fun hb_6 => ?_⟩
  · replace hF := cond_t hb_6 hF
    conv => whnf
    refine len_q (enc := encManifest) (l := r_4.1) rfl ?_
    conv => whnf
    refine ⟨fun hb_7 => ?_, fun hb_7 => ?_⟩
    · replace hF := cond_t hb_7 hF
      conv => whnf
      obtain ⟨r_7, h_r_7, hF⟩ := bind_some hF
      refine ⟨_, _, _, _, _, _, _, _, callX false [] [] Try.func32 (by decide) rfl (ref25_One_ac r_3.1 r_7 h_r_7) rfl ⟨(argE (by (conv => lhs; whnf); all_goals rfl) rfl), trivial⟩ rfl trivial rfl rfl rfl lend0 trivial, ?_⟩
      conv => whnf
      obtain ⟨r_8, h_r_8, hF⟩ := bind_some hF
      refine ⟨_, _, _, _, _, _, _, _, callX false [] [] Try.func27 (by decide) rfl (ref25_SameAll_ac r_4.1 r_7 r_8 h_r_8) rfl ⟨(argE (by (conv => lhs; whnf); all_goals rfl) rfl), (argE (by (conv => lhs; whnf); all_goals rfl) rfl), trivial⟩ rfl trivial rfl rfl rfl lend0 trivial, ?_⟩
      conv => whnf
      refine ⟨fun hb_8 => ?_, fun hb_8 => ?_⟩
      · replace hF := cond_t hb_8 hF
        conv => whnf
        refine ⟨fun hb_9 => ?_, fun hb_9 => ?_⟩
        · replace hF := cond_t hb_9 hF
          conv => whnf
          obtain ⟨r_9, h_r_9, hF⟩ := bind_some hF
          refine ⟨_, _, _, _, _, _, _, _, callX false [] [] Try.func27 (by decide) rfl (ref25_SameAll_ac r_5.1 r_6.1 r_9 h_r_9) rfl ⟨(argE (by (conv => lhs; whnf); all_goals rfl) rfl), (argE (by (conv => lhs; whnf); all_goals rfl) rfl), trivial⟩ rfl trivial rfl rfl rfl lend0 trivial, ?_⟩
          conv => whnf
          refine ⟨fun hb_10 => ?_, fun hb_10 => ?_⟩
          · replace hF := cond_t hb_10 hF
            conv => whnf
            obtain ⟨r_10, h_r_10, hF⟩ := bind_some hF
            refine ⟨_, _, _, _, _, _, _, _, callX false [] [] Try.func20 (by decide) rfl (law25_awake_ac r_10 h_r_10) rfl trivial rfl trivial rfl rfl rfl lend0 trivial, ?_⟩
            conv => whnf
            obtain rfl := Option.some.inj hF
            exact ret_gz [] [] [] rfl (argE (by (conv => lhs; whnf); all_goals rfl) rfl) trivial
          · replace hF := cond_f hb_10 hF
            conv => whnf
            obtain rfl := Option.some.inj hF
            exact ret_gz [] [] [] rfl (argFl (by (conv => lhs; whnf); all_goals rfl)) trivial
        · replace hF := cond_f hb_9 hF
          conv => whnf
          obtain rfl := Option.some.inj hF
          exact ret_gz [] [] [] rfl (argFl (by (conv => lhs; whnf); all_goals rfl)) trivial
      · replace hF := cond_f hb_8 hF
        conv => whnf
        obtain rfl := Option.some.inj hF
        exact ret_gz [] [] [] rfl (argFl (by (conv => lhs; whnf); all_goals rfl)) trivial
    · replace hF := cond_f hb_7 hF
      conv => whnf
      obtain rfl := Option.some.inj hF
      exact ret_gz [] [] [] rfl (argFl (by (conv => lhs; whnf); all_goals rfl)) trivial
  · replace hF := cond_f hb_6 hF
    conv => whnf
    obtain rfl := Option.some.inj hF
    exact ret_gz [] [] [] rfl (argFl (by (conv => lhs; whnf); all_goals rfl)) trivial
end Go.Proofs.Ytajmhegkkbnkcaa.Ex
