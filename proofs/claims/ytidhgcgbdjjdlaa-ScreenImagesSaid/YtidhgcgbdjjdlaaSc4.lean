/- Chapter 15: the law ScreenScript. Plain. -/
import Derived.Test.YtidhgcgbdjjdlaaSc3
namespace Go.Proofs.Ytidhgcgbdjjdlaa.Ex.Sc
open Go.RowKit Go.Proofs.Ytidhgcgbdjjdlaa.Ax
set_option linter.unusedVariables false
set_option linter.unusedSimpArgs false

theorem script_L1 (bag image time : Int) : ∀ (n : Nat) (s : Src) (x : Screening) (now i : Int), SrcOk s → SOk x → 0 ≤ i → i ≤ 25 → 25 - i < n →
    okP (law15_ScreenScript_L1 bag image time n s.L s.At x.Limits.e0 x.Limits.e1 x.Limits.e2 x.Limits.e3 x.Next x.L x.Limits.e0 x.Limits.e1 x.Limits.e2 x.Limits.e3 x.Next x.L now i) (ctlQ (fun _ => False) (fun _ => True))
  | 0, s, x, now, i, _, _, _, _, h => by omega
  | n + 1, s, x, now, i, hs, hx, h0, h1, h2 => by
    have part : ∀ (s : Src) (B I T d : Int), SrcOk s → i < 25 → okP ((keep_Src_N s (4 : Int)).bind fun r_32 =>
    Ctl.sub (cond (r_32.1 == (0 : Int))
    ((screen_Start (⟨(⟨x.Limits.e0, x.Limits.e1, x.Limits.e2, x.Limits.e3⟩ : A4_Int), x.Next, x.L⟩ : Screening) B T).bind fun r_33 =>
    (ref15_Start (⟨(⟨x.Limits.e0, x.Limits.e1, x.Limits.e2, x.Limits.e3⟩ : A4_Int), x.Next, x.L⟩ : Screening) B T).bind fun r_34 =>
    some (Ctl.brk (r_33.2, r_34.2, r_33.1.Limits.e0, r_33.1.Limits.e1, r_33.1.Limits.e2, r_33.1.Limits.e3, r_33.1.Next, r_33.1.L, r_34.1.Limits.e0, r_34.1.Limits.e1, r_34.1.Limits.e2, r_34.1.Limits.e3, r_34.1.Next, r_34.1.L, r_32.2.L, r_32.2.At, (0 : Int), (0 : Int))))
    (cond (r_32.1 == (1 : Int))
    ((screen_Expire (⟨(⟨x.Limits.e0, x.Limits.e1, x.Limits.e2, x.Limits.e3⟩ : A4_Int), x.Next, x.L⟩ : Screening) T).bind fun r_35 =>
    (ref15_Expire (⟨(⟨x.Limits.e0, x.Limits.e1, x.Limits.e2, x.Limits.e3⟩ : A4_Int), x.Next, x.L⟩ : Screening) T).bind fun r_36 =>
    some (Ctl.brk (r_35.2, r_36.2, r_35.1.Limits.e0, r_35.1.Limits.e1, r_35.1.Limits.e2, r_35.1.Limits.e3, r_35.1.Next, r_35.1.L, r_36.1.Limits.e0, r_36.1.Limits.e1, r_36.1.Limits.e2, r_36.1.Limits.e3, r_36.1.Next, r_36.1.L, r_32.2.L, r_32.2.At, (0 : Int), (0 : Int))))
    ((keep_Src_N r_32.2 (3 : Int)).bind fun r_37 =>
    (screen_Verdict (⟨(⟨x.Limits.e0, x.Limits.e1, x.Limits.e2, x.Limits.e3⟩ : A4_Int), x.Next, x.L⟩ : Screening) I (r_37.1 == (0 : Int)) T).bind fun r_38 =>
    (ref15_Verdict (⟨(⟨x.Limits.e0, x.Limits.e1, x.Limits.e2, x.Limits.e3⟩ : A4_Int), x.Next, x.L⟩ : Screening) I (r_37.1 == (0 : Int)) T).bind fun r_39 =>
    some (Ctl.brk (r_38.2.2, r_39.2.2, r_38.1.Limits.e0, r_38.1.Limits.e1, r_38.1.Limits.e2, r_38.1.Limits.e3, r_38.1.Next, r_38.1.L, r_39.1.Limits.e0, r_39.1.Limits.e1, r_39.1.Limits.e2, r_39.1.Limits.e3, r_39.1.Next, r_39.1.L, r_37.2.L, r_37.2.At, r_38.2.1, r_39.2.1))))) fun (z_58 : Int × Int × Int × Int × Int × Int × Int × (List Check) × Int × Int × Int × Int × Int × (List Check) × (List Int) × Int × Int × Int) =>
    cond (z_58.1 != z_58.2.1)
    (some (Ctl.ret false))
    (cond (z_58.2.2.2.2.2.2.2.2.2.2.2.2.2.2.2.2.1 != z_58.2.2.2.2.2.2.2.2.2.2.2.2.2.2.2.2.2)
    (some (Ctl.ret false))
    ((ref15_Same (⟨(⟨z_58.2.2.1, z_58.2.2.2.1, z_58.2.2.2.2.1, z_58.2.2.2.2.2.1⟩ : A4_Int), z_58.2.2.2.2.2.2.1, z_58.2.2.2.2.2.2.2.1⟩ : Screening) (⟨(⟨z_58.2.2.2.2.2.2.2.2.1, z_58.2.2.2.2.2.2.2.2.2.1, z_58.2.2.2.2.2.2.2.2.2.2.1, z_58.2.2.2.2.2.2.2.2.2.2.2.1⟩ : A4_Int), z_58.2.2.2.2.2.2.2.2.2.2.2.2.1, z_58.2.2.2.2.2.2.2.2.2.2.2.2.2.1⟩ : Screening)).bind fun r_59 =>
    cond (!r_59)
    (some (Ctl.ret false))
    (cond (z_58.1 == (0 : Int))
    ((screen_Find (⟨(⟨z_58.2.2.1, z_58.2.2.2.1, z_58.2.2.2.2.1, z_58.2.2.2.2.2.1⟩ : A4_Int), z_58.2.2.2.2.2.2.1, z_58.2.2.2.2.2.2.2.1⟩ : Screening) B).bind fun r_60 =>
    (ref15_Find (⟨(⟨z_58.2.2.2.2.2.2.2.2.1, z_58.2.2.2.2.2.2.2.2.2.1, z_58.2.2.2.2.2.2.2.2.2.2.1, z_58.2.2.2.2.2.2.2.2.2.2.2.1⟩ : A4_Int), z_58.2.2.2.2.2.2.2.2.2.2.2.2.1, z_58.2.2.2.2.2.2.2.2.2.2.2.2.2.1⟩ : Screening) B).bind fun r_61 =>
    cond (!((r_60.1.Bag == r_61.1.Bag) && ((r_60.1.Level == r_61.1.Level) && ((r_60.1.Since == r_61.1.Since) && ((r_60.1.Image == r_61.1.Image) && ((r_60.1.State == r_61.1.State) && true))))))
    (some (Ctl.ret false))
    (cond (!(r_60.2 == r_61.2))
    (some (Ctl.ret false))
    ((screen_Cleared (⟨(⟨z_58.2.2.1, z_58.2.2.2.1, z_58.2.2.2.2.1, z_58.2.2.2.2.2.1⟩ : A4_Int), z_58.2.2.2.2.2.2.1, z_58.2.2.2.2.2.2.2.1⟩ : Screening)).bind fun r_62 =>
    (ref15_Cleared (⟨(⟨z_58.2.2.2.2.2.2.2.2.1, z_58.2.2.2.2.2.2.2.2.2.1, z_58.2.2.2.2.2.2.2.2.2.2.1, z_58.2.2.2.2.2.2.2.2.2.2.2.1⟩ : A4_Int), z_58.2.2.2.2.2.2.2.2.2.2.2.2.1, z_58.2.2.2.2.2.2.2.2.2.2.2.2.2.1⟩ : Screening)).bind fun r_63 =>
    (keep_Ints r_62 r_63).bind fun r_64 =>
    cond (!r_64)
    (some (Ctl.ret false))
    ((screen_Alarms (⟨(⟨z_58.2.2.1, z_58.2.2.2.1, z_58.2.2.2.2.1, z_58.2.2.2.2.2.1⟩ : A4_Int), z_58.2.2.2.2.2.2.1, z_58.2.2.2.2.2.2.2.1⟩ : Screening)).bind fun r_65 =>
    (ref15_Alarms (⟨(⟨z_58.2.2.2.2.2.2.2.2.1, z_58.2.2.2.2.2.2.2.2.2.1, z_58.2.2.2.2.2.2.2.2.2.2.1, z_58.2.2.2.2.2.2.2.2.2.2.2.1⟩ : A4_Int), z_58.2.2.2.2.2.2.2.2.2.2.2.2.1, z_58.2.2.2.2.2.2.2.2.2.2.2.2.2.1⟩ : Screening)).bind fun r_66 =>
    (law15_same r_65 r_66).bind fun r_67 =>
    cond (!r_67)
    (some (Ctl.ret false))
    (law15_ScreenScript_L1 bag image time n z_58.2.2.2.2.2.2.2.2.2.2.2.2.2.2.1 z_58.2.2.2.2.2.2.2.2.2.2.2.2.2.2.2.1 z_58.2.2.1 z_58.2.2.2.1 z_58.2.2.2.2.1 z_58.2.2.2.2.2.1 z_58.2.2.2.2.2.2.1 z_58.2.2.2.2.2.2.2.1 z_58.2.2.2.2.2.2.2.2.1 z_58.2.2.2.2.2.2.2.2.2.1 z_58.2.2.2.2.2.2.2.2.2.2.1 z_58.2.2.2.2.2.2.2.2.2.2.2.1 z_58.2.2.2.2.2.2.2.2.2.2.2.2.1 z_58.2.2.2.2.2.2.2.2.2.2.2.2.2.1 (w64 (now + d)) (w64 (i + (1 : Int))))))))
    ((screen_Find (⟨(⟨x.Limits.e0, x.Limits.e1, x.Limits.e2, x.Limits.e3⟩ : A4_Int), x.Next, x.L⟩ : Screening) B).bind fun r_68 =>
    (ref15_Find (⟨(⟨x.Limits.e0, x.Limits.e1, x.Limits.e2, x.Limits.e3⟩ : A4_Int), x.Next, x.L⟩ : Screening) B).bind fun r_69 =>
    cond (!((r_68.1.Bag == r_69.1.Bag) && ((r_68.1.Level == r_69.1.Level) && ((r_68.1.Since == r_69.1.Since) && ((r_68.1.Image == r_69.1.Image) && ((r_68.1.State == r_69.1.State) && true))))))
    (some (Ctl.ret false))
    (cond (!(r_68.2 == r_69.2))
    (some (Ctl.ret false))
    ((screen_Cleared (⟨(⟨x.Limits.e0, x.Limits.e1, x.Limits.e2, x.Limits.e3⟩ : A4_Int), x.Next, x.L⟩ : Screening)).bind fun r_70 =>
    (ref15_Cleared (⟨(⟨x.Limits.e0, x.Limits.e1, x.Limits.e2, x.Limits.e3⟩ : A4_Int), x.Next, x.L⟩ : Screening)).bind fun r_71 =>
    (keep_Ints r_70 r_71).bind fun r_72 =>
    cond (!r_72)
    (some (Ctl.ret false))
    ((screen_Alarms (⟨(⟨x.Limits.e0, x.Limits.e1, x.Limits.e2, x.Limits.e3⟩ : A4_Int), x.Next, x.L⟩ : Screening)).bind fun r_73 =>
    (ref15_Alarms (⟨(⟨x.Limits.e0, x.Limits.e1, x.Limits.e2, x.Limits.e3⟩ : A4_Int), x.Next, x.L⟩ : Screening)).bind fun r_74 =>
    (law15_same r_73 r_74).bind fun r_75 =>
    cond (!r_75)
    (some (Ctl.ret false))
    (law15_ScreenScript_L1 bag image time n z_58.2.2.2.2.2.2.2.2.2.2.2.2.2.2.1 z_58.2.2.2.2.2.2.2.2.2.2.2.2.2.2.2.1 x.Limits.e0 x.Limits.e1 x.Limits.e2 x.Limits.e3 x.Next x.L x.Limits.e0 x.Limits.e1 x.Limits.e2 x.Limits.e3 x.Next x.L (w64 (now + d)) (w64 (i + (1 : Int)))))))))))) (ctlQ (fun _ => False) (fun _ => True)) := by
      intro s B I T d hs hi
      have fin : ∀ (s : Src) (y : Screening), SrcOk s → SOk y → okP (law15_ScreenScript_L1 bag image time n s.L s.At y.Limits.e0 y.Limits.e1 y.Limits.e2 y.Limits.e3 y.Next y.L y.Limits.e0 y.Limits.e1 y.Limits.e2 y.Limits.e3 y.Next y.L (w64 (now + d)) (w64 (i + 1))) (ctlQ (fun _ => False) (fun _ => True)) := by
        intro s y hs hy
        rw [w64_id (z := i + 1) (by omega) (by omega)]
        exact script_L1 bag image time n s y _ (i + 1) hs hy (by omega) (by omega) (by omega)
      refine okP_bind (N_ok s 4 hs (by decide) (by decide)) (fun q hq => ?_)
      refine okP_sub (S := fun z => ∃ (e p : Int) (y : Screening) (s' : Src), z = (e, e, y.Limits.e0, y.Limits.e1, y.Limits.e2, y.Limits.e3, y.Next, y.L, y.Limits.e0, y.Limits.e1, y.Limits.e2, y.Limits.e3, y.Next, y.L, s'.L, s'.At, p, p) ∧ SrcOk s' ∧ (e = 0 → SOk y)) ?_ ?_
      · refine okP_cond (fun _ => ?_) (fun _ => okP_cond (fun _ => ?_) (fun _ => ?_))
        · show okP ((screen_Start x B T).bind _) _
          rw [start_p hx, Option.bind_some]
          show okP ((ref15_Start x B T).bind _) _
          rw [start_r hx, Option.bind_some]
          exact okP_some ⟨_, _, (startM x B T).1, q.2, rfl, hq.2.2, fun h => (start_ok hx h).1⟩
        · show okP ((screen_Expire x T).bind _) _
          rw [exp_p hx, Option.bind_some]
          show okP ((ref15_Expire x T).bind _) _
          rw [exp_r hx, Option.bind_some]
          exact okP_some ⟨_, _, (expR x T).1, q.2, rfl, hq.2.2, fun h => (exp_ok hx h).1⟩
        · refine okP_bind (N_ok _ 3 hq.2.2 (by decide) (by decide)) (fun r hr => ?_)
          show okP ((screen_Verdict x I _ T).bind _) _
          rw [ver_p hx, Option.bind_some]
          show okP ((ref15_Verdict x I _ T).bind _) _
          rw [ver_r hx, Option.bind_some]
          exact okP_some ⟨_, _, (verM x I (r.1 == 0) T).1, r.2, rfl, hr.2.2, fun h => (ver_ok hx h).1⟩
      · rintro z ⟨e, p, y, s', rfl, hs', hy⟩
        dsimp only
        rw [bne_self_eq_false, cond_false, bne_self_eq_false, cond_false]
        show okP ((ref15_Same y y).bind _) _
        rw [same_refl, Option.bind_some, Bool.not_true, cond_false]
        have more : ∀ (w : Screening), SOk w → okP ((screen_Find w B).bind fun r_60 => (ref15_Find w B).bind fun r_61 =>
            cond (!((r_60.1.Bag == r_61.1.Bag) && ((r_60.1.Level == r_61.1.Level) && ((r_60.1.Since == r_61.1.Since) && ((r_60.1.Image == r_61.1.Image) && ((r_60.1.State == r_61.1.State) && true))))))
            (some (Ctl.ret false))
            (cond (!(r_60.2 == r_61.2))
            (some (Ctl.ret false))
            ((screen_Cleared w).bind fun r_62 => (ref15_Cleared w).bind fun r_63 => (keep_Ints r_62 r_63).bind fun r_64 =>
            cond (!r_64)
            (some (Ctl.ret false))
            ((screen_Alarms w).bind fun r_65 => (ref15_Alarms w).bind fun r_66 => (law15_same r_65 r_66).bind fun r_67 =>
            cond (!r_67)
            (some (Ctl.ret false))
            (law15_ScreenScript_L1 bag image time n s'.L s'.At w.Limits.e0 w.Limits.e1 w.Limits.e2 w.Limits.e3 w.Next w.L w.Limits.e0 w.Limits.e1 w.Limits.e2 w.Limits.e3 w.Next w.L (w64 (now + d)) (w64 (i + 1))))))) (ctlQ (fun _ => False) (fun _ => True)) := by
          intro w hw
          obtain ⟨r, r1, r2, _, _⟩ := find_both hw B
          obtain ⟨a, a1, a2, _⟩ := al_both hw
          have hl := hw.len
          rw [r1, Option.bind_some, r2, Option.bind_some]
          simp only [beq_self_eq_true, Bool.and_true, Bool.not_true, cond_false]
          rw [cl_p (by omega), Option.bind_some, cl_r (by omega), Option.bind_some, ints_refl, Option.bind_some, Bool.not_true, cond_false, a1, Option.bind_some, a2, Option.bind_some, same_al, Option.bind_some, Bool.not_true, cond_false]
          exact fin s' w hs' hw
        refine okP_cond (fun h => ?_) (fun h => ?_)
        · exact more y (hy (eq_of_beq h))
        · exact more x hx
    rw [law15_ScreenScript_L1]
    refine okP_cond (fun c => ?_) (fun _ => okP_some trivial)
    have hi := of_decide_eq_true c
    refine okP_cond (fun _ => ?_) (fun _ => okP_bind (R := fun _ => True) (okP_some trivial) (fun b _ => okP_cond (fun _ => ?_) (fun _ => okP_some trivial)))
    · refine okP_bind (Pick_ok _ _ hs (by decide) (by decide)) (fun r29 h29 => okP_bind (Range_ok _ 0 6 h29.2 (by decide) (by decide) (by decide)) (fun r30 h30 => okP_bind (N_ok _ 10 h30.2.2 (by decide) (by decide)) (fun r31 h31 => ?_)))
      refine okP_cond (fun _ => okP_cond (fun _ => ?_) (fun _ => okP_cond (fun _ => ?_) (fun _ => ?_))) (fun _ => ?_)
      · exact part r31.2 bag image time r29.1 h31.2.2 hi
      · exact part r31.2 bag image time r29.1 h31.2.2 hi
      · exact part r31.2 bag image (w64 (now + r29.1)) r29.1 h31.2.2 hi
      · exact part r31.2 r30.1 r31.1 (w64 (now + r29.1)) r29.1 h31.2.2 hi
    · refine okP_bind (Pick_ok _ _ hs (by decide) (by decide)) (fun r29 h29 => okP_bind (Range_ok _ 0 6 h29.2 (by decide) (by decide) (by decide)) (fun r30 h30 => okP_bind (N_ok _ 10 h30.2.2 (by decide) (by decide)) (fun r31 h31 => ?_)))
      refine okP_cond (fun _ => okP_cond (fun _ => ?_) (fun _ => okP_cond (fun _ => ?_) (fun _ => ?_))) (fun _ => ?_)
      · exact part r31.2 bag image time r29.1 h31.2.2 hi
      · exact part r31.2 bag image time r29.1 h31.2.2 hi
      · exact part r31.2 bag image (w64 (now + r29.1)) r29.1 h31.2.2 hi
      · exact part r31.2 r30.1 r31.1 (w64 (now + r29.1)) r29.1 h31.2.2 hi
theorem script_ok (raw : A4_Int) (l : List Int) (bag image time : Int) (_ : True) : law15_ScreenScript raw l bag image time = some true := by
  refine okP_eq ?_
  unfold law15_ScreenScript
  rw [awake15]
  obtain ⟨r, hr⟩ := new_any raw
  refine okP_bind (New_ok l) fun r1 h1 => ?_
  rw [new_r, hr, Option.bind_some, Option.bind_some, bne_self_eq_false, cond_false, same_refl, Option.bind_some, Bool.not_true, cond_false]
  refine okP_bind (N_ok r1 6 h1 (by decide) (by decide)) fun r5 h5 => okP_bind (N_ok _ 6 h5.2.2 (by decide) (by decide)) fun r6 h6 => okP_bind (Pick_ok _ _ h6.2.2 (by decide) (by decide)) fun r7 h7 => okP_bind (N_ok _ 6 h7.2 (by decide) (by decide)) fun r8 h8 => ?_
  have h70 : 0 ≤ r7.1 ∧ r7.1 ≤ 1000 := by
    have := h7.1
    simp only [List.mem_cons, List.not_mem_nil, or_false] at this
    omega
  have hl : LOk ⟨r5.1, r6.1, r7.1, r8.1⟩ := ⟨by show 0 ≤ r5.1 ∧ r5.1 ≤ 1000; omega, by show 0 ≤ r6.1 ∧ r6.1 ≤ 1000; omega, h70, by show 0 ≤ r8.1 ∧ r8.1 ≤ 1000; omega⟩
  rw [new_r, new_eq hl, Option.bind_some, Option.bind_some, bne_self_eq_false, cond_false, same_refl, Option.bind_some, Bool.not_true, cond_false]
  refine okP_bind (N_ok _ 3 h8.2.2 (by decide) (by decide)) fun r12 h12 => ?_
  refine okP_finB (script_L1 bag image time 9223372036854775807 r12.2 ⟨⟨r5.1, r6.1, r7.1, r8.1⟩, 1, []⟩ r12.1 0 h12.2.2 (new_ok hl) (by omega) (by omega) (by omega)) fun _ _ => okP_some rfl
end Go.Proofs.Ytidhgcgbdjjdlaa.Ex.Sc
