/- The law InboxScript. -/
import Derived.Test.YtpipggnfbgjefaaIb3
import Derived.Test.YtpipggnfbgjefaaDec
namespace Go.Proofs.Ytpipggnfbgjefaa.Ex.Ib
open Go.RowKit Go.Proofs.Ytpipggnfbgjefaa.Ax
set_option linter.unusedVariables false
set_option linter.unusedSimpArgs false

theorem awake05 : law05_awake = some true := by kernel_rfl
theorem new_ref (w : Int) : ref05_New w = inbox_New w := by unfold ref05_New inbox_New; rfl
theorem new_eq {w : Int} (h1 : 1 ≤ w) (h2 : w ≤ 8) : inbox_New w = some (⟨w, []⟩, 0) := by
  unfold inbox_New
  rw [decide_eq_false (by omega), decide_eq_false (by omega)]
  rfl
theorem new_any (w : Int) : ∃ r, inbox_New w = some r := by
  unfold inbox_New
  cases decide (w < 1) <;> cases decide ((8 : Int) < w) <;> exact ⟨_, rfl⟩
theorem inew_ok {w : Int} (h1 : 1 ≤ w) (h2 : w ≤ 8) : IOk ⟨w, []⟩ := ⟨⟨h1, h2⟩, by simp, List.Pairwise.nil, by simp⟩
theorem nat_wrap {i : Int} (h0 : 0 ≤ i) (h : i < 30) : w64 (i + 1) = i + 1 := w64_id (by omega) (by omega)
theorem msgGen_small {m : Message} (h : Ig.Gen m) : smallMs m := ⟨by have := h.val.onl; omega, by have := h.lst; omega⟩

theorem script_L1 : ∀ (l : List Int) (k : Nat), law05_InboxScript_L1 l k = some (.brk ())
  | [], k => rfl
  | w :: l, k => by
    obtain ⟨r, hr⟩ := new_any w
    rw [law05_InboxScript_L1, new_ref, hr]
    simp only [Option.bind_some, bne_self_eq_false, cond_false, same_refl, Bool.not_true]
    exact script_L1 l (k + 1)
theorem script_L2 (raw : Message) (hraw : Mv.MsgOk raw) (hsm : smallMs raw) : ∀ (n : Nat) (s : Src) (x : Inbox) (i : Int), SrcOk s → IOk x → 0 ≤ i → i ≤ 30 → 30 - i < n →
    okP (law05_InboxScript_L2 raw n s.L s.At x.Window x.L x.Window x.L i) (ctlQ (fun _ => False) (fun _ => True))
  | 0, s, x, i, _, _, _, _, h => by omega
  | n + 1, s, x, i, hs, hx, h0, h1, h2 => by
    have skip : ∀ (s : Src), SrcOk s → i < 30 → okP ((keep_Src_Text s ([(⟨#[65, 82, 78]⟩ : ByteArray), (⟨#[67, 80, 72]⟩ : ByteArray), (⟨#[79, 83, 76]⟩ : ByteArray)] : List ByteArray)).bind fun r_24 =>
    (inbox_Missing (⟨x.Window, x.L⟩ : Inbox) r_24.1).bind fun r_25 =>
    (ref05_Missing (⟨x.Window, x.L⟩ : Inbox) r_24.1).bind fun r_26 =>
    (keep_Ints r_25 r_26).bind fun r_27 =>
    cond (!r_27)
    (some (Ctl.ret false))
    ((inbox_Skip (⟨x.Window, x.L⟩ : Inbox) r_24.1).bind fun r_28 =>
    (ref05_Skip (⟨x.Window, x.L⟩ : Inbox) r_24.1).bind fun r_29 =>
    cond (r_28.2.2 != r_29.2.2)
    (some (Ctl.ret false))
    ((ref05_Same r_28.1 r_29.1).bind fun r_30 =>
    cond (!r_30)
    (some (Ctl.ret false))
    ((ref05_SameList r_28.2.1 r_29.2.1).bind fun r_31 =>
    cond (!r_31)
    (some (Ctl.ret false))
    (cond (r_29.2.2 == (0 : Int))
    (law05_InboxScript_L2 raw n r_24.2.L r_24.2.At r_28.1.Window r_28.1.L r_29.1.Window r_29.1.L (w64 (i + (1 : Int))))
    (law05_InboxScript_L2 raw n r_24.2.L r_24.2.At x.Window x.L x.Window x.L (w64 (i + (1 : Int))))))))) (ctlQ (fun _ => False) (fun _ => True)) := by
      intro s hs hi
      refine okP_bind (Text_ok s _ hs (by decide) (by decide)) (fun r hr => ?_)
      have hm := miss_both hx r.1
      have hk := skip_both hx r.1
      show okP ((inbox_Missing x r.1).bind _) _
      rw [hm.1, Option.bind_some]
      show okP ((ref05_Missing x r.1).bind _) _
      rw [hm.2, Option.bind_some, Ig.ints_refl, Option.bind_some, Bool.not_true, cond_false]
      show okP ((inbox_Skip x r.1).bind _) _
      rw [hk.1, Option.bind_some]
      show okP ((ref05_Skip x r.1).bind _) _
      rw [hk.2.1, Option.bind_some, bne_self_eq_false, cond_false, same_refl, Option.bind_some, Bool.not_true, cond_false, sameList_refl, Option.bind_some, Bool.not_true, cond_false, nat_wrap h0 hi]
      refine okP_cond (fun c => ?_) (fun c => ?_)
      · exact script_L2 raw hraw hsm n r.2 (skipM x r.1).1 (i + 1) hr.2 (hk.2.2 (by simpa using c)) (by omega) (by omega) (by omega)
      · exact script_L2 raw hraw hsm n r.2 x (i + 1) hr.2 hx (by omega) (by omega) (by omega)
    have recv : ∀ (s : Src) (m : Message), SrcOk s → Mv.MsgOk m → smallMs m → i < 30 → okP ((inbox_Receive (⟨x.Window, x.L⟩ : Inbox) m).bind fun r_45 =>
    (ref05_Receive (⟨x.Window, x.L⟩ : Inbox) m).bind fun r_46 =>
    cond (r_45.2.2.2 != r_46.2.2.2)
    (some (Ctl.ret false))
    (cond (r_45.2.2.1 != r_46.2.2.1)
    (some (Ctl.ret false))
    ((ref05_Same r_45.1 r_46.1).bind fun r_47 =>
    cond (!r_47)
    (some (Ctl.ret false))
    ((ref05_SameList r_45.2.1 r_46.2.1).bind fun r_48 =>
    cond (!r_48)
    (some (Ctl.ret false))
    (cond (r_46.2.2.2 == (0 : Int))
    (law05_InboxScript_L2 raw n s.L s.At r_45.1.Window r_45.1.L r_46.1.Window r_46.1.L (w64 (i + (1 : Int))))
    (law05_InboxScript_L2 raw n s.L s.At x.Window x.L x.Window x.L (w64 (i + (1 : Int))))))))) (ctlQ (fun _ => False) (fun _ => True)) := by
      intro s m hs hm hms hi
      obtain ⟨r, e1, e2, e3⟩ := recv_both hx hm hms
      show okP ((inbox_Receive x m).bind _) _
      rw [e1, Option.bind_some]
      show okP ((ref05_Receive x m).bind _) _
      rw [e2, Option.bind_some, bne_self_eq_false, cond_false, bne_self_eq_false, cond_false, same_refl, Option.bind_some, Bool.not_true, cond_false, sameList_refl, Option.bind_some, Bool.not_true, cond_false, nat_wrap h0 hi]
      refine okP_cond (fun c => ?_) (fun c => ?_)
      · exact script_L2 raw hraw hsm n s r.1 (i + 1) hs (e3 (by simpa using c)) (by omega) (by omega) (by omega)
      · exact script_L2 raw hraw hsm n s x (i + 1) hs hx (by omega) (by omega) (by omega)
    rw [law05_InboxScript_L2]
    refine okP_cond (fun c => ?_) (fun _ => okP_some trivial)
    have hi := of_decide_eq_true c
    refine okP_cond (fun _ => ?_) (fun _ => okP_bind (R := fun _ => True) (okP_some trivial) (fun b _ => okP_cond (fun _ => ?_) (fun _ => okP_some trivial)))
    · refine okP_bind (Ig.message_t s hs) (fun r hr => okP_cond (fun _ => ?_) (fun _ => ?_))
      · exact okP_bind (N_ok _ 6 hr.1 (by decide) (by decide)) (fun q hq => okP_cond (fun _ => skip q.2 hq.2.2 hi) (fun _ => recv q.2 raw hq.2.2 hraw hsm hi))
      · exact okP_bind (N_ok _ 6 hr.1 (by decide) (by decide)) (fun q hq => okP_cond (fun _ => skip q.2 hq.2.2 hi) (fun _ => recv q.2 r.1 hq.2.2 (Ig.val_msg hr.2.val) (msgGen_small hr.2) hi))
    · refine okP_bind (Ig.message_t s hs) (fun r hr => okP_cond (fun _ => ?_) (fun _ => ?_))
      · exact okP_bind (N_ok _ 6 hr.1 (by decide) (by decide)) (fun q hq => okP_cond (fun _ => skip q.2 hq.2.2 hi) (fun _ => recv q.2 raw hq.2.2 hraw hsm hi))
      · exact okP_bind (N_ok _ 6 hr.1 (by decide) (by decide)) (fun q hq => okP_cond (fun _ => skip q.2 hq.2.2 hi) (fun _ => recv q.2 r.1 hq.2.2 (Ig.val_msg hr.2.val) (msgGen_small hr.2) hi))
theorem script_ok (window : Int) (l : List Int) (raw : Message) (q : Q_Message raw) : law05_InboxScript window l raw = some true := by
  refine okP_eq ?_
  unfold law05_InboxScript
  rw [awake05]
  refine okP_cond (fun _ => okP_some rfl) (fun c1 => okP_cond (fun _ => okP_some rfl) (fun c2 => ?_))
  have c1 := of_decide_eq_false c1
  have c2 := of_decide_eq_false c2
  have hraw : Mv.MsgOk raw := by
    obtain ⟨h1, h2⟩ := q
    unfold maxLen at h1 h2
    exact ⟨by omega, by omega⟩
  refine okP_bind (New_ok l) fun r1 h1 => okP_bind (Range_ok r1 0 9 h1 (by omega) (by omega) (by omega)) fun r4 h4 => ?_
  rw [fin_brkE (script_L1 _ 0)]
  refine okP_bind (Range_ok r4.2 1 4 h4.2.2 (by omega) (by omega) (by omega)) fun r5 h5 => ?_
  rw [new_eq h5.1 (by omega)]
  simp only [Option.bind_some]
  refine okP_finB (script_L2 raw hraw ⟨by omega, by omega⟩ 9223372036854775807 r5.2 ⟨r5.1, []⟩ 0 h5.2.2 (inew_ok h5.1 (by omega)) (by omega) (by omega) (by omega)) fun _ _ => okP_some rfl
end Go.Proofs.Ytpipggnfbgjefaa.Ex.Ib
