/- The law InboxSenders. -/
import Derived.Test.YtpipggnfbgjefaaIb5
namespace Go.Proofs.Ytpipggnfbgjefaa.Ex.Ib
open Go.RowKit Go.Proofs.Ytpipggnfbgjefaa.Ax
set_option linter.unusedVariables false
set_option linter.unusedSimpArgs false

theorem port_uniq {L : List Sender} (hs : sortS L) {a b : Sender} (ha : a ∈ L) (hb : b ∈ L) (h : a.Port = b.Port) : a = b := by
  obtain ⟨i, hi, rfl⟩ := List.mem_iff_getElem.1 ha
  obtain ⟨j, hj, rfl⟩ := List.mem_iff_getElem.1 hb
  rcases Nat.lt_trichotomy i j with c | c | c
  · exact (By.slt_ne (List.pairwise_iff_getElem.1 hs i j hi hj c) h).elim
  · subst c; rfl
  · exact (By.slt_ne (List.pairwise_iff_getElem.1 hs j i hj hi c) h.symm).elim
theorem getS_eq {L : List Sender} (hs : sortS L) {e : Sender} (he : e ∈ L) {p : ByteArray} (hp : e.Port = p) : getS L p = e := by
  obtain ⟨_, h2, h3⟩ := getS_some hs ⟨e, he, hp⟩
  exact port_uniq hs h3 he (h2.trans hp.symm)
theorem getS_setS {L : List Sender} (hs : sortS L) (s : Sender) : getS (setS s L) s.Port = s ∧ ∀ q, q ≠ s.Port → getS (setS s L) q = getS L q := by
  obtain ⟨h1, h2, _, _⟩ := setS_spec (s := s) hs
  refine ⟨getS_eq h1 ((h2 s).2 (.inl rfl)) rfl, fun q hq => ?_⟩
  by_cases c : ∃ e ∈ L, e.Port = q
  · obtain ⟨e, he, hp⟩ := c
    rw [getS_eq hs he hp, getS_eq h1 ((h2 e).2 (.inr ⟨he, by rw [hp]; exact hq⟩)) hp]
  · rw [getS_none c, getS_none]
    rintro ⟨e, he, hp⟩
    rcases (h2 e).1 he with h | ⟨h, _⟩
    · subst h; exact hq hp.symm
    · exact c ⟨e, h, hp⟩
/-- an inbox of the law -/
structure LawIn (x : Inbox) : Prop where
  ok : IOk x
  w : x.Window = 3
  p : ∀ s ∈ x.L, s.Port = Ig.arn ∨ s.Port = Ig.cph
theorem few {x : Inbox} (h : LawIn x) : x.L.length ≤ 2 := by
  have hs := h.ok.so
  have hp := h.p
  match hL : x.L with
  | [] => simp
  | [_] => simp
  | [_, _] => simp
  | a :: b :: c :: t =>
    exfalso
    rw [hL] at hs hp
    unfold sortS at hs
    rw [List.pairwise_cons, List.pairwise_cons] at hs
    have ab := By.slt_ne (hs.1 b (by simp))
    have ac := By.slt_ne (hs.1 c (by simp))
    have bc := By.slt_ne (hs.2.1 c (by simp))
    have pa := hp a (by simp)
    have pb := hp b (by simp)
    have pc := hp c (by simp)
    rcases pa with pa | pa <;> rcases pb with pb | pb <;> rcases pc with pc | pc <;>
      first
      | exact ab (pa.trans pb.symm)
      | exact ac (pa.trans pc.symm)
      | exact bc (pb.trans pc.symm)
def outF (W : Int) (s : Sender) (m : Message) : Sender × List Message :=
  if m.Number < s.Next then (s, [])
  else if s.Next + W ≤ m.Number then (s, [])
  else match s.Held.find? (fun h => decide (h.Number = m.Number)) with
    | some h => (s, [])
    | none => (relS m.Port s.Next (insH m s.Held), (insH m s.Held).take (runL s.Next (insH m s.Held)))
theorem recv_law {x : Inbox} (h : LawIn x) {m : Message} (hg : Ig.Gen m) : ∃ r, inbox_Receive x m = some r ∧ r.2.2.2 = 0 ∧ LawIn r.1 ∧ r.2.1 = (outF 3 (getS x.L m.Port) m).2 ∧ getS r.1.L m.Port = (outF 3 (getS x.L m.Port) m).1 ∧ ∀ q, q ≠ m.Port → getS r.1.L q = getS x.L q := by
  have hf := few h
  have e0 : (recvM x m).2.2.2 = 0 ∧ (∀ s ∈ (recvM x m).1.L, s.Port = Ig.arn ∨ s.Port = Ig.cph) ∧ (recvM x m).1.Window = 3 ∧ (recvM x m).2.1 = (outF 3 (getS x.L m.Port) m).2 ∧ getS (recvM x m).1.L m.Port = (outF 3 (getS x.L m.Port) m).1 ∧ ∀ q, q ≠ m.Port → getS (recvM x m).1.L q = getS x.L q := by
    unfold recvM outF
    rw [h.w]
    by_cases c1 : m.Number < (getS x.L m.Port).Next
    · rw [if_pos c1, if_pos c1]
      exact ⟨rfl, h.p, h.w, rfl, rfl, fun _ _ => rfl⟩
    rw [if_neg c1, if_neg c1]
    by_cases c2 : (getS x.L m.Port).Next + 3 ≤ m.Number
    · rw [if_pos c2, if_pos c2]
      exact ⟨rfl, h.p, h.w, rfl, rfl, fun _ _ => rfl⟩
    rw [if_neg c2, if_neg c2]
    cases hd : (getS x.L m.Port).Held.find? (fun h => decide (h.Number = m.Number)) with
    | some u => exact ⟨rfl, h.p, h.w, rfl, rfl, fun _ _ => rfl⟩
    | none =>
      simp only
      rw [if_neg (by omega)]
      obtain ⟨g1, g2⟩ := getS_setS h.ok.so (relS m.Port (getS x.L m.Port).Next (insH m (getS x.L m.Port).Held))
      refine ⟨rfl, fun s hs => ?_, rfl, rfl, g1, fun q hq => g2 q hq⟩
      rcases ((setS_spec (s := relS m.Port (getS x.L m.Port).Next (insH m (getS x.L m.Port).Held)) h.ok.so).2.1 s).1 hs with e | ⟨e, _⟩
      · rw [e]; exact hg.port
      · exact h.p s e
  exact ⟨_, recv_val h.ok hg.val, e0.1, ⟨recv_ok h.ok (val_small hg.val) hg.val.num e0.1, e0.2.2.1, e0.2.1⟩, e0.2.2.2.1, e0.2.2.2.2.1, e0.2.2.2.2.2⟩

theorem senders_L : ∀ (n : Nat) (s : Src) (x y : Inbox) (i : Int), SrcOk s → LawIn x → LawIn y → getS x.L Ig.arn = getS y.L Ig.arn → 0 ≤ i → i ≤ 30 → 30 - i < n →
    okP (law05_InboxSenders_L1 n s.L s.At x.Window x.L i y.Window y.L) (ctlQ (fun _ => False) (fun z => LawIn ⟨z.1, z.2.1⟩ ∧ LawIn ⟨z.2.2.1, z.2.2.2⟩ ∧ getS z.2.1 Ig.arn = getS z.2.2.2 Ig.arn))
  | 0, s, x, y, i, _, _, _, _, _, _, h => by omega
  | n + 1, s, x, y, i, hs, hx, hy, he, h0, h1, h2 => by
    have body : i < 30 → okP ((keep_Src_Message (⟨s.L, s.At⟩ : Src) (0 : Int)).bind fun r_10 =>
    (inbox_Receive (⟨x.Window, x.L⟩ : Inbox) r_10.1).bind fun r_11 =>
    cond (r_11.2.2.2 != (0 : Int))
    (some (Ctl.ret false))
    (cond (!(r_10.1.Port.toList == (⟨#[65, 82, 78]⟩ : ByteArray).toList))
    (law05_InboxSenders_L1 n r_10.2.L r_10.2.At r_11.1.Window r_11.1.L (w64 (i + (1 : Int))) y.Window y.L)
    ((inbox_Receive (⟨y.Window, y.L⟩ : Inbox) r_10.1).bind fun r_12 =>
    cond (r_12.2.2.2 != (0 : Int))
    (some (Ctl.ret false))
    ((ref05_SameList r_11.2.1 r_12.2.1).bind fun r_13 =>
    cond (!r_13)
    (some (Ctl.ret false))
    (law05_InboxSenders_L1 n r_10.2.L r_10.2.At r_11.1.Window r_11.1.L (w64 (i + (1 : Int))) r_12.1.Window r_12.1.L))))) (ctlQ (fun _ => False) (fun z => LawIn ⟨z.1, z.2.1⟩ ∧ LawIn ⟨z.2.2.1, z.2.2.2⟩ ∧ getS z.2.1 Ig.arn = getS z.2.2.2 Ig.arn)) := by
      intro hi
      refine okP_bind (Ig.message_t s hs) (fun r hr => ?_)
      obtain ⟨a, a1, a2, a3, a4, a5, a6⟩ := recv_law hx hr.2
      show okP ((inbox_Receive x r.1).bind _) _
      rw [a1, Option.bind_some, a2, bne_self_eq_false, cond_false, By.beq_str, nat_wrap h0 hi]
      by_cases c : r.1.Port = Ig.arn
      · rw [show decide (r.1.Port = (⟨#[65, 82, 78]⟩ : ByteArray)) = true from decide_eq_true c, Bool.not_true, cond_false]
        obtain ⟨b, b1, b2, b3, b4, b5, b6⟩ := recv_law hy hr.2
        show okP ((inbox_Receive y r.1).bind _) _
        rw [c] at a4 a5 b4 b5
        rw [b1, Option.bind_some, b2, bne_self_eq_false, cond_false, a4, b4, he, sameList_refl, Option.bind_some, Bool.not_true, cond_false]
        exact senders_L n r.2 a.1 b.1 (i + 1) hr.1 a3 b3 (by rw [a5, b5, he]) (by omega) (by omega) (by omega)
      · rw [show decide (r.1.Port = (⟨#[65, 82, 78]⟩ : ByteArray)) = false from decide_eq_false c, Bool.not_false, cond_true]
        exact senders_L n r.2 a.1 y (i + 1) hr.1 a3 hy (by rw [a6 _ (fun e => c e.symm), he]) (by omega) (by omega) (by omega)
    rw [law05_InboxSenders_L1]
    have stop : okP (some (Ctl.brk (x.Window, x.L, y.Window, y.L)) : Option (Ctl Bool (Int × (List Sender) × Int × (List Sender)))) (ctlQ (fun _ => False) (fun z => LawIn ⟨z.1, z.2.1⟩ ∧ LawIn ⟨z.2.2.1, z.2.2.2⟩ ∧ getS z.2.1 Ig.arn = getS z.2.2.2 Ig.arn)) := okP_some ⟨hx, hy, he⟩
    refine okP_cond (fun c => ?_) (fun _ => stop)
    have hi := of_decide_eq_true c
    exact okP_cond (fun _ => body hi) (fun _ => okP_bind (R := fun _ => True) (okP_some trivial) (fun b _ => okP_cond (fun _ => body hi) (fun _ => stop)))
theorem senders_ok (l : List Int) : law05_InboxSenders l = some true := by
  refine okP_eq ?_
  unfold law05_InboxSenders
  refine okP_bind (New_ok l) fun r1 h1 => ?_
  rw [new_eq (by omega) (by omega)]
  simp only [Option.bind_some, bne_self_eq_false, cond_false]
  have h0 : LawIn ⟨3, []⟩ := ⟨inew_ok (by omega) (by omega), rfl, by simp⟩
  refine okP_finB (senders_L 9223372036854775807 r1 ⟨3, []⟩ ⟨3, []⟩ 0 h1 h0 h0 rfl (by omega) (by omega) (by omega)) fun z hz => ?_
  obtain ⟨h2, h3, h4⟩ := hz
  have m1 := (miss_both h2.ok Ig.arn).1
  have m2 := (miss_both h3.ok Ig.arn).1
  show okP ((inbox_Missing ⟨z.1, z.2.1⟩ Ig.arn).bind _) _
  rw [m1, Option.bind_some]
  show okP ((inbox_Missing ⟨z.2.2.1, z.2.2.2⟩ Ig.arn).bind _) _
  rw [m2, Option.bind_some]
  simp only
  rw [h4, Ig.ints_refl, Option.bind_some, cond_true, awake05]
  exact okP_some rfl
end Go.Proofs.Ytpipggnfbgjefaa.Ex.Ib
