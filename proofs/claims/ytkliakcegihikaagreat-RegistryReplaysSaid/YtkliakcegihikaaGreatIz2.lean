/- The law RegistryReplays: the law. -/
import Derived.Test.YtkliakcegihikaaGreatIz1
namespace Go.Proofs.YtkliakcegihikaaGreat.Ex.Iz
open Go.RowKit Go.Proofs.YtkliakcegihikaaGreat.Ax Ib
set_option linter.unusedVariables false
set_option linter.unusedSimpArgs false

theorem port_uniq {L : List Sender} (hs : sortS L) {a b : Sender} (ha : a ∈ L) (hb : b ∈ L) (h : a.Port = b.Port) : a = b := by
 obtain ⟨i, hi, rfl⟩ := List.mem_iff_getElem.1 ha
 obtain ⟨j, hj, rfl⟩ := List.mem_iff_getElem.1 hb
 rcases Nat.lt_trichotomy i j with c | c | c
 ·
  exact (By.slt_ne (List.pairwise_iff_getElem.1 hs i j hi hj c) h).elim
 ·
  subst c; rfl
 ·
  exact (By.slt_ne (List.pairwise_iff_getElem.1 hs j i hj hi c) h.symm).elim
theorem getS_eq {L : List Sender} (hs : sortS L) {e : Sender} (he : e ∈ L) {p : ByteArray} (hp : e.Port = p) : getS L p = e := by
 obtain ⟨_, h2, h3⟩ := getS_some hs ⟨e, he, hp⟩
 exact port_uniq hs h3 he (h2.trans hp.symm)
/-- the inbox of the law -/
structure Box (l : List Message) (x : Inbox) (n : Nat) : Prop where
 ok : IOk x
 w : x.Window = 4
 p : ∀ s ∈ x.L, s.Port = Ig.arn
 nx : (getS x.L Ig.arn).Next = (n : Int)
 h : ∀ h ∈ (getS x.L Ig.arn).Held, h ∈ l
theorem one {l : List Message} {x : Inbox} {n : Nat} (h : Box l x n) : x.L.length ≤ 1 := by
 have hs := h.ok.so
 have hp := h.p
 match hL : x.L with
 | [] => simp
 | [_] => simp
 | a :: b :: t =>
  exfalso
  rw [hL] at hs hp
  unfold sortS at hs
  rw [List.pairwise_cons] at hs
  exact By.slt_ne (hs.1 b (by simp)) ((hp a (by simp)).trans (hp b (by simp)).symm)
/-- one message -/
theorem step {l : List Message} (hl : Sent l) (h8 : l.length = 8) {x : Inbox} {n : Nat} (hx : Box l x n) (h1 : 1 ≤ n) (h9 : n ≤ 9) {m : Message} (hm : m ∈ l) :
  ∃ r, inbox_Receive x m = some r ∧ r.2.2.2 = 0 ∧ ∃ k : Nat, Box l r.1 (n + k) ∧ r.2.1 = (l.drop (n - 1)).take k ∧ n + k ≤ 9 ∧ (m.Number = (n : Int) → 1 ≤ k) := by
 have hv := hl.val m hm
 have hpm := hl.port m hm
 have hone := one hx
 obtain ⟨gs, gp⟩ := getS_ok hx.ok Ig.arn
 refine ⟨_, recv_val hx.ok hv, ?_⟩
 have stay : ∀ v : Int, m.Number ≠ (n : Int) → (recvM x m) = (x, [], v, 0) → (recvM x m).2.2.2 = 0 ∧ ∃ k : Nat, Box l (recvM x m).1 (n + k) ∧ (recvM x m).2.1 = (l.drop (n - 1)).take k ∧ n + k ≤ 9 ∧ (m.Number = (n : Int) → 1 ≤ k) := by
  intro v hne e
  rw [e]
  exact ⟨rfl, 0, hx, by simp, by omega, fun h => (hne h).elim⟩
 have hnx := hx.nx
 by_cases c1 : m.Number < (n : Int)
 ·
  exact stay 3 (by omega) (by unfold recvM; rw [hpm, hnx, if_pos c1])
 by_cases c2 : (n : Int) + x.Window ≤ m.Number
 ·
  exact stay 4 (by rw [hx.w] at c2; omega) (by unfold recvM; rw [hpm, hnx, if_neg c1, if_pos c2])
 cases hd : (getS x.L Ig.arn).Held.find? (fun h => decide (h.Number = m.Number)) with
 | some u =>
  have hu : u.Number = m.Number := by have := List.find?_some hd; simpa using this
  have hum := (gs.rg u (List.mem_of_find?_eq_some hd)).1
  exact stay _ (by omega) (by unfold recvM; rw [hpm, hnx, if_neg c1, if_neg c2, hd])
 | none =>
  have hc3 : ¬ ∃ h ∈ (getS x.L m.Port).Held, h.Number = m.Number := by
   rintro ⟨u, hu, hun⟩
   rw [hpm] at hu
   have := List.find?_eq_none.1 hd u hu
   simp [hun] at this
  have e : recvM x m = (⟨x.Window, setS (relS Ig.arn (n : Int) (insH m (getS x.L Ig.arn).Held)) x.L⟩, (insH m (getS x.L Ig.arn).Held).take (runL (n : Int) (insH m (getS x.L Ig.arn).Held)), if m.Number = (n : Int) then 1 else 2, 0) := by
   unfold recvM
   rw [hpm, hnx, if_neg c1, if_neg c2, hd]
   simp only
   rw [if_neg (by omega)]
  have hok := recv_ok hx.ok (val_small hv) hv.num (by rw [e])
  rw [e] at hok ⊢
  have hmem : ∀ h ∈ insH m (getS x.L Ig.arn).Held, h ∈ l := fun h hh => by
   rcases insH_mem.1 hh with q | q
   ·
    rw [q]; exact hm
   ·
    exact hx.h h q
  have hnum : ∀ h ∈ insH m (getS x.L Ig.arn).Held, h.Number ≤ 8 := fun h hh => by
   obtain ⟨k, hk⟩ := List.getElem?_of_mem (hmem h hh)
   have := hl.num k h hk
   have := (List.getElem?_eq_some_iff.1 hk).1
   omega
  have htop := run_top _ (n : Int) 8 hnum (by omega)
  refine ⟨rfl, runL (n : Int) (insH m (getS x.L Ig.arn).Held), ⟨hok, hx.w, fun s hs => ?_, ?_, ?_⟩, run_sent hl _ n hmem h1, by omega, fun hmn => ?_⟩
  ·
   rcases ((setS_spec (s := relS Ig.arn (n : Int) (insH m (getS x.L Ig.arn).Held)) hx.ok.so).2.1 s).1 hs with q | ⟨q, _⟩
   ·
    rw [q]; rfl
   ·
    exact hx.p s q
  ·
   have hg := getS_eq (setS_spec (s := relS Ig.arn (n : Int) (insH m (getS x.L Ig.arn).Held)) hx.ok.so).1 (((setS_spec (s := relS Ig.arn (n : Int) (insH m (getS x.L Ig.arn).Held)) hx.ok.so).2.1 _).2 (.inl rfl)) (p := Ig.arn) rfl
   show (getS (setS _ x.L) Ig.arn).Next = _
   rw [hg]
   show (n : Int) + _ = _
   omega
  ·
   have hg := getS_eq (setS_spec (s := relS Ig.arn (n : Int) (insH m (getS x.L Ig.arn).Held)) hx.ok.so).1 (((setS_spec (s := relS Ig.arn (n : Int) (insH m (getS x.L Ig.arn).Held)) hx.ok.so).2.1 _).2 (.inl rfl)) (p := Ig.arn) rfl
   show ∀ h ∈ (getS (setS _ x.L) Ig.arn).Held, h ∈ l
   rw [hg]
   intro h hh
   exact hmem h (List.mem_of_mem_drop hh)
  ·
   have hi : insH m (getS x.L Ig.arn).Held = m :: (getS x.L Ig.arn).Held := by
    unfold insH
    cases hH : (getS x.L Ig.arn).Held with
    | nil => rfl
    | cons u t =>
     have := (gs.rg u (by rw [hH]; simp)).1
     have hu : ltH m.Number u = false := decide_eq_false (by omega)
     rw [List.takeWhile_cons_of_neg (by rw [hu]; simp), List.dropWhile_cons_of_neg (by rw [hu]; simp)]
     rfl
   rw [hi, runL, if_pos hmn]
   omega

theorem law_L2 (z : List Message × List Bag) (hl : Sent z.1) (h8 : z.1.length = 8) : ∀ (f : Nat) (x : Inbox) (a : List Bag) (s : Src) (n : Nat) (i : Int), SrcOk s → Box z.1 x n → 1 ≤ n → n ≤ 9 → a = appL [] (z.1.take (n - 1)) → onwOk a → 0 ≤ i → i ≤ 60 → (i - 39 ≤ (n : Int) ∨ n = 9) → 60 - i < f →
  okP (law06_RegistryReplays_L2 z f x.Window x.L a s.L s.At (n : Int) i) (ctlQ (fun _ => False) (fun y => y.2 = 9 ∧ y.1 = appL [] z.1))
 | 0, x, a, s, n, i, _, _, _, _, _, _, _, _, _, h => by omega
 | f + 1, x, a, s, n, i, hs, hx, h1, h9, ha, hw, h0, h60, hp, hf => by
  have fin : n = 9 → okP (some (Ctl.brk (a, (n : Int))) : Option (Ctl Bool (List Bag × Int))) (ctlQ (fun _ => False) (fun y => y.2 = 9 ∧ y.1 = appL [] z.1)) := fun e => by
   subst e
   exact okP_some ⟨rfl, by rw [ha, List.take_of_length_le (by omega)]⟩
  have body : ∀ (s : Src) (m : Message), SrcOk s → m ∈ z.1 → i < 60 → n ≤ 8 → (40 ≤ i → m.Number = (n : Int)) → okP ((inbox_Receive (⟨x.Window, x.L⟩ : Inbox) m).bind fun r_23 =>
  cond (r_23.2.2.2 != (0 : Int))
  (some (Ctl.ret false))
  (Ctl.sub (law06_RegistryReplays_L3 r_23.2.1 0 a (n : Int)) fun z_31 =>
  law06_RegistryReplays_L2 z f r_23.1.Window r_23.1.L z_31.1 s.L s.At z_31.2 (w64 (i + (1 : Int))))) (ctlQ (fun _ => False) (fun y => y.2 = 9 ∧ y.1 = appL [] z.1)) := by
   intro s m hs hm hi hn8 hmn
   obtain ⟨r, r1, r2, k, k1, k2, k3, k4⟩ := step hl h8 hx h1 h9 hm
   show okP ((inbox_Receive x m).bind _) _
   rw [r1, Option.bind_some, r2, bne_self_eq_false, cond_false, k2]
   have hlen : ((z.1.drop (n - 1)).take k).length = k := by rw [List.length_take, List.length_drop]; omega
   obtain ⟨l3, l4⟩ := app_L3 ((z.1.drop (n - 1)).take k) 0 a (n : Int) (fun y hy => hl.val y (List.mem_of_mem_drop (List.mem_of_mem_take hy))) hw (by omega) (by omega)
   rw [sub_brkE l3, hlen, w64_id (by omega) (by omega), show (n : Int) + (k : Int) = ((n + k : Nat) : Int) by omega]
   refine law_L2 z hl h8 f r.1 _ s (n + k) (i + 1) hs k1 (by omega) k3 ?_ l4 (by omega) (by omega) ?_ (by omega)
   ·
    rw [ha, show n + k - 1 = (n - 1) + k by omega, List.take_add]
    unfold appL
    rw [List.foldl_append]
   ·
    by_cases c : 40 ≤ i
    ·
     have := k4 (hmn c)
     rcases hp with hp | hp
     ·
      left; omega
     ·
      omega
    ·
     left; omega
  have pick : ∀ (s : Src) (k : Int), SrcOk s → 1 ≤ k → k ≤ 8 → i < 60 → n ≤ 8 → (40 ≤ i → k = (n : Int)) → okP ((ixL z.1 (w64 (k - 1))).bind fun e_22 => (inbox_Receive (⟨x.Window, x.L⟩ : Inbox) e_22).bind fun r_23 =>
  cond (r_23.2.2.2 != (0 : Int))
  (some (Ctl.ret false))
  (Ctl.sub (law06_RegistryReplays_L3 r_23.2.1 0 a (n : Int)) fun z_31 =>
  law06_RegistryReplays_L2 z f r_23.1.Window r_23.1.L z_31.1 s.L s.At z_31.2 (w64 (i + (1 : Int))))) (ctlQ (fun _ => False) (fun y => y.2 = 9 ∧ y.1 = appL [] z.1)) := by
   intro s k hs k1 k8 hi hn8 hk
   have hlt : (k - 1).toNat < z.1.length := by omega
   have hx := List.getElem?_eq_getElem hlt
   rw [w64_id (by omega) (by omega), ixL_at' (k - 1).toNat (by omega) hx, Option.bind_some]
   have := hl.num _ _ hx
   exact body s _ hs (List.getElem_mem _) hi hn8 (fun c => by rw [this]; have := hk c; omega)
  rw [law06_RegistryReplays_L2]
  refine okP_cond (fun c => ?_) (fun c => fin ?_)
  ·
   have hi := of_decide_eq_true c
   refine okP_cond (fun d => ?_) (fun d => fin ?_)
   ·
    have hn8 := of_decide_eq_true d
    rw [w64_id (z := (n : Int) + 3) (by omega) (by omega)]
    refine okP_bind (Range_ok s 1 _ hs (by split <;> omega) (by omega) (by split <;> omega)) (fun r hr => ?_)
    obtain ⟨q1, q2, q3⟩ := hr
    have q8 : r.1 ≤ 8 := by split at q2 <;> omega
    refine okP_cond (fun _ => pick r.2 (n : Int) q3 (by omega) (by omega) hi (by omega) (fun _ => rfl)) (fun g => okP_bind (R := fun _ => True) (okP_some trivial) (fun b _ => okP_cond (fun _ => pick r.2 (n : Int) q3 (by omega) (by omega) hi (by omega) (fun _ => rfl)) (fun _ => pick r.2 r.1 q3 q1 q8 hi (by omega) (fun g2 => ?_))))
    have := of_decide_eq_false g
    omega
   ·
    have := of_decide_eq_false d
    omega
  ·
   have := of_decide_eq_false c
   rcases hp with hp | hp <;> omega
theorem replays_ok (l picks : List Int) : law06_RegistryReplays l picks = some true := by
 refine okP_eq ?_
 unfold law06_RegistryReplays
 have hnil : onwOk [] := fun b hb => (by cases hb)
 refine okP_bind (New_ok l) fun r1 h1 => ?_
 refine okP_finB (sent_L1 9223372036854775807 r1 [] [] 1 h1 ⟨by simp, by simp, by simp⟩ rfl hnil (by simp) (by omega) (by omega) (by omega)) fun z hz => ?_
 obtain ⟨z1, z2, z3⟩ := hz
 rw [new_eq (by omega) (by omega)]
 simp only [Option.bind_some, bne_self_eq_false, cond_false]
 refine okP_bind (New_ok picks) fun r2 h2 => ?_
 have hb : Box z.1 ⟨4, []⟩ 1 := ⟨inew_ok (by omega) (by omega), rfl, by simp, rfl, fun h hh => (by cases hh)⟩
 refine okP_finB (law_L2 z z1 z2 9223372036854775807 ⟨4, []⟩ [] r2 1 0 h2 hb (by omega) (by omega) rfl hnil (by omega) (by omega) (by omega) (by omega)) fun y hy => ?_
 rw [hy.1, hy.2, z3, beq_self_eq_true, cond_true, regSelf, Option.bind_some, cond_true, awake06]
 exact okP_some rfl
end Go.Proofs.YtkliakcegihikaaGreat.Ex.Iz
