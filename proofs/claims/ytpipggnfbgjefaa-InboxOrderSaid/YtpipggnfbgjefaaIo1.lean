/- Chapter 5: the law InboxOrder. Plain. -/
import Derived.Test.YtpipggnfbgjefaaIb4
namespace Go.Proofs.Ytpipggnfbgjefaa.Ex.Ib
open Go.RowKit Go.Proofs.Ytpipggnfbgjefaa.Ax
set_option linter.unusedVariables false
set_option linter.unusedSimpArgs false

/-- the message with a number, from ARN -/
def mk (k : Int) : Message := ⟨3, 0, Ig.arn, k, ⟨⟨⟨#[]⟩, 0, ⟨#[]⟩, 0⟩, ⟨#[]⟩, ⟨#[]⟩⟩, ⟨⟨⟨#[]⟩, 0, ⟨#[]⟩, 0⟩, ⟨#[]⟩, ⟨#[]⟩⟩, [], ⟨0, 117, k⟩, 1, false, 0, 0, 0, ⟨#[]⟩, ⟨#[]⟩, 0, ⟨#[65]⟩, []⟩
theorem mk_eq (k : Int) : law05_numbered (⟨#[65, 82, 78]⟩ : ByteArray) k = some (mk k) := rfl
theorem mk_all : (List.range 12).all (fun k => decide (message_Validate (mk ((k : Int) + 1)) = some 0)) = true := by kernel_rfl
theorem mk_val {k : Int} (h1 : 1 ≤ k) (h2 : k ≤ 12) : message_Validate (mk k) = some 0 := by
  have := List.all_eq_true.1 mk_all (k - 1).toNat (List.mem_range.2 (by omega))
  have := of_decide_eq_true this
  rw [show (((k - 1).toNat : Nat) : Int) + 1 = k by omega] at this
  exact this
theorem gd14 {i : Int} (n : Nat) (h0 : 0 ≤ i) (h1 : i < n) : gdA n i = some () := if_pos ⟨h0, h1⟩
def mks : Int → Nat → List Message
  | _, 0 => []
  | n, r + 1 => mk n :: mks (n + 1) r
theorem mks_mem : ∀ (r : Nat) (n j : Int), n ≤ j → j < n + r → mk j ∈ mks n r
  | 0, n, j, h1, h2 => by omega
  | r + 1, n, j, h1, h2 => by
    rw [mks]
    by_cases c : j = n
    · subst c; simp
    · exact List.mem_cons_of_mem _ (mks_mem r (n + 1) j (by omega) (by omega))
theorem mks_num : ∀ (r : Nat) (n : Int) (h : Message), h ∈ mks n r → n ≤ h.Number ∧ h.Number < n + r
  | 0, n, h, hh => by cases hh
  | r + 1, n, h, hh => by
    rw [mks] at hh
    rcases List.mem_cons.1 hh with rfl | hh
    · show n ≤ n ∧ n < n + ((r + 1 : Nat) : Int); omega
    · have := mks_num r (n + 1) h hh; omega
theorem run_mk : ∀ (H : List Message) (n : Int), (∀ h ∈ H, h = mk h.Number) → H.take (runL n H) = mks n (runL n H)
  | [], n, _ => by simp [runL, mks]
  | h :: t, n, hm => by
    rw [runL]
    by_cases c : h.Number = n
    · rw [if_pos c, mks, List.take_succ_cons, run_mk t (n + 1) (fun x hx => hm x (by simp [hx]))]
      have := hm h (by simp)
      rw [c] at this
      rw [← this]
    · rw [if_neg c]; rfl
theorem run_topI : ∀ (H : List Message) (n t : Int), (∀ h ∈ H, h.Number ≤ t) → n ≤ t + 1 → n + (runL n H : Int) ≤ t + 1
  | [], n, t, _, h => by simp [runL]; omega
  | x :: r, n, t, hs, h => by
    rw [runL]
    by_cases c : x.Number = n
    · rw [if_pos c]
      have := hs x (by simp)
      have := run_topI r (n + 1) t (fun y hy => hs y (by simp [hy])) (by omega)
      omega
    · rw [if_neg c]; simp; omega
theorem port_uniq {L : List Sender} (hs : sortS L) {a b : Sender} (ha : a ∈ L) (hb : b ∈ L) (h : a.Port = b.Port) : a = b := by
  obtain ⟨i, hi, rfl⟩ := List.mem_iff_getElem.1 ha
  obtain ⟨j, hj, rfl⟩ := List.mem_iff_getElem.1 hb
  rcases Nat.lt_trichotomy i j with c | c | c
  · exact (By.slt_ne (List.pairwise_iff_getElem.1 hs i j hi hj c) h).elim
  · subst c; rfl
  · exact (By.slt_ne (List.pairwise_iff_getElem.1 hs j i hj hi c) h.symm).elim
theorem getS_eqI {L : List Sender} (hs : sortS L) {e : Sender} (he : e ∈ L) {p : ByteArray} (hp : e.Port = p) : getS L p = e := by
  obtain ⟨_, h2, h3⟩ := getS_some hs ⟨e, he, hp⟩
  exact port_uniq hs h3 he (h2.trans hp.symm)
/-- the inbox of the law, and what was delivered -/
structure Bx (W N : Int) (x : Inbox) (nx : Int) (o : List Bool) : Prop where
  ok : IOk x
  w : x.Window = W
  p : ∀ s ∈ x.L, s.Port = Ig.arn
  nn : (getS x.L Ig.arn).Next = nx
  h : ∀ h ∈ (getS x.L Ig.arn).Held, h = mk h.Number ∧ h.Number ≤ N
  ol : o.length = 14
  od : ∀ j : Nat, 1 ≤ j → j < 14 → ∃ b, o[j]? = some b ∧ (b = true ↔ (j : Int) < nx ∨ ∃ h ∈ (getS x.L Ig.arn).Held, h.Number = (j : Int))
theorem oneI {W N : Int} {x : Inbox} {n : Int} {o : List Bool} (h : Bx W N x n o) : x.L.length ≤ 1 := by
  have hs := h.ok.so
  have hp := h.p
  match hL : x.L with
  | [] => simp
  | [_] => simp
  | a :: b :: t =>
    exfalso
    rw [hL] at hs hp
    unfold sortS at hs
    rw [List.pairwise_cons] at hs
    exact By.slt_ne (hs.1 b (by simp)) ((hp a (by simp)).trans (hp b (by simp)).symm)
theorem stepI {W N : Int} (hN : N ≤ 12) {x : Inbox} {nx : Int} {o : List Bool} (hx : Bx W N x nx o) (h1 : 1 ≤ nx) (h9 : nx ≤ N + 1) {K : Int} (k1 : 1 ≤ K) (k2 : K ≤ N) (k3 : K < nx + W) :
    ∃ r, inbox_Receive x (mk K) = some r ∧ r.2.2.2 = 0 ∧ ∃ v, o[K.toNat]? = some v ∧ (v = (r.2.2.1 == 3)) ∧ (v = false → ((r.2.2.1 == 1) = (K == nx)) ∧ (r.2.2.1 = 1 ∨ r.2.2.1 = 2)) ∧
      ∃ k : Nat, Bx W N r.1 (nx + k) (o.set K.toNat true) ∧ r.2.1 = mks nx k ∧ nx + k ≤ N + 1 ∧ (K = nx → 1 ≤ k) := by
  have hsm : smallMs (mk K) := ⟨by show (0 : Nat) ≤ 1000; omega, by show (0 : Nat) ≤ 1000; omega⟩
  have hnum : 1 ≤ (mk K).Number ∧ (mk K).Number ≤ 9999 := by show 1 ≤ K ∧ K ≤ 9999; omega
  have hval := mk_val k1 (by omega)
  have hpm : (mk K).Port = Ig.arn := rfl
  have hmn : (mk K).Number = K := rfl
  have hone := oneI hx
  obtain ⟨gs, gp⟩ := getS_ok hx.ok Ig.arn
  have hnx := hx.nn
  have hKn : (K.toNat : Int) = K := by omega
  obtain ⟨v, v1, v2⟩ := hx.od K.toNat (by omega) (by omega)
  rw [hKn] at v2
  refine ⟨_, precv_eq x hx.ok (mk K) hval hsm hnum, ?_⟩
  have hset : ∀ j : Nat, j ≠ K.toNat → (o.set K.toNat true)[j]? = o[j]? := fun j hj => List.getElem?_set_ne (Ne.symm hj)
  have hself : (o.set K.toNat true)[K.toNat]? = some true := List.getElem?_set_self (by rw [hx.ol]; omega)
  have stay : v = true → (recvM x (mk K)) = (x, [], 3, 0) → (recvM x (mk K)).2.2.2 = 0 ∧ ∃ v, o[K.toNat]? = some v ∧ (v = ((recvM x (mk K)).2.2.1 == 3)) ∧ (v = false → (((recvM x (mk K)).2.2.1 == 1) = (K == nx)) ∧ ((recvM x (mk K)).2.2.1 = 1 ∨ (recvM x (mk K)).2.2.1 = 2)) ∧
      ∃ k : Nat, Bx W N (recvM x (mk K)).1 (nx + k) (o.set K.toNat true) ∧ (recvM x (mk K)).2.1 = mks nx k ∧ nx + k ≤ N + 1 ∧ (K = nx → 1 ≤ k) := by
    intro hv e
    rw [e]
    have hne : K ≠ nx := by
      rintro rfl
      rcases v2.1 hv with q | ⟨h, q1, q2⟩
      · omega
      · have := gs.rg h q1; omega
    refine ⟨rfl, v, v1, hv, fun h => (by rw [hv] at h; cases h), 0, ⟨hx.ok, hx.w, hx.p, by rw [hnx]; simp, hx.h, by rw [List.length_set]; exact hx.ol, fun j j1 j2 => ?_⟩, rfl, by simp; omega, fun h => (hne h).elim⟩
    by_cases c : j = K.toNat
    · subst c
      refine ⟨true, hself, ⟨fun _ => ?_, fun _ => rfl⟩⟩
      have := v2.1 hv
      rw [hKn]; simpa using this
    · rw [hset j c]
      obtain ⟨b, b1, b2⟩ := hx.od j j1 j2
      exact ⟨b, b1, by simpa using b2⟩
  by_cases c1 : K < nx
  · exact stay (v2.2 (.inl c1)) (by unfold recvM; rw [hpm, hnx, hmn, if_pos c1])
  have c2 : ¬ nx + x.Window ≤ K := by rw [hx.w]; omega
  cases hd : (getS x.L Ig.arn).Held.find? (fun h => decide (h.Number = K)) with
  | some u =>
    have hu : u.Number = K := by have := List.find?_some hd; simpa using this
    have humem := List.mem_of_find?_eq_some hd
    have hue : u = mk K := by have := (hx.h u humem).1; rw [hu] at this; exact this
    have hsame : sameB u (mk K) = true := by unfold sameB; rw [hue, Ig.same_refl]; rfl
    refine stay (v2.2 (.inr ⟨u, humem, hu⟩)) ?_
    unfold recvM
    rw [hpm, hnx, hmn, if_neg c1, if_neg c2, hd]
    simp only [hsame, if_true]
  | none =>
    have hc3 : ¬ ∃ h ∈ (getS x.L Ig.arn).Held, h.Number = K := by
      rintro ⟨u, hu, hun⟩
      have := List.find?_eq_none.1 hd u hu
      simp [hun] at this
    have hvf : v = false := by
      cases e : v
      · rfl
      · rcases v2.1 e with q | q
        · exact (c1 q).elim
        · exact (hc3 q).elim
    have e : recvM x (mk K) = (⟨x.Window, setS (relS Ig.arn nx (insH (mk K) (getS x.L Ig.arn).Held)) x.L⟩, (insH (mk K) (getS x.L Ig.arn).Held).take (runL nx (insH (mk K) (getS x.L Ig.arn).Held)), if K = nx then 1 else 2, 0) := by
      unfold recvM
      rw [hpm, hnx, hmn, if_neg c1, if_neg c2, hd]
      simp only
      rw [if_neg (by omega)]
    have hok := recv_ok hx.ok hsm hnum (by rw [e])
    rw [e] at hok ⊢
    have hmem : ∀ h ∈ insH (mk K) (getS x.L Ig.arn).Held, h = mk h.Number ∧ h.Number ≤ N := fun h hh => by
      rcases insH_mem.1 hh with q | q
      · rw [q]; exact ⟨rfl, k2⟩
      · exact hx.h h q
    have htop := run_topI _ nx N (fun h hh => (hmem h hh).2) (by omega)
    have hrun := run_mk _ nx (fun h hh => (hmem h hh).1)
    have hspl : ∀ h, h ∈ insH (mk K) (getS x.L Ig.arn).Held ↔ h ∈ mks nx (runL nx (insH (mk K) (getS x.L Ig.arn).Held)) ∨ h ∈ (insH (mk K) (getS x.L Ig.arn).Held).drop (runL nx (insH (mk K) (getS x.L Ig.arn).Held)) := fun h => by
      rw [← hrun, ← List.mem_append, List.take_append_drop]
    have hins : ∀ h, h ∈ insH (mk K) (getS x.L Ig.arn).Held ↔ h = mk K ∨ h ∈ (getS x.L Ig.arn).Held := fun h => insH_mem
    have hg := getS_eqI (setS_spec (s := relS Ig.arn nx (insH (mk K) (getS x.L Ig.arn).Held)) hx.ok.so).1 (((setS_spec (s := relS Ig.arn nx (insH (mk K) (getS x.L Ig.arn).Held)) hx.ok.so).2.1 _).2 (.inl rfl)) (p := Ig.arn) rfl
    refine ⟨rfl, v, v1, ?_, fun _ => ⟨?_, ?_⟩, runL nx (insH (mk K) (getS x.L Ig.arn).Held), ⟨hok, hx.w, fun s hs => ?_, ?_, ?_, by rw [List.length_set]; exact hx.ol, fun j j1 j2 => ?_⟩, hrun, by omega, fun hkn => ?_⟩
    · rw [hvf]
      by_cases c : K = nx
      · simp only [if_pos c]; rfl
      · simp only [if_neg c]; rfl
    · by_cases c : K = nx
      · simp only [if_pos c]; rw [c]; simp
      · simp only [if_neg c]; rw [show (K == nx) = false from beq_false_of_ne c]; rfl
    · show (if K = nx then (1 : Int) else 2) = 1 ∨ (if K = nx then (1 : Int) else 2) = 2
      by_cases c : K = nx
      · rw [if_pos c]; exact .inl rfl
      · rw [if_neg c]; exact .inr rfl
    · rcases ((setS_spec (s := relS Ig.arn nx (insH (mk K) (getS x.L Ig.arn).Held)) hx.ok.so).2.1 s).1 hs with q | ⟨q, _⟩
      · rw [q]; rfl
      · exact hx.p s q
    · show (getS (setS _ x.L) Ig.arn).Next = _
      rw [hg]
      rfl
    · show ∀ h ∈ (getS (setS _ x.L) Ig.arn).Held, _
      rw [hg]
      intro h hh
      exact hmem h (List.mem_of_mem_drop hh)
    · show ∃ b, _ ∧ (b = true ↔ _ ∨ ∃ h ∈ (getS (setS _ x.L) Ig.arn).Held, h.Number = (j : Int))
      rw [hg]
      show ∃ b, _ ∧ (b = true ↔ _ ∨ ∃ h ∈ (insH (mk K) (getS x.L Ig.arn).Held).drop (runL nx (insH (mk K) (getS x.L Ig.arn).Held)), h.Number = (j : Int))
      have hiff : ((j : Int) < nx ∨ ∃ h ∈ insH (mk K) (getS x.L Ig.arn).Held, h.Number = (j : Int)) ↔ ((j : Int) < nx + (runL nx (insH (mk K) (getS x.L Ig.arn).Held) : Int) ∨ ∃ h ∈ (insH (mk K) (getS x.L Ig.arn).Held).drop (runL nx (insH (mk K) (getS x.L Ig.arn).Held)), h.Number = (j : Int)) := by
        constructor
        · rintro (q | ⟨h, q1, q2⟩)
          · left; omega
          · rcases (hspl h).1 q1 with q | q
            · have := mks_num _ _ _ q; left; omega
            · exact .inr ⟨h, q, q2⟩
        · rintro (q | ⟨h, q1, q2⟩)
          · by_cases c : (j : Int) < nx
            · exact .inl c
            · exact .inr ⟨mk j, (hspl _).2 (.inl (mks_mem _ _ _ (by omega) q)), rfl⟩
          · exact .inr ⟨h, (hspl h).2 (.inr q1), q2⟩
      by_cases c : j = K.toNat
      · subst c
        refine ⟨true, hself, ⟨fun _ => hiff.1 (.inr ⟨mk K, (hins _).2 (.inl rfl), by rw [hKn]; rfl⟩), fun _ => rfl⟩⟩
      · rw [hset j c]
        obtain ⟨b, b1, b2⟩ := hx.od j j1 j2
        refine ⟨b, b1, b2.trans ?_⟩
        rw [← hiff]
        constructor
        · rintro (q | ⟨h, q1, q2⟩)
          · exact .inl q
          · exact .inr ⟨h, (hins h).2 (.inr q1), q2⟩
        · rintro (q | ⟨h, q1, q2⟩)
          · exact .inl q
          · rcases (hins h).1 q1 with rfl | q1
            · exfalso
              have : K = (j : Int) := q2
              omega
            · exact .inr ⟨h, q1, q2⟩
    · have hi : insH (mk K) (getS x.L Ig.arn).Held = mk K :: (getS x.L Ig.arn).Held := by
        unfold insH
        cases hH : (getS x.L Ig.arn).Held with
        | nil => rfl
        | cons u t =>
          have := (gs.rg u (by rw [hH]; simp)).1
          have hu : ltH (mk K).Number u = false := decide_eq_false (by show ¬ u.Number < K; omega)
          rw [List.takeWhile_cons_of_neg (by rw [hu]; simp), List.dropWhile_cons_of_neg (by rw [hu]; simp)]
          rfl
      rw [hi, runL, if_pos (show (mk K).Number = nx from hkn)]
      omega
theorem ord_L2 : ∀ (r k : Nat) (n : Int), 0 ≤ n → n + r ≤ 1000 → law05_InboxOrder_L2 (mks n r) k n = some (.brk (n + r))
  | 0, k, n, _, _ => by rw [mks, law05_InboxOrder_L2]; simp
  | r + 1, k, n, h0, h1 => by
    rw [mks, law05_InboxOrder_L2, mk_eq, Option.bind_some, Ig.same_refl, Option.bind_some, Bool.not_true, cond_false, w64_id (by omega) (by omega), ord_L2 r (k + 1) (n + 1) (by omega) (by omega)]
    congr 2
    omega
theorem ord_L1 (r_1 r_2 : Int) (w0 : 0 ≤ r_1 ∧ r_1 < 8) (n0 : 0 ≤ r_2 ∧ r_2 < 12) : ∀ (f : Nat) (x : Inbox) (s : Src) (nx : Int) (o : List Bool) (i : Int), SrcOk s → Bx (1 + r_1) (1 + r_2) x nx o → 1 ≤ nx → nx ≤ 1 + r_2 + 1 → 0 ≤ i → i ≤ 60 → (i - 39 ≤ nx ∨ nx = 1 + r_2 + 1) → 60 - i < f →
    okP (law05_InboxOrder_L1 r_1 r_2 f x.Window x.L s.L s.At nx o i) (ctlQ (fun _ => False) (fun z => ∃ y o', z = (y.Window, y.L, 1 + r_2 + 1) ∧ Bx (1 + r_1) (1 + r_2) y (1 + r_2 + 1) o'))
  | 0, x, s, nx, o, i, _, _, _, _, _, _, _, h => by omega
  | f + 1, x, s, nx, o, i, hs, hx, h1, h2, h0, h60, hp, hf => by
    have eN : w64 ((1 : Int) + r_2) = 1 + r_2 := w64_id (by omega) (by omega)
    have eW : w64 ((1 : Int) + r_1) = 1 + r_1 := w64_id (by omega) (by omega)
    have fin : nx = 1 + r_2 + 1 → okP (some (Ctl.brk (x.Window, x.L, nx)) : Option (Ctl Bool (Int × List Sender × Int))) (ctlQ (fun _ => False) (fun z => ∃ y o', z = (y.Window, y.L, 1 + r_2 + 1) ∧ Bx (1 + r_1) (1 + r_2) y (1 + r_2 + 1) o')) := fun e => by
      subst e
      exact okP_some ⟨x, o, rfl, hx⟩
    have body : ∀ (s : Src) (K : Int), SrcOk s → 1 ≤ K → K ≤ 1 + r_2 → K < nx + (1 + r_1) → i < 60 → (40 ≤ i → K = nx) → okP ((law05_numbered (⟨#[65, 82, 78]⟩ : ByteArray) K).bind fun r_179 =>
    (inbox_Receive (⟨x.Window, x.L⟩ : Inbox) r_179).bind fun r_180 =>
    cond (r_180.2.2.2 != (0 : Int))
    (some (Ctl.ret false))
    ((gdA 14 K).bind fun u_181 =>
    (ixL o K).bind fun v_182 =>
    cond (!(v_182 == (r_180.2.2.1 == (3 : Int))))
    (some (Ctl.ret false))
    ((gdA 14 K).bind fun u_183 =>
    (ixL o K).bind fun v_184 =>
    cond (!v_184)
    (cond (!((r_180.2.2.1 == (1 : Int)) == (K == nx)))
    (some (Ctl.ret false))
    ((gdA 14 K).bind fun u_185 =>
    (ixL o K).bind fun v_186 =>
    cond (!v_186)
    (cond (r_180.2.2.1 != (1 : Int))
    (cond (r_180.2.2.1 != (2 : Int))
    (some (Ctl.ret false))
    ((gdA 14 K).bind fun u_187 =>
    (ixL o K).bind fun v_188 =>
    Ctl.sub (law05_InboxOrder_L2 r_180.2.1 0 nx) fun z_196 =>
    cond (decide (z_196 ≤ (w64 ((1 : Int) + r_2))))
    ((gdA 14 z_196).bind fun u_197 =>
    (ixL (o.set K.toNat true) z_196).bind fun v_198 =>
    cond v_198
    (some (Ctl.ret false))
    (law05_InboxOrder_L1 r_1 r_2 f r_180.1.Window r_180.1.L s.L s.At z_196 (o.set K.toNat true) (w64 (i + (1 : Int)))))
    (law05_InboxOrder_L1 r_1 r_2 f r_180.1.Window r_180.1.L s.L s.At z_196 (o.set K.toNat true) (w64 (i + (1 : Int))))))
    ((gdA 14 K).bind fun u_199 =>
    (ixL o K).bind fun v_200 =>
    Ctl.sub (law05_InboxOrder_L2 r_180.2.1 0 nx) fun z_208 =>
    cond (decide (z_208 ≤ (w64 ((1 : Int) + r_2))))
    ((gdA 14 z_208).bind fun u_209 =>
    (ixL (o.set K.toNat true) z_208).bind fun v_210 =>
    cond v_210
    (some (Ctl.ret false))
    (law05_InboxOrder_L1 r_1 r_2 f r_180.1.Window r_180.1.L s.L s.At z_208 (o.set K.toNat true) (w64 (i + (1 : Int)))))
    (law05_InboxOrder_L1 r_1 r_2 f r_180.1.Window r_180.1.L s.L s.At z_208 (o.set K.toNat true) (w64 (i + (1 : Int))))))
    ((gdA 14 K).bind fun u_211 =>
    (ixL o K).bind fun v_212 =>
    Ctl.sub (law05_InboxOrder_L2 r_180.2.1 0 nx) fun z_220 =>
    cond (decide (z_220 ≤ (w64 ((1 : Int) + r_2))))
    ((gdA 14 z_220).bind fun u_221 =>
    (ixL (o.set K.toNat true) z_220).bind fun v_222 =>
    cond v_222
    (some (Ctl.ret false))
    (law05_InboxOrder_L1 r_1 r_2 f r_180.1.Window r_180.1.L s.L s.At z_220 (o.set K.toNat true) (w64 (i + (1 : Int)))))
    (law05_InboxOrder_L1 r_1 r_2 f r_180.1.Window r_180.1.L s.L s.At z_220 (o.set K.toNat true) (w64 (i + (1 : Int)))))))
    ((gdA 14 K).bind fun u_223 =>
    (ixL o K).bind fun v_224 =>
    cond (!v_224)
    (cond (r_180.2.2.1 != (1 : Int))
    (cond (r_180.2.2.1 != (2 : Int))
    (some (Ctl.ret false))
    ((gdA 14 K).bind fun u_225 =>
    (ixL o K).bind fun v_226 =>
    Ctl.sub (law05_InboxOrder_L2 r_180.2.1 0 nx) fun z_234 =>
    cond (decide (z_234 ≤ (w64 ((1 : Int) + r_2))))
    ((gdA 14 z_234).bind fun u_235 =>
    (ixL (o.set K.toNat true) z_234).bind fun v_236 =>
    cond v_236
    (some (Ctl.ret false))
    (law05_InboxOrder_L1 r_1 r_2 f r_180.1.Window r_180.1.L s.L s.At z_234 (o.set K.toNat true) (w64 (i + (1 : Int)))))
    (law05_InboxOrder_L1 r_1 r_2 f r_180.1.Window r_180.1.L s.L s.At z_234 (o.set K.toNat true) (w64 (i + (1 : Int))))))
    ((gdA 14 K).bind fun u_237 =>
    (ixL o K).bind fun v_238 =>
    Ctl.sub (law05_InboxOrder_L2 r_180.2.1 0 nx) fun z_246 =>
    cond (decide (z_246 ≤ (w64 ((1 : Int) + r_2))))
    ((gdA 14 z_246).bind fun u_247 =>
    (ixL (o.set K.toNat true) z_246).bind fun v_248 =>
    cond v_248
    (some (Ctl.ret false))
    (law05_InboxOrder_L1 r_1 r_2 f r_180.1.Window r_180.1.L s.L s.At z_246 (o.set K.toNat true) (w64 (i + (1 : Int)))))
    (law05_InboxOrder_L1 r_1 r_2 f r_180.1.Window r_180.1.L s.L s.At z_246 (o.set K.toNat true) (w64 (i + (1 : Int))))))
    ((gdA 14 K).bind fun u_249 =>
    (ixL o K).bind fun v_250 =>
    Ctl.sub (law05_InboxOrder_L2 r_180.2.1 0 nx) fun z_258 =>
    cond (decide (z_258 ≤ (w64 ((1 : Int) + r_2))))
    ((gdA 14 z_258).bind fun u_259 =>
    (ixL (o.set K.toNat true) z_258).bind fun v_260 =>
    cond v_260
    (some (Ctl.ret false))
    (law05_InboxOrder_L1 r_1 r_2 f r_180.1.Window r_180.1.L s.L s.At z_258 (o.set K.toNat true) (w64 (i + (1 : Int)))))
    (law05_InboxOrder_L1 r_1 r_2 f r_180.1.Window r_180.1.L s.L s.At z_258 (o.set K.toNat true) (w64 (i + (1 : Int))))))))) (ctlQ (fun _ => False) (fun z => ∃ y o', z = (y.Window, y.L, 1 + r_2 + 1) ∧ Bx (1 + r_1) (1 + r_2) y (1 + r_2 + 1) o')) := by
      intro s K hs k1 k2 k3 hi hK
      obtain ⟨r, q1, q2, v, q3, q4, q5, k, q6, q7, q8, q9⟩ := stepI (by omega) hx h1 h2 k1 k2 k3
      rw [mk_eq, Option.bind_some]
      show okP ((inbox_Receive x (mk K)).bind _) _
      rw [q1, Option.bind_some, q2, bne_self_eq_false, cond_false]
      have hg : gdA 14 K = some () := gd14 14 (by omega) (by omega)
      have hv : ixL o K = some v := ixL_at' K.toNat (by omega) q3
      have tail : okP (Ctl.sub (law05_InboxOrder_L2 r.2.1 0 nx) fun z_196 =>
          cond (decide (z_196 ≤ (w64 ((1 : Int) + r_2))))
          ((gdA 14 z_196).bind fun u_197 =>
          (ixL (o.set K.toNat true) z_196).bind fun v_198 =>
          cond v_198
          (some (Ctl.ret false))
          (law05_InboxOrder_L1 r_1 r_2 f r.1.Window r.1.L s.L s.At z_196 (o.set K.toNat true) (w64 (i + (1 : Int)))))
          (law05_InboxOrder_L1 r_1 r_2 f r.1.Window r.1.L s.L s.At z_196 (o.set K.toNat true) (w64 (i + (1 : Int))))) (ctlQ (fun _ => False) (fun z => ∃ y o', z = (y.Window, y.L, 1 + r_2 + 1) ∧ Bx (1 + r_1) (1 + r_2) y (1 + r_2 + 1) o')) := by
        rw [q7, sub_brkE (ord_L2 k 0 nx (by omega) (by omega)), eN, w64_id (z := i + 1) (by omega) (by omega)]
        have go : okP (law05_InboxOrder_L1 r_1 r_2 f r.1.Window r.1.L s.L s.At (nx + k) (o.set K.toNat true) (i + 1)) (ctlQ (fun _ => False) (fun z => ∃ y o', z = (y.Window, y.L, 1 + r_2 + 1) ∧ Bx (1 + r_1) (1 + r_2) y (1 + r_2 + 1) o')) := by
          refine ord_L1 r_1 r_2 w0 n0 f r.1 s (nx + k) _ (i + 1) hs q6 (by omega) (by omega) (by omega) (by omega) ?_ (by omega)
          by_cases c : 40 ≤ i
          · have := q9 (hK c)
            rcases hp with hp | hp
            · left; omega
            · right; omega
          · left; omega
        refine okP_cond (fun c => ?_) (fun _ => go)
        have c := of_decide_eq_true c
        obtain ⟨b, b1, b2⟩ := q6.od (nx + k).toNat (by omega) (by omega)
        rw [gd14 14 (by omega) (by omega), Option.bind_some, ixL_at' (nx + k).toNat (by omega) b1, Option.bind_some]
        have hb : b = false := by
          cases e : b
          · rfl
          · exfalso
            obtain ⟨gs, gp⟩ := getS_ok q6.ok Ig.arn
            have hn := q6.nn
            rcases b2.1 e with g | ⟨h, g1, g2⟩
            · omega
            · have := gs.rg h g1; omega
        rw [hb, cond_false]
        exact go
      simp only [hg, hv, Option.bind_some]
      rw [q4]
      simp only [beq_self_eq_true, Bool.not_true, cond_false]
      rw [← q4]
      cases hvv : v
      · obtain ⟨g1, g2⟩ := q5 hvv
        simp only [Bool.not_false, cond_true, g1, beq_self_eq_true, Bool.not_true, cond_false]
        rcases g2 with g2 | g2
        · rw [g2, show ((1 : Int) != 1) = false from rfl, cond_false]
          exact tail
        · rw [g2, show ((2 : Int) != 1) = true from rfl, cond_true, show ((2 : Int) != 2) = false from rfl, cond_false]
          exact tail
      · simp only [Bool.not_true, cond_false]
        exact tail
    rw [law05_InboxOrder_L1]
    refine okP_cond (fun c => ?_) (fun c => fin ?_)
    · have hi := of_decide_eq_true c
      refine okP_cond (fun d => ?_) (fun d => fin ?_)
      · have d := of_decide_eq_true d
        rw [eN] at d
        have e3 : w64 (w64 (nx + w64 ((1 : Int) + r_1)) - 1) = nx + (1 + r_1) - 1 := by
          rw [eW, w64_id (z := nx + (1 + r_1)) (by omega) (by omega), w64_id (by omega) (by omega)]
        refine okP_bind (R := fun r => 1 ≤ r.1 ∧ (r.1 ≤ 1 + r_2 ∧ r.1 < nx + (1 + r_1)) ∧ SrcOk r.2) (by
          rw [e3, eN]
          refine okP_mono (Range_ok s 1 _ hs (by split <;> omega) (by omega) (by split <;> omega)) (fun r hr => ?_)
          obtain ⟨q1, q2, q3⟩ := hr
          exact ⟨q1, by split at q2 <;> omega, q3⟩) (fun r hr => ?_)
        obtain ⟨q1, q4, q3⟩ := hr
        refine okP_cond (fun _ => body r.2 nx q3 (by omega) (by omega) (by omega) hi (fun _ => rfl)) (fun g => okP_bind (R := fun _ => True) (okP_some trivial) (fun b _ => okP_cond (fun _ => body r.2 nx q3 (by omega) (by omega) (by omega) hi (fun _ => rfl)) (fun _ => body r.2 r.1 q3 q1 q4.1 q4.2 hi (fun g2 => ?_))))
        have := of_decide_eq_false g
        omega
      · have := of_decide_eq_false d
        rw [eN] at this
        omega
    · have := of_decide_eq_false c
      rcases hp with hp | hp <;> omega
theorem order_ok (window n : Int) (picks : List Int) : law05_InboxOrder window n picks = some true := by
  refine okP_eq ?_
  unfold law05_InboxOrder
  rw [mod_eq window 8 (by omega) (by omega), mod_eq n 12 (by omega) (by omega)]
  simp only [Option.bind_some]
  obtain ⟨r1, h1⟩ : ∃ r, r = window % 8 := ⟨_, rfl⟩
  obtain ⟨r2, h2⟩ : ∃ r, r = n % 12 := ⟨_, rfl⟩
  rw [← h1, ← h2]
  have w0 : 0 ≤ r1 ∧ r1 < 8 := by omega
  have n0 : 0 ≤ r2 ∧ r2 < 12 := by omega
  rw [w64_id (z := 1 + r1) (by omega) (by omega), new_eq (by omega) (by omega)]
  simp only [Option.bind_some, bne_self_eq_false, cond_false]
  refine okP_bind (New_ok picks) fun r4 h4 => okP_bindE (x := List.replicate 14 false) rfl ?_
  have hB : Bx (1 + r1) (1 + r2) ⟨1 + r1, []⟩ 1 (List.replicate 14 false) := ⟨inew_ok (by omega) (by omega), rfl, by simp, rfl, fun h hh => (by cases hh), List.length_replicate, fun j j1 j2 => ⟨false, by rw [List.getElem?_replicate, if_pos j2], ⟨fun h => (by cases h), fun h => by
    rcases h with h | ⟨h, hh, _⟩
    · omega
    · cases hh⟩⟩⟩
  refine okP_finB (ord_L1 r1 r2 w0 n0 9223372036854775807 ⟨1 + r1, []⟩ r4 1 _ 0 h4 hB (by omega) (by omega) (by omega) (by omega) (by omega) (by omega)) ?_
  rintro z ⟨y, o', rfl, hy⟩
  dsimp only
  rw [w64_id (z := 1 + r2) (by omega) (by omega), w64_id (z := 1 + r2 + 1) (by omega) (by omega), beq_self_eq_true, cond_true]
  show okP ((inbox_Missing y Ig.arn).bind _) _
  have hm := (miss_both hy.ok Ig.arn).1
  have hH : (getS y.L Ig.arn).Held = [] := by
    cases e : (getS y.L Ig.arn).Held with
    | nil => rfl
    | cons h t =>
      exfalso
      obtain ⟨gs, gp⟩ := getS_ok hy.ok Ig.arn
      have a1 := gs.rg h (by rw [e]; simp)
      have a2 := hy.h h (by rw [e]; simp)
      have a3 := hy.nn
      omega
  rw [hH] at hm
  rw [hm, Option.bind_some, awake05]
  exact okP_some rfl
end Go.Proofs.Ytpipggnfbgjefaa.Ex.Ib
