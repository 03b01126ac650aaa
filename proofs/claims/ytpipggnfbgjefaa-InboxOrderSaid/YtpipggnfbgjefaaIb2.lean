/- The inbox: Receive of the program is the model's; the inbox stays in order. -/
import Derived.Test.YtpipggnfbgjefaaIb1
namespace Go.Proofs.Ytpipggnfbgjefaa.Ex.Ib
open Go.RowKit Go.Proofs.Ytpipggnfbgjefaa.Ax
set_option linter.unusedVariables false
set_option linter.unusedSimpArgs false

theorem copied_eq (m : Message) (h : smallMs m) : inbox_copied m = some m := by
  unfold inbox_copied slices_Clone_Leg slices_Clone_int
  rw [apL_eq (by simp; have := h.1; omega)]
  simp only [Option.bind_some]
  rw [apL_eq (by simp; have := h.2; omega)]
  rfl
theorem clone_L2 : ∀ (H : List Message) (k : Nat) (acc : List Message), (∀ h ∈ H, smallMs h) → acc.length + H.length ≤ 1000 → inbox_clone_L2 H k acc = some (.brk (acc ++ H))
  | [], k, acc, _, _ => by simp [inbox_clone_L2]
  | h :: H, k, acc, hs, hl => by
    simp only [List.length_cons] at hl
    rw [inbox_clone_L2, copied_eq h (hs h (by simp))]
    simp only [Option.bind_some]
    rw [apL_eq (by simp; omega)]
    simp only [Option.bind_some]
    rw [clone_L2 H (k + 1) (acc ++ [h]) (fun x hx => hs x (by simp [hx])) (by simp; omega)]
    simp
theorem clone_L1 : ∀ (L : List Sender) (k : Nat) (acc : List Sender), (∀ s ∈ L, (∀ h ∈ s.Held, smallMs h) ∧ s.Held.length ≤ 900) → acc.length + L.length ≤ 1000 → inbox_clone_L1 L k acc = some (.brk (acc ++ L))
  | [], k, acc, _, _ => by simp [inbox_clone_L1]
  | s :: L, k, acc, hs, hl => by
    simp only [List.length_cons] at hl
    have h0 := hs s (by simp)
    rw [inbox_clone_L1, clone_L2 s.Held 0 [] h0.1 (by simp; omega)]
    simp only [Ctl.sub, List.nil_append]
    rw [apL_eq (by simp; omega)]
    simp only [Option.bind_some]
    rw [clone_L1 L (k + 1) _ (fun x hx => hs x (by simp [hx])) (by simp; omega)]
    simp
theorem clone_eq {x : Inbox} (hx : IOk x) : inbox_clone x = some x := by
  unfold inbox_clone
  rw [clone_L1 x.L 0 [] (fun s hs => ⟨(hx.s s hs).sm, by have := (hx.s s hs).len hx.w; omega⟩) (by have := hx.n; simp; omega)]
  rfl

theorem run_le : ∀ (H : List Message) (n : Int), runL n H ≤ H.length
  | [], n => by simp [runL]
  | h :: t, n => by
    have := run_le t (n + 1)
    rw [runL]
    split <;> simp <;> omega
/-- release, of sender i -/
theorem prel_L (i : Nat) (p : ByteArray) (H : List Message) (hl : H.length ≤ 1000) (n0 : Int) (h0 : 0 ≤ n0) (h1 : n0 ≤ 100000) : ∀ (fuel : Nat) (L : List Sender) (j : Nat), L[i]? = some ⟨p, n0 + j, H⟩ → j ≤ H.length → H.length < fuel + j → (runL n0 H = j + runL (n0 + j) (H.drop j)) →
    inbox_release_L1 i fuel L (j : Int) = some (.brk (L.set i ⟨p, n0 + (runL n0 H : Nat), H⟩, (runL n0 H : Int))) := by
  intro fuel
  induction fuel with
  | zero => intro L j _ h2 h3; omega
  | succ fuel ih =>
    intro L j hL hj hf hr
    have hil := (List.getElem?_eq_some_iff.1 hL).1
    rw [inbox_release_L1, ixL_at' i rfl hL]
    simp only [Option.bind_some]
    by_cases c : j < H.length
    · have hx := List.getElem?_eq_getElem c
      rw [decide_eq_true (by omega), cond_true, ixL_at' j rfl hx]
      simp only [Option.bind_some]
      rw [drop_cons hx, runL] at hr
      by_cases c2 : H[j].Number = n0 + j
      · rw [show (H[j].Number == n0 + (j : Int)) = true from by simpa using c2, cond_true, w64_id (by omega) (by omega), w64_id (by omega) (by omega), show (j : Int) + 1 = ((j + 1 : Nat) : Int) by omega, show ((i : Int)).toNat = i by omega]
        rw [if_pos c2] at hr
        rw [ih (L.set i ⟨p, n0 + (j : Int) + 1, H⟩) (j + 1) (by rw [List.getElem?_set_self hil, Int.add_assoc]; rfl) (by omega) (by omega) (by rw [hr, show n0 + ((j + 1 : Nat) : Int) = n0 + (j : Int) + 1 by omega]; omega)]
        rw [List.set_set]
      · rw [show (H[j].Number == n0 + (j : Int)) = false from by simpa using c2, cond_false]
        rw [if_neg c2, Nat.add_zero] at hr
        rw [hr]
        congr 3
        refine (List.ext_getElem? fun k => ?_)
        by_cases e : i = k
        · subst e; rw [List.getElem?_set_self hil, hL]
        · rw [List.getElem?_set_ne e]
    · rw [decide_eq_false (by omega), cond_false]
      rw [List.drop_of_length_le (by omega), runL, Nat.add_zero] at hr
      rw [hr]
      congr 3
      refine (List.ext_getElem? fun k => ?_)
      by_cases e : i = k
      · subst e; rw [List.getElem?_set_self hil, hL]
      · rw [List.getElem?_set_ne e]
theorem prel_eq (i : Nat) (p : ByteArray) (H : List Message) (hl : H.length ≤ 1000) (n0 : Int) (h0 : 0 ≤ n0) (h1 : n0 ≤ 100000) (L : List Sender) (hL : L[i]? = some ⟨p, n0, H⟩) : inbox_release L i = some (H.take (runL n0 H), L.set i (relS p n0 H)) := by
  have hil := (List.getElem?_eq_some_iff.1 hL).1
  have hr := run_le H n0
  unfold inbox_release
  have := prel_L i p H hl n0 h0 h1 9223372036854775807 L 0 (by simpa using hL) (by omega) (by omega) (by simp)
  rw [show ((0 : Nat) : Int) = 0 from rfl] at this
  rw [this]
  simp only [Ctl.fin]
  rw [ixL_at' i rfl (List.getElem?_set_self hil)]
  simp only [Option.bind_some]
  rw [slL_eq (by omega) (by omega) (by omega)]
  simp only [Option.bind_some]
  unfold slices_Clone_Message
  rw [apL_eq (by simp; omega)]
  simp only [Option.bind_some]
  rw [slL_eq (by omega) (by omega) (by omega)]
  simp only [Option.bind_some]
  rw [apL_eq (by simp; omega)]
  simp only [Option.bind_some, List.nil_append]
  rw [show ((i : Int)).toNat = i by omega, List.set_set, show ((runL n0 H : Int)).toNat = runL n0 H by omega, show ((H.length : Int)).toNat = H.length by omega, show (0 : Int).toNat = 0 from rfl, List.drop_zero, Nat.sub_zero, List.take_of_length_le (l := H.drop (runL n0 H)) (by simp)]
  rfl

theorem setS_old {L : List Sender} {p : ByteArray} (hs : sortS L) (h : ∃ s ∈ L, s.Port = p) (s : Sender) (hp : s.Port = p) : setS s L = L.set (posS L p) s := by
  obtain ⟨h1, h2, _⟩ := getS_some hs h
  have hlt := (List.getElem?_eq_some_iff.1 h1).1
  unfold setS
  rw [hp]
  have hd : L.dropWhile (ltS p) = getS L p :: L.drop (posS L p + 1) := by
    rw [← drop_tw]
    exact drop_cons h1
  rw [hd]
  simp only [h2, if_true]
  rw [← take_tw (p := ltS p) L]
  show L.take (posS L p) ++ s :: L.drop (posS L p + 1) = _
  rw [List.set_eq_take_append_cons_drop, if_pos hlt]
theorem setS_new {L : List Sender} {p : ByteArray} (h : ¬ ∃ s ∈ L, s.Port = p) (s : Sender) (hp : s.Port = p) : setS s L = L.take (posS L p) ++ [s] ++ L.drop (posS L p) := by
  unfold setS
  rw [hp, ← take_tw (p := ltS p) L, ← drop_tw (p := ltS p) L]
  show L.take (posS L p) ++ s :: (match L.drop (posS L p) with | [] => [] | e :: t => if e.Port = p then t else e :: t) = L.take (posS L p) ++ [s] ++ L.drop (posS L p)
  cases hd : L.drop (posS L p) with
  | nil => simp
  | cons e t =>
    have he : e ∈ L := List.mem_of_mem_drop (i := posS L p) (by rw [hd]; simp)
    have : ¬ e.Port = p := fun c => h ⟨e, he, c⟩
    simp [this]

theorem insL_held {H : List Message} {m : Message} (hl : H.length ≤ 1000) : insL H (posH H m.Number : Int) [m] = some (insH m H) := by
  have hp : posH H m.Number ≤ H.length := tw_le H
  unfold insL
  rw [if_pos ⟨by omega, by omega, by simp, by simp; omega⟩]
  congr 1
  rw [show ((posH H m.Number : Int)).toNat = posH H m.Number by omega]
  unfold insH
  rw [← take_tw (p := ltH m.Number) H, ← drop_tw (p := ltH m.Number) H]
  simp [posH]
theorem run_none {n : Int} {H : List Message} (hs : sortH H) (h : ∀ x ∈ H, n < x.Number) : runL n H = 0 := by
  cases H with
  | nil => rfl
  | cons x H =>
    rw [runL, if_neg (by have := h x (by simp); omega)]

/-- Receive of the program, of a valid message -/
theorem precv_eq (x : Inbox) (hx : IOk x) (m : Message) (hv : message_Validate m = some 0) (hsm : smallMs m) (hm : 1 ≤ m.Number ∧ m.Number ≤ 9999) : inbox_Receive x m = some (recvM x m) := by
  obtain ⟨gs, gp⟩ := getS_ok hx m.Port
  have hw := hx.w
  have hlen := gs.len hw
  have nx := gs.nx
  have hn := hx.n
  unfold inbox_Receive recvM
  rw [hv]
  simp only [Option.bind_some, bne_self_eq_false, cond_false]
  unfold inbox_find
  rw [search_S m.Port x.L hx.so (by omega)]
  simp only [Option.bind_some]
  by_cases ck : ∃ s ∈ x.L, s.Port = m.Port
  · rw [decide_eq_true ck, cond_true]
    obtain ⟨e1, e2, e3⟩ := getS_some hx.so ck
    rw [ixL_at' _ rfl e1]
    simp only [Option.bind_some]
    have hhas : hasS x.L m.Port = true := decide_eq_true ck
    generalize hS : getS x.L m.Port = s at gs gp hlen nx e1 e2 e3 ⊢
    rw [search_H m.Number s.Held gs.so (by omega)]
    simp only [Option.bind_some]
    by_cases c1 : m.Number < s.Next
    · rw [decide_eq_true c1, cond_true, if_pos c1, clone_eq hx]; rfl
    rw [decide_eq_false c1, cond_false, if_neg c1, w64_id (by omega) (by omega)]
    by_cases c2 : s.Next + x.Window ≤ m.Number
    · rw [decide_eq_true c2, cond_true, if_pos c2, clone_eq hx]; rfl
    rw [decide_eq_false c2, cond_false, if_neg c2]
    by_cases c3 : ∃ h ∈ s.Held, h.Number = m.Number
    · obtain ⟨h, f1, f2⟩ := (foundH gs.so m.Number).1 c3
      have ff : s.Held.find? (fun h => decide (h.Number = m.Number)) = some h := by
        rw [List.find?_eq_some_iff_getElem]
        refine ⟨by simpa using f2, posH s.Held m.Number, (List.getElem?_eq_some_iff.1 f1).1, (List.getElem?_eq_some_iff.1 f1).2, fun j hj => ?_⟩
        have hjl : j < s.Held.length := by have := (List.getElem?_eq_some_iff.1 f1).1; omega
        have := (tw_idx (monoH gs.so m.Number) (List.getElem?_eq_getElem hjl)).2 hj
        have : s.Held[j].Number < m.Number := of_decide_eq_true this
        simp
        omega
      rw [decide_eq_true c3, cond_true, ixL_at' _ rfl f1, ff]
      simp only [Option.bind_some]
      rw [Mv.msame_eq]
      obtain ⟨b, hb, _⟩ := Mv.same_t h m
      unfold sameB
      rw [hb]
      simp only [Option.bind_some, Option.getD_some]
      cases b <;> (simp only [cond_true, cond_false]; rw [clone_eq hx]; rfl)
    · rw [decide_eq_false c3, cond_false, find_no c3]
      simp only [hhas, Bool.true_eq_false, false_and, if_false]
      have hne : ∀ h ∈ s.Held, h.Number ≠ m.Number := fun h hh e => c3 ⟨h, hh, e⟩
      have hsort := insH_sort (m := m) gs.so hne
      unfold focE
      rw [clone_eq hx]
      simp only [Option.bind_some]
      rw [ixL_at' _ rfl e1]
      simp only [Option.bind_some]
      rw [copied_eq m hsm]
      simp only [Option.bind_some]
      unfold slices_Insert_Message
      rw [insL_held (by omega)]
      simp only [Option.bind_some]
      have hil := (List.getElem?_eq_some_iff.1 e1).1
      rw [show ((posS x.L m.Port : Int)).toNat = posS x.L m.Port by omega]
      rw [ixL_at' _ rfl (List.getElem?_set_self hil)]
      simp only [Option.bind_some]
      rw [setS_old hx.so ck _ rfl]
      by_cases c4 : s.Next < m.Number
      · rw [decide_eq_true c4, cond_true, if_neg (by omega)]
        have hr : runL s.Next (insH m s.Held) = 0 := run_none hsort fun h hh => by
          rcases insH_mem.1 hh with rfl | hh
          · exact c4
          · exact (gs.rg h hh).1
        unfold relS
        rw [hr, gp]
        simp
      · have c5 : m.Number = s.Next := by omega
        rw [decide_eq_false c4, cond_false, if_pos c5]
        rw [prel_eq (posS x.L m.Port) m.Port (insH m s.Held) (by rw [insH_len]; omega) s.Next (by omega) (by omega) _ (by rw [List.getElem?_set_self hil, gp])]
        simp only [Option.bind_some]
        rw [List.set_set]
  · rw [decide_eq_false ck, cond_false]
    have hhas : hasS x.L m.Port = false := decide_eq_false ck
    rw [getS_none ck]
    have hb : slices_BinarySearchFunc_int ([] : List Message) m.Number = some (0, false) := by
      rw [search_H m.Number [] List.Pairwise.nil (by simp)]
      simp [posH]
    rw [hb]
    simp only [Option.bind_some]
    have n1 : (newS m.Port).Next = 1 := rfl
    have n2 : (newS m.Port).Held = [] := rfl
    by_cases c1 : m.Number < 1
    · omega
    rw [n1, n2]
    rw [decide_eq_false c1, cond_false, if_neg c1]
    rw [w64_id (by omega) (by omega)]
    by_cases c2 : 1 + x.Window ≤ m.Number
    · rw [decide_eq_true c2, cond_true, if_pos c2, clone_eq hx]; rfl
    rw [decide_eq_false c2, cond_false, if_neg c2, cond_false]
    simp only [List.find?_nil, hhas, true_and]
    by_cases c4 : 16 ≤ x.L.length
    · rw [decide_eq_true (by omega), cond_true, if_pos c4]
    · rw [decide_eq_false (by omega), cond_false, if_neg c4, clone_eq hx]
      simp only [Option.bind_some]
      have hpl : posS x.L m.Port ≤ x.L.length := tw_le x.L
      have hins : ∀ e : Sender, insL x.L (posS x.L m.Port : Int) [e] = some (x.L.take (posS x.L m.Port) ++ [e] ++ x.L.drop (posS x.L m.Port)) := fun e => by
        unfold insL
        rw [if_pos ⟨by omega, by omega, by simp, by simp; omega⟩, show ((posS x.L m.Port : Int)).toNat = posS x.L m.Port by omega]
      have hset : ∀ e e' : Sender, (x.L.take (posS x.L m.Port) ++ [e] ++ x.L.drop (posS x.L m.Port)).set (posS x.L m.Port) e' = x.L.take (posS x.L m.Port) ++ [e'] ++ x.L.drop (posS x.L m.Port) := fun e e' => by
        rw [List.append_assoc, List.set_append_right _ _ (by rw [List.length_take]; omega)]
        rw [List.length_take, Nat.min_eq_left hpl, Nat.sub_self]
        simp
      have hget : ∀ e : Sender, (x.L.take (posS x.L m.Port) ++ [e] ++ x.L.drop (posS x.L m.Port))[posS x.L m.Port]? = some e := fun e => by
        rw [List.append_assoc, List.getElem?_append_right (by rw [List.length_take]; omega), List.length_take, Nat.min_eq_left hpl, Nat.sub_self]
        rfl
      rw [hins]
      simp only [Option.bind_some]
      rw [copied_eq m hsm]
      simp only [Option.bind_some]
      unfold slices_Insert_Message_v2
      have hi0 : insL ([] : List Message) (0 : Int) [m] = some [m] := by
        unfold insL
        rw [if_pos ⟨by omega, by simp, by simp, by simp⟩]
        simp
      rw [hi0]
      simp only [Option.bind_some]
      rw [show ((posS x.L m.Port : Int)).toNat = posS x.L m.Port by omega, hset]
      rw [ixL_at' _ rfl (hget _)]
      simp only [Option.bind_some]
      rw [setS_new ck _ rfl]
      have hiH : insH m [] = [m] := rfl
      rw [hiH]
      by_cases c5 : 1 < m.Number
      · rw [decide_eq_true c5, cond_true, if_neg (by omega)]
        have hr : runL 1 [m] = 0 := by rw [runL, if_neg (by omega)]
        unfold relS
        rw [hr]
        simp
      · have c6 : m.Number = 1 := by omega
        rw [decide_eq_false c5, cond_false, if_pos c6]
        rw [prel_eq (posS x.L m.Port) m.Port [m] (by simp) 1 (by omega) (by omega) _ (hget _)]
        simp only [Option.bind_some]
        rw [hset]

/-! the inbox stays in order -/
theorem run_pos : ∀ (H : List Message) (n : Int), sortH H → (∀ h ∈ H, n ≤ h.Number) → ∀ h ∈ H.drop (runL n H), n + (runL n H : Int) < h.Number
  | [], n, _, _, h, hh => by simp at hh
  | x :: t, n, hs, hn, h, hh => by
    unfold sortH at hs
    rw [List.pairwise_cons] at hs
    rw [runL] at hh ⊢
    have h0 := hn x (by simp)
    by_cases c : x.Number = n
    · rw [if_pos c] at hh ⊢
      rw [List.drop_succ_cons] at hh
      have := run_pos t (n + 1) hs.2 (fun y hy => by have := hs.1 y hy; omega) h hh
      omega
    · rw [if_neg c] at hh ⊢
      simp only [List.drop_zero] at hh
      rcases List.mem_cons.1 hh with rfl | hh
      · omega
      · have := hs.1 h hh; omega
theorem run_next : ∀ (H : List Message) (n : Int), (∀ h ∈ H, h.Number ≤ 9999) → n ≤ 10000 → n + (runL n H : Int) ≤ 10000
  | [], n, _, h => by simp [runL]; omega
  | x :: t, n, hs, h => by
    rw [runL]
    by_cases c : x.Number = n
    · rw [if_pos c]
      have := hs x (by simp)
      have := run_next t (n + 1) (fun y hy => hs y (by simp [hy])) (by omega)
      omega
    · rw [if_neg c]; simp; omega
theorem rel_ok {W : Int} (hW : 1 ≤ W) {p : ByteArray} {n : Int} {H : List Message} (h1 : 1 ≤ n) (h2 : n ≤ 10000) (hs : sortH H) (hr : ∀ h ∈ H, n ≤ h.Number ∧ h.Number < n + W ∧ h.Number ≤ 9999) (hm : ∀ h ∈ H, smallMs h) : SOk W (relS p n H) := by
  refine ⟨⟨by show 1 ≤ n + _; omega, run_next H n (fun h hh => (hr h hh).2.2) h2⟩, hs.drop, fun h hh => ?_, fun h hh => hm h (List.mem_of_mem_drop hh)⟩
  have h3 := hr h (List.mem_of_mem_drop hh)
  have h4 := run_pos H n hs (fun x hx => (hr x hx).1) h hh
  exact ⟨h4, by show h.Number < n + (runL n H : Int) + W; omega, h3.2.2⟩
theorem dwS_gt {p : ByteArray} {L : List Sender} (hs : sortS L) : ∀ e ∈ L.dropWhile (ltS p), ¬ By.slt e.Port p := by
  induction L with
  | nil => intro e he; simp at he
  | cons x L ih =>
    unfold sortS at hs
    rw [List.pairwise_cons] at hs
    intro e he
    by_cases c : ltS p x = true
    · rw [List.dropWhile_cons_of_pos c] at he
      exact ih hs.2 e he
    · rw [List.dropWhile_cons_of_neg c] at he
      have c' : ¬ By.slt x.Port p := fun h => c (decide_eq_true h)
      rcases List.mem_cons.1 he with rfl | he
      · exact c'
      · exact fun h => c' (By.slt_trans (hs.1 e he) h)
theorem setS_spec {L : List Sender} {s : Sender} (hs : sortS L) : sortS (setS s L) ∧ (∀ e, e ∈ setS s L ↔ e = s ∨ (e ∈ L ∧ e.Port ≠ s.Port)) ∧ (setS s L).length ≤ L.length + 1 ∧ ((∃ e ∈ L, e.Port = s.Port) → (setS s L).length = L.length) := by
  have hsplit := List.takeWhile_append_dropWhile (p := ltS s.Port) (l := L)
  have hs0 := hs
  unfold sortS at hs
  rw [← hsplit, List.pairwise_append] at hs
  have htw : ∀ e ∈ L.takeWhile (ltS s.Port), By.slt e.Port s.Port := fun e he => of_decide_eq_true (show ltS s.Port e = true from tw_all he)
  have hdw := dwS_gt (p := s.Port) hs0
  have hmemL : ∀ e, e ∈ L ↔ e ∈ L.takeWhile (ltS s.Port) ∨ e ∈ L.dropWhile (ltS s.Port) := fun e => by rw [← List.mem_append, hsplit]
  have hlen := congrArg List.length hsplit
  rw [List.length_append] at hlen
  unfold setS
  cases hd : L.dropWhile (ltS s.Port) with
  | nil =>
    rw [hd] at hs hdw hmemL hlen
    simp only
    refine ⟨?_, fun e => ?_, by simp at hlen ⊢; omega, ?_⟩
    · unfold sortS
      rw [List.pairwise_append]
      exact ⟨hs.1, by simp, fun a ha b hb => by simp at hb; subst hb; exact htw a ha⟩
    · rw [List.mem_append, hmemL]
      constructor
      · rintro (h | h)
        · exact .inr ⟨.inl h, By.slt_ne (htw e h)⟩
        · simp at h; exact .inl h
      · rintro (h | ⟨h | h, _⟩)
        · exact .inr (by simp [h])
        · exact .inl h
        · simp at h
    · rintro ⟨e, he, h⟩
      rcases (hmemL e).1 he with h' | h'
      · exact (By.slt_ne (htw e h') h).elim
      · simp at h'
  | cons x t =>
    rw [hd] at hs hdw hmemL hlen
    simp only
    have hxt : ∀ y ∈ t, By.slt x.Port y.Port := (List.pairwise_cons.1 hs.2.1).1
    by_cases c : x.Port = s.Port
    · rw [if_pos c]
      refine ⟨?_, fun e => ?_, by simp at hlen ⊢; omega, fun _ => by simp at hlen ⊢; omega⟩
      · unfold sortS
        rw [List.pairwise_append]
        refine ⟨hs.1, List.pairwise_cons.2 ⟨fun y hy => c ▸ hxt y hy, (List.pairwise_cons.1 hs.2.1).2⟩, fun a ha b hb => ?_⟩
        rcases List.mem_cons.1 hb with rfl | hb
        · exact htw a ha
        · exact By.slt_trans (htw a ha) (c ▸ hxt b hb)
      · rw [List.mem_append, hmemL, List.mem_cons, List.mem_cons]
        constructor
        · rintro (h | h | h)
          · exact .inr ⟨.inl h, By.slt_ne (htw e h)⟩
          · exact .inl h
          · exact .inr ⟨.inr (.inr h), fun e' => By.slt_irr (a := x.Port) (by have := hxt e h; rwa [e', ← c] at this)⟩
        · rintro (h | ⟨h | h | h, hne⟩)
          · exact .inr (.inl h)
          · exact .inl h
          · exact (hne (h ▸ c)).elim
          · exact .inr (.inr h)
    · rw [if_neg c]
      have hsx : By.slt s.Port x.Port := by
        rcases By.slt_tri s.Port x.Port with h | h | h
        · exact h
        · exact (c h.symm).elim
        · exact (hdw x (by simp) h).elim
      refine ⟨?_, fun e => ?_, by simp at hlen ⊢; omega, ?_⟩
      · unfold sortS
        rw [List.pairwise_append]
        refine ⟨hs.1, List.pairwise_cons.2 ⟨fun y hy => ?_, hs.2.1⟩, fun a ha b hb => ?_⟩
        · rcases List.mem_cons.1 hy with rfl | hy
          · exact hsx
          · exact By.slt_trans hsx (hxt y hy)
        · rcases List.mem_cons.1 hb with rfl | hb
          · exact htw a ha
          · exact hs.2.2 a ha b hb
      · rw [List.mem_append, hmemL, List.mem_cons]
        constructor
        · rintro (h | h | h)
          · exact .inr ⟨.inl h, By.slt_ne (htw e h)⟩
          · exact .inl h
          · refine .inr ⟨.inr h, fun e' => ?_⟩
            rcases List.mem_cons.1 h with rfl | h
            · exact c e'
            · exact By.slt_irr (By.slt_trans hsx (by have := hxt e h; rwa [e'] at this))
        · rintro (h | ⟨h | h, hne⟩)
          · exact .inr (.inl h)
          · exact .inl h
          · exact .inr (.inr h)
      · rintro ⟨e, he, h⟩
        rcases (hmemL e).1 he with h' | h'
        · exact (By.slt_ne (htw e h') h).elim
        · exfalso
          rcases List.mem_cons.1 h' with rfl | h'
          · exact c h
          · exact By.slt_irr (By.slt_trans hsx (by have := hxt e h'; rwa [h] at this))
theorem setS_ok {x : Inbox} (hx : IOk x) {s : Sender} (hs : SOk x.Window s) (hn : x.L.length ≤ 15 ∨ ∃ e ∈ x.L, e.Port = s.Port) : IOk ⟨x.Window, setS s x.L⟩ := by
  obtain ⟨h1, h2, h3, h4⟩ := setS_spec (s := s) hx.so
  refine ⟨hx.w, ?_, h1, fun e he => ?_⟩
  · rcases hn with hn | hn
    · show (setS s x.L).length ≤ 16; omega
    · show (setS s x.L).length ≤ 16; rw [h4 hn]; exact hx.n
  · rcases (h2 e).1 he with rfl | ⟨he, _⟩
    · exact hs
    · exact hx.s e he
theorem recv_rel {x : Inbox} (hx : IOk x) {m : Message} (hsm : smallMs m) (hm : 1 ≤ m.Number ∧ m.Number ≤ 9999) (c1 : ¬ m.Number < (getS x.L m.Port).Next) (c2 : ¬ (getS x.L m.Port).Next + x.Window ≤ m.Number) (c3 : ¬ ∃ h ∈ (getS x.L m.Port).Held, h.Number = m.Number) : SOk x.Window (relS m.Port (getS x.L m.Port).Next (insH m (getS x.L m.Port).Held)) := by
  obtain ⟨gs, gp⟩ := getS_ok hx m.Port
  refine rel_ok hx.w.1 gs.nx.1 gs.nx.2 (insH_sort gs.so (fun h hh e => c3 ⟨h, hh, e⟩)) (fun h hh => ?_) (fun h hh => ?_)
  · rcases insH_mem.1 hh with rfl | hh
    · exact ⟨by omega, by omega, hm.2⟩
    · have := gs.rg h hh; exact ⟨by omega, this.2⟩
  · rcases insH_mem.1 hh with rfl | hh
    · exact hsm
    · exact gs.sm h hh
theorem recv_ok {x : Inbox} (hx : IOk x) {m : Message} (hsm : smallMs m) (hm : 1 ≤ m.Number ∧ m.Number ≤ 9999) (h0 : (recvM x m).2.2.2 = 0) : IOk (recvM x m).1 := by
  unfold recvM at h0 ⊢
  by_cases c1 : m.Number < (getS x.L m.Port).Next
  · rw [if_pos c1]; exact hx
  rw [if_neg c1] at h0 ⊢
  by_cases c2 : (getS x.L m.Port).Next + x.Window ≤ m.Number
  · rw [if_pos c2]; exact hx
  rw [if_neg c2] at h0 ⊢
  by_cases c3 : ∃ h ∈ (getS x.L m.Port).Held, h.Number = m.Number
  · obtain ⟨_, h, f2, _⟩ := find_tw m.Number _ c3
    rw [f2]
    exact hx
  · rw [find_no c3] at h0 ⊢
    simp only at h0 ⊢
    by_cases c4 : hasS x.L m.Port = false ∧ 16 ≤ x.L.length
    · rw [if_pos c4] at h0; cases h0
    · rw [if_neg c4]
      refine setS_ok hx (recv_rel hx hsm hm c1 c2 c3) ?_
      by_cases c5 : hasS x.L m.Port = false
      · exact .inl (by have : ¬ 16 ≤ x.L.length := fun h => c4 ⟨c5, h⟩; omega)
      · exact .inr (of_decide_eq_true (show hasS x.L m.Port = true from by revert c5; cases hasS x.L m.Port <;> simp))
end Go.Proofs.Ytpipggnfbgjefaa.Ex.Ib
