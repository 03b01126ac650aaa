/- The inbox: searching, the model of Receive; the reference's Receive is the model's. -/
import Derived.Test.YtpipggnfbgjefaaMv
import Derived.Test.YtpipggnfbgjefaaBy
import Derived.Test.YtpipggnfbgjefaaKp
namespace Go.Proofs.Ytpipggnfbgjefaa.Ex.Ib
open Go.RowKit Go.Proofs.Ytpipggnfbgjefaa.Ax
set_option linter.unusedVariables false
set_option linter.unusedSimpArgs false

/-! lists, the first part of which is told by a test -/
theorem take_tw {α : Type} {p : α → Bool} : ∀ l : List α, l.take (l.takeWhile p).length = l.takeWhile p
  | [] => rfl
  | x :: l => by
    by_cases c : p x = true
    · rw [List.takeWhile_cons_of_pos c, List.length_cons, List.take_succ_cons, take_tw l]
    · rw [List.takeWhile_cons_of_neg c]; rfl
theorem drop_tw {α : Type} {p : α → Bool} : ∀ l : List α, l.drop (l.takeWhile p).length = l.dropWhile p
  | [] => rfl
  | x :: l => by
    by_cases c : p x = true
    · rw [List.takeWhile_cons_of_pos c, List.dropWhile_cons_of_pos c, List.length_cons, List.drop_succ_cons, drop_tw l]
    · rw [List.takeWhile_cons_of_neg c, List.dropWhile_cons_of_neg c]; rfl
theorem tw_le {α : Type} {p : α → Bool} (l : List α) : (l.takeWhile p).length ≤ l.length := (List.takeWhile_sublist _).length_le
theorem tw_idx {α : Type} {P : α → Bool} : ∀ {l : List α}, l.Pairwise (fun a b => P b = true → P a = true) → ∀ {k : Nat} {x : α}, l[k]? = some x → (P x = true ↔ k < (l.takeWhile P).length)
  | y :: l, h, 0, x, hx => by
    simp at hx
    subst hx
    by_cases c : P y = true
    · rw [List.takeWhile_cons_of_pos c]; simp [c]
    · rw [List.takeWhile_cons_of_neg c]; simp [c]
  | y :: l, h, k + 1, x, hx => by
    rw [List.pairwise_cons] at h
    have hx' : l[k]? = some x := by simpa using hx
    by_cases c : P y = true
    · rw [List.takeWhile_cons_of_pos c, List.length_cons, tw_idx h.2 hx']
      omega
    · rw [List.takeWhile_cons_of_neg c]
      simp only [List.length_nil]
      constructor
      · intro hp; exact (c (h.1 x (List.mem_of_getElem? hx') hp)).elim
      · omega
theorem pos_found {α : Type} {P : α → Bool} {E : α → Prop} {l : List α} (h1 : l.Pairwise (fun a b => P b = true → P a = true)) (hE : ∀ x, E x → P x = false) (hlt : l.Pairwise (fun a b => E b → P a = true)) :
    (∃ x ∈ l, E x) ↔ ∃ x, l[(l.takeWhile P).length]? = some x ∧ E x := by
  constructor
  · rintro ⟨x, hx, he⟩
    obtain ⟨k, hk⟩ := List.getElem?_of_mem hx
    have h2 : ¬ k < (l.takeWhile P).length := fun h => by have := (tw_idx h1 hk).2 h; rw [hE x he] at this; cases this
    by_cases e : k = (l.takeWhile P).length
    · rw [← e]; exact ⟨x, hk, he⟩
    · exfalso
      have hkl := (List.getElem?_eq_some_iff.1 hk).1
      have hpl : (l.takeWhile P).length < l.length := by omega
      have hq := List.getElem?_eq_getElem hpl
      have := List.pairwise_iff_getElem.1 hlt _ k hpl hkl (by omega)
      rw [(List.getElem?_eq_some_iff.1 hk).2] at this
      have h3 := (tw_idx h1 hq).1 (this he)
      omega
  · rintro ⟨x, hx, he⟩
    exact ⟨x, List.mem_of_getElem? hx, he⟩

theorem mid_eq {a : Int} (h0 : 0 ≤ a) (h1 : a ≤ 1000000) : IntKind.i64.wrap (shrF .u64 (IntKind.u64.wrap (w64 a)) (1 : Int)) = a / 2 := by
  have e : IntKind.u64.wrap a = a := by
    unfold IntKind.wrap
    simp only [IntKind.bits, IntKind.signed]
    first
      | omega
      | (simp; omega)
  rw [w64_id (z := a) (by omega) (by omega), e]
  have : shrF .u64 a 1 = a / 2 := by
    unfold shrF
    rw [show min (Int.toNat 1) IntKind.u64.bits = 1 from rfl, Int.fdiv_eq_ediv_of_nonneg _ (by decide)]
    rfl
  rw [this]
  exact w64_id (by omega) (by omega)

/-! senders and held messages -/
def sortS (L : List Sender) : Prop := L.Pairwise (fun a b => By.slt a.Port b.Port)
def ltS (p : ByteArray) (s : Sender) : Bool := decide (By.slt s.Port p)
def posS (L : List Sender) (p : ByteArray) : Nat := (L.takeWhile (ltS p)).length
def sortH (H : List Message) : Prop := H.Pairwise (fun a b => a.Number < b.Number)
def ltH (n : Int) (m : Message) : Bool := decide (m.Number < n)
def posH (H : List Message) (n : Int) : Nat := (H.takeWhile (ltH n)).length
theorem monoS {L : List Sender} (h : sortS L) (p : ByteArray) : L.Pairwise (fun a b => ltS p b = true → ltS p a = true) :=
  List.Pairwise.imp (fun {a b} hab hb => decide_eq_true (By.slt_trans hab (of_decide_eq_true hb))) h
theorem monoH {H : List Message} (h : sortH H) (n : Int) : H.Pairwise (fun a b => ltH n b = true → ltH n a = true) :=
  List.Pairwise.imp (fun {a b} hab hb => decide_eq_true (by have := of_decide_eq_true hb; omega)) h
theorem foundS {L : List Sender} (h : sortS L) (p : ByteArray) : (∃ s ∈ L, s.Port = p) ↔ ∃ s, L[posS L p]? = some s ∧ s.Port = p :=
  pos_found (E := fun s : Sender => s.Port = p) (monoS h p) (fun s e => decide_eq_false (fun k => By.slt_irr (e ▸ k))) (List.Pairwise.imp (fun {a b} hab e => decide_eq_true (e ▸ hab)) h)
theorem foundH {H : List Message} (h : sortH H) (n : Int) : (∃ m ∈ H, m.Number = n) ↔ ∃ m, H[posH H n]? = some m ∧ m.Number = n :=
  pos_found (E := fun m : Message => m.Number = n) (monoH h n) (fun s e => decide_eq_false (by omega)) (List.Pairwise.imp (fun {a b} hab e => decide_eq_true (by omega)) h)

theorem cmpi5 (x y : Int) : cmp_Compare_int x y = some (if x < y then -1 else if y < x then 1 else 0) := by
  unfold cmp_Compare_int cmp_isNaN_int
  simp only [bne_self_eq_false, Option.bind_some, cond_ite, decide_eq_true_eq, Bool.false_eq_true, if_false]
  (repeat' split) <;> rfl
theorem f1S (s : Sender) (p : ByteArray) : inbox_find_f1 s p = some (By.cmpS s.Port p) := by
  unfold inbox_find_f1 strings_Compare
  simp only [Option.bind_some, By.cmp_str]
theorem f1H (m : Message) (n : Int) : inbox_Receive_f1 m n = some (if m.Number < n then -1 else if n < m.Number then 1 else 0) := by
  unfold inbox_Receive_f1
  rw [cmpi5]
  rfl
theorem search_SL (p : ByteArray) (L : List Sender) (hs : sortS L) (hl : L.length ≤ 1000) : ∀ (n i j : Nat), i ≤ posS L p → posS L p ≤ j → j ≤ L.length → j - i < n → slices_BinarySearchFunc_string_L1 L p n (i : Int) (j : Int) = some (.brk (posS L p : Int))
  | 0, i, j, _, _, _, h => by omega
  | n + 1, i, j, h1, h2, h3, h4 => by
    rw [slices_BinarySearchFunc_string_L1]
    by_cases c : i < j
    · rw [decide_eq_true (by omega), cond_true, mid_eq (by omega) (by omega)]
      obtain ⟨q, hq⟩ : ∃ q : Nat, ((i : Int) + (j : Int)) / 2 = q := ⟨(((i : Int) + (j : Int)) / 2).toNat, by omega⟩
      have hql : q < L.length := by omega
      have hx := List.getElem?_eq_getElem hql
      rw [hq, ixL_at' q rfl hx]
      simp only [Option.bind_some, f1S]
      have key := tw_idx (monoS hs p) hx
      by_cases c2 : By.slt L[q].Port p
      · rw [By.slt_cmp.2 c2, decide_eq_true (by omega), cond_true, w64_id (by omega) (by omega), show (q : Int) + 1 = ((q + 1 : Nat) : Int) by omega]
        have : q < posS L p := key.1 (decide_eq_true c2)
        exact search_SL p L hs hl n (q + 1) j (by omega) h2 h3 (by omega)
      · have c3 : ¬ By.cmpS L[q].Port p < 0 := fun h => c2 (By.slt_cmp.1 (by rcases By.cmpS_cases L[q].Port p with e | e | e <;> omega))
        rw [decide_eq_false c3, cond_false]
        have : ¬ q < posS L p := fun h => c2 (of_decide_eq_true (key.2 h))
        exact search_SL p L hs hl n i q (by omega) (by omega) (by omega) (by omega)
    · rw [decide_eq_false (by omega), cond_false, show i = posS L p by omega]
theorem search_S (p : ByteArray) (L : List Sender) (hs : sortS L) (hl : L.length ≤ 1000) : slices_BinarySearchFunc_string L p = some ((posS L p : Int), decide (∃ s ∈ L, s.Port = p)) := by
  unfold slices_BinarySearchFunc_string
  have hle : posS L p ≤ L.length := tw_le L
  have := search_SL p L hs hl 9223372036854775807 0 L.length (Nat.zero_le _) hle (Nat.le_refl _) (by omega)
  rw [show ((0 : Nat) : Int) = 0 from rfl] at this
  rw [this]
  simp only [Ctl.fin]
  have hf := foundS hs p
  by_cases c : posS L p < L.length
  · have hx := List.getElem?_eq_getElem c
    rw [decide_eq_true (by omega), cond_true, ixL_at' _ rfl hx]
    simp only [Option.bind_some, f1S]
    congr 2
    rw [Bool.eq_iff_iff, beq_iff_eq, decide_eq_true_eq, hf, By.cmpS_zero]
    constructor
    · intro e; exact ⟨_, hx, e⟩
    · rintro ⟨s, h1, h2⟩
      rw [hx] at h1
      cases h1
      exact h2
  · rw [decide_eq_false (by omega), cond_false]
    congr 2
    rw [eq_comm, decide_eq_false_iff_not, hf]
    rintro ⟨s, h1, _⟩
    exact c (List.getElem?_eq_some_iff.1 h1).1
theorem search_HL (v : Int) (L : List Message) (hs : sortH L) (hl : L.length ≤ 1000) : ∀ (n i j : Nat), i ≤ posH L v → posH L v ≤ j → j ≤ L.length → j - i < n → slices_BinarySearchFunc_int_L1 L v n (i : Int) (j : Int) = some (.brk (posH L v : Int))
  | 0, i, j, _, _, _, h => by omega
  | n + 1, i, j, h1, h2, h3, h4 => by
    rw [slices_BinarySearchFunc_int_L1]
    by_cases c : i < j
    · rw [decide_eq_true (by omega), cond_true, mid_eq (by omega) (by omega)]
      obtain ⟨q, hq⟩ : ∃ q : Nat, ((i : Int) + (j : Int)) / 2 = q := ⟨(((i : Int) + (j : Int)) / 2).toNat, by omega⟩
      have hql : q < L.length := by omega
      have hx := List.getElem?_eq_getElem hql
      rw [hq, ixL_at' q rfl hx]
      simp only [Option.bind_some, f1H]
      have key := tw_idx (monoH hs v) hx
      by_cases c2 : L[q].Number < v
      · rw [if_pos c2, decide_eq_true (by omega), cond_true, w64_id (by omega) (by omega), show (q : Int) + 1 = ((q + 1 : Nat) : Int) by omega]
        have : q < posH L v := key.1 (decide_eq_true c2)
        exact search_HL v L hs hl n (q + 1) j (by omega) h2 h3 (by omega)
      · rw [if_neg c2, decide_eq_false (by split <;> omega), cond_false]
        have : ¬ q < posH L v := fun h => c2 (of_decide_eq_true (key.2 h))
        exact search_HL v L hs hl n i q (by omega) (by omega) (by omega) (by omega)
    · rw [decide_eq_false (by omega), cond_false, show i = posH L v by omega]
theorem search_H (v : Int) (L : List Message) (hs : sortH L) (hl : L.length ≤ 1000) : slices_BinarySearchFunc_int L v = some ((posH L v : Int), decide (∃ s ∈ L, s.Number = v)) := by
  unfold slices_BinarySearchFunc_int
  have hle : posH L v ≤ L.length := tw_le L
  have := search_HL v L hs hl 9223372036854775807 0 L.length (Nat.zero_le _) hle (Nat.le_refl _) (by omega)
  rw [show ((0 : Nat) : Int) = 0 from rfl] at this
  rw [this]
  simp only [Ctl.fin]
  have hf := foundH hs v
  by_cases c : posH L v < L.length
  · have hx := List.getElem?_eq_getElem c
    rw [decide_eq_true (by omega), cond_true, ixL_at' _ rfl hx]
    simp only [Option.bind_some, f1H]
    congr 2
    rw [Bool.eq_iff_iff, beq_iff_eq, decide_eq_true_eq, hf]
    constructor
    · intro e; exact ⟨_, hx, by (split at e <;> first | omega | (split at e <;> omega))⟩
    · rintro ⟨s, h1, h2⟩
      rw [hx] at h1
      cases h1
      rw [if_neg (by omega), if_neg (by omega)]
  · rw [decide_eq_false (by omega), cond_false]
    congr 2
    rw [eq_comm, decide_eq_false_iff_not, hf]
    rintro ⟨s, h1, _⟩
    exact c (List.getElem?_eq_some_iff.1 h1).1

/-! the model -/
def newS (p : ByteArray) : Sender := ⟨p, 1, []⟩
def getS (L : List Sender) (p : ByteArray) : Sender := (L.find? (fun s => decide (s.Port = p))).getD (newS p)
def hasS (L : List Sender) (p : ByteArray) : Bool := decide (∃ s ∈ L, s.Port = p)
def sameB (a b : Message) : Bool := (ref04_Same a b).getD false
def insH (m : Message) (H : List Message) : List Message := H.takeWhile (ltH m.Number) ++ m :: H.dropWhile (ltH m.Number)
/-- how many held messages go out -/
def runL : Int → List Message → Nat
  | _, [] => 0
  | n, h :: t => if h.Number = n then runL (n + 1) t + 1 else 0
def setS (s : Sender) (L : List Sender) : List Sender := L.takeWhile (ltS s.Port) ++ s :: (match L.dropWhile (ltS s.Port) with
  | [] => []
  | e :: t => if e.Port = s.Port then t else e :: t)
/-- a sender from which the next messages go out -/
def relS (p : ByteArray) (n : Int) (H : List Message) : Sender := ⟨p, n + (runL n H : Int), H.drop (runL n H)⟩
def recvM (x : Inbox) (m : Message) : Inbox × List Message × Int × Int :=
  if m.Number < (getS x.L m.Port).Next then (x, [], 3, 0)
  else if (getS x.L m.Port).Next + x.Window ≤ m.Number then (x, [], 4, 0)
  else match (getS x.L m.Port).Held.find? (fun h => decide (h.Number = m.Number)) with
    | some h => (x, [], if sameB h m = true then 3 else 5, 0)
    | none => if hasS x.L m.Port = false ∧ 16 ≤ x.L.length then (⟨0, []⟩, [], 0, 2)
      else (⟨x.Window, setS (relS m.Port (getS x.L m.Port).Next (insH m (getS x.L m.Port).Held)) x.L⟩, (insH m (getS x.L m.Port).Held).take (runL (getS x.L m.Port).Next (insH m (getS x.L m.Port).Held)), if m.Number = (getS x.L m.Port).Next then 1 else 2, 0)

def smallMs (m : Message) : Prop := m.Onward.length ≤ 1000 ∧ m.List.length ≤ 1000
structure SOk (W : Int) (s : Sender) : Prop where
  nx : 1 ≤ s.Next ∧ s.Next ≤ 10000
  so : sortH s.Held
  rg : ∀ h ∈ s.Held, s.Next < h.Number ∧ h.Number < s.Next + W ∧ h.Number ≤ 9999
  sm : ∀ h ∈ s.Held, smallMs h
structure IOk (x : Inbox) : Prop where
  w : 1 ≤ x.Window ∧ x.Window ≤ 8
  n : x.L.length ≤ 16
  so : sortS x.L
  s : ∀ s ∈ x.L, SOk x.Window s
theorem held_len {H : List Message} (h : sortH H) {a b : Int} (hr : ∀ m ∈ H, a < m.Number ∧ m.Number < b) (hab : a < b) : (H.length : Int) ≤ b - a - 1 := by
  induction H generalizing a with
  | nil => simp; omega
  | cons x H ih =>
    unfold sortH at h
    rw [List.pairwise_cons] at h
    have hx := hr x (by simp)
    have := ih h.2 (a := x.Number) (fun m hm => ⟨h.1 m hm, (hr m (by simp [hm])).2⟩) (by omega)
    simp only [List.length_cons]
    omega
theorem SOk.len {W : Int} {s : Sender} (h : SOk W s) (hw : 1 ≤ W ∧ W ≤ 8) : s.Held.length ≤ 7 := by
  have := held_len h.so (a := s.Next) (b := s.Next + W) (fun m hm => ⟨(h.rg m hm).1, (h.rg m hm).2.1⟩) (by omega)
  omega
theorem new_ok (W : Int) (p : ByteArray) : SOk W (newS p) := ⟨⟨by show (1 : Int) ≤ 1; omega, by show (1 : Int) ≤ 10000; omega⟩, List.Pairwise.nil, fun h hm => by simp [newS] at hm, fun h hm => by simp [newS] at hm⟩
theorem getS_some {L : List Sender} {p : ByteArray} (hs : sortS L) (h : ∃ s ∈ L, s.Port = p) : L[posS L p]? = some (getS L p) ∧ (getS L p).Port = p ∧ getS L p ∈ L := by
  obtain ⟨s, h1, h2⟩ := (foundS hs p).1 h
  have key : L.find? (fun s => decide (s.Port = p)) = some s := by
    rw [List.find?_eq_some_iff_getElem]
    refine ⟨by simpa using h2, posS L p, (List.getElem?_eq_some_iff.1 h1).1, (List.getElem?_eq_some_iff.1 h1).2, fun j hj => ?_⟩
    have hjl : j < L.length := by have := (List.getElem?_eq_some_iff.1 h1).1; omega
    have := (tw_idx (monoS hs p) (List.getElem?_eq_getElem hjl)).2 hj
    have := of_decide_eq_true this
    simpa using By.slt_ne this
  unfold getS
  rw [key]
  exact ⟨h1, h2, List.mem_of_getElem? h1⟩
theorem getS_none {L : List Sender} {p : ByteArray} (h : ¬ ∃ s ∈ L, s.Port = p) : getS L p = newS p := by
  unfold getS
  rw [List.find?_eq_none.2 (fun s hs => by simpa using fun e => h ⟨s, hs, e⟩)]
  rfl
theorem getS_ok {x : Inbox} (hx : IOk x) (p : ByteArray) : SOk x.Window (getS x.L p) ∧ (getS x.L p).Port = p := by
  by_cases h : ∃ s ∈ x.L, s.Port = p
  · obtain ⟨_, h2, h3⟩ := getS_some hx.so h
    exact ⟨hx.s _ h3, h2⟩
  · rw [getS_none h]
    exact ⟨new_ok _ _, rfl⟩

/-! the reference -/
theorem rSender_L (p : ByteArray) : ∀ (L : List Sender) (k : Nat), ref05_Sender_L1 p L k = some (match L.find? (fun s => decide (s.Port = p)) with | some s => .ret (s, true) | none => .brk ())
  | [], k => rfl
  | s :: L, k => by
    rw [ref05_Sender_L1, By.beq_str]
    by_cases c : s.Port = p
    · rw [decide_eq_true c, List.find?_cons_of_pos (by simpa using c)]; rfl
    · rw [decide_eq_false c, cond_false, List.find?_cons_of_neg (by simpa using c), rSender_L p L (k + 1)]
theorem rSender_eq (x : Inbox) (p : ByteArray) : ref05_Sender x p = some (getS x.L p, hasS x.L p) := by
  unfold ref05_Sender
  rw [rSender_L]
  unfold getS hasS
  cases h : x.L.find? (fun s => decide (s.Port = p)) with
  | none =>
    have : ¬ ∃ s ∈ x.L, s.Port = p := by
      rintro ⟨s, h1, h2⟩
      have := List.find?_eq_none.1 h s h1
      simp [h2] at this
    rw [decide_eq_false this]
    rfl
  | some s =>
    rw [decide_eq_true ⟨s, List.mem_of_find?_eq_some h, by have := List.find?_some h; simpa using this⟩]
    rfl
theorem rheld_L (n : Int) : ∀ (H : List Message) (k : Nat), ref05_held_L1 n H k = some (if ∃ m ∈ H, m.Number = n then .ret ((k + (H.takeWhile (fun m => decide (m.Number ≠ n))).length : Nat) : Int) else .brk ())
  | [], k => by simp [ref05_held_L1]
  | m :: H, k => by
    rw [ref05_held_L1]
    by_cases c : m.Number = n
    · rw [show (m.Number == n) = true from by simpa using c, cond_true, if_pos ⟨m, by simp, c⟩, List.takeWhile_cons_of_neg (by simpa using c)]
      rfl
    · rw [show (m.Number == n) = false from by simpa using c, cond_false, rheld_L n H (k + 1), List.takeWhile_cons_of_pos (by simpa using c)]
      by_cases c2 : ∃ q ∈ H, q.Number = n
      · obtain ⟨q, q1, q2⟩ := c2
        rw [if_pos ⟨q, q1, q2⟩, if_pos ⟨q, by simp [q1], q2⟩, List.length_cons]
        congr 3
        omega
      · rw [if_neg c2, if_neg (by rintro ⟨q, q1, q2⟩; rcases List.mem_cons.1 q1 with rfl | q1; exact c q2; exact c2 ⟨q, q1, q2⟩)]
/-- where a held message stands -/
theorem rheld_eq (s : Sender) (n : Int) : ref05_held s n = some (if ∃ m ∈ s.Held, m.Number = n then ((s.Held.takeWhile (fun m => decide (m.Number ≠ n))).length : Int) else -1) := by
  unfold ref05_held
  rw [rheld_L]
  by_cases c : ∃ m ∈ s.Held, m.Number = n
  · rw [if_pos c, if_pos c]; simp [Ctl.fin]
  · rw [if_neg c, if_neg c]; rfl
theorem find_tw (n : Int) (H : List Message) (h : ∃ m ∈ H, m.Number = n) : H[(H.takeWhile (fun m => decide (m.Number ≠ n))).length]? = H.find? (fun m => decide (m.Number = n)) ∧ ∃ m, H.find? (fun m => decide (m.Number = n)) = some m ∧ m.Number = n := by
  induction H with
  | nil => obtain ⟨m, hm, _⟩ := h; simp at hm
  | cons m H ih =>
    by_cases c : m.Number = n
    · rw [List.takeWhile_cons_of_neg (by simpa using c), List.find?_cons_of_pos (by simpa using c)]
      exact ⟨rfl, m, rfl, c⟩
    · rw [List.takeWhile_cons_of_pos (by simpa using c), List.find?_cons_of_neg (by simpa using c), List.length_cons, List.getElem?_cons_succ]
      refine ih ?_
      obtain ⟨q, q1, q2⟩ := h
      rcases List.mem_cons.1 q1 with rfl | q1
      · exact (c q2).elim
      · exact ⟨q, q1, q2⟩
theorem find_no {n : Int} {H : List Message} (h : ¬ ∃ m ∈ H, m.Number = n) : H.find? (fun m => decide (m.Number = n)) = none :=
  List.find?_eq_none.2 fun m hm => by simpa using fun e => h ⟨m, hm, e⟩
theorem insH_mem {m h : Message} {H : List Message} : h ∈ insH m H ↔ h = m ∨ h ∈ H := by
  unfold insH
  have hsplit := List.takeWhile_append_dropWhile (p := ltH m.Number) (l := H)
  have hm : h ∈ H ↔ h ∈ H.takeWhile (ltH m.Number) ∨ h ∈ H.dropWhile (ltH m.Number) := by rw [← List.mem_append, hsplit]
  rw [List.mem_append, List.mem_cons, hm]
  constructor
  · rintro (h | h | h)
    · exact .inr (.inl h)
    · exact .inl h
    · exact .inr (.inr h)
  · rintro (h | h | h)
    · exact .inr (.inl h)
    · exact .inl h
    · exact .inr (.inr h)
theorem tw_all {α : Type} {p : α → Bool} : ∀ {l : List α} {x : α}, x ∈ l.takeWhile p → p x = true
  | y :: l, x, h => by
    by_cases c : p y = true
    · rw [List.takeWhile_cons_of_pos c] at h
      rcases List.mem_cons.1 h with rfl | h
      · exact c
      · exact tw_all h
    · rw [List.takeWhile_cons_of_neg c] at h
      simp at h
theorem dwH {n : Int} : ∀ {H : List Message}, sortH H → (∀ h ∈ H, h.Number ≠ n) → ∀ h ∈ H.dropWhile (ltH n), n < h.Number
  | [], _, _, h, hh => by simp at hh
  | x :: H, hs, hne, h, hh => by
    unfold sortH at hs
    rw [List.pairwise_cons] at hs
    by_cases c : x.Number < n
    · rw [List.dropWhile_cons_of_pos (show ltH n x = true from decide_eq_true c)] at hh
      exact dwH hs.2 (fun y hy => hne y (by simp [hy])) h hh
    · rw [List.dropWhile_cons_of_neg (by simpa [ltH] using c)] at hh
      have := hne x (by simp)
      rcases List.mem_cons.1 hh with rfl | hh
      · omega
      · have := hs.1 h hh; omega
theorem insH_sort {m : Message} {H : List Message} (hs : sortH H) (hne : ∀ h ∈ H, h.Number ≠ m.Number) : sortH (insH m H) := by
  have hsplit := List.takeWhile_append_dropWhile (p := ltH m.Number) (l := H)
  have hs0 := hs
  unfold sortH at hs ⊢
  rw [← hsplit, List.pairwise_append] at hs
  unfold insH
  rw [List.pairwise_append]
  refine ⟨hs.1, List.pairwise_cons.2 ⟨fun x hx => dwH hs0 hne x hx, hs.2.1⟩, fun x hx z hz => ?_⟩
  have hxy : x.Number < m.Number := of_decide_eq_true (show ltH m.Number x = true from tw_all hx)
  rcases List.mem_cons.1 hz with rfl | hz
  · exact hxy
  · exact hs.2.2 x hx z hz
theorem insH_len (m : Message) (H : List Message) : (insH m H).length = H.length + 1 := by
  unfold insH
  have := congrArg List.length (List.takeWhile_append_dropWhile (p := ltH m.Number) (l := H))
  simp only [List.length_append, List.length_cons] at this ⊢
  omega
end Go.Proofs.Ytpipggnfbgjefaa.Ex.Ib
