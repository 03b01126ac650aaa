/- Chapter 24: what Decide of the program says for drawn bags; the laws ConnectLeaves, ConnectFirst, ConnectWaits. Plain. -/
import Derived.Test.YtkajegjghfbgaaaCn3
import Derived.Test.YtkajegjghfbgaaaMp
namespace Go.Proofs.Ytkajegjghfbgaaa.Ex.Cn
open Go.RowKit Go.Proofs.Ytkajegjghfbgaaa.Ax Go.Maps
set_option linter.unusedVariables false
set_option linter.unusedSimpArgs false

/-! ### the set of plates -/
theorem wf_small {a : Int} (h : -9223372036854775808 ≤ a ∧ a ≤ 9223372036854775807) : (Lit.int .i64 a).wf = true := by
  have e1 : IntKind.i64.min = -9223372036854775808 := by decide
  have e2 : IntKind.i64.max = 9223372036854775807 := by decide
  simp [Lit.wf, e1, e2]
  omega
theorem mpW_val {p : Plate} (h : pV p) : mpW p = true := by
  unfold pV at h
  unfold mpW
  rw [wf_small (by omega), wf_small (by omega), wf_small (by omega)]
  rfl
theorem mpK_inj {p q : Plate} (hp : mpW p = true) (hq : mpW q = true) (h : mpK p = mpK q) : p = q := by
  have h1 := mp_key p hp
  have h2 := mp_key q hq
  rw [h] at h1
  have := mp_law.inj h1 h2
  cases p
  cases q
  simp only [Value.agg.injEq, Array.mk.injEq, List.cons.injEq, Value.int.injEq, true_and, and_true] at this
  obtain ⟨a, b, c⟩ := this
  subst a; subst b; subst c
  rfl
theorem addKey_all : ∀ (l acc : List Lit), (acc ++ l).Nodup → l.foldl addKey acc = acc ++ l
  | [], acc, _ => by simp
  | x :: l, acc, h => by
    have hx : x ∉ acc := by
      rw [List.nodup_append] at h
      intro hm
      exact h.2.2 x hm x (by simp) rfl
    have : addKey acc x = acc ++ [x] := by
      unfold addKey
      rw [if_neg]
      intro ha
      rw [List.any_eq_true] at ha
      obtain ⟨y, hy, he⟩ := ha
      have := WideAt.sameKey_eq he
      subst this
      exact hx hy
    rw [List.foldl_cons, this, addKey_all l (acc ++ [x]) (by simpa using h)]
    simp
theorem mpN_nodup {E : List Plate} (h : E.Nodup) (hv : ∀ p ∈ E, mpW p = true) : mpN mpK E = E.length := by
  unfold mpN
  rw [addKey_all _ [] (by
    rw [List.nil_append, List.nodup_iff_pairwise_ne, List.pairwise_map]
    rw [List.nodup_iff_pairwise_ne] at h
    exact h.imp_of_mem (fun ha hb hne e => hne (mpK_inj (hv _ ha) (hv _ hb) e)))]
  simp

theorem gb_nodup {l : List Connecting} (h : Gb l) (hl : l.length ≤ 1000) : (l.map (·.Plate)).Nodup := by
  rw [List.nodup_iff_pairwise_ne, List.pairwise_map, List.pairwise_iff_getElem]
  intro i j hi hj hij e
  have h1 := h.p i _ (List.getElem?_eq_getElem hi)
  have h2 := h.p j _ (List.getElem?_eq_getElem hj)
  rw [h1, h2] at e
  have := pl_inj (by omega) (by omega) (by omega) (by omega) e
  omega
theorem gb_cv {l : List Connecting} (h : Gb l) (hl : l.length ≤ 1000) : ∀ c ∈ l, cV c := by
  intro c hc
  obtain ⟨i, hi, rfl⟩ := List.mem_iff_getElem.1 hc
  have h1 := h.p i _ (List.getElem?_eq_getElem hi)
  have h2 := h.v _ hc
  refine ⟨?_, h2⟩
  rw [h1]
  exact pl_val (by omega) (by omega)

/-! ### rules -/
def rV (r : HoldRule) : Prop := (r.Kind = 1 ∧ 1 ≤ r.N ∧ r.N ≤ 40 ∧ 1 ≤ r.Most ∧ r.Most ≤ 1048576) ∨ (r.Kind = 2 ∧ 0 ≤ r.N ∧ r.N ≤ 4 ∧ 1 ≤ r.Most ∧ r.Most ≤ 1048576) ∨ (r.Kind = 3 ∧ r.N = 0 ∧ r.Most = 0)
theorem poss_ok {r : HoldRule} (h : rV r) : connect_possible r = some true := by
  unfold connect_possible
  rcases h with ⟨h1, h2⟩ | ⟨h1, h2⟩ | ⟨h1, h2⟩
  · simp only [h1, in_eq]; rw [andb_t ⟨h2.1, h2.2.1⟩, andb_t ⟨h2.2.2.1, h2.2.2.2⟩]; rfl
  · simp only [h1, in_eq]; rw [andb_t ⟨h2.1, h2.2.1⟩, andb_t ⟨h2.2.2.1, h2.2.2.2⟩]; rfl
  · rw [h1, h2.1, h2.2]; rfl
theorem arg_L1 : ∀ (q : List HoldRule) (k : Nat), (∀ r ∈ q, rV r) → connect_arguments_L1 q k = some (.brk ())
  | [], k, _ => rfl
  | r :: q, k, h => by
    rw [connect_arguments_L1, poss_ok (h r (by simp))]
    exact arg_L1 q (k + 1) (fun y hy => h y (by simp [hy]))
theorem arg_L2 : ∀ (q : List Connecting) (k : Nat) (a : List Plate), (∀ c ∈ q, cV c) → a.length + q.length ≤ 900000 → connect_arguments_L2 q k a = some (.brk (a ++ q.map (·.Plate)))
  | [], k, a, _, _ => by rw [connect_arguments_L2]; simp
  | c :: q, k, a, h, hl => by
    have hc := h c (by simp)
    simp only [List.length_cons] at hl
    rw [connect_arguments_L2, (cvalid_eq c).1, decide_eq_true hc, Option.bind_some]
    rw [show mpL mpW a c.Plate = some (a ++ [c.Plate]) from if_pos ⟨mpW_val hc.1, by omega⟩]
    simp only [Bool.not_true, cond_false, Option.bind_some]
    rw [arg_L2 q (k + 1) _ (fun y hy => h y (by simp [hy])) (by simp; omega)]
    simp
theorem args_ok {x : List Minimum} (hx : x.length ≤ 1000) (hV : VOk x) {rs : List HoldRule} (hr : ∀ r ∈ rs, rV r) (hrl : rs.length ≤ 8) {bags : List Connecting} (hb : Gb bags) (hbl : bags.length ≤ 40) {t : Int} (ht : 0 ≤ t ∧ t ≤ 1048576) : connect_arguments x rs bags t = some 0 := by
  unfold connect_arguments
  rw [val_zero hx hV, Option.bind_some, bne_self_eq_false, cond_false, in_eq, Option.bind_some, andb_t ht, Bool.not_true, cond_false, decide_eq_false (by omega), cond_false, decide_eq_false (by omega), cond_false, arg_L1 rs 0 hr, fin_brkE rfl, arg_L2 bags 0 [] (gb_cv hb (by omega)) (by simp; omega), fin_brkE rfl, List.nil_append]
  rw [mpN_nodup (gb_nodup hb (by omega)) (fun p hp => by
    obtain ⟨c, hc, rfl⟩ := List.mem_map.1 hp
    exact mpW_val (gb_cv hb (by omega) c hc).1), decide_eq_false (by simp), cond_false]

/-! ### lates, waits -/
def slF (x : List Minimum) (t : Int) (c : Connecting) : Int × Bool := (connect_Slack x c t).getD (0, false)
theorem sl_eq {x : List Minimum} (hx : x.length ≤ 1000) (t : Int) (c : Connecting) : connect_Slack x c t = some (slF x t c) ∧ -8000000 ≤ (slF x t c).1 ∧ (slF x t c).1 ≤ 1048576 := by
  obtain ⟨r, h1, _, h3⟩ := slack_both x hx c t
  unfold slF
  rw [h1]
  refine ⟨rfl, ?_⟩
  simp only [Option.getD_some]
  rcases h3 with ⟨rfl, _⟩ | ⟨_, hc, ht, n, _, h4, h5, h6⟩
  · omega
  · have := hc.2.1
    have := hc.2.2.1
    omega
def lateB (x : List Minimum) (t : Int) (c : Connecting) : Bool := (slF x t c).2 && decide ((slF x t c).1 < 0)
def lateOf (x : List Minimum) (t : Int) (bags : List Connecting) : List Late := (bags.filter (lateB x t)).map fun c => ⟨-(slF x t c).1, c.Category⟩
def leftOf (x : List Minimum) (t w : Int) (bags : List Connecting) : List Plate := (bags.filter fun c => !(slF x t c).2 || decide ((slF x t c).1 < -w)).map (·.Plate)

theorem dec_L1 {x : List Minimum} (hx : x.length ≤ 1000) (t : Int) : ∀ (q : List Connecting) (k : Nat) (a : List Late), a.length + q.length ≤ 1000 → connect_Decide_L1 x t q k a = some (.brk (a ++ lateOf x t q))
  | [], k, a, _ => by simp [connect_Decide_L1, lateOf]
  | c :: q, k, a, hl => by
    simp only [List.length_cons] at hl
    obtain ⟨h1, h2, h3⟩ := sl_eq hx t c
    rw [connect_Decide_L1, h1, Option.bind_some]
    have ih := fun a' (h : a'.length + q.length ≤ 1000) => dec_L1 hx t q (k + 1) a' h
    unfold lateOf lateB at ih ⊢
    cases c1 : (slF x t c).2 with
    | false =>
      rw [cond_false, ih a (by omega), List.filter_cons, c1]
      simp
    | true =>
      rw [cond_true]
      by_cases c2 : (slF x t c).1 < 0
      · rw [decide_eq_true c2, cond_true, apL_eq (by simp; omega), Option.bind_some, ih _ (by simp; omega), List.filter_cons, c1, decide_eq_true c2]
        have : IntKind.i64.wrap (0 - (slF x t c).1) = -(slF x t c).1 := by rw [show 0 - (slF x t c).1 = -(slF x t c).1 by omega]; exact w64_id (by omega) (by omega)
        rw [this]
        simp
      · rw [decide_eq_false c2, cond_false, ih a (by omega), List.filter_cons, c1, decide_eq_false c2]
        simp
theorem dec_L3 {x : List Minimum} (hx : x.length ≤ 1000) (t : Int) (w : Int × Int) (hw : 0 ≤ w.1 ∧ w.1 ≤ 1000000000) : ∀ (q : List Connecting) (k : Nat) (a : List Plate), a.length + q.length ≤ 1000 → connect_Decide_L3 x t w q k a = some (.brk (a ++ leftOf x t w.1 q))
  | [], k, a, _ => by simp [connect_Decide_L3, leftOf]
  | c :: q, k, a, hl => by
    simp only [List.length_cons] at hl
    obtain ⟨h1, h2, h3⟩ := sl_eq hx t c
    have e : IntKind.i64.wrap (0 - w.1) = -w.1 := by rw [show 0 - w.1 = -w.1 by omega]; exact w64_id (by omega) (by omega)
    rw [connect_Decide_L3, h1, Option.bind_some, e]
    have ih := fun a' (h : a'.length + q.length ≤ 1000) => dec_L3 hx t w hw q (k + 1) a' h
    unfold leftOf at ih ⊢
    cases c1 : (slF x t c).2 with
    | false =>
      rw [Bool.not_false, cond_true, apL_eq (by simp; omega), Option.bind_some, ih _ (by simp; omega), List.filter_cons, c1]
      simp
    | true =>
      rw [Bool.not_true, cond_false]
      by_cases c2 : (slF x t c).1 < -w.1
      · rw [decide_eq_true c2, cond_true, apL_eq (by simp; omega), Option.bind_some, ih _ (by simp; omega), List.filter_cons, c1, decide_eq_true c2]
        simp
      · rw [decide_eq_false c2, cond_false, ih a (by omega), List.filter_cons, c1, decide_eq_false c2]
        simp

/-- a rule's wait -/
def waitF (r : HoldRule) (S : List Late) : Int × Bool :=
  if r.Kind = 1 then (match S[(r.N - 1).toNat]? with
    | some e => if e.need ≤ r.Most then (e.need, true) else (0, false)
    | none => (0, false))
  else if r.Kind = 2 then (match S.find? (fun e => e.category == r.N) with
    | some e => if e.need ≤ r.Most then (e.need, true) else (0, false)
    | none => (0, false))
  else (0, true)

theorem idx_L1 (r : HoldRule) : ∀ (q : List Late) (k : Nat), slices_IndexFunc_late_L1 r q k = some (match q.find? (fun e => e.category == r.N) with | some _ => .ret ((k + q.findIdx (fun e => e.category == r.N) : Nat) : Int) | none => .brk ())
  | [], k => rfl
  | e :: q, k => by
    rw [slices_IndexFunc_late_L1, show connect_wait_f1 e r = some (e.category == r.N) from rfl, Option.bind_some, List.find?_cons, List.findIdx_cons]
    cases c : (e.category == r.N) with
    | true => simp
    | false =>
      rw [cond_false, idx_L1 r q (k + 1)]
      simp only [cond_false]
      cases q.find? (fun e => e.category == r.N) with
      | none => rfl
      | some y => simp only; congr 2; omega

theorem wait_eq {r : HoldRule} (h : rV r) {S : List Late} (hS : S.length ≤ 1000) : connect_wait r S = some (waitF r S) := by
  unfold connect_wait waitF
  rcases h with ⟨h1, h2⟩ | ⟨h1, h2⟩ | ⟨h1, h2⟩
  · rw [h1, if_pos rfl, show ((1 : Int) == 1) = true from rfl, cond_true, w64_id (by omega) (by omega)]
    by_cases c : r.N ≤ (S.length : Int)
    · rw [decide_eq_true c, cond_true]
      have hlt : (r.N - 1).toNat < S.length := by omega
      have e := List.getElem?_eq_getElem hlt
      generalize S[(r.N - 1).toNat] = y at e
      rw [ixL_at' (r.N - 1).toNat (by omega) e, e]
      simp only [Option.bind_some]
      by_cases c2 : y.need ≤ r.Most
      · rw [decide_eq_true c2, if_pos c2]; rfl
      · rw [decide_eq_false c2, if_neg c2]; rfl
    · rw [decide_eq_false c, cond_false, List.getElem?_eq_none (by omega)]
  · rw [h1, if_neg (by decide), if_pos rfl, show ((2 : Int) == 1) = false from rfl, show ((2 : Int) == 2) = true from rfl, cond_false, cond_true]
    unfold slices_IndexFunc_late
    rw [idx_L1]
    cases hf : S.find? (fun e => e.category == r.N) with
    | none => rfl
    | some y =>
      rw [fin_retE rfl, Option.bind_some, Nat.zero_add, decide_eq_true (by omega), cond_true]
      have hi : S[S.findIdx (fun e => e.category == r.N)]? = some y := by
        have := List.find?_eq_some_iff_getElem.1 hf
        obtain ⟨hp, i, hi, hg, hb⟩ := this
        have : S.findIdx (fun e => e.category == r.N) = i := by
          rw [List.findIdx_eq hi]
          exact ⟨by rw [hg]; exact hp, fun j hj => by have := hb j hj; simpa using this⟩
        rw [this, List.getElem?_eq_getElem hi, hg]
      rw [ixL_at' _ rfl hi]
      simp only [Option.bind_some]
      by_cases c2 : y.need ≤ r.Most
      · rw [decide_eq_true c2, if_pos c2]; rfl
      · rw [decide_eq_false c2, if_neg c2]; rfl
  · rw [h1, if_neg (by decide), if_neg (by decide)]; rfl

def decR (S : List Late) : List HoldRule → Nat → Int × Int
  | [], _ => (0, -1)
  | r :: q, k => if (waitF r S).2 = true then ((waitF r S).1, (k : Int)) else decR S q (k + 1)
theorem dec_L2 {S : List Late} (hS : S.length ≤ 1000) : ∀ (q : List HoldRule) (k : Nat), (∀ r ∈ q, rV r) → connect_Decide_L2 S q k = some (.brk (decR S q k))
  | [], k, _ => rfl
  | r :: q, k, h => by
    rw [connect_Decide_L2, wait_eq (h r (by simp)) hS, Option.bind_some, decR]
    cases (waitF r S).2 with
    | true => rfl
    | false => exact dec_L2 hS q (k + 1) (fun y hy => h y (by simp [hy]))

structure Srt (x : List Minimum) (t : Int) (bags : List Connecting) (S : List Late) : Prop where
  e : sortL srtOk_Late srtC_Late (lateOf x t bags) = some S
  p : S.Perm (lateOf x t bags)
  s : S.Pairwise (fun a b => a.need ≤ b.need)
  n : ∀ e ∈ S, 1 ≤ e.need ∧ e.need ≤ 8000000

theorem srt_ex {x : List Minimum} (hx : x.length ≤ 1000) (t : Int) {bags : List Connecting} (hb : bags.length ≤ 40) : ∃ S, Srt x t bags S := by
  have hn : ∀ e ∈ lateOf x t bags, 1 ≤ e.need ∧ e.need ≤ 8000000 := by
    intro e he
    unfold lateOf at he
    obtain ⟨c, hc, rfl⟩ := List.mem_map.1 he
    have h2 := (List.mem_filter.1 hc).2
    unfold lateB at h2
    simp only [Bool.and_eq_true, decide_eq_true_eq] at h2
    have := sl_eq hx t c
    simp only
    omega
  have hl : (lateOf x t bags).length ≤ 40 := by
    unfold lateOf
    rw [List.length_map]
    exact Nat.le_trans (List.length_filter_le _ _) hb
  have hall : (lateOf x t bags).all srtOk_Late = true := by
    rw [List.all_eq_true]
    intro e he
    have := hn e he
    unfold srtOk_Late
    rw [andb_t (by omega)]
  have he : ∃ S, sortL srtOk_Late srtC_Late (lateOf x t bags) = some S := ⟨_, if_pos ⟨hall, by omega⟩⟩
  obtain ⟨S, he⟩ := he
  obtain ⟨_, _, _, h4, h5, _⟩ := sortL_some late_swo he
  have hn' : ∀ e ∈ S, 1 ≤ e.need ∧ e.need ≤ 8000000 := fun e h => hn e (h4.mem_iff.1 h)
  refine ⟨S, he, h4, h5.imp_of_mem (fun {a b} ha hb h => ?_), hn'⟩
  have h1 := hn' a ha
  have h2 := hn' b hb
  unfold srtC_Late lateC at h
  rw [if_pos (by omega), if_pos (by omega)] at h
  have h : ¬ (b.need - a.need < 0) := h
  omega

theorem wait_rng {r : HoldRule} (h : rV r) {S : List Late} (hn : ∀ e ∈ S, 1 ≤ e.need ∧ e.need ≤ 8000000) : 0 ≤ (waitF r S).1 ∧ (waitF r S).1 ≤ 8000000 := by
  unfold waitF
  split
  · split
    · rename_i e he
      have := hn e (List.mem_of_getElem? he)
      split <;> simp only <;> omega
    · simp only; omega
  · split
    · split
      · rename_i e he
        have := hn e (List.mem_of_find?_eq_some he)
        split <;> simp only <;> omega
      · simp only; omega
    · simp only; omega

theorem decR_spec {S : List Late} : ∀ (q : List HoldRule) (k : Nat), (decR S q k = (0, -1) ∧ ∀ r ∈ q, (waitF r S).2 = false) ∨ (∃ (i : Nat) (r : HoldRule), q[i]? = some r ∧ decR S q k = ((waitF r S).1, ((k + i : Nat) : Int)) ∧ (waitF r S).2 = true ∧ ∀ (j : Nat) (r' : HoldRule), j < i → q[j]? = some r' → (waitF r' S).2 = false)
  | [], k => .inl ⟨rfl, by simp⟩
  | r :: q, k => by
    rw [decR]
    cases c : (waitF r S).2 with
    | true => exact .inr ⟨0, r, rfl, by simp, c, fun j r' hj => by omega⟩
    | false =>
      rw [if_neg (by simp)]
      rcases decR_spec (S := S) q (k + 1) with ⟨h1, h2⟩ | ⟨i, r2, h1, h2, h3, h4⟩
      · exact .inl ⟨h1, fun y hy => by
          rcases List.mem_cons.1 hy with rfl | hy
          · exact c
          · exact h2 y hy⟩
      · refine .inr ⟨i + 1, r2, by simpa using h1, by rw [h2]; congr 2; omega, h3, fun j r' hj hr' => ?_⟩
        cases j with
        | zero => simp at hr'; subst hr'; exact c
        | succ j => exact h4 j r' (by omega) (by simpa using hr')

theorem decR_none {S : List Late} {q : List HoldRule} (k : Nat) (h : ∀ r ∈ q, (waitF r S).2 = false) : decR S q k = (0, -1) := by
  rcases decR_spec (S := S) q k with ⟨h1, _⟩ | ⟨i, r, h1, _, h3, _⟩
  · exact h1
  · rw [h r (List.mem_of_getElem? h1)] at h3; cases h3
theorem decR_at {S : List Late} {q : List HoldRule} {i : Nat} {r : HoldRule} (hi : q[i]? = some r) (h1 : (waitF r S).2 = true) (h2 : ∀ (j : Nat) (r' : HoldRule), j < i → q[j]? = some r' → (waitF r' S).2 = false) : decR S q 0 = ((waitF r S).1, (i : Int)) := by
  rcases decR_spec (S := S) q 0 with ⟨_, h⟩ | ⟨i', r', e1, e2, e3, e4⟩
  · rw [h r (List.mem_of_getElem? hi)] at h1; cases h1
  · have : i' = i := by
      rcases Nat.lt_trichotomy i' i with c | c | c
      · rw [h2 i' r' c e1] at e3; cases e3
      · exact c
      · rw [e4 i r c hi] at h1; cases h1
    subst this
    rw [hi] at e1
    cases e1
    rw [e2, Nat.zero_add]

theorem decR_rng {S : List Late} (hn : ∀ e ∈ S, 1 ≤ e.need ∧ e.need ≤ 8000000) {q : List HoldRule} (h : ∀ r ∈ q, rV r) : 0 ≤ (decR S q 0).1 ∧ (decR S q 0).1 ≤ 8000000 ∧ -1 ≤ (decR S q 0).2 ∧ (decR S q 0).2 < q.length := by
  rcases decR_spec (S := S) q 0 with ⟨h1, _⟩ | ⟨i, r, h1, h2, _, _⟩
  · rw [h1]; simp only; omega
  · have := wait_rng (h r (List.mem_of_getElem? h1)) hn
    have := (List.getElem?_eq_some_iff.1 h1).1
    rw [h2]
    simp only
    omega

theorem dec_eq {x : List Minimum} (hx : x.length ≤ 1000) (hV : VOk x) {rs : List HoldRule} (hr : ∀ r ∈ rs, rV r) (hrl : rs.length ≤ 8) {bags : List Connecting} (hb : Gb bags) (hbl : bags.length ≤ 40) {t : Int} (ht : 0 ≤ t ∧ t ≤ 1048576) {S : List Late} (hS : Srt x t bags S) :
    connect_Decide x rs bags t = some (⟨(decR S rs 0).1, (decR S rs 0).2, leftOf x t (decR S rs 0).1 bags⟩, 0) := by
  have hl : (lateOf x t bags).length ≤ 40 := by
    unfold lateOf
    rw [List.length_map]
    exact Nat.le_trans (List.length_filter_le _ _) hbl
  have hSl : S.length ≤ 1000 := by rw [hS.p.length_eq]; omega
  have hd := decR_rng hS.n hr
  unfold connect_Decide
  rw [args_ok hx hV hr hrl hb hbl ht, Option.bind_some, bne_self_eq_false, cond_false, dec_L1 hx t bags 0 [] (by simp; omega), fin_brkE rfl, List.nil_append]
  unfold slices_SortFunc_late
  rw [hS.e, Option.bind_some, dec_L2 hSl rs 0 hr, fin_brkE rfl, dec_L3 hx t _ ⟨hd.1, by omega⟩ bags 0 [] (by simp; omega), fin_brkE rfl, List.nil_append]

theorem same_L1 : ∀ (l pre : List Plate), ref23_SamePlates_L1 (pre ++ l) l pre.length = some (.brk ())
  | [], pre => rfl
  | p :: l, pre => by
    rw [ref23_SamePlates_L1, ixL_at' pre.length rfl (x := p) (by rw [List.getElem?_append_right (Nat.le_refl _)]; simp), Option.bind_some]
    simp only [beq_self_eq_true, Bool.and_self, Bool.not_true, cond_false]
    have := same_L1 l (pre ++ [p])
    simpa using this
theorem same_refl (l : List Plate) : ref23_SamePlates l l = some true := by
  unfold ref23_SamePlates
  rw [bne_self_eq_false, cond_false, show ref23_SamePlates_L1 l l 0 = some (.brk ()) from same_L1 l []]
  rfl

/-! ### drawn rules and bags -/
theorem holds_L1 : ∀ (n : Nat) (s : Src) (a : List HoldRule) (j : Int), SrcOk s → (∀ r ∈ a, rV r) → 0 ≤ j → j < n → (a.length : Int) + j ≤ 100 →
    okP (keep_Src_Holds_L1 n s.L s.At a j) (ctlQ (fun _ => False) (fun z => SrcOk ⟨z.1, z.2.1⟩ ∧ (∀ r ∈ z.2.2, rV r) ∧ (z.2.2.length : Int) = a.length + j))
  | 0, s, a, j, _, _, _, h, _ => by omega
  | n + 1, s, a, j, hs, hg, h0, hn, hl => by
    rw [keep_Src_Holds_L1]
    have more : ∀ (s' : Src) (r : HoldRule), SrcOk s' → rV r → 0 < j → okP (keep_Src_Holds_L1 n s'.L s'.At (a ++ [r]) (j - 1)) (ctlQ (fun _ => False) (fun z => SrcOk ⟨z.1, z.2.1⟩ ∧ (∀ r ∈ z.2.2, rV r) ∧ (z.2.2.length : Int) = a.length + j)) := fun s' r hs' hr hj => by
      refine okP_mono (holds_L1 n s' (a ++ [r]) (j - 1) hs' (fun y hy => ?_) (by omega) (by omega) (by simp; omega)) fun z hz => ?_
      · rcases List.mem_append.1 hy with hy | hy
        · exact hg y hy
        · rw [List.mem_singleton.1 hy]; exact hr
      · cases z with
        | ret r => exact hz
        | brk z => exact ⟨hz.1, hz.2.1, by rw [hz.2.2]; simp; omega⟩
    refine okP_cond (fun c => ?_) (fun c => ?_)
    · have c := of_decide_eq_true c
      rw [w64_id (z := j - 1) (by omega) (by omega)]
      refine okP_bind (N_ok s 5 hs (by omega) (by omega)) fun r6 h6 => ?_
      have one : okP ((keep_Src_N r6.2 (5 : Int)).bind fun r_7 => (keep_Src_N r_7.2 (15 : Int)).bind fun r_8 => (apL a ([(⟨(1 : Int), (w64 ((1 : Int) + r_7.1)), (w64 ((1 : Int) + r_8.1))⟩ : HoldRule)] : List HoldRule)).bind fun l_9 => keep_Src_Holds_L1 n r_8.2.L r_8.2.At l_9 (j - 1)) (ctlQ (fun _ => False) (fun z => SrcOk ⟨z.1, z.2.1⟩ ∧ (∀ r ∈ z.2.2, rV r) ∧ (z.2.2.length : Int) = a.length + j)) := by
        refine okP_bind (N_ok r6.2 5 h6.2.2 (by omega) (by omega)) fun r7 h7 => ?_
        refine okP_bind (N_ok r7.2 15 h7.2.2 (by omega) (by omega)) fun r8 h8 => ?_
        rw [apL_eq (by simp; omega), Option.bind_some, w64_id (z := 1 + r7.1) (by omega) (by omega), w64_id (z := 1 + r8.1) (by omega) (by omega)]
        exact more r8.2 _ h8.2.2 (.inl ⟨rfl, by simp only; omega⟩) c
      have two : okP ((keep_Src_N r6.2 (5 : Int)).bind fun r_7 => (keep_Src_N r_7.2 (15 : Int)).bind fun r_8 => (apL a ([(⟨(2 : Int), r_7.1, (w64 ((1 : Int) + r_8.1))⟩ : HoldRule)] : List HoldRule)).bind fun l_9 => keep_Src_Holds_L1 n r_8.2.L r_8.2.At l_9 (j - 1)) (ctlQ (fun _ => False) (fun z => SrcOk ⟨z.1, z.2.1⟩ ∧ (∀ r ∈ z.2.2, rV r) ∧ (z.2.2.length : Int) = a.length + j)) := by
        refine okP_bind (N_ok r6.2 5 h6.2.2 (by omega) (by omega)) fun r7 h7 => ?_
        refine okP_bind (N_ok r7.2 15 h7.2.2 (by omega) (by omega)) fun r8 h8 => ?_
        rw [apL_eq (by simp; omega), Option.bind_some, w64_id (z := 1 + r8.1) (by omega) (by omega)]
        exact more r8.2 _ h8.2.2 (.inr (.inl ⟨rfl, by simp only; omega⟩)) c
      refine okP_cond (fun _ => one) (fun _ => okP_cond (fun _ => one) (fun _ => okP_cond (fun _ => two) (fun _ => okP_cond (fun _ => two) (fun _ => ?_))))
      rw [apL_eq (by simp; omega), Option.bind_some]
      exact more r6.2 _ h6.2.2 (.inr (.inr ⟨rfl, rfl, rfl⟩)) c
    · have c := of_decide_eq_false c
      exact okP_some ⟨hs, hg, by show (a.length : Int) = a.length + j; omega⟩
theorem Holds_ok (s : Src) (k : Int) (hs : SrcOk s) (h0 : 0 ≤ k) (h1 : k ≤ 8) : okP (keep_Src_Holds s k) (fun r => (∀ x ∈ r.1, rV x) ∧ (r.1.length : Int) ≤ k ∧ SrcOk r.2) := by
  unfold keep_Src_Holds
  rw [w64_id (by omega) (by omega)]
  refine okP_bind (N_ok s (k + 1) hs (by omega) (by omega)) fun r hr => ?_
  refine okP_finB (holds_L1 9223372036854775807 r.2 [] r.1 hr.2.2 (by simp) hr.1 (by omega) (by simp; omega)) fun z hz => okP_some ⟨hz.2.1, ?_, hz.1⟩
  have := hz.2.2
  simp at this
  show (z.2.2.length : Int) ≤ k
  omega
theorem bags2_L1 : ∀ (n : Nat) (a : List Int) (i : Int) (b : List Connecting) (j : Int), keep_Src_Connections_v2_L1 n a i b j = keep_Src_Connections_L1 n a i b j
  | 0, _, _, _, _ => rfl
  | n + 1, a, i, b, j => by
    rw [keep_Src_Connections_v2_L1, keep_Src_Connections_L1]
    simp only [bags2_L1 n]
theorem Bags2_ok (s : Src) (k : Int) (hs : SrcOk s) (h0 : 0 ≤ k) (h1 : k ≤ 50) : okP (keep_Src_Connections_v2 s k) (fun r => Gb r.1 ∧ (r.1.length : Int) ≤ k ∧ SrcOk r.2) := by
  have : keep_Src_Connections_v2 s k = keep_Src_Connections s k := by
    unfold keep_Src_Connections_v2 keep_Src_Connections
    simp only [bags2_L1]
  rw [this]
  exact Bags_ok s k hs h0 h1

/-! ### ConnectLeaves -/
theorem lv_L1 {x : List Minimum} (hx : x.length ≤ 1000) (s : Src) (r5 : Int × Src) (h5 : 0 ≤ r5.1 ∧ r5.1 < 60) (h : Hold) (e : Int) (hw : 0 ≤ h.Wait ∧ h.Wait ≤ 8000000) : ∀ (q : List Connecting) (k : Nat) (a : List Plate), a.length + q.length ≤ 1000 →
    law24_ConnectLeaves_L1 (x, s) r5 (h, e) q k a = some (.brk (a ++ leftOf x (40 + r5.1) h.Wait q))
  | [], k, a, _ => by simp [law24_ConnectLeaves_L1, leftOf]
  | c :: q, k, a, hl => by
    simp only [List.length_cons] at hl
    obtain ⟨h1, h2, h3⟩ := sl_eq hx (40 + r5.1) c
    have ih := fun a' (h' : a'.length + q.length ≤ 1000) => lv_L1 hx s r5 h5 h e hw q (k + 1) a' h'
    rw [law24_ConnectLeaves_L1, w64_id (by omega) (by omega), h1, Option.bind_some]
    unfold leftOf at ih ⊢
    cases c1 : (slF x (40 + r5.1) c).2 with
    | false =>
      rw [Bool.not_false, cond_true, apL_eq (by simp; omega), Option.bind_some, ih _ (by simp; omega), List.filter_cons, c1]
      simp
    | true =>
      have hm : max h.Wait 0 = h.Wait := by omega
      have hcl := (classify_eq (a := (slF x (40 + r5.1) c).1) (b := h.Wait) ⟨by omega, by omega⟩ ⟨by omega, by omega⟩).1
      rw [hm] at hcl
      rw [Bool.not_true, cond_false, show connect_Classify (slF x (40 + r5.1) c).1 (h, e).1.Wait = _ from hcl, Option.bind_some]
      by_cases c2 : (slF x (40 + r5.1) c).1 < -h.Wait
      · rw [if_neg (by omega), if_neg (by omega), show ((3 : Int) == 3) = true from rfl, cond_true, apL_eq (by simp; omega), Option.bind_some, ih _ (by simp; omega), List.filter_cons, c1, decide_eq_true c2]
        simp
      · have : ((if 0 ≤ (slF x (40 + r5.1) c).1 then (1 : Int) else if 0 ≤ (slF x (40 + r5.1) c).1 + h.Wait then 2 else 3) == 3) = false := by
          split
          · rfl
          · rw [if_pos (by omega)]; rfl
        rw [this, cond_false, ih a (by omega), List.filter_cons, c1, decide_eq_false c2]
        simp

theorem leaves_ok (l : List Int) : law24_ConnectLeaves l = some true := by
  refine okP_eq ?_
  unfold law24_ConnectLeaves
  refine okP_bind (New_ok l) fun r1 h1 => ?_
  refine okP_bind (Min_ok r1 h1) fun r2 h2 => ?_
  refine okP_bind (Holds_ok r2.2 5 h2.2.2 (by omega) (by omega)) fun r3 h3 => ?_
  refine okP_bind (Bags2_ok r3.2 25 h3.2.2 (by omega) (by omega)) fun r4 h4 => ?_
  refine okP_bind (N_ok r4.2 60 h4.2.2 (by omega) (by omega)) fun r5 h5 => ?_
  have hx : r2.1.length ≤ 1000 := by have := h2.2.1; omega
  have hbl : r4.1.length ≤ 40 := by have := h4.2.1; omega
  have hrl : r3.1.length ≤ 8 := by have := h3.2.1; omega
  obtain ⟨S, hS⟩ := srt_ex hx (40 + r5.1) hbl
  have hd := decR_rng hS.n h3.1
  rw [w64_id (by omega) (by omega), dec_eq hx h2.1 h3.1 hrl h4.1 hbl ⟨by omega, by omega⟩ hS, Option.bind_some, bne_self_eq_false, cond_false]
  simp only
  rw [decide_eq_false (by omega), cond_false, decide_eq_false (by omega), cond_false, decide_eq_false (by omega), cond_false]
  rw [show law24_ConnectLeaves_L1 r2 r5 (⟨(decR S r3.1 0).1, (decR S r3.1 0).2, leftOf r2.1 (40 + r5.1) (decR S r3.1 0).1 r4.1⟩, 0) r4.1 0 [] = _ from lv_L1 hx r2.2 r5 ⟨h5.1, h5.2.1⟩ _ 0 ⟨hd.1, hd.2.1⟩ r4.1 0 [] (by simp; omega), fin_brkE rfl, List.nil_append, same_refl, Option.bind_some, cond_true, awake24]
  exact okP_some rfl

/-! ### ConnectFirst -/
theorem first_ok (l : List Int) : law24_ConnectFirst l = some true := by
  refine okP_eq ?_
  unfold law24_ConnectFirst
  refine okP_bind (New_ok l) fun r1 h1 => ?_
  refine okP_bind (Min_ok r1 h1) fun r2 h2 => ?_
  refine okP_bind (Holds_ok r2.2 6 h2.2.2 (by omega) (by omega)) fun r3 h3 => ?_
  refine okP_bind (Bags2_ok r3.2 25 h3.2.2 (by omega) (by omega)) fun r4 h4 => ?_
  refine okP_bind (N_ok r4.2 60 h4.2.2 (by omega) (by omega)) fun r5 h5 => ?_
  have hx : r2.1.length ≤ 1000 := by have := h2.2.1; omega
  have hbl : r4.1.length ≤ 40 := by have := h4.2.1; omega
  have hrl : r3.1.length ≤ 8 := by have := h3.2.1; omega
  obtain ⟨S, hS⟩ := srt_ex hx (40 + r5.1) hbl
  have hd := decR_rng hS.n h3.1
  have dec : ∀ rs : List HoldRule, (∀ r ∈ rs, rV r) → rs.length ≤ 8 → connect_Decide r2.1 rs r4.1 (40 + r5.1) = some (⟨(decR S rs 0).1, (decR S rs 0).2, leftOf r2.1 (40 + r5.1) (decR S rs 0).1 r4.1⟩, 0) := fun rs hr hl => dec_eq hx h2.1 hr hl h4.1 hbl ⟨by omega, by omega⟩ hS
  rw [w64_id (z := 40 + r5.1) (by omega) (by omega), dec r3.1 h3.1 hrl, Option.bind_some, bne_self_eq_false, cond_false]
  simp only
  rw [decide_eq_false (by omega), cond_false]
  rcases decR_spec (S := S) r3.1 0 with ⟨e, _⟩ | ⟨i, r, e1, e2, e3, e4⟩
  · rw [e]
    simp only
    rw [decide_eq_true (by omega), cond_true, dec [] (by simp) (by simp), Option.bind_some]
    simp only [decR, beq_self_eq_true, cond_true]
    rw [same_refl, Option.bind_some, cond_true, awake24]
    exact okP_some rfl
  · have hi := (List.getElem?_eq_some_iff.1 e1).1
    rw [Nat.zero_add] at e2
    rw [e2]
    simp only
    rw [decide_eq_false (by omega), cond_false, slL_eq (by omega) (by omega) (by omega), Option.bind_some]
    have t1 : ((r3.1.drop ((i : Int)).toNat).take ((r3.1.length : Int).toNat - ((i : Int)).toNat)) = r3.1.drop i := by
      rw [Int.toNat_natCast, Int.toNat_natCast, List.take_of_length_le (by simp)]
    rw [t1, dec (r3.1.drop i) (fun y hy => h3.1 y (List.mem_of_mem_drop hy)) (by simp; omega), Option.bind_some, w64_id (z := (i : Int) + 1) (by omega) (by omega), slL_eq (by omega) (by omega) (by omega), Option.bind_some]
    have t2 : ((r3.1.drop ((0 : Int)).toNat).take (((i : Int) + 1).toNat - ((0 : Int)).toNat)) = r3.1.take (i + 1) := by
      rw [Int.toNat_zero, List.drop_zero, Nat.sub_zero]; congr 1
    rw [t2, dec (r3.1.take (i + 1)) (fun y hy => h3.1 y (List.mem_of_mem_take hy)) (by simp; omega), Option.bind_some, slL_eq (by omega) (by omega) (by omega), Option.bind_some]
    have t3 : ((r3.1.drop ((0 : Int)).toNat).take (((i : Int)).toNat - ((0 : Int)).toNat)) = r3.1.take i := by
      rw [Int.toNat_zero, List.drop_zero, Nat.sub_zero]; congr 1
    rw [t3, dec (r3.1.take i) (fun y hy => h3.1 y (List.mem_of_mem_take hy)) (by simp; omega), Option.bind_some]
    have d1 : decR S (r3.1.drop i) 0 = ((waitF r S).1, 0) := decR_at (i := 0) (by rw [List.getElem?_drop, Nat.add_zero]; exact e1) e3 (fun j r' hj => by omega)
    have d2 : decR S (r3.1.take (i + 1)) 0 = ((waitF r S).1, (i : Int)) := decR_at (by rw [List.getElem?_take, if_pos (by omega)]; exact e1) e3 (fun j r' hj hr' => by
      rw [List.getElem?_take, if_pos (by omega)] at hr'
      exact e4 j r' hj hr')
    have d3 : decR S (r3.1.take i) 0 = (0, -1) := decR_none 0 (fun y hy => by
      obtain ⟨j, hj⟩ := List.getElem?_of_mem hy
      rw [List.getElem?_take] at hj
      split at hj
      · exact e4 j y (by assumption) hj
      · cases hj)
    rw [d1, d2, d3]
    simp only [beq_self_eq_true, cond_true]
    rw [same_refl, Option.bind_some, cond_true, Option.bind_some, cond_true, awake24]
    exact okP_some rfl

/-! ### ConnectWaits -/
theorem w_L2 (p : Plate) : ∀ (q : List Plate) (k : Nat) (b : Bool), law24_ConnectWaits_L2 p q k b = some (.brk (b || decide (p ∈ q)))
  | [], k, b => by simp [law24_ConnectWaits_L2]
  | x :: q, k, b => by
    rw [law24_ConnectWaits_L2]
    cases b with
    | true => rw [cond_true, w_L2 p q (k + 1) true]; simp
    | false =>
      rw [cond_false, w_L2 p q (k + 1)]
      have : ((p.Lead == x.Lead) && ((p.Airline == x.Airline) && ((p.Serial == x.Serial) && true))) = decide (p = x) := by
        rw [Bool.eq_iff_iff]
        simp only [Bool.and_eq_true, beq_iff_eq, decide_eq_true_eq, and_true]
        constructor
        · intro h
          cases p
          cases x
          simp only at h
          obtain ⟨a, b, c⟩ := h
          subst a; subst b; subst c
          rfl
        · intro h
          subst h
          exact ⟨rfl, rfl, rfl⟩
      rw [this]
      simp
theorem w_L1 (r7 : Hold × Int) : ∀ (q : List Plate) (k : Nat), (∀ p ∈ q, p ∈ r7.1.Left) → law24_ConnectWaits_L1 r7 q k = some (.brk ())
  | [], k, _ => rfl
  | p :: q, k, h => by
    rw [law24_ConnectWaits_L1, w_L2, sub_brkE rfl, decide_eq_true (h p (by simp))]
    exact w_L1 r7 q (k + 1) (fun y hy => h y (by simp [hy]))

/-- how many late bags a rule speaks of are at most w late -/
def cnt (x : List Minimum) (t : Int) (r : HoldRule) (w : Int) (q : List Connecting) : Nat := q.countP fun c => lateB x t c && (decide (r.Kind ≠ 2) || c.Category == r.N) && decide (-w ≤ (slF x t c).1)
theorem w_L3 {x : List Minimum} (hx : x.length ≤ 1000) (s : Src) (r4 : Int × Src) (h4 : 0 ≤ r4.1 ∧ r4.1 < 60) (r : HoldRule) (s5 : Src) (h : Hold) (e : Int) (hw : 0 ≤ h.Wait ∧ h.Wait ≤ 8000000) : ∀ (q : List Connecting) (k : Nat) (a b : Int), 0 ≤ a → 0 ≤ b → a + q.length ≤ 1000 → b + q.length ≤ 1000 →
    law24_ConnectWaits_L3 (x, s) r4 ([r], s5) (h, e) q k a b = some (.brk (a + cnt x (40 + r4.1) r h.Wait q, b + cnt x (40 + r4.1) r (h.Wait - 1) q))
  | [], k, a, b, _, _, _, _ => by simp [law24_ConnectWaits_L3, cnt]
  | c :: q, k, a, b, ha, hb, hla, hlb => by
    simp only [List.length_cons] at hla hlb
    obtain ⟨h1, h2, h3⟩ := sl_eq hx (40 + r4.1) c
    have ih := fun (a' b' : Int) (p1 : 0 ≤ a') (p2 : 0 ≤ b') (p3 : a' + q.length ≤ 1000) (p4 : b' + q.length ≤ 1000) => w_L3 hx s r4 h4 r s5 h e hw q (k + 1) a' b' p1 p2 p3 p4
    have e1 : IntKind.i64.wrap (0 - h.Wait) = -h.Wait := by rw [show 0 - h.Wait = -h.Wait by omega]; exact w64_id (by omega) (by omega)
    have e0 : ixL ([r], s5).1 (0 : Int) = some r := rfl
    rw [law24_ConnectWaits_L3, w64_id (z := 40 + r4.1) (by omega) (by omega), h1, Option.bind_some, e0, Option.bind_some, Option.bind_some, e1, w64_id (z := 1 - h.Wait) (by omega) (by omega), w64_id (z := a + 1) (by omega) (by omega), w64_id (z := b + 1) (by omega) (by omega)]
    have i1 := ih (a + 1) (b + 1) (by omega) (by omega) (by omega) (by omega)
    have i2 := ih (a + 1) b (by omega) (by omega) (by omega) (by omega)
    have i3 := ih a (b + 1) (by omega) (by omega) (by omega) (by omega)
    have i4 := ih a b (by omega) (by omega) (by omega) (by omega)
    rw [i1, i2, i3, i4]
    unfold cnt lateB
    simp only [List.countP_cons]
    cases c1 : (slF x (40 + r4.1) c).2 with
    | false => simp
    | true =>
      by_cases c2 : (slF x (40 + r4.1) c).1 < 0
      case neg => simp [c2]
      by_cases c5 : (decide (r.Kind ≠ 2) || c.Category == r.N) = true
      case neg =>
        have c5' : r.Kind = 2 ∧ (c.Category == r.N) = false := by
          rw [Bool.or_eq_true, not_or] at c5
          exact ⟨by simpa using c5.1, by simpa using c5.2⟩
        rw [show (r.Kind != 2) = false by simp [c5'.1]]
        simp [c2, c5'.2, c5'.1]
      have hk : ∀ (X Y : Option (Ctl Bool (Int × Int))), cond (r.Kind != (2 : Int)) X (cond (c.Category == r.N) X Y) = X := fun X Y => by
        by_cases c6 : r.Kind = 2
        · rw [show (r.Kind != 2) = false by simp [c6], cond_false]
          have : (c.Category == r.N) = true := by simpa [c6] using c5
          rw [this, cond_true]
        · rw [show (r.Kind != 2) = true by simpa using c6, cond_true]
      rw [decide_eq_true c2, cond_true, cond_true, hk, c5]
      by_cases c3 : -h.Wait ≤ (slF x (40 + r4.1) c).1 <;> by_cases c4 : 1 - h.Wait ≤ (slF x (40 + r4.1) c).1
      · rw [decide_eq_true c3, decide_eq_true c4, decide_eq_true (show -(h.Wait - 1) ≤ (slF x (40 + r4.1) c).1 by omega)]
        simp only [cond_true, Bool.and_self, if_true]
        congr 3 <;> omega
      · rw [decide_eq_true c3, decide_eq_false c4, decide_eq_false (show ¬ -(h.Wait - 1) ≤ (slF x (40 + r4.1) c).1 by omega)]
        simp only [cond_true, cond_false, Bool.and_self, Bool.and_false, if_true]
        congr 3 <;> simp <;> omega
      · omega
      · rw [decide_eq_false c3, decide_eq_false c4, decide_eq_false (show ¬ -(h.Wait - 1) ≤ (slF x (40 + r4.1) c).1 by omega)]
        simp

theorem cnt_late (x : List Minimum) (t : Int) (r : HoldRule) (w : Int) : ∀ (q : List Connecting), cnt x t r w q = (lateOf x t q).countP fun e => (decide (r.Kind ≠ 2) || e.category == r.N) && decide (e.need ≤ w)
  | [] => rfl
  | c :: q => by
    have ih := cnt_late x t r w q
    unfold cnt lateOf at ih ⊢
    rw [List.countP_cons, ih, List.filter_cons]
    cases hl : lateB x t c with
    | false => simp
    | true =>
      rw [if_pos rfl, List.map_cons, List.countP_cons]
      have : decide (-w ≤ (slF x t c).1) = decide (-(slF x t c).1 ≤ w) := by rw [Bool.eq_iff_iff]; simp; omega
      rw [this, Bool.true_and]

theorem take_cnt {S : List Late} (hs : S.Pairwise (fun a b => a.need ≤ b.need)) {i : Nat} {e : Late} (he : S[i]? = some e) : i + 1 ≤ S.countP (fun y => decide (y.need ≤ e.need)) ∧ S.countP (fun y => decide (y.need ≤ e.need - 1)) ≤ i := by
  have hi := (List.getElem?_eq_some_iff.1 he).1
  have hp := List.pairwise_iff_getElem.1 hs
  have hg : S[i] = e := (List.getElem?_eq_some_iff.1 he).2
  constructor
  · rw [← List.take_append_drop (i + 1) S, List.countP_append]
    have : (S.take (i + 1)).countP (fun y => decide (y.need ≤ e.need)) = (S.take (i + 1)).length := by
      rw [List.countP_eq_length]
      intro y hy
      obtain ⟨j, hj, rfl⟩ := List.mem_iff_getElem.1 hy
      rw [List.length_take] at hj
      rw [List.getElem_take]
      rcases Nat.lt_or_ge j i with c | c
      · have := hp j i (by omega) hi c
        rw [hg] at this
        exact decide_eq_true this
      · have : j = i := by omega
        subst this
        rw [hg]
        exact decide_eq_true (Int.le_refl _)
    rw [this, List.length_take]
    omega
  · rw [← List.take_append_drop i S, List.countP_append]
    have h2 : (S.drop i).countP (fun y => decide (y.need ≤ e.need - 1)) = 0 := by
      rw [List.countP_eq_zero]
      intro y hy
      obtain ⟨j, hj, rfl⟩ := List.mem_iff_getElem.1 hy
      rw [List.length_drop] at hj
      rw [List.getElem_drop]
      have : e.need ≤ S[i + j].need := by
        rcases Nat.eq_zero_or_pos j with c | c
        · subst c; simp only [Nat.add_zero]; rw [hg]; exact Int.le_refl _
        · have := hp i (i + j) hi (by omega) (by omega)
          rwa [hg] at this
      rw [decide_eq_false (by omega)]
      simp
    have h1 := List.countP_le_length (p := fun y : Late => decide (y.need ≤ e.need - 1)) (l := S.take i)
    rw [List.length_take] at h1
    omega

theorem find_cnt {S : List Late} (hs : S.Pairwise (fun a b => a.need ≤ b.need)) {n : Int} {e : Late} (he : S.find? (fun e => e.category == n) = some e) : 1 ≤ S.countP (fun y => (y.category == n) && decide (y.need ≤ e.need)) ∧ S.countP (fun y => (y.category == n) && decide (y.need ≤ e.need - 1)) = 0 := by
  obtain ⟨hp, i, hi, hg, hb⟩ := List.find?_eq_some_iff_getElem.1 he
  have hq := List.pairwise_iff_getElem.1 hs
  constructor
  · rw [Nat.one_le_iff_ne_zero]
    intro h0
    rw [List.countP_eq_zero] at h0
    have := h0 e (List.mem_of_find?_eq_some he)
    rw [hp, decide_eq_true (Int.le_refl _)] at this
    exact this rfl
  · rw [List.countP_eq_zero]
    intro y hy hc
    obtain ⟨j, hj, rfl⟩ := List.mem_iff_getElem.1 hy
    simp only [Bool.and_eq_true, decide_eq_true_eq] at hc
    rcases Nat.lt_trichotomy j i with c | c | c
    · have := hb j c
      simp [hc.1] at this
    · subst c
      rw [hg] at hc
      omega
    · have := hq i j hi hj c
      rw [hg] at this
      omega

theorem left_sub (x : List Minimum) (t w : Int) (hw : 0 ≤ w) (bags : List Connecting) : ∀ p ∈ leftOf x t w bags, p ∈ leftOf x t 0 bags := by
  intro p hp
  unfold leftOf at hp ⊢
  obtain ⟨c, hc, rfl⟩ := List.mem_map.1 hp
  obtain ⟨h1, h2⟩ := List.mem_filter.1 hc
  refine List.mem_map.2 ⟨c, List.mem_filter.2 ⟨h1, ?_⟩, rfl⟩
  simp only [Bool.or_eq_true, decide_eq_true_eq] at h2 ⊢
  rcases h2 with h2 | h2
  · exact .inl h2
  · exact .inr (by omega)

theorem waits_ok (l : List Int) : law24_ConnectWaits l = some true := by
  refine okP_eq ?_
  unfold law24_ConnectWaits
  refine okP_bind (New_ok l) fun r1 h1 => ?_
  refine okP_bind (Min_ok r1 h1) fun r2 h2 => ?_
  refine okP_bind (Bags2_ok r2.2 25 h2.2.2 (by omega) (by omega)) fun r3 h3 => ?_
  refine okP_bind (N_ok r3.2 60 h3.2.2 (by omega) (by omega)) fun r4 h4 => ?_
  refine okP_bind (Holds_ok r4.2 1 h4.2.2 (by omega) (by omega)) fun r5 h5 => ?_
  have hx : r2.1.length ≤ 1000 := by have := h2.2.1; omega
  have hbl : r3.1.length ≤ 40 := by have := h3.2.1; omega
  have hrl : r5.1.length ≤ 8 := by have := h5.2.1; omega
  obtain ⟨S, hS⟩ := srt_ex hx (40 + r4.1) hbl
  have hd := decR_rng hS.n h5.1
  have dec : ∀ rs : List HoldRule, (∀ r ∈ rs, rV r) → rs.length ≤ 8 → connect_Decide r2.1 rs r3.1 (40 + r4.1) = some (⟨(decR S rs 0).1, (decR S rs 0).2, leftOf r2.1 (40 + r4.1) (decR S rs 0).1 r3.1⟩, 0) := fun rs hr hl => dec_eq hx h2.1 hr hl h3.1 hbl ⟨by omega, by omega⟩ hS
  rw [w64_id (z := 40 + r4.1) (by omega) (by omega), dec r5.1 h5.1 hrl, Option.bind_some, dec [] (by simp) (by simp), Option.bind_some, bne_self_eq_false, cond_false, cond_false]
  rw [w_L1 _ _ 0 (left_sub _ _ _ hd.1 _), fin_brkE rfl]
  simp only
  by_cases c1 : (decR S r5.1 0).2 < 0
  · rw [decide_eq_true c1, cond_true]
    rcases decR_spec (S := S) r5.1 0 with ⟨e, _⟩ | ⟨i, r, e1, e2, _, _⟩
    · rw [e]
      show okP ((ref23_SamePlates (leftOf r2.1 (40 + r4.1) 0 r3.1) (leftOf r2.1 (40 + r4.1) 0 r3.1)).bind _) _
      rw [same_refl, Option.bind_some, cond_true, awake24]
      exact okP_some rfl
    · rw [e2] at c1; simp only at c1; omega
  rw [decide_eq_false c1, cond_false]
  by_cases c2 : (decR S r5.1 0).1 = 0
  · rw [c2]
    show okP (cond true ((ref23_SamePlates (leftOf r2.1 (40 + r4.1) 0 r3.1) (leftOf r2.1 (40 + r4.1) 0 r3.1)).bind _) _) _
    rw [cond_true, same_refl, Option.bind_some, cond_true, awake24]
    exact okP_some rfl
  rw [show ((decR S r5.1 0).1 == 0) = false from beq_false_of_ne c2, cond_false]
  rcases decR_spec (S := S) r5.1 0 with ⟨e, _⟩ | ⟨i, r, e1, e2, e3, _⟩
  · rw [e] at c1; exact absurd (by decide) c1
  have hi := (List.getElem?_eq_some_iff.1 e1).1
  have hlen : r5.1.length = 1 := by have := h5.2.1; omega
  obtain ⟨r', hr'⟩ := List.length_eq_one_iff.1 hlen
  have hi0 : i = 0 := by omega
  subst hi0
  have hrr : r' = r := by rw [hr'] at e1; simpa using e1
  subst hrr
  have hrv := h5.1 r' (by rw [hr']; simp)
  rw [Nat.zero_add] at e2
  have hr5 : r5 = ([r'], r5.2) := Prod.ext hr' rfl
  rw [hlen]
  simp only [show (((1 : Nat) : Int) != 1) = false from rfl, cond_false]
  rw [hr5]
  have e0 : ixL ([r'], r5.2).1 (0 : Int) = some r' := rfl
  rw [e0, Option.bind_some]
  rw [hr'] at e2
  simp only
  rw [e2]
  simp only
  -- the wait is one of a bag
  have hwr := wait_rng hrv hS.n
  rw [hr', e2] at c2
  simp only at c2
  have wk := w_L3 hx r2.2 r4 ⟨h4.1, h4.2.1⟩ r' r5.2 ⟨(waitF r' S).1, ((0 : Nat) : Int), leftOf r2.1 (40 + r4.1) (waitF r' S).1 r3.1⟩ 0 hwr r3.1 0 0 0 (by omega) (by omega) (by omega) (by omega)
  dsimp only at wk
  have key : ∃ e : Late, (waitF r' S).1 = e.need ∧ e.need ≤ r'.Most ∧ ((r'.Kind = 1 ∧ S[(r'.N - 1).toNat]? = some e) ∨ (r'.Kind = 2 ∧ S.find? (fun e => e.category == r'.N) = some e)) := by
    rcases hrv with ⟨k1, _⟩ | ⟨k1, _⟩ | ⟨k1, _⟩
    · have hw := e3
      unfold waitF at hw c2 ⊢
      rw [k1, if_pos rfl] at hw c2 ⊢
      cases hS2 : S[(r'.N - 1).toNat]? with
      | none => rw [hS2] at hw; cases hw
      | some e =>
        rw [hS2] at hw
        simp only at hw ⊢
        by_cases c : e.need ≤ r'.Most
        · rw [if_pos c]; exact ⟨e, rfl, c, .inl ⟨by trivial, by rfl⟩⟩
        · rw [if_neg c] at hw; cases hw
    · have hw := e3
      unfold waitF at hw c2 ⊢
      rw [k1, if_neg (by decide), if_pos rfl] at hw c2 ⊢
      cases hS2 : S.find? (fun e => e.category == r'.N) with
      | none => rw [hS2] at hw; cases hw
      | some e =>
        rw [hS2] at hw
        simp only at hw ⊢
        by_cases c : e.need ≤ r'.Most
        · rw [if_pos c]; exact ⟨e, rfl, c, .inr ⟨by trivial, by rfl⟩⟩
        · rw [if_neg c] at hw; cases hw
    · exfalso
      unfold waitF at c2
      rw [k1, if_neg (by decide), if_neg (by decide)] at c2
      exact c2 rfl
  obtain ⟨e, q1, q2, q3⟩ := key
  rw [decide_eq_false (by omega), cond_false]
  have wk' : law24_ConnectWaits_L3 r2 r4 ([r'], r5.2) (⟨(waitF r' S).1, ((0 : Nat) : Int), leftOf r2.1 (40 + r4.1) (waitF r' S).1 r3.1⟩, 0) r3.1 0 0 0 = _ := wk
  rw [wk', fin_brkE rfl, Option.bind_some, Option.bind_some]
  simp only
  rw [cnt_late, cnt_late, ← hS.p.countP_eq, ← hS.p.countP_eq, q1, Int.zero_add, Int.zero_add]
  rcases q3 with ⟨k1, k2⟩ | ⟨k1, k2⟩
  · have hN : 1 ≤ r'.N := by rcases hrv with h | h | h <;> omega
    obtain ⟨u1, u2⟩ := take_cnt hS.s k2
    rw [show (r'.Kind == 2) = false by rw [k1]; rfl, cond_false]
    have f1 : ∀ w : Int, (fun e : Late => (decide (r'.Kind ≠ 2) || e.category == r'.N) && decide (e.need ≤ w)) = fun e : Late => decide (e.need ≤ w) := fun w => by
      funext y
      rw [k1]
      simp
    rw [f1, f1, decide_eq_true (by omega), cond_true, decide_eq_true (by omega), cond_true, awake24]
    exact okP_some rfl
  · obtain ⟨u1, u2⟩ := find_cnt hS.s k2
    rw [show (r'.Kind == 2) = true by rw [k1]; rfl, cond_true]
    have f1 : ∀ w : Int, (fun e : Late => (decide (r'.Kind ≠ 2) || e.category == r'.N) && decide (e.need ≤ w)) = fun e : Late => (e.category == r'.N) && decide (e.need ≤ w) := fun w => by
      funext y
      rw [k1]
      simp
    rw [f1, f1, decide_eq_true (by omega), cond_true, decide_eq_true (by omega), cond_true, awake24]
    exact okP_some rfl
end Go.Proofs.Ytkajegjghfbgaaa.Ex.Cn
