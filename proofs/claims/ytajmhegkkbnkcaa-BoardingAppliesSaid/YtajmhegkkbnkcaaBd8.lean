/- Boarding: Join of the reference is Join of the program; BoardingJoins. -/
import Derived.Test.YtajmhegkkbnkcaaBd7
namespace Go.Proofs.Ytajmhegkkbnkcaa.Ex
open Go.RowKit Go.Proofs.Ytajmhegkkbnkcaa.Ax
set_option linter.unusedVariables false
set_option linter.unusedSimpArgs false

theorem uni_nil : ∀ n, uniF n [] [] = [] := fun n => by cases n <;> rfl
theorem union_L (a b : List Int) (ha : a.length ≤ 1000000) (hb : b.length ≤ 1000000) : ∀ (fuel n : Nat) (acc : List Int) (i k : Nat), i ≤ a.length → k ≤ b.length → (a.length - i) + (b.length - k) ≤ n → n < fuel → acc.length ≤ i + k →
    ref25_Union_L1 a b fuel acc (i : Int) (k : Int) = some (.brk (acc ++ uniF n (a.drop i) (b.drop k)))
  | 0, n, acc, i, k, _, _, _, h, _ => by omega
  | fuel + 1, n, acc, i, k, hi, hk, hn, hf, hl => by
    rw [ref25_Union_L1]
    have w1 : w64 ((i : Int) + 1) = ((i + 1 : Nat) : Int) := by rw [w64_id (by omega) (by omega)]; omega
    have w2 : w64 ((k : Int) + 1) = ((k + 1 : Nat) : Int) := by rw [w64_id (by omega) (by omega)]; omega
    by_cases ci : i < a.length
    · have ea : a[i]? = some a[i] := List.getElem?_eq_getElem ci
      have da := drop_cons ea
      obtain ⟨n', rfl⟩ : ∃ n', n = n' + 1 := ⟨n - 1, by omega⟩
      rw [decide_eq_true (by omega), cond_true]
      by_cases ck : k < b.length
      · have eb : b[k]? = some b[k] := List.getElem?_eq_getElem ck
        have db := drop_cons eb
        rw [show ((k : Int) == (b.length : Int)) = false from beq_false_of_ne (by omega), cond_false, ixL_at' i rfl ea]
        simp only [Option.bind_some]
        rw [ixL_at' k rfl eb]
        simp only [Option.bind_some]
        rw [da, db, uniF]
        by_cases c1 : a[i] < b[k]
        · rw [decide_eq_true c1, cond_true, cond_true, apL_eq (by simp; omega)]
          simp only [Option.bind_some]
          rw [w1, union_L a b ha hb fuel n' _ (i + 1) k (by omega) hk (by omega) (by omega) (by simp; omega), ← db]
          simp
        · rw [decide_eq_false c1, cond_false, cond_false, show ((i : Int) == (a.length : Int)) = false from beq_false_of_ne (by omega), cond_false]
          by_cases c2 : b[k] < a[i]
          · rw [decide_eq_true c2, cond_true, cond_true, apL_eq (by simp; omega)]
            simp only [Option.bind_some]
            rw [w2, union_L a b ha hb fuel n' _ i (k + 1) hi (by omega) (by omega) (by omega) (by simp; omega), ← da]
            simp
          · rw [decide_eq_false c2, cond_false, cond_false, apL_eq (by simp; omega)]
            simp only [Option.bind_some]
            rw [w1, w2, union_L a b ha hb fuel n' _ (i + 1) (k + 1) (by omega) (by omega) (by omega) (by omega) (by simp; omega)]
            simp
      · obtain rfl : k = b.length := by omega
        rw [show ((b.length : Int) == (b.length : Int)) = true from by simp, cond_true, ixL_at' i rfl ea]
        simp only [Option.bind_some]
        rw [apL_eq (by simp; omega)]
        simp only [Option.bind_some]
        rw [w1, union_L a b ha hb fuel n' _ (i + 1) b.length (by omega) hk (by omega) (by omega) (by simp; omega), da, List.drop_length, uniF]
        simp
    · obtain rfl : i = a.length := by omega
      rw [decide_eq_false (by omega), cond_false]
      by_cases ck : k < b.length
      · have eb : b[k]? = some b[k] := List.getElem?_eq_getElem ck
        have db := drop_cons eb
        obtain ⟨n', rfl⟩ : ∃ n', n = n' + 1 := ⟨n - 1, by omega⟩
        rw [decide_eq_true (by omega), cond_true, show ((k : Int) == (b.length : Int)) = false from beq_false_of_ne (by omega), cond_false, show ((a.length : Int) == (a.length : Int)) = true from by simp, cond_true, ixL_at' k rfl eb]
        simp only [Option.bind_some]
        rw [apL_eq (by simp; omega)]
        simp only [Option.bind_some]
        rw [w2, union_L a b ha hb fuel n' _ a.length (k + 1) hi (by omega) (by omega) (by omega) (by simp; omega), db, List.drop_length, uniF]
        simp
      · obtain rfl : k = b.length := by omega
        rw [decide_eq_false (by omega), cond_false, List.drop_length, List.drop_length, uni_nil]
        simp
theorem union_eq (a b : List Int) (ha : a.length ≤ 1000000) (hb : b.length ≤ 1000000) : ref25_Union a b = some (uniF (a.length + b.length) a b) := by
  unfold ref25_Union
  have := union_L a b ha hb 9223372036854775807 (a.length + b.length) [] 0 0 (by omega) (by omega) (by omega) (by omega) (by simp)
  rw [show ((0 : Nat) : Int) = 0 from rfl] at this
  rw [this]
  simp [Ctl.fin]

theorem rjoin_eq (x y : Manifest) (hx : smallM x) (hy : smallM y) (hf : y.Flight = x.Flight) : ∃ m b, ref25_join x y = some (m, b) ∧ (match mrg x y with | none => b = false | some m' => b = true ∧ m = m') := by
  obtain ⟨h1, h2⟩ := hx
  obtain ⟨h3, h4⟩ := hy
  unfold ref25_join mrg
  by_cases c : x.Version < y.Version
  · rw [decide_eq_true c, cond_true, apL_eq (by simp; omega)]
    simp only [Option.bind_some, List.nil_append]
    rw [union_eq _ _ h2 h4]
    simp only [Option.bind_some]
    rw [show (x.Version != y.Version) = true from by simp; omega, cond_true, if_neg (by omega)]
    exact ⟨_, _, rfl, rfl, by rw [if_pos c, if_pos c, hf]⟩
  · rw [decide_eq_false c, cond_false, apL_eq (by simp; omega)]
    simp only [Option.bind_some, List.nil_append]
    rw [union_eq _ _ h2 h4]
    simp only [Option.bind_some]
    by_cases c2 : x.Version = y.Version
    · rw [show (x.Version != y.Version) = false from by simp [c2], cond_false, same_eq]
      simp only [Option.bind_some]
      by_cases c3 : x.Boarded = y.Boarded
      · rw [if_neg (by simp [c3])]
        exact ⟨_, _, rfl, decide_eq_true c3, by rw [if_neg c, if_neg c]⟩
      · rw [if_pos ⟨c2, c3⟩]
        exact ⟨_, _, rfl, decide_eq_false c3⟩
    · rw [show (x.Version != y.Version) = true from by simpa using c2, cond_true, if_neg (fun h => c2 h.1)]
      exact ⟨_, _, rfl, rfl, by rw [if_neg c, if_neg c]⟩
theorem rcopy_eq (m : Manifest) (h : m.Boarded.length ≤ 16777216 ∧ m.Ever.length ≤ 16777216) : ref25_Copy m = some m := by
  unfold ref25_Copy
  rw [apL_eq (by simp; have := h.1; omega)]
  simp only [Option.bind_some]
  rw [apL_eq (by simp; have := h.2; omega)]
  rfl
theorem uni_len : ∀ (n : Nat) (a b : List Int), (uniF n a b).length ≤ n
  | 0, a, b => by simp [uniF]
  | n + 1, [], [] => by simp [uniF]
  | n + 1, x :: a, [] => by simp only [uniF, List.length_cons]; have := uni_len n a []; omega
  | n + 1, [], y :: b => by simp only [uniF, List.length_cons]; have := uni_len n [] b; omega
  | n + 1, x :: a, y :: b => by
    have h1 := uni_len n a (y :: b)
    have h2 := uni_len n (x :: a) b
    have h3 := uni_len n a b
    rw [uniF]
    cases decide (x < y) <;> cases decide (y < x) <;> simp only [cond_true, cond_false, List.length_cons] <;> omega
theorem mrg_some {x y m : Manifest} (hx : smallM x) (hy : smallM y) (h : mrg x y = some m) : m.Flight = x.Flight ∧ m.Boarded.length ≤ 16777216 ∧ m.Ever.length ≤ 16777216 := by
  unfold mrg at h
  split at h
  · cases h
  · cases h
    have := uni_len (x.Ever.length + y.Ever.length) x.Ever y.Ever
    have := hx.1
    have := hx.2
    have := hy.1
    have := hy.2
    refine ⟨rfl, ?_, ?_⟩
    · show (if x.Version < y.Version then y.Boarded else x.Boarded).length ≤ 16777216
      split <;> omega
    · show (uniF (x.Ever.length + y.Ever.length) x.Ever y.Ever).length ≤ 16777216
      omega

/-- what Join does with one manifest of the first list -/
def fx (b : List Manifest) (x : Manifest) : Option Manifest := match b.find? (fun m => decide (m.Flight = x.Flight)) with
  | none => some x
  | some y => mrg x y
def jl (b : List Manifest) : List Manifest → Option (List Manifest)
  | [] => some []
  | x :: a => (fx b x).bind fun m => (jl b a).map (m :: ·)
theorem rjoin_L1 (b : List Manifest) (hb : smallL b) : ∀ (a : List Manifest) (k : Nat) (acc : List Manifest), smallL a → acc.length + a.length ≤ 1000 → ref25_Join_L1 b a k acc = some (match jl b a with | none => .ret ([], 5) | some r => .brk (acc ++ r))
  | [], k, acc, _, _ => by simp [ref25_Join_L1, jl]
  | x :: a, k, acc, ha, hl => by
    simp only [List.length_cons] at hl
    have hx := ha x (by simp)
    have ih := fun acc hl => rjoin_L1 b hb a (k + 1) acc (fun y hy => ha y (by simp [hy])) hl
    rw [ref25_Join_L1, rfind_eq]
    have h := find_idxM x.Flight b
    simp only [Option.bind_some, jl, fx]
    cases hi : idxM x.Flight b with
    | none =>
      rw [hi] at h
      simp only at h ⊢
      rw [h, decide_eq_false (by omega), cond_false, rcopy_eq x ⟨by have := hx.1; omega, by have := hx.2; omega⟩]
      simp only [Option.bind_some]
      rw [apL_eq (by simp; omega)]
      simp only [Option.bind_some]
      rw [ih _ (by simp; omega)]
      cases jl b a <;> simp
    | some i =>
      rw [hi] at h
      obtain ⟨y, h1, h2⟩ := h
      have hyf := List.find?_some h2
      have hy := hb y (List.mem_of_getElem? h1)
      simp only
      rw [h2, decide_eq_true (by omega), cond_true, ixL_at' i rfl h1]
      simp only [Option.bind_some]
      obtain ⟨m, bb, e1, e2⟩ := rjoin_eq x y hx hy (by simpa using hyf)
      rw [e1]
      simp only [Option.bind_some]
      cases hm : mrg x y with
      | none =>
        rw [hm] at e2
        simp only at e2
        subst e2
        rfl
      | some m' =>
        rw [hm] at e2
        obtain ⟨rfl, rfl⟩ := e2
        simp only [Bool.not_true, cond_false]
        rw [rcopy_eq m (mrg_some hx hy hm).2]
        simp only [Option.bind_some]
        rw [apL_eq (by simp; omega)]
        simp only [Option.bind_some]
        rw [ih _ (by simp; omega)]
        cases jl b a <;> simp

theorem take_tw {α : Type} {p : α → Bool} : ∀ l : List α, l.take (l.takeWhile p).length = l.takeWhile p
  | [] => rfl
  | x :: l => by
    by_cases c : p x = true
    · rw [List.takeWhile_cons_of_pos c, List.length_cons, List.take_succ_cons, take_tw l]
    · rw [List.takeWhile_cons_of_neg c]; rfl
theorem drop_tw {α : Type} {p : α → Bool} : ∀ l : List α, l.drop (l.takeWhile p).length = l.dropWhile p
  | [] => rfl
  | x :: l => by
    by_cases c : p x = true
    · rw [List.takeWhile_cons_of_pos c, List.dropWhile_cons_of_pos c, List.length_cons, List.drop_succ_cons, drop_tw l]
    · rw [List.takeWhile_cons_of_neg c, List.dropWhile_cons_of_neg c]; rfl
/-- a manifest is put at its place -/
def insM (y : Manifest) (l : List Manifest) : List Manifest := l.takeWhile (fun e => decide (flt e.Flight y.Flight)) ++ y :: l.dropWhile (fun e => decide (flt e.Flight y.Flight))
def jr (a : List Manifest) : List Manifest → List Manifest → List Manifest
  | out, [] => out
  | out, y :: b => if (a.find? (fun m => decide (m.Flight = y.Flight))).isSome = true then jr a out b else jr a (insM y out) b
theorem rjoin_L3 (y : Manifest) : ∀ (l : List Manifest) (k : Nat), ref25_Join_L3 y l k = some (.brk (((k + (l.takeWhile (fun e => decide (flt e.Flight y.Flight))).length : Nat) : Int)))
  | [], k => rfl
  | e :: l, k => by
    rw [ref25_Join_L3, rcmp_eq]
    simp only [Option.bind_some]
    by_cases c : flt e.Flight y.Flight
    · have c' : cmpF e.Flight y.Flight = -1 := c
      rw [c', decide_eq_true (by omega), cond_true, rjoin_L3 y l (k + 1), List.takeWhile_cons_of_pos (by simpa using c)]
      simp only [List.length_cons]
      rw [show k + 1 + (List.takeWhile (fun e => decide (flt e.Flight y.Flight)) l).length = k + ((List.takeWhile (fun e => decide (flt e.Flight y.Flight)) l).length + 1) by omega]
    · have c' : ¬ cmpF e.Flight y.Flight < 0 := fun h => c (by rcases cmpF_cases e.Flight y.Flight with h' | h' | h' <;> first | exact h' | omega)
      rw [decide_eq_false c', cond_false, List.takeWhile_cons_of_neg (by simpa using c)]
      simp
theorem rjoin_L2 (a : List Manifest) : ∀ (b : List Manifest) (k : Nat) (out : List Manifest), smallL b → out.length + b.length ≤ 1000 → ref25_Join_L2 a b k out = some (.brk (jr a out b))
  | [], k, out, _, _ => by rw [ref25_Join_L2, jr]
  | y :: b, k, out, hb, hl => by
    simp only [List.length_cons] at hl
    have hy := hb y (by simp)
    have ih := fun out hl => rjoin_L2 a b (k + 1) out (fun z hz => hb z (by simp [hz])) hl
    rw [ref25_Join_L2, rfind_eq, jr]
    have h := find_idxM y.Flight a
    simp only [Option.bind_some]
    cases hi : idxM y.Flight a with
    | some i =>
      rw [hi] at h
      obtain ⟨m, h1, h2⟩ := h
      simp only
      rw [decide_eq_true (by omega), cond_true, h2, if_pos (by rfl)]
      exact ih out (by omega)
    | none =>
      rw [hi] at h
      simp only at h ⊢
      rw [decide_eq_false (by omega), cond_false, h, if_neg (by simp), rjoin_L3]
      simp only [Ctl.sub, Nat.zero_add]
      rw [rcopy_eq y ⟨by have := hy.1; omega, by have := hy.2; omega⟩]
      have hw : (out.takeWhile (fun e => decide (flt e.Flight y.Flight))).length ≤ out.length := (List.takeWhile_sublist _).length_le
      simp only [Option.bind_some]
      rw [slL_eq (by omega) (by omega) (by omega)]
      simp only [Option.bind_some]
      rw [apL_eq (by simp; omega)]
      simp only [Option.bind_some]
      rw [slL_eq (by omega) (by omega) (by omega)]
      simp only [Option.bind_some]
      rw [apL_eq (by simp; omega)]
      simp only [Option.bind_some]
      have hsplit := List.takeWhile_append_dropWhile (p := fun e : Manifest => decide (flt e.Flight y.Flight)) (l := out)
      have e1 : out.take (out.takeWhile (fun e => decide (flt e.Flight y.Flight))).length = out.takeWhile (fun e => decide (flt e.Flight y.Flight)) := take_tw out
      have e2 : out.drop (out.takeWhile (fun e => decide (flt e.Flight y.Flight))).length = out.dropWhile (fun e => decide (flt e.Flight y.Flight)) := drop_tw out
      have hlen : (insM y out).length = out.length + 1 := by
        unfold insM
        have := congrArg List.length hsplit
        simp only [List.length_append, List.length_cons] at this ⊢
        omega
      rw [show ((out.takeWhile (fun e => decide (flt e.Flight y.Flight))).length : Int).toNat = (out.takeWhile (fun e => decide (flt e.Flight y.Flight))).length by omega, show ((out.length : Int)).toNat = out.length by omega, show (0 : Int).toNat = 0 from rfl, List.drop_zero, Nat.sub_zero, e1, e2, List.take_of_length_le (by rw [← e2]; simp)]
      exact ih (insM y out) (by omega)

/-! both give the same -/
theorem sort_ext : ∀ {l m : List Manifest}, sortedM l → sortedM m → (∀ x, x ∈ l ↔ x ∈ m) → l = m
  | [], [], _, _, _ => rfl
  | [], y :: m, _, _, h => by have := (h y).2 (by simp); simp at this
  | x :: l, [], _, _, h => by have := (h x).1 (by simp); simp at this
  | x :: l, y :: m, h1, h2, h => by
    unfold sortedM at h1 h2
    rw [List.pairwise_cons] at h1 h2
    have e : x = y := by
      rcases List.mem_cons.1 ((h x).1 (by simp)) with e | hx
      · exact e
      · rcases List.mem_cons.1 ((h y).2 (by simp)) with e | hy
        · exact e.symm
        · exact (flt_asymm (h2.1 x hx) (h1.1 y hy)).elim
    subst e
    congr 1
    refine sort_ext h1.2 h2.2 fun z => ⟨fun hz => ?_, fun hz => ?_⟩
    · rcases List.mem_cons.1 ((h z).1 (by simp [hz])) with e | hz'
      · subst e; exact (flt_irr (h1.1 z hz)).elim
      · exact hz'
    · rcases List.mem_cons.1 ((h z).2 (by simp [hz])) with e | hz'
      · subst e; exact (flt_irr (h2.1 z hz)).elim
      · exact hz'
theorem sort_uniq : ∀ {l : List Manifest}, sortedM l → ∀ x ∈ l, ∀ y ∈ l, x.Flight = y.Flight → x = y
  | z :: l, h, x, hx, y, hy, e => by
    unfold sortedM at h
    rw [List.pairwise_cons] at h
    rcases List.mem_cons.1 hx with e1 | hx2
    · rcases List.mem_cons.1 hy with e2 | hy2
      · rw [e1, e2]
      · exact (flt_ne (h.1 y hy2) (e1 ▸ e)).elim
    · rcases List.mem_cons.1 hy with e2 | hy2
      · exact (flt_ne (h.1 x hx2) (e2 ▸ e.symm)).elim
      · exact sort_uniq h.2 x hx2 y hy2 e
def memJ (a b : List Manifest) (m : Manifest) : Prop := (m ∈ a ∧ ∀ y ∈ b, y.Flight ≠ m.Flight) ∨ (m ∈ b ∧ ∀ x ∈ a, x.Flight ≠ m.Flight) ∨ ∃ x ∈ a, ∃ y ∈ b, x.Flight = y.Flight ∧ mrg x y = some m
theorem mrg_flight {x y m : Manifest} (h : mrg x y = some m) : m.Flight = x.Flight := by
  unfold mrg at h
  split at h
  · cases h
  · cases h; rfl
theorem memJ_fl {a b : List Manifest} {m : Manifest} (h : memJ a b m) : ∃ z, (z ∈ a ∨ z ∈ b) ∧ z.Flight = m.Flight := by
  rcases h with ⟨h, _⟩ | ⟨h, _⟩ | ⟨x, hx, y, hy, _, hm⟩
  · exact ⟨m, .inl h, rfl⟩
  · exact ⟨m, .inr h, rfl⟩
  · exact ⟨x, .inl hx, (mrg_flight hm).symm⟩
theorem joinS_spec : ∀ (n : Nat) (a b : List Manifest), a.length + b.length ≤ n → sortedM a → sortedM b →
    (match joinS a b with
      | none => ∃ x ∈ a, ∃ y ∈ b, x.Flight = y.Flight ∧ mrg x y = none
      | some r => sortedM r ∧ (∀ m, m ∈ r ↔ memJ a b m) ∧ ∀ x ∈ a, ∀ y ∈ b, x.Flight = y.Flight → mrg x y ≠ none)
  | n, [], b, _, _, hb => by
    rw [joinS_nil]
    refine ⟨hb, fun m => ?_, fun x hx => by simp at hx⟩
    simp [memJ]
  | n, x :: a, [], _, ha, _ => by
    rw [joinS_nil_r]
    refine ⟨ha, fun m => ?_, fun _ _ y hy => by simp at hy⟩
    simp [memJ]
  | 0, x :: a, y :: b, h, _, _ => by simp at h
  | n + 1, x :: a, y :: b, h, ha, hb => by
    simp only [List.length_cons] at h
    have ha' := ha
    have hb' := hb
    unfold sortedM at ha hb
    rw [List.pairwise_cons] at ha hb
    rw [joinS]
    by_cases c1 : cmpF x.Flight y.Flight = -1
    · rw [if_pos c1]
      have hxy : flt x.Flight y.Flight := c1
      have hxb : ∀ z ∈ y :: b, flt x.Flight z.Flight := fun z hz => by
        rcases List.mem_cons.1 hz with rfl | hz
        · exact hxy
        · exact flt_trans hxy (hb.1 z hz)
      have ih := joinS_spec n a (y :: b) (by simp only [List.length_cons]; omega) ha.2 hb'
      cases hj : joinS a (y :: b) with
      | none =>
        rw [hj] at ih
        obtain ⟨x', h1, y', h2, h3⟩ := ih
        exact ⟨x', List.mem_cons_of_mem _ h1, y', h2, h3⟩
      | some r =>
        rw [hj] at ih
        obtain ⟨i1, i2, i3⟩ := ih
        refine ⟨?_, fun m => ?_, fun x' hx' y' hy' e => ?_⟩
        · refine List.pairwise_cons.2 ⟨fun m hm => ?_, i1⟩
          obtain ⟨z, hz, e⟩ := memJ_fl ((i2 m).1 hm)
          rw [← e]
          rcases hz with hz | hz
          · exact ha.1 z hz
          · exact hxb z hz
        · rw [List.mem_cons, i2]
          constructor
          · rintro (rfl | h)
            · exact .inl ⟨by simp, fun z hz => (flt_ne (hxb z hz)).symm⟩
            · rcases h with ⟨h1, h2⟩ | ⟨h1, h2⟩ | ⟨x', h1, h2⟩
              · exact .inl ⟨by simp [h1], h2⟩
              · refine .inr (.inl ⟨h1, fun z hz => ?_⟩)
                rcases List.mem_cons.1 hz with rfl | hz
                · exact flt_ne (hxb m h1)
                · exact h2 z hz
              · exact .inr (.inr ⟨x', by simp [h1], h2⟩)
          · rintro (⟨h1, h2⟩ | ⟨h1, h2⟩ | ⟨x', h1, y', h2, h3, h4⟩)
            · rcases List.mem_cons.1 h1 with rfl | h1
              · exact .inl rfl
              · exact .inr (.inl ⟨h1, h2⟩)
            · exact .inr (.inr (.inl ⟨h1, fun z hz => h2 z (by simp [hz])⟩))
            · rcases List.mem_cons.1 h1 with rfl | h1
              · exact (flt_ne (hxb y' h2) h3).elim
              · exact .inr (.inr (.inr ⟨x', h1, y', h2, h3, h4⟩))
        · rcases List.mem_cons.1 hx' with rfl | hx'
          · exact (flt_ne (hxb y' hy') e).elim
          · exact i3 x' hx' y' hy' e
    rw [if_neg c1]
    by_cases c2 : cmpF x.Flight y.Flight = 1
    · rw [if_pos c2]
      have hxy : flt y.Flight x.Flight := flt_gt.1 c2
      have hya : ∀ z ∈ x :: a, flt y.Flight z.Flight := fun z hz => by
        rcases List.mem_cons.1 hz with rfl | hz
        · exact hxy
        · exact flt_trans hxy (ha.1 z hz)
      have ih := joinS_spec n (x :: a) b (by simp only [List.length_cons]; omega) ha' hb.2
      cases hj : joinS (x :: a) b with
      | none =>
        rw [hj] at ih
        obtain ⟨x', h1, y', h2, h3⟩ := ih
        exact ⟨x', h1, y', List.mem_cons_of_mem _ h2, h3⟩
      | some r =>
        rw [hj] at ih
        obtain ⟨i1, i2, i3⟩ := ih
        refine ⟨?_, fun m => ?_, fun x' hx' y' hy' e => ?_⟩
        · refine List.pairwise_cons.2 ⟨fun m hm => ?_, i1⟩
          obtain ⟨z, hz, e⟩ := memJ_fl ((i2 m).1 hm)
          rw [← e]
          rcases hz with hz | hz
          · exact hya z hz
          · exact hb.1 z hz
        · rw [List.mem_cons, i2]
          constructor
          · rintro (rfl | h)
            · exact .inr (.inl ⟨by simp, fun z hz => (flt_ne (hya z hz)).symm⟩)
            · rcases h with ⟨h1, h2⟩ | ⟨h1, h2⟩ | ⟨x', h1, y', h2, h3⟩
              · refine .inl ⟨h1, fun z hz => ?_⟩
                rcases List.mem_cons.1 hz with rfl | hz
                · exact flt_ne (hya m h1)
                · exact h2 z hz
              · exact .inr (.inl ⟨by simp [h1], h2⟩)
              · exact .inr (.inr ⟨x', h1, y', by simp [h2], h3⟩)
          · rintro (⟨h1, h2⟩ | ⟨h1, h2⟩ | ⟨x', h1, y', h2, h3, h4⟩)
            · exact .inr (.inl ⟨h1, fun z hz => h2 z (by simp [hz])⟩)
            · rcases List.mem_cons.1 h1 with rfl | h1
              · exact .inl rfl
              · exact .inr (.inr (.inl ⟨h1, h2⟩))
            · rcases List.mem_cons.1 h2 with rfl | h2
              · exact (flt_ne (hya x' h1) h3.symm).elim
              · exact .inr (.inr (.inr ⟨x', h1, y', h2, h3, h4⟩))
        · rcases List.mem_cons.1 hy' with rfl | hy'
          · exact (flt_ne (hya x' hx') e.symm).elim
          · exact i3 x' hx' y' hy' e
    rw [if_neg c2]
    have hxy : x.Flight = y.Flight := by
      rcases cmpF_cases x.Flight y.Flight with e | e | e
      · exact (c1 e).elim
      · exact cmpF_zero.1 e
      · exact (c2 e).elim
    have hyA : ∀ z ∈ a, flt y.Flight z.Flight := fun z hz => hxy ▸ ha.1 z hz
    have hxB : ∀ z ∈ b, flt x.Flight z.Flight := fun z hz => hxy ▸ hb.1 z hz
    cases hm : mrg x y with
    | none => exact ⟨x, by simp, y, by simp, hxy, hm⟩
    | some mm =>
      have hmf := mrg_flight hm
      have ih := joinS_spec n a b (by omega) ha.2 hb.2
      cases hj : joinS a b with
      | none =>
        rw [hj] at ih
        obtain ⟨x', h1, y', h2, h3⟩ := ih
        exact ⟨x', List.mem_cons_of_mem _ h1, y', List.mem_cons_of_mem _ h2, h3⟩
      | some r =>
        rw [hj] at ih
        obtain ⟨i1, i2, i3⟩ := ih
        refine ⟨?_, fun m => ?_, fun x' hx' y' hy' e => ?_⟩
        · refine List.pairwise_cons.2 ⟨fun m hm => ?_, i1⟩
          obtain ⟨z, hz, e⟩ := memJ_fl ((i2 m).1 hm)
          rw [← e, hmf]
          rcases hz with hz | hz
          · exact ha.1 z hz
          · exact hxB z hz
        · rw [List.mem_cons, i2]
          constructor
          · rintro (rfl | h)
            · exact .inr (.inr ⟨x, by simp, y, by simp, hxy, hm⟩)
            · rcases h with ⟨h1, h2⟩ | ⟨h1, h2⟩ | ⟨x', h1, y', h2, h3⟩
              · refine .inl ⟨by simp [h1], fun z hz => ?_⟩
                rcases List.mem_cons.1 hz with rfl | hz
                · exact flt_ne (hyA m h1)
                · exact h2 z hz
              · refine .inr (.inl ⟨by simp [h1], fun z hz => ?_⟩)
                rcases List.mem_cons.1 hz with rfl | hz
                · exact flt_ne (hxB m h1)
                · exact h2 z hz
              · exact .inr (.inr ⟨x', by simp [h1], y', by simp [h2], h3⟩)
          · rintro (⟨h1, h2⟩ | ⟨h1, h2⟩ | ⟨x', h1, y', h2, h3, h4⟩)
            · rcases List.mem_cons.1 h1 with rfl | h1
              · exact (h2 y (by simp) hxy.symm).elim
              · exact .inr (.inl ⟨h1, fun z hz => h2 z (by simp [hz])⟩)
            · rcases List.mem_cons.1 h1 with rfl | h1
              · exact (h2 x (by simp) hxy).elim
              · exact .inr (.inr (.inl ⟨h1, fun z hz => h2 z (by simp [hz])⟩))
            · rcases List.mem_cons.1 h1 with rfl | h1
              · rcases List.mem_cons.1 h2 with rfl | h2
                · rw [hm] at h4; exact .inl (Option.some.inj h4).symm
                · exact (flt_ne (hxB y' h2) h3).elim
              · rcases List.mem_cons.1 h2 with rfl | h2
                · exact (flt_ne (hyA x' h1) h3.symm).elim
                · exact .inr (.inr (.inr ⟨x', h1, y', h2, h3, h4⟩))
        · rcases List.mem_cons.1 hx' with rfl | hx'
          · rcases List.mem_cons.1 hy' with rfl | hy'
            · rw [hm]; simp
            · exact (flt_ne (hxB y' hy') e).elim
          · rcases List.mem_cons.1 hy' with rfl | hy'
            · exact (flt_ne (hyA x' hx') e.symm).elim
            · exact i3 x' hx' y' hy' e

theorem find_fl {b : List Manifest} {f : Flight} : (match b.find? (fun m => decide (m.Flight = f)) with | none => ∀ y ∈ b, y.Flight ≠ f | some y => y ∈ b ∧ y.Flight = f) := by
  cases h : b.find? (fun m => decide (m.Flight = f)) with
  | none => intro y hy; have := List.find?_eq_none.1 h y hy; simpa using this
  | some y => exact ⟨List.mem_of_find?_eq_some h, by have := List.find?_some h; simpa using this⟩
theorem jl_spec (b : List Manifest) (hb : sortedM b) : ∀ (a : List Manifest),
    (match jl b a with
      | none => ∃ x ∈ a, ∃ y ∈ b, x.Flight = y.Flight ∧ mrg x y = none
      | some r => r.map Manifest.Flight = a.map Manifest.Flight ∧ (∀ m, m ∈ r ↔ ((m ∈ a ∧ ∀ y ∈ b, y.Flight ≠ m.Flight) ∨ ∃ x ∈ a, ∃ y ∈ b, x.Flight = y.Flight ∧ mrg x y = some m)) ∧ ∀ x ∈ a, ∀ y ∈ b, x.Flight = y.Flight → mrg x y ≠ none)
  | [] => ⟨rfl, fun m => by simp, fun x hx => by simp at hx⟩
  | x :: a => by
    have ih := jl_spec b hb a
    have hf := find_fl (b := b) (f := x.Flight)
    simp only [jl, fx]
    cases hq : b.find? (fun m => decide (m.Flight = x.Flight)) with
    | none =>
      rw [hq] at hf
      simp only [Option.bind_some]
      cases hj : jl b a with
      | none =>
        rw [hj] at ih
        obtain ⟨x', h1, h2⟩ := ih
        exact ⟨x', by simp [h1], h2⟩
      | some r =>
        rw [hj] at ih
        obtain ⟨i1, i2, i3⟩ := ih
        refine ⟨by simp [i1], fun m => ?_, fun x' hx' y' hy' e => ?_⟩
        · rw [List.mem_cons, i2]
          constructor
          · rintro (rfl | ⟨h1, h2⟩ | ⟨x', h1, h2⟩)
            · exact .inl ⟨by simp, hf⟩
            · exact .inl ⟨by simp [h1], h2⟩
            · exact .inr ⟨x', by simp [h1], h2⟩
          · rintro (⟨h1, h2⟩ | ⟨x', h1, y', h2, h3, h4⟩)
            · rcases List.mem_cons.1 h1 with rfl | h1
              · exact .inl rfl
              · exact .inr (.inl ⟨h1, h2⟩)
            · rcases List.mem_cons.1 h1 with rfl | h1
              · exact (hf y' h2 h3.symm).elim
              · exact .inr (.inr ⟨x', h1, y', h2, h3, h4⟩)
        · rcases List.mem_cons.1 hx' with rfl | hx'
          · exact (hf y' hy' e.symm).elim
          · exact i3 x' hx' y' hy' e
    | some y =>
      rw [hq] at hf
      obtain ⟨hy, hyf⟩ := hf
      simp only
      cases hm : mrg x y with
      | none => exact ⟨x, by simp, y, hy, hyf.symm, hm⟩
      | some mm =>
        simp only [Option.bind_some]
        cases hj : jl b a with
        | none =>
          rw [hj] at ih
          obtain ⟨x', h1, h2⟩ := ih
          exact ⟨x', by simp [h1], h2⟩
        | some r =>
          rw [hj] at ih
          obtain ⟨i1, i2, i3⟩ := ih
          refine ⟨by simp [i1, mrg_flight hm], fun m => ?_, fun x' hx' y' hy' e => ?_⟩
          · rw [List.mem_cons, i2]
            constructor
            · rintro (rfl | ⟨h1, h2⟩ | ⟨x', h1, h2⟩)
              · exact .inr ⟨x, by simp, y, hy, hyf.symm, hm⟩
              · exact .inl ⟨by simp [h1], h2⟩
              · exact .inr ⟨x', by simp [h1], h2⟩
            · rintro (⟨h1, h2⟩ | ⟨x', h1, y', h2, h3, h4⟩)
              · rcases List.mem_cons.1 h1 with rfl | h1
                · exact (h2 y hy hyf).elim
                · exact .inr (.inl ⟨h1, h2⟩)
              · rcases List.mem_cons.1 h1 with rfl | h1
                · have e : y' = y := sort_uniq hb y' h2 y hy (h3.symm.trans hyf.symm)
                  subst e
                  rw [hm] at h4
                  exact .inl (Option.some.inj h4).symm
                · exact .inr (.inr ⟨x', h1, y', h2, h3, h4⟩)
          · rcases List.mem_cons.1 hx' with rfl | hx'
            · have e' : y' = y := sort_uniq hb y' hy' y hy (e.symm.trans hyf.symm)
              subst e'
              rw [hm]
              simp
            · exact i3 x' hx' y' hy' e
theorem tw_all {p : Manifest → Bool} : ∀ {l : List Manifest} {x : Manifest}, x ∈ l.takeWhile p → p x = true
  | y :: l, x, h => by
    by_cases c : p y = true
    · rw [List.takeWhile_cons_of_pos c] at h
      rcases List.mem_cons.1 h with rfl | h
      · exact c
      · exact tw_all h
    · rw [List.takeWhile_cons_of_neg (by simpa using c)] at h
      simp at h
theorem dw_flt {y : Manifest} : ∀ {l : List Manifest}, sortedM l → (∀ e ∈ l, e.Flight ≠ y.Flight) → ∀ x ∈ l.dropWhile (fun e => decide (flt e.Flight y.Flight)), flt y.Flight x.Flight
  | [], _, _, x, hx => by simp at hx
  | e :: l, hs, hne, x, hx => by
    unfold sortedM at hs
    rw [List.pairwise_cons] at hs
    by_cases c : flt e.Flight y.Flight
    · rw [List.dropWhile_cons_of_pos (by simpa using c)] at hx
      exact dw_flt hs.2 (fun z hz => hne z (by simp [hz])) x hx
    · rw [List.dropWhile_cons_of_neg (by simpa using c)] at hx
      have hye : flt y.Flight e.Flight := by
        rcases flt_tri e.Flight y.Flight with h | h | h
        · exact (c h).elim
        · exact (hne e (by simp) h).elim
        · exact h
      rcases List.mem_cons.1 hx with rfl | hx
      · exact hye
      · exact flt_trans hye (hs.1 x hx)
theorem insM_spec {y : Manifest} {l : List Manifest} (hs : sortedM l) (hne : ∀ e ∈ l, e.Flight ≠ y.Flight) : sortedM (insM y l) ∧ ∀ m, m ∈ insM y l ↔ m = y ∨ m ∈ l := by
  have hsplit := List.takeWhile_append_dropWhile (p := fun e : Manifest => decide (flt e.Flight y.Flight)) (l := l)
  constructor
  · unfold sortedM at hs ⊢
    rw [← hsplit, List.pairwise_append] at hs
    unfold insM
    rw [List.pairwise_append]
    refine ⟨hs.1, List.pairwise_cons.2 ⟨fun x hx => ?_, hs.2.1⟩, fun x hx z hz => ?_⟩
    · refine dw_flt ?_ hne x hx
      unfold sortedM
      rw [← hsplit, List.pairwise_append]
      exact hs
    · have hxy : flt x.Flight y.Flight := by have := tw_all hx; simpa using this
      rcases List.mem_cons.1 hz with rfl | hz
      · exact hxy
      · exact hs.2.2 x hx z hz
  · intro m
    unfold insM
    have hm : m ∈ l ↔ m ∈ l.takeWhile (fun e => decide (flt e.Flight y.Flight)) ∨ m ∈ l.dropWhile (fun e => decide (flt e.Flight y.Flight)) := by
      rw [← List.mem_append, hsplit]
    rw [List.mem_append, List.mem_cons, hm]
    constructor
    · rintro (h | h | h)
      · exact .inr (.inl h)
      · exact .inl h
      · exact .inr (.inr h)
    · rintro (h | h | h)
      · exact .inr (.inl h)
      · exact .inl h
      · exact .inr (.inr h)
theorem jr_spec (a : List Manifest) : ∀ (b out : List Manifest), sortedM b → sortedM out → (∀ e ∈ out, ∀ y ∈ b, e.Flight = y.Flight → ∃ x ∈ a, x.Flight = y.Flight) → sortedM (jr a out b) ∧ ∀ m, m ∈ jr a out b ↔ m ∈ out ∨ (m ∈ b ∧ ∀ x ∈ a, x.Flight ≠ m.Flight)
  | [], out, _, ho, _ => by
    rw [jr]
    exact ⟨ho, fun m => by simp⟩
  | y :: b, out, hb, ho, hk => by
    unfold sortedM at hb
    rw [List.pairwise_cons] at hb
    have hf := find_fl (b := a) (f := y.Flight)
    rw [jr]
    cases hq : a.find? (fun m => decide (m.Flight = y.Flight)) with
    | some x =>
      rw [hq] at hf
      rw [if_pos (by rfl)]
      obtain ⟨i1, i2⟩ := jr_spec a b out hb.2 ho (fun e he z hz => hk e he z (by simp [hz]))
      refine ⟨i1, fun m => ?_⟩
      rw [i2]
      constructor
      · rintro (h | ⟨h1, h2⟩)
        · exact .inl h
        · exact .inr ⟨by simp [h1], h2⟩
      · rintro (h | ⟨h1, h2⟩)
        · exact .inl h
        · rcases List.mem_cons.1 h1 with rfl | h1
          · exact (h2 x hf.1 hf.2).elim
          · exact .inr ⟨h1, h2⟩
    | none =>
      rw [hq] at hf
      rw [if_neg (by simp)]
      have hne : ∀ e ∈ out, e.Flight ≠ y.Flight := fun e he h => by
        obtain ⟨x, hx, hxf⟩ := hk e he y (by simp) h
        exact hf x hx hxf
      obtain ⟨s1, s2⟩ := insM_spec ho hne
      obtain ⟨i1, i2⟩ := jr_spec a b (insM y out) hb.2 s1 (fun e he z hz h => by
        rcases (s2 e).1 he with rfl | he
        · exact (flt_ne (hb.1 z hz) h).elim
        · exact hk e he z (by simp [hz]) h)
      refine ⟨i1, fun m => ?_⟩
      rw [i2, s2]
      constructor
      · rintro ((rfl | h) | ⟨h1, h2⟩)
        · exact .inr ⟨by simp, hf⟩
        · exact .inl h
        · exact .inr ⟨by simp [h1], h2⟩
      · rintro (h | ⟨h1, h2⟩)
        · exact .inl (.inr h)
        · rcases List.mem_cons.1 h1 with rfl | h1
          · exact .inl (.inl rfl)
          · exact .inr ⟨h1, h2⟩
theorem jl_sorted {r a : List Manifest} (h : r.map Manifest.Flight = a.map Manifest.Flight) (ha : sortedM a) : sortedM r := by
  have e : ∀ l : List Manifest, sortedM l ↔ (l.map Manifest.Flight).Pairwise flt := fun l => by unfold sortedM; rw [List.pairwise_map]
  rw [e, h, ← e]
  exact ha
theorem both_join {a b : List Manifest} (ha : sortedM a) (hb : sortedM b) : joinS a b = (jl b a).map (fun r => jr a r b) := by
  have h1 := joinS_spec _ a b (Nat.le_refl _) ha hb
  have h2 := jl_spec b hb a
  cases hj : jl b a with
  | none =>
    rw [hj] at h2
    obtain ⟨x, hx, y, hy, e, hm⟩ := h2
    cases hq : joinS a b with
    | none => rfl
    | some r =>
      rw [hq] at h1
      exact (h1.2.2 x hx y hy e hm).elim
  | some r =>
    rw [hj] at h2
    obtain ⟨i1, i2, i3⟩ := h2
    cases hq : joinS a b with
    | none =>
      rw [hq] at h1
      obtain ⟨x, hx, y, hy, e, hm⟩ := h1
      exact (i3 x hx y hy e hm).elim
    | some q =>
      rw [hq] at h1
      obtain ⟨s1, s2, _⟩ := h1
      have hfl : ∀ e ∈ r, ∃ x ∈ a, x.Flight = e.Flight := fun e he => by
        have : e.Flight ∈ r.map Manifest.Flight := List.mem_map_of_mem he
        rw [i1] at this
        obtain ⟨x, hx, hxe⟩ := List.mem_map.1 this
        exact ⟨x, hx, hxe⟩
      obtain ⟨t1, t2⟩ := jr_spec a b r hb (jl_sorted i1 ha) (fun e he y hy h => by
        obtain ⟨x, hx, hxe⟩ := hfl e he
        exact ⟨x, hx, hxe.trans h⟩)
      show some q = some (jr a r b)
      refine congrArg some (sort_ext s1 t1 fun m => ?_)
      rw [s2, t2, i2]
      unfold memJ
      constructor
      · rintro (h | h | h)
        · exact .inl (.inl h)
        · exact .inr h
        · exact .inl (.inr h)
      · rintro ((h | h) | h)
        · exact .inl h
        · exact .inr (.inr h)
        · exact .inr (.inl h)
theorem okL.smallL {l : List Manifest} (h : okL l) : smallL l := fun m hm => (h.1 m hm).small
theorem jl_len (b : List Manifest) : ∀ (a : List Manifest) (r : List Manifest), jl b a = some r → r.length = a.length
  | [], r, h => by cases h; rfl
  | x :: a, r, h => by
    simp only [jl] at h
    cases hf : fx b x with
    | none => rw [hf] at h; cases h
    | some m =>
      rw [hf] at h
      simp only [Option.bind_some] at h
      cases hj : jl b a with
      | none => rw [hj] at h; cases h
      | some q =>
        rw [hj] at h
        cases h
        simp [jl_len b a q hj]
/-- Join, of the reference and of the program -/
theorem rJoin_eq (a b : List Manifest) (ha : Ex.smallL a) (hb : Ex.smallL b) : ∃ r, boarding_Join a b = some r ∧ ref25_Join a b = some r := by
  obtain ⟨e1, v1, v2, v3⟩ := validate_any a ha
  obtain ⟨e2, v4, v5, v6⟩ := validate_any b hb
  by_cases c1 : e1 = 0
  · by_cases c2 : e2 = 0
    · have oa := v3 c1
      have ob := v6 c2
      refine ⟨_, join_eq oa ob, ?_⟩
      unfold ref25_Join
      rw [v2, v5, c1, c2]
      simp only [Option.bind_some, bne_self_eq_false, cond_false]
      have la := oa.2.2
      have lb := ob.2.2
      rw [rjoin_L1 b hb a 0 [] ha (by simp; omega), both_join oa.2.1 ob.2.1]
      cases hj : jl b a with
      | none => rfl
      | some r =>
        have := jl_len b a r hj
        simp only [List.nil_append, Ctl.fin, Option.map_some]
        rw [rjoin_L2 a b 0 r hb (by omega)]
        simp only [joinR, cond_ite, decide_eq_true_eq]
        by_cases e : 24 < (jr a r b).length
        · rw [if_pos (show (24 : Int) < (jr a r b).length by omega), if_pos e]
        · rw [if_neg (show ¬ (24 : Int) < (jr a r b).length by omega), if_neg e]
    · refine ⟨([], e2), ?_, ?_⟩
      · unfold boarding_Join
        rw [boarding_Join_L1, v1, c1]
        simp only [Option.bind_some, bne_self_eq_false, cond_false]
        rw [boarding_Join_L1, v4]
        simp only [Option.bind_some]
        rw [show (e2 != 0) = true from by simpa using c2]
        rfl
      · unfold ref25_Join
        rw [v2, v5, c1]
        simp only [Option.bind_some, bne_self_eq_false, cond_false]
        rw [show (e2 != 0) = true from by simpa using c2]
        rfl
  · refine ⟨([], e1), ?_, ?_⟩
    · unfold boarding_Join
      rw [boarding_Join_L1, v1]
      simp only [Option.bind_some]
      rw [show (e1 != 0) = true from by simpa using c1]
      rfl
    · unfold ref25_Join
      rw [v2]
      simp only [Option.bind_some]
      rw [show (e1 != 0) = true from by simpa using c1]
      rfl

theorem joins_L2 (x : List Manifest) (hx : Ex.smallL x) : ∀ (l : List (List Manifest)) (k : Nat), (∀ y ∈ l, Ex.smallL y) → law25_BoardingJoins_L2 x l k = some (.brk ())
  | [], k, _ => rfl
  | y :: l, k, h => by
    rw [law25_BoardingJoins_L2]
    obtain ⟨r, h1, h2⟩ := rJoin_eq x y hx (h y (by simp))
    rw [h1, h2]
    simp only [Option.bind_some, bne_self_eq_false, cond_false]
    rw [sameAll_eq, decide_eq_true rfl]
    simp only [Option.bind_some, Bool.not_true, cond_false]
    exact joins_L2 x hx l (k + 1) (fun z hz => h z (by simp [hz]))
theorem joins_L1 (b : List Manifest) (r : List Manifest × Src) (hb : Ex.smallL b) (hr : Ex.smallL r.1) : ∀ (l : List (List Manifest)) (k : Nat), (∀ y ∈ l, Ex.smallL y) → law25_BoardingJoins_L1 b r l k = some (.brk ())
  | [], k, _ => rfl
  | y :: l, k, h => by
    have hy := h y (by simp)
    rw [law25_BoardingJoins_L1, joins_L2 y hy _ 0 (fun z hz => by
      simp only [List.mem_cons, List.not_mem_nil, or_false] at hz
      rcases hz with rfl | rfl | rfl
      · exact hb
      · exact hr
      · exact hy)]
    simp only [Ctl.sub]
    exact joins_L1 b r hb hr l (k + 1) (fun z hz => h z (by simp [hz]))
theorem joins_ok (a b : List Manifest) (l : List Int) (_ : ∀ x ∈ a, Q_Manifest x) (_ : ∀ x ∈ b, Q_Manifest x) : law25_BoardingJoins a b l = some true := by
  refine okP_eq ?_
  unfold law25_BoardingJoins
  obtain ⟨b1, hb1, hbt1⟩ := few_any a
  obtain ⟨b2, hb2, hbt2⟩ := few_any b
  rw [hb1]
  cases b1 with
  | false => exact okP_some rfl
  | true =>
    simp only [Option.bind_some, Bool.not_true, cond_false]
    rw [hb2]
    cases b2 with
    | false => exact okP_some rfl
    | true =>
      simp only [Option.bind_some, Bool.not_true, cond_false]
      refine okP_bind (New_ok l) fun r3 h3 => okP_bind (man_ok r3 h3) fun r4 h4 => okP_bind (man_ok r4.2 h4.2) fun r5 h5 => okP_bind (spoilt_t r5.2 h5.2 r4.1 (by have := h4.1.2; omega) (fun m hm => okM_len (h4.1.1.1 m hm))) fun r6 h6 => ?_
      rw [joins_L1 b r5 (hbt2 rfl).small h5.1.1.smallL _ 0 (fun z hz => by
        simp only [List.mem_cons, List.not_mem_nil, or_false] at hz
        rcases hz with rfl | rfl | rfl
        · exact (hbt1 rfl).small
        · exact h4.1.1.smallL
        · exact h6.1.small)]
      simp only [Ctl.fin, awake_ok]
      exact okP_some rfl
end Go.Proofs.Ytajmhegkkbnkcaa.Ex
