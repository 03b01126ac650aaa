/- Boarding: the order of the messages does not matter; lattice; one message alone. -/
import Derived.Test.YtajmhegkkbnkcaaBd3
namespace Go.Proofs.Ytajmhegkkbnkcaa.Ex
open Go.RowKit Go.Proofs.Ytajmhegkkbnkcaa.Ax
set_option linter.unusedVariables false
set_option linter.unusedSimpArgs false

theorem msgs_app (ps : List (Nat × Nat)) (p : Nat × Nat) : msgs ps ++ [msg p.1 p.2] = msgs (ps ++ [p]) := by unfold msgs; simp
theorem msgs_len (ps : List (Nat × Nat)) : (msgs ps).length = ps.length := by unfold msgs; simp
theorem msgs_at {ps : List (Nat × Nat)} {k : Nat} {p : Nat × Nat} (h : ps[k]? = some p) : (msgs ps)[k]? = some (msg p.1 p.2) := by unfold msgs; rw [List.getElem?_map, h]; rfl
theorem ord1 : ∀ (n : Nat) (s : Src) (ps : List (Nat × Nat)) (i : Int), SrcOk s → (∀ p ∈ ps, okFV p) → 0 ≤ i → ps.length + i ≤ 1000 → i < n → okP (law25_BoardingOrder_L1 n s.L s.At (msgs ps) i) (ctlQ (fun _ => False) (fun z => ∃ qs, (∀ p ∈ qs, okFV p) ∧ z = msgs qs ∧ qs.length ≤ 1000))
  | 0, s, ps, i, _, _, _, _, h => by omega
  | n + 1, s, ps, i, hs, hp, h0, h1, h2 => by
    rw [law25_BoardingOrder_L1]
    refine okP_cond (fun h => ?_) (fun h => okP_some ⟨ps, hp, rfl, by omega⟩)
    have h := of_decide_eq_true h
    refine okP_bind (list_ok s hs) (fun r ⟨⟨f, v, hfv, hm⟩, hr⟩ => ?_)
    rw [hm, apL_eq (by rw [msgs_len]; simp; omega), Option.bind_some, msgs_app ps (f, v), w64_id (by omega) (by omega)]
    refine ord1 n r.2 (ps ++ [(f, v)]) (i - 1) hr (fun p hp' => ?_) (by omega) (by simp; omega) (by omega)
    rcases List.mem_append.1 hp' with h | h
    · exact hp p h
    · simp at h; subst h; exact hfv
theorem ord2 : ∀ (ps : List (Nat × Nat)) (k : Nat) (S : Msk), okS S → (∀ p ∈ ps, okFV p) → law25_BoardingOrder_L2 (msgs ps) k (cano S) = some (.brk (cano (orM S (maskOf ps))))
  | [], k, S, _, _ => by rw [show maskOf [] = (0, 0, 0) from rfl, orM_zero_r]; rfl
  | p :: ps, k, S, hS, hp => by
    have h0 := hp p (List.mem_cons_self ..)
    rw [show msgs (p :: ps) = msg p.1 p.2 :: msgs ps from rfl, law25_BoardingOrder_L2, cano_apply hS h0, Option.bind_some]
    rw [show ((0 : Int) != 0) = false from rfl, cond_false, ord2 ps _ _ (orM_ok hS (bitv_ok h0)) (fun q hq => hp q (List.mem_cons_of_mem _ hq)), orM_assoc, ← mask_cons]
theorem ord3 (ps : List (Nat × Nat)) (hp : ∀ p ∈ ps, okFV p) (hl : ps.length ≤ 1000) : ∀ (o : List Int) (k : Nat) (S : Msk), okS S → orM S (maskOf ps) = maskOf ps → ∃ T, okS T ∧ orM T (maskOf ps) = maskOf ps ∧ law25_BoardingOrder_L3 (msgs ps) o k (cano S) = some (.brk (cano T))
  | [], k, S, hS, hM => ⟨S, hS, hM, rfl⟩
  | x :: o, k, S, hS, hM => by
    rw [law25_BoardingOrder_L3]
    by_cases h1 : (k : Int) < 12
    · rw [decide_eq_true h1, cond_true]
      by_cases h2 : 0 < ps.length
      · rw [decide_eq_true (show (0 : Int) < ((msgs ps).length : Int) by rw [msgs_len]; omega), cond_true, mod_eq _ _ (by rw [msgs_len]; omega) (by rw [msgs_len]; omega), Option.bind_some, msgs_len]
        have e1 := Int.emod_nonneg x (show (ps.length : Int) ≠ 0 by omega)
        have e2 := Int.emod_lt_of_pos x (show (0 : Int) < ps.length by omega)
        have hlt : (x % ps.length).toNat < ps.length := by omega
        have hx := List.getElem?_eq_getElem hlt
        have hmem : ps[(x % ps.length).toNat] ∈ ps := List.getElem_mem hlt
        rw [ixL_at' _ (by omega) (msgs_at hx), Option.bind_some, cano_apply hS (hp _ hmem), Option.bind_some, show ((0 : Int) != 0) = false from rfl, cond_false]
        exact ord3 ps hp hl o (k + 1) _ (orM_ok hS (bitv_ok (hp _ hmem))) (by rw [orM_assoc, mask_mem hmem, hM])
      · rw [decide_eq_false (show ¬ (0 : Int) < ((msgs ps).length : Int) by rw [msgs_len]; omega), cond_false]
        exact ⟨S, hS, hM, rfl⟩
    · rw [decide_eq_false h1, cond_false]
      exact ⟨S, hS, hM, rfl⟩
theorem ord4 (ps : List (Nat × Nat)) (hp : ∀ p ∈ ps, okFV p) (hl : ps.length ≤ 1000) : ∀ (n j : Nat) (S : Msk), okS S → j ≤ ps.length → j < n → law25_BoardingOrder_L4 (msgs ps) n (cano S) ((j : Int) - 1) = some (.brk (cano (orM S (maskOf (ps.take j)))))
  | 0, j, S, _, _, h => by omega
  | n + 1, j, S, hS, hj, hn => by
    rw [law25_BoardingOrder_L4]
    cases j with
    | zero =>
      rw [decide_eq_false (by omega), cond_false, List.take_zero, show maskOf [] = (0, 0, 0) from rfl, orM_zero_r]
    | succ j =>
      have hlt : j < ps.length := by omega
      have hx := List.getElem?_eq_getElem hlt
      have hmem : ps[j] ∈ ps := List.getElem_mem hlt
      rw [decide_eq_true (by omega), cond_true, ixL_at' j (by omega) (msgs_at hx), Option.bind_some, cano_apply hS (hp _ hmem), Option.bind_some, show ((0 : Int) != 0) = false from rfl, cond_false]
      rw [w64_id (z := ((j + 1 : Nat) : Int) - 1 - 1) (by omega) (by omega), show ((j + 1 : Nat) : Int) - 1 - 1 = (j : Int) - 1 by omega]
      rw [ord4 ps hp hl n j _ (orM_ok hS (bitv_ok (hp _ hmem))) (by omega) (by omega), orM_assoc]
      congr 3
      rw [List.take_add_one, hx, show (some ps[j]).toList = [ps[j]] from rfl, mask_app, mask_cons, show maskOf [] = (0, 0, 0) from rfl, orM_zero_r, orM_comm (bitv _)]
theorem order_ok (l o : List Int) : law25_BoardingOrder l o = some true := by
  refine okP_eq ?_
  unfold law25_BoardingOrder
  refine okP_bind (New_ok l) (fun s hs => ?_)
  refine okP_bind (N_ok s 12 hs (by omega) (by omega)) (fun r ⟨r1, r2, r3⟩ => ?_)
  refine okP_finB (ord1 9223372036854775807 r.2 [] r.1 r3 (fun p hp => by simp at hp) r1 (by simp; omega) (by omega)) (fun z ⟨ps, hp, hz, hl⟩ => ?_)
  subst hz
  have e0 : ([] : List Manifest) = cano (0, 0, 0) := rfl
  have hz : okS (0, 0, 0) := ⟨by decide, by decide, by decide⟩
  have hM := mask_ok hp
  rw [e0, fin_brkE (ord2 ps 0 _ hz hp), orM_zero]
  obtain ⟨T, hT, hTM, h3⟩ := ord3 ps hp hl o 0 (0, 0, 0) hz (orM_zero _)
  rw [fin_brkE h3, msgs_len, w64_id (z := (ps.length : Int) - 1) (by omega) (by omega), fin_brkE (ord4 ps hp hl _ ps.length T hT (Nat.le_refl _) (by omega)), List.take_length, hTM]
  rw [sameAll_eq, decide_eq_true rfl, Option.bind_some, cond_true, rvalidate_ok (cano_ok hM) (fun m hm => by obtain ⟨_, f, hf, e⟩ := cano_mem hM hm; rw [e]; exact (fl_valid (by omega)).2), Option.bind_some]
  rw [show ((0 : Int) == 0) = true from rfl, cond_true, awake_ok]
  exact okP_some rfl
end Go.Proofs.Ytajmhegkkbnkcaa.Ex
