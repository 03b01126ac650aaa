/- Boarding: lists of passengers, manifests, Validate, joining two lists of manifests. Plain Lean over the printed functions. -/
import Derived.Test.YtajmhegkkbnkcaaFo
namespace Go.Proofs.Ytajmhegkkbnkcaa.Ex
open Go.RowKit Go.Proofs.Ytajmhegkkbnkcaa.Ax
set_option linter.unusedVariables false
set_option linter.unusedSimpArgs false

/-! lists of numbers -/
def prevOk (p : Option Int) (n : Int) : Bool := match p with
  | none => true
  | some q => decide (q < n)
def ascB : Option Int → List Int → Bool
  | _, [] => true
  | p, n :: l => decide (1 ≤ n) && (decide (n ≤ 999) && (prevOk p n && ascB (some n) l))
def asc (l : List Int) : Prop := (∀ n ∈ l, 1 ≤ n ∧ n ≤ 999) ∧ l.Pairwise (· < ·)
theorem ascB_some : ∀ (l : List Int) (q : Int), ascB (some q) l = true ↔ (∀ n ∈ l, 1 ≤ n ∧ n ≤ 999 ∧ q < n) ∧ l.Pairwise (· < ·)
  | [], q => by simp [ascB]
  | x :: l, q => by
    simp only [ascB, prevOk, Bool.and_eq_true, decide_eq_true_eq, ascB_some l x, List.mem_cons, forall_eq_or_imp, List.pairwise_cons]
    constructor
    · rintro ⟨h1, h2, h3, h4, h5⟩
      exact ⟨⟨⟨h1, h2, h3⟩, fun n hn => by have := h4 n hn; omega⟩, fun n hn => (h4 n hn).2.2, h5⟩
    · rintro ⟨⟨⟨h1, h2, h3⟩, h4⟩, h5, h6⟩
      exact ⟨h1, h2, h3, fun n hn => ⟨(h4 n hn).1, (h4 n hn).2.1, h5 n hn⟩, h6⟩
theorem ascB_iff (l : List Int) : ascB none l = true ↔ asc l := by
  cases l with
  | nil => simp [ascB, asc]
  | cons x l =>
    simp only [ascB, prevOk, asc, Bool.and_eq_true, decide_eq_true_eq, ascB_some l x, List.mem_cons, forall_eq_or_imp, List.pairwise_cons, true_and]
    constructor
    · rintro ⟨h1, h2, h4, h5⟩
      exact ⟨⟨⟨h1, h2⟩, fun n hn => ⟨(h4 n hn).1, (h4 n hn).2.1⟩⟩, fun n hn => (h4 n hn).2.2, h5⟩
    · rintro ⟨⟨⟨h1, h2⟩, h4⟩, h5, h6⟩
      exact ⟨h1, h2, fun n hn => ⟨(h4 n hn).1, (h4 n hn).2, h5 n hn⟩, h6⟩
instance (l : List Int) : Decidable (asc l) := decidable_of_iff _ (ascB_iff l)

theorem asc_L (l : List Int) (hl : l.length ≤ 1000000000) : ∀ (rest : List Int) (k : Nat) (p : Option Int), l.drop k = rest → (k = 0 → p = none) → (0 < k → ∃ q, p = some q ∧ l[k - 1]? = some q) → boarding_ascending_L1 l rest k = some (cond (ascB p rest) (.brk ()) (.ret false))
  | [], k, p, _, _, _ => by simp [boarding_ascending_L1, ascB]
  | n :: rest, k, p, hd, h0, h1 => by
    have hk : l[k]? = some n := by rw [← List.head?_drop, hd]; rfl
    have hkl := (List.getElem?_eq_some_iff.1 hk).1
    have hd' : l.drop (k + 1) = rest := by rw [← List.tail_drop, hd]; rfl
    have ih := asc_L l hl rest (k + 1) (some n) hd' (by omega) (fun _ => ⟨n, rfl, by simpa using hk⟩)
    rw [boarding_ascending_L1, ih]
    simp only [ascB]
    by_cases a1 : n < 1
    · rw [decide_eq_true a1, decide_eq_false (show ¬ 1 ≤ n by omega)]; rfl
    rw [decide_eq_false a1, decide_eq_true (show 1 ≤ n by omega)]
    by_cases a2 : 999 < n
    · rw [decide_eq_true a2, decide_eq_false (show ¬ n ≤ 999 by omega)]; rfl
    rw [decide_eq_false a2, decide_eq_true (show n ≤ 999 by omega)]
    simp only [cond_false, Bool.true_and]
    by_cases a3 : (0 : Int) < k
    · obtain ⟨q, rfl, hq⟩ := h1 (by omega)
      rw [decide_eq_true a3, cond_true, w64_id (z := (k : Int) - 1) (by omega) (by omega), ixL_at' (k - 1) (by omega) hq]
      simp only [Option.bind_some, prevOk]
      by_cases a4 : n ≤ q
      · rw [decide_eq_true a4, decide_eq_false (show ¬ q < n by omega)]; rfl
      · rw [decide_eq_false a4, decide_eq_true (show q < n by omega)]; rfl
    · rw [decide_eq_false a3, h0 (by omega)]; rfl
theorem asc_eq (l : List Int) (hl : l.length ≤ 1000000000) : boarding_ascending l = some (decide (asc l)) := by
  unfold boarding_ascending
  rw [asc_L l hl l 0 none rfl (fun _ => rfl) (fun h => by omega)]
  by_cases h : asc l
  · rw [(ascB_iff l).2 h, decide_eq_true h]; rfl
  · rw [show ascB none l = false by simpa using (fun e => h ((ascB_iff l).1 e)), decide_eq_false h]; rfl

theorem mid_eq {a : Int} (h0 : 0 ≤ a) (h1 : a ≤ 1000000000) : IntKind.i64.wrap (shrF .u64 (IntKind.u64.wrap (w64 a)) (1 : Int)) = a / 2 := by
  have e : IntKind.u64.wrap a = a := by
    unfold IntKind.wrap
    simp only [IntKind.bits, IntKind.signed]
    first
      | omega
      | (simp; omega)
  rw [w64_id (z := a) (by omega) (by omega), e]
  have : shrF .u64 a 1 = a / 2 := by
    unfold shrF
    rw [show min (Int.toNat 1) IntKind.u64.bits = 1 from rfl, Int.fdiv_eq_ediv_of_nonneg _ (by decide)]
    rfl
  rw [this]
  exact wrap64 (by omega) (by omega)

/-- the place of a number -/
def posI (l : List Int) (x : Int) : Nat := (l.takeWhile (fun y => decide (y < x))).length
theorem posI_le (l : List Int) (x : Int) : posI l x ≤ l.length := by unfold posI; exact (List.takeWhile_sublist _).length_le
theorem posI_cons (y : Int) (l : List Int) (x : Int) : posI (y :: l) x = if y < x then posI l x + 1 else 0 := by
  unfold posI
  by_cases h : y < x
  · rw [List.takeWhile_cons_of_pos (by simpa using h), if_pos h, List.length_cons]
  · rw [List.takeWhile_cons_of_neg (by simpa using h), if_neg h]; rfl
theorem posI_lt (x : Int) : ∀ (l : List Int) (i : Nat) (b : Int), l.Pairwise (· < ·) → l[i]? = some b → (b < x ↔ i < posI l x)
  | [], i, b, _, h => by simp at h
  | y :: l, i, b, hs, h => by
    obtain ⟨h1, h2⟩ := List.pairwise_cons.1 hs
    rw [posI_cons]
    cases i with
    | zero =>
      have e : y = b := by simpa using h
      subst e
      by_cases hp : y < x
      · simp [hp]
      · rw [if_neg hp]; omega
    | succ i =>
      have h : l[i]? = some b := by simpa using h
      have ih := posI_lt x l i b h2 h
      have := h1 b (List.mem_of_getElem? h)
      by_cases hp : y < x
      · rw [if_pos hp, ih]; omega
      · rw [if_neg hp]; omega
theorem less_eq (x y : Int) : cmp_Less_int x y = some (decide (x < y)) := by
  unfold cmp_Less_int cmp_isNaN_int
  simp
theorem search_L (x : Int) (l : List Int) (hs : l.Pairwise (· < ·)) (hl : l.length ≤ 100000000) : ∀ (n i j : Nat), i ≤ posI l x → posI l x ≤ j → j ≤ l.length → j - i < n → slices_BinarySearch_int_L1 l x n (i : Int) (j : Int) = some (Ctl.brk (posI l x : Int))
  | 0, i, j, _, _, _, h => by omega
  | n + 1, i, j, h1, h2, h3, h4 => by
    rw [slices_BinarySearch_int_L1]
    by_cases hij : (i : Int) < j
    · rw [decide_eq_true hij, cond_true, mid_eq (by omega) (by omega)]
      have hm : ((i : Int) + j) / 2 = ((((i + j) / 2 : Nat)) : Int) := by omega
      rw [hm]
      have hlt : (i + j) / 2 < l.length := by omega
      have hb := List.getElem?_eq_getElem hlt
      rw [ixL_at' ((i + j) / 2) rfl hb]
      simp only [Option.bind_some, less_eq]
      have hp := posI_lt x l _ _ hs hb
      by_cases hc : l[(i + j) / 2] < x
      · rw [decide_eq_true hc, cond_true, w64_id (by omega) (by omega)]
        have := hp.1 hc
        have e : ((((i + j) / 2 : Nat) : Int) + 1) = (((i + j) / 2 + 1 : Nat) : Int) := by omega
        rw [e]
        exact search_L x l hs hl n _ _ (by omega) h2 h3 (by omega)
      · rw [decide_eq_false hc, cond_false]
        have : ¬ (i + j) / 2 < posI l x := fun e => hc (hp.2 e)
        exact search_L x l hs hl n _ _ h1 (by omega) (by omega) (by omega)
    · rw [decide_eq_false hij, cond_false]
      have : (i : Nat) = posI l x := by omega
      rw [this]
theorem search_eq (x : Int) (l : List Int) (hs : l.Pairwise (· < ·)) (hl : l.length ≤ 100000000) : slices_BinarySearch_int l x = some ((posI l x : Int), decide (x ∈ l)) := by
  unfold slices_BinarySearch_int
  have hple := posI_le l x
  have h0 := search_L x l hs hl 9223372036854775807 0 l.length (by omega) hple (Nat.le_refl _) (by omega)
  rw [show ((0 : Nat) : Int) = 0 from rfl] at h0
  rw [fin_brkE h0]
  have hmem : ∀ i b, l[i]? = some b → (b = x → i = posI l x) := fun i b hb e => by
    subst e
    have h1 := (posI_lt b l i b hs hb)
    rcases Nat.lt_trichotomy i (posI l b) with h | h | h
    · have := h1.2 h; omega
    · exact h
    · have hlt : posI l b < l.length := by have := (List.getElem?_eq_some_iff.1 hb).1; omega
      have h2 := posI_lt b l (posI l b) _ hs (List.getElem?_eq_getElem hlt)
      have hp := List.pairwise_iff_getElem.1 hs (posI l b) i hlt (List.getElem?_eq_some_iff.1 hb).1 h
      have e2 := (List.getElem?_eq_some_iff.1 hb).2
      rw [e2] at hp
      have := h2.1 hp
      omega
  by_cases hlt : (posI l x : Int) < l.length
  · have hlt' : posI l x < l.length := by omega
    have hb := List.getElem?_eq_getElem hlt'
    rw [decide_eq_true hlt, cond_true, ixL_at' (posI l x) rfl hb]
    simp only [Option.bind_some, slices_isNaN_int]
    by_cases he : l[posI l x] = x
    · have : x ∈ l := he ▸ List.getElem_mem hlt'
      rw [show (l[posI l x] == x) = true by simpa using he, cond_true, decide_eq_true this]
    · have : x ∉ l := fun hm => by
        obtain ⟨i, hi⟩ := List.getElem?_of_mem hm
        have := hmem i x hi rfl
        subst this
        rw [hb] at hi
        exact he (Option.some.inj hi)
      rw [show (l[posI l x] == x) = false by simpa using he, cond_false, decide_eq_false this]
      simp
  · have : x ∉ l := fun hm => by
      obtain ⟨i, hi⟩ := List.getElem?_of_mem hm
      have := hmem i x hi rfl
      have := (List.getElem?_eq_some_iff.1 hi).1
      omega
    rw [decide_eq_false hlt, cond_false, decide_eq_false this]

theorem drop_iff {α : Type} (x : α) (a : List α) {b : List α} {k : Nat} (hlt : k < b.length) : (x :: a = b.drop k) ↔ (x = b[k] ∧ a = b.drop (k + 1)) := by
  rw [List.drop_eq_getElem_cons hlt]
  exact ⟨fun h => List.cons.inj h, fun ⟨h1, h2⟩ => by rw [h1, h2]⟩
theorem eqI_L (b : List Int) : ∀ (a : List Int) (k : Nat), k + a.length = b.length → slices_Equal_int_L1 b a k = some (if a = b.drop k then .brk () else .ret false)
  | [], k, h => by
    rw [slices_Equal_int_L1, if_pos]
    exact (List.drop_of_length_le (by simp at h; omega)).symm
  | x :: a, k, h => by
    have hlt : k < b.length := by simp at h; omega
    have hb := List.getElem?_eq_getElem hlt
    have ih := eqI_L b a (k + 1) (by simp at h; omega)
    rw [slices_Equal_int_L1, ixL_at' k rfl hb, ih]
    simp only [Option.bind_some, cond_ite, bne_iff_ne, ne_eq]
    have key := drop_iff x a hlt
    by_cases e : x = b[k]
    · rw [if_neg (by simpa using e)]
      by_cases e2 : a = b.drop (k + 1)
      · rw [if_pos e2, if_pos (key.2 ⟨e, e2⟩)]
      · rw [if_neg e2, if_neg (fun h => e2 (key.1 h).2)]
    · rw [if_pos e, if_neg (fun h => e (key.1 h).1)]
theorem eqI_eq (a b : List Int) : slices_Equal_int a b = some (decide (a = b)) := by
  unfold slices_Equal_int
  by_cases h : a.length = b.length
  · rw [show ((a.length : Int) != (b.length : Int)) = false by simp [h], cond_false, eqI_L b a 0 (by omega), List.drop_zero]
    by_cases e : a = b
    · rw [if_pos e, decide_eq_true e]; rfl
    · rw [if_neg e, decide_eq_false e]; rfl
  · rw [show ((a.length : Int) != (b.length : Int)) = true by simp; omega, cond_true, decide_eq_false (fun e => h (by rw [e]))]
theorem index_L (x : Int) : ∀ (l : List Int) (k : Nat), slices_Index_int_L1 x l k = some (if x ∈ l then .ret ((k + l.idxOf x : Nat) : Int) else .brk ())
  | [], k => by simp [slices_Index_int_L1]
  | y :: l, k => by
    rw [slices_Index_int_L1, index_L x l (k + 1)]
    simp only [cond_ite, beq_iff_eq]
    by_cases e : x = y
    · subst e; simp
    · rw [if_neg e]
      by_cases hm : x ∈ l
      · rw [if_pos hm, if_pos (List.mem_cons_of_mem _ hm), List.idxOf_cons, show (y == x) = false by simpa using Ne.symm e, cond_false]
        congr 3
        omega
      · rw [if_neg hm, if_neg (by simp [e, hm])]
theorem contains_eq (l : List Int) (x : Int) : slices_Contains_int l x = some (decide (x ∈ l)) := by
  unfold slices_Contains_int slices_Index_int
  rw [index_L x l 0]
  by_cases hm : x ∈ l
  · rw [if_pos hm, fin_retE rfl]
    simp only [Option.bind_some, decide_eq_true hm]
    simp
  · rw [if_neg hm, fin_brkE rfl]
    simp only [Option.bind_some, decide_eq_false hm]
    rfl

/-! manifests -/
def okM (m : Manifest) : Prop := flight_Valid m.Flight = some true ∧ 1 ≤ m.Version ∧ m.Version ≤ 9999 ∧ asc m.Boarded ∧ asc m.Ever ∧ (∀ n ∈ m.Boarded, n ∈ m.Ever) ∧ m.Boarded.length ≤ 1000000 ∧ m.Ever.length ≤ 1000000
theorem valid_L (m : Manifest) (hs : m.Ever.Pairwise (· < ·)) (hl : m.Ever.length ≤ 1000000) : ∀ (l : List Int) (k : Nat), boarding_valid_L1 m l k = some (if ∀ n ∈ l, n ∈ m.Ever then .brk () else .ret false)
  | [], k => by simp [boarding_valid_L1]
  | n :: l, k => by
    rw [boarding_valid_L1, search_eq n m.Ever hs (by omega), valid_L m hs hl l (k + 1)]
    simp only [Option.bind_some]
    by_cases h : n ∈ m.Ever
    · rw [decide_eq_true h, Bool.not_true, cond_false]; simp [h]
    · rw [decide_eq_false h, Bool.not_false, cond_true, if_neg (fun e => h (e n (List.mem_cons_self ..)))]
theorem valid_ok {m : Manifest} (h : okM m) : boarding_valid m = some true := by
  obtain ⟨h1, h2, h3, h4, h5, h6, h7, h8⟩ := h
  unfold boarding_valid
  rw [h1, asc_eq _ (by omega), asc_eq _ (by omega), decide_eq_true h4, decide_eq_true h5, valid_L m h5.2 h8, if_pos h6, decide_eq_false (show ¬ m.Version < 1 by omega), decide_eq_false (show ¬ 9999 < m.Version by omega)]
  rfl

/-- the flights rise -/
def sortedM (l : List Manifest) : Prop := l.Pairwise (fun a b => flt a.Flight b.Flight)
def okL (l : List Manifest) : Prop := (∀ m ∈ l, okM m) ∧ sortedM l ∧ l.length ≤ 24
theorem validate_L (l : List Manifest) (h1 : ∀ m ∈ l, okM m) (h2 : sortedM l) (h3 : l.length ≤ 24) : ∀ (rest : List Manifest) (k : Nat), l.drop k = rest → boarding_Validate_L1 l rest k = some (.brk ())
  | [], k, _ => rfl
  | m :: rest, k, hd => by
    have hk : l[k]? = some m := by rw [← List.head?_drop, hd]; rfl
    have hkl := (List.getElem?_eq_some_iff.1 hk).1
    have hd' : l.drop (k + 1) = rest := by rw [← List.tail_drop, hd]; rfl
    have ih := validate_L l h1 h2 h3 rest (k + 1) hd'
    rw [boarding_Validate_L1, valid_ok (h1 m (List.mem_of_getElem? hk)), ih]
    simp only [Option.bind_some, Bool.not_true, cond_false]
    by_cases a : (0 : Int) < k
    · have hlt : k - 1 < l.length := by omega
      have hq := List.getElem?_eq_getElem hlt
      rw [decide_eq_true a, cond_true, w64_id (z := (k : Int) - 1) (by omega) (by omega), ixL_at' (k - 1) (by omega) hq]
      simp only [Option.bind_some, fcmp_eq]
      have hp := List.pairwise_iff_getElem.1 h2 (k - 1) k hlt hkl (by omega)
      rw [(List.getElem?_eq_some_iff.1 hk).2] at hp
      rw [show cmpF l[k - 1].Flight m.Flight = -1 from hp]
      rfl
    · rw [decide_eq_false a, cond_false]
theorem validate_ok {l : List Manifest} (h : okL l) : boarding_Validate l = some 0 := by
  unfold boarding_Validate
  have := h.2.2
  rw [decide_eq_false (show ¬ (24 : Int) < l.length by omega), cond_false, fin_brkE (validate_L l h.1 h.2.1 h.2.2 l 0 rfl)]

def smallM (m : Manifest) : Prop := m.Boarded.length ≤ 1000000 ∧ m.Ever.length ≤ 1000000
theorem okM.small {m : Manifest} (h : okM m) : smallM m := ⟨h.2.2.2.2.2.2.1, h.2.2.2.2.2.2.2⟩
theorem clone_eq (l : List Int) (h : l.length ≤ 16777216) : slices_Clone_int l = some l := by
  unfold slices_Clone_int
  rw [apL_eq (by simpa using h), List.nil_append]
theorem copied_eq (m : Manifest) (h : smallM m) : boarding_copied m = some m := by
  unfold boarding_copied
  rw [clone_eq _ (by have := h.1; omega), clone_eq _ (by have := h.2; omega)]
  rfl

/-- what two manifests of a flight say together -/
def mrg (x y : Manifest) : Option Manifest :=
  if x.Version = y.Version ∧ x.Boarded ≠ y.Boarded then none
  else some ⟨x.Flight, if x.Version < y.Version then y.Version else x.Version, if x.Version < y.Version then y.Boarded else x.Boarded, uniF (x.Ever.length + y.Ever.length) x.Ever y.Ever⟩
theorem united_eq (a b : List Int) (h : a.length + b.length ≤ 16777216) : boarding_united a b = some (uniF (a.length + b.length) a b) := by
  unfold boarding_united unitedF
  rw [if_pos h]
def zeroM : Manifest := ⟨⟨⟨#[]⟩, 0, ⟨#[]⟩, 0⟩, 0, [], []⟩
theorem merged_eq (x y : Manifest) (hx : smallM x) (hy : smallM y) : boarding_merged x y = some (match mrg x y with | none => (zeroM, false) | some m => (m, true)) := by
  obtain ⟨h1, h2⟩ := hx
  obtain ⟨h3, h4⟩ := hy
  unfold boarding_merged mrg
  rw [eqI_eq, united_eq _ _ (by omega), clone_eq x.Boarded (by omega), clone_eq y.Boarded (by omega)]
  simp only [Option.bind_some, cond_ite, beq_iff_eq, decide_eq_true_eq, Bool.not_eq_true', decide_eq_false_iff_not]
  by_cases e : x.Version = y.Version
  · by_cases e2 : x.Boarded = y.Boarded
    · rw [if_pos e, if_neg (by simpa using e2), if_neg (show ¬ x.Version < y.Version by omega), if_neg (by simp [e2])]
      simp only [if_neg (show ¬ x.Version < y.Version by omega)]
    · rw [if_pos e, if_pos e2, if_pos ⟨e, e2⟩]
      rfl
  · rw [if_neg e, if_neg (show ¬ (x.Version = y.Version ∧ x.Boarded ≠ y.Boarded) from fun h => e h.1)]
    by_cases h : x.Version < y.Version
    · simp only [if_pos h]
    · simp only [if_neg h]

/-- two lists of manifests together; none: they contradict each other -/
def joinS : List Manifest → List Manifest → Option (List Manifest)
  | [], b => some b
  | x :: a, [] => some (x :: a)
  | x :: a, y :: b =>
    if cmpF x.Flight y.Flight = -1 then (joinS a (y :: b)).map (x :: ·)
    else if cmpF x.Flight y.Flight = 1 then (joinS (x :: a) b).map (y :: ·)
    else match mrg x y with
      | none => none
      | some m => (joinS a b).map (m :: ·)
termination_by a b => a.length + b.length
theorem joinS_nil (b : List Manifest) : joinS [] b = some b := by rw [joinS]
theorem joinS_nil_r (a : List Manifest) : joinS a [] = some a := by cases a <;> rw [joinS]

theorem ixL_head {α : Type} (x : α) (l : List α) : ixL (x :: l) (0 : Int) = some x := ixL_at' 0 rfl rfl
theorem slL_tail {α : Type} (x : α) (l : List α) : slL (x :: l) (1 : Int) ((x :: l).length : Int) = some l := by
  rw [slL_eq (by omega) (by simp only [List.length_cons]; omega) (Int.le_refl _)]
  congr 1
  rw [show ((1 : Int).toNat) = 1 from rfl, List.drop_succ_cons, List.drop_zero]
  exact List.take_of_length_le (by simp only [List.length_cons]; omega)

def joinC (acc : List Manifest) (o : Option (List Manifest)) : Ctl ((List Manifest) × Int) (List Manifest) := match o with
  | none => .ret ([], 5)
  | some r => .brk (acc ++ r)
theorem joinC_map (acc : List Manifest) (x : Manifest) (o : Option (List Manifest)) : joinC (acc ++ [x]) o = joinC acc (o.map (x :: ·)) := by cases o <;> simp [joinC]
theorem joined_L : ∀ (n : Nat) (a acc b : List Manifest), a.length + b.length < n → acc.length + a.length + b.length ≤ 1000000 → (∀ m ∈ a, smallM m) → (∀ m ∈ b, smallM m) → boarding_joined_L1 n a acc b = some (joinC acc (joinS a b))
  | 0, a, acc, b, h, _, _, _ => by omega
  | n + 1, [], acc, [], _, _, _, _ => by rw [boarding_joined_L1, joinS_nil]; simp [joinC]
  | n + 1, [], acc, y :: b, h, h1, _, h3 => by
    simp only [List.length_nil, List.length_cons] at h h1
    rw [boarding_joined_L1]
    rw [decide_eq_false (show ¬ (0 : Int) < (([] : List Manifest).length : Int) by simp), cond_false, decide_eq_true (show (0 : Int) < ((y :: b).length : Int) by simp only [List.length_cons]; omega), cond_true, ixL_head, Option.bind_some, copied_eq y (h3 y (List.mem_cons_self ..)), Option.bind_some, apL_eq (by simp; omega), Option.bind_some, slL_tail, Option.bind_some]
    rw [joined_L n [] (acc ++ [y]) b (by simp; omega) (by simp; omega) (fun m hm => by simp at hm) (fun m hm => h3 m (List.mem_cons_of_mem _ hm)), joinC_map, joinS_nil, joinS_nil]
    rfl
  | n + 1, x :: a, acc, [], h, h1, h2, _ => by
    simp only [List.length_nil, List.length_cons] at h h1
    rw [boarding_joined_L1]
    rw [decide_eq_true (show (0 : Int) < ((x :: a).length : Int) by simp only [List.length_cons]; omega), cond_true, show ((([] : List Manifest).length : Int) == (0 : Int)) = true from rfl, cond_true, ixL_head, Option.bind_some, copied_eq x (h2 x (List.mem_cons_self ..)), Option.bind_some, apL_eq (by simp; omega), Option.bind_some, slL_tail, Option.bind_some]
    rw [joined_L n a (acc ++ [x]) [] (by simp; omega) (by simp; omega) (fun m hm => h2 m (List.mem_cons_of_mem _ hm)) (fun m hm => by simp at hm), joinC_map, joinS_nil_r, joinS_nil_r]
    rfl
  | n + 1, x :: a, acc, y :: b, h, h1, h2, h3 => by
    simp only [List.length_cons] at h h1
    have hx := h2 x (List.mem_cons_self ..)
    have hy := h3 y (List.mem_cons_self ..)
    have ha : ∀ m ∈ a, smallM m := fun m hm => h2 m (List.mem_cons_of_mem _ hm)
    have hb : ∀ m ∈ b, smallM m := fun m hm => h3 m (List.mem_cons_of_mem _ hm)
    rw [boarding_joined_L1]
    rw [decide_eq_true (show (0 : Int) < ((x :: a).length : Int) by simp only [List.length_cons]; omega), cond_true, show (((y :: b).length : Int) == (0 : Int)) = false by simp; omega, cond_false, ixL_head, Option.bind_some, ixL_head, Option.bind_some, fcmp_eq, Option.bind_some]
    rw [joinS]
    by_cases e1 : cmpF x.Flight y.Flight = -1
    · rw [if_pos e1, show (cmpF x.Flight y.Flight == (-1 : Int)) = true by simpa using e1, cond_true, Option.bind_some, copied_eq x hx, Option.bind_some, apL_eq (by simp; omega), Option.bind_some, slL_tail, Option.bind_some]
      rw [joined_L n a (acc ++ [x]) (y :: b) (by simp; omega) (by simp; omega) ha h3, joinC_map]
    rw [if_neg e1, show (cmpF x.Flight y.Flight == (-1 : Int)) = false by simpa using e1, cond_false]
    by_cases e2 : cmpF x.Flight y.Flight = 1
    · rw [if_pos e2, show (cmpF x.Flight y.Flight == (1 : Int)) = true by simpa using e2, cond_true, Option.bind_some, copied_eq y hy, Option.bind_some, apL_eq (by simp; omega), Option.bind_some, slL_tail, Option.bind_some]
      rw [joined_L n (x :: a) (acc ++ [y]) b (by simp; omega) (by simp; omega) h2 hb, joinC_map]
    rw [if_neg e2, show (cmpF x.Flight y.Flight == (1 : Int)) = false by simpa using e2, cond_false]
    have hm := merged_eq x y hx hy
    rw [Option.bind_some, Option.bind_some, hm, Option.bind_some]
    cases hmr : mrg x y with
    | none => simp [joinC]
    | some m =>
      simp only [Bool.not_true, cond_false]
      rw [apL_eq (by simp; omega), Option.bind_some, slL_tail, Option.bind_some, slL_tail, Option.bind_some]
      rw [joined_L n a (acc ++ [m]) b (by omega) (by simp; omega) ha hb, joinC_map]
def joinR (o : Option (List Manifest)) : List Manifest × Int := match o with
  | none => ([], 5)
  | some r => if 24 < r.length then ([], 2) else (r, 0)
theorem joined_eq (a b : List Manifest) (h : a.length + b.length ≤ 1000000) (h2 : ∀ m ∈ a, smallM m) (h3 : ∀ m ∈ b, smallM m) : boarding_joined a b = some (joinR (joinS a b)) := by
  unfold boarding_joined
  rw [joined_L _ a [] b (by omega) (by simpa using h) h2 h3]
  cases joinS a b with
  | none => rfl
  | some r =>
    simp only [joinC, List.nil_append, Ctl.fin, joinR, cond_ite, decide_eq_true_eq]
    by_cases e : 24 < r.length
    · rw [if_pos (show (24 : Int) < r.length by omega), if_pos e]
    · rw [if_neg (show ¬ (24 : Int) < r.length by omega), if_neg e]
end Go.Proofs.Ytajmhegkkbnkcaa.Ex
