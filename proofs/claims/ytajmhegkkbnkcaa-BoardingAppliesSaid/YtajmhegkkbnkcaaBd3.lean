/- Boarding: the messages that are drawn (three flights, six versions each), and the manifests behind any of them. -/
import Derived.Test.YtajmhegkkbnkcaaBd2
namespace Go.Proofs.Ytajmhegkkbnkcaa.Ex
open Go.RowKit Go.Proofs.Ytajmhegkkbnkcaa.Ax
set_option linter.unusedVariables false
set_option linter.unusedSimpArgs false

def fl (f : Nat) : Flight := ⟨⟨#[66, 65]⟩, 1 + ((f / 3 : Nat) : Int), ⟨#[]⟩, 1 + ((f % 3 : Nat) : Int)⟩
theorem fl_eq {f : Nat} (h : f < 5) : keep_Flights (f : Int) = some (fl f) := by
  match f, h with
  | 0, _ =>
    have e : keep_Flights (0 : Int) = some (fl 0) := by kernel_rfl
    exact e
  | 1, _ =>
    have e : keep_Flights (1 : Int) = some (fl 1) := by kernel_rfl
    exact e
  | 2, _ =>
    have e : keep_Flights (2 : Int) = some (fl 2) := by kernel_rfl
    exact e
  | 3, _ =>
    have e : keep_Flights (3 : Int) = some (fl 3) := by kernel_rfl
    exact e
  | 4, _ =>
    have e : keep_Flights (4 : Int) = some (fl 4) := by kernel_rfl
    exact e
theorem fl_lt {f g : Nat} (h : f < g) (hg : g < 5) : flt (fl f) (fl g) := by
  have h0 : (List.range 5).all (fun g => (List.range g).all fun f => cmpF (fl f) (fl g) == -1) = true := by kernel_rfl
  have := List.all_eq_true.1 (List.all_eq_true.1 h0 g (List.mem_range.2 hg)) f (List.mem_range.2 h)
  exact eq_of_beq this
theorem fl_valid {f : Nat} (h : f < 5) : flight_Valid (fl f) = some true ∧ ref02_Valid (fl f) = some true := by
  match f, h with
  | 0, _ => exact ⟨by kernel_rfl, by kernel_rfl⟩
  | 1, _ => exact ⟨by kernel_rfl, by kernel_rfl⟩
  | 2, _ => exact ⟨by kernel_rfl, by kernel_rfl⟩
  | 3, _ => exact ⟨by kernel_rfl, by kernel_rfl⟩
  | 4, _ => exact ⟨by kernel_rfl, by kernel_rfl⟩

/-- the numbers of the bits -/
def bitsL (x : Nat) : List Int := ((List.range 12).filter fun i => x.testBit i).map fun i => ((i + 1 : Nat) : Int)
theorem mem_bits {x : Nat} {n : Int} : n ∈ bitsL x ↔ ∃ i : Nat, i < 12 ∧ x.testBit i = true ∧ n = ((i + 1 : Nat) : Int) := by
  unfold bitsL
  simp only [List.mem_map, List.mem_filter, List.mem_range]
  constructor
  · rintro ⟨i, ⟨h1, h2⟩, h3⟩; exact ⟨i, h1, h2, h3.symm⟩
  · rintro ⟨i, h1, h2, h3⟩; exact ⟨i, ⟨h1, h2⟩, h3.symm⟩
theorem mem_or {x y : Nat} {n : Int} : n ∈ bitsL (x ||| y) ↔ n ∈ bitsL x ∨ n ∈ bitsL y := by
  simp only [mem_bits, Nat.testBit_or, Bool.or_eq_true]
  constructor
  · rintro ⟨i, h1, h2 | h2, h3⟩
    · exact .inl ⟨i, h1, h2, h3⟩
    · exact .inr ⟨i, h1, h2, h3⟩
  · rintro (⟨i, h1, h2, h3⟩ | ⟨i, h1, h2, h3⟩)
    · exact ⟨i, h1, .inl h2, h3⟩
    · exact ⟨i, h1, .inr h2, h3⟩
theorem bits_sorted (x : Nat) : (bitsL x).Pairwise (· < ·) := by
  unfold bitsL
  refine List.Pairwise.map _ (fun a b h => ?_) (List.Pairwise.filter _ List.pairwise_lt_range)
  omega
theorem bits_asc (x : Nat) : asc (bitsL x) := by
  refine ⟨fun n hn => ?_, bits_sorted x⟩
  obtain ⟨i, h1, _, rfl⟩ := mem_bits.1 hn
  omega
theorem bits_len (x : Nat) : (bitsL x).length ≤ 12 := by
  unfold bitsL
  rw [List.length_map]
  exact Nat.le_trans (List.length_filter_le _ _) (by simp)
theorem uni_bits (x y : Nat) : uniF ((bitsL x).length + (bitsL y).length) (bitsL x) (bitsL y) = bitsL (x ||| y) :=
  asc_ext (uni_sorted _ _ _ (Nat.le_refl _) (bits_sorted x) (bits_sorted y)) (bits_sorted _) (fun n => by rw [uni_mem _ _ _ _ (Nat.le_refl _), mem_or])

def msgX (f v : Nat) : Nat := [2741, 63, 4095, 1, 0, 1365, 2730, 3120].getD ((3 * f + 5 * v) % 8) 0
def legE : Leg := ⟨⟨⟨#[]⟩, 0, ⟨#[]⟩, 0⟩, ⟨#[]⟩, ⟨#[]⟩⟩
/-- the boarding message with a version for a flight -/
def msg (f v : Nat) : Message := ⟨5, 0, ⟨#[67, 80, 72]⟩, (v : Int), legE, ⟨fl f, ⟨#[76, 72, 82]⟩, ⟨#[89]⟩⟩, [], ⟨0, 0, 0⟩, 0, false, 0, 0, 0, ⟨#[]⟩, ⟨#[]⟩, 0, ⟨#[]⟩, bitsL (msgX f v)⟩
def okFV (p : Nat × Nat) : Prop := p.1 < 3 ∧ 1 ≤ p.2 ∧ p.2 ≤ 6
instance (p : Nat × Nat) : Decidable (okFV p) := by unfold okFV; infer_instance
theorem msg_valid {f v : Nat} (h : okFV (f, v)) : message_Validate (msg f v) = some 0 := by
  have h0 : (List.range 3).all (fun f => (List.range 6).all fun v => message_Validate (msg f (v + 1)) == some 0) = true := by kernel_rfl
  have := List.all_eq_true.1 (List.all_eq_true.1 h0 f (List.mem_range.2 h.1)) (v - 1) (List.mem_range.2 (by have := h.2; simp only at this; omega))
  rw [show v - 1 + 1 = v by have := h.2.1; simp only at this; omega] at this
  exact eq_of_beq this
theorem list_ok (s : Src) (h : SrcOk s) : okP (keep_Src_List s) (fun r => (∃ f v : Nat, okFV (f, v) ∧ r.1 = msg f v) ∧ SrcOk r.2) := by
  unfold keep_Src_List
  refine okP_bind (N_ok s 3 h (by omega) (by omega)) (fun r ⟨r1, r2, r3⟩ => ?_)
  refine okP_bind (N_ok r.2 6 r3 (by omega) (by omega)) (fun q ⟨q1, q2, q3⟩ => ?_)
  obtain ⟨ra, rb⟩ := r
  obtain ⟨qa, qb⟩ := q
  simp only at r1 r2 q1 q2 q3 ⊢
  have hr : ra = 0 ∨ ra = 1 ∨ ra = 2 := by omega
  have hq : qa = 0 ∨ qa = 1 ∨ qa = 2 ∨ qa = 3 ∨ qa = 4 ∨ qa = 5 := by omega
  rcases hr with rfl | rfl | rfl <;> rcases hq with rfl | rfl | rfl | rfl | rfl | rfl
  · exact ⟨(msg 0 1, qb), by kernel_rfl, ⟨0, 1, by decide, rfl⟩, q3⟩
  · exact ⟨(msg 0 2, qb), by kernel_rfl, ⟨0, 2, by decide, rfl⟩, q3⟩
  · exact ⟨(msg 0 3, qb), by kernel_rfl, ⟨0, 3, by decide, rfl⟩, q3⟩
  · exact ⟨(msg 0 4, qb), by kernel_rfl, ⟨0, 4, by decide, rfl⟩, q3⟩
  · exact ⟨(msg 0 5, qb), by kernel_rfl, ⟨0, 5, by decide, rfl⟩, q3⟩
  · exact ⟨(msg 0 6, qb), by kernel_rfl, ⟨0, 6, by decide, rfl⟩, q3⟩
  · exact ⟨(msg 1 1, qb), by kernel_rfl, ⟨1, 1, by decide, rfl⟩, q3⟩
  · exact ⟨(msg 1 2, qb), by kernel_rfl, ⟨1, 2, by decide, rfl⟩, q3⟩
  · exact ⟨(msg 1 3, qb), by kernel_rfl, ⟨1, 3, by decide, rfl⟩, q3⟩
  · exact ⟨(msg 1 4, qb), by kernel_rfl, ⟨1, 4, by decide, rfl⟩, q3⟩
  · exact ⟨(msg 1 5, qb), by kernel_rfl, ⟨1, 5, by decide, rfl⟩, q3⟩
  · exact ⟨(msg 1 6, qb), by kernel_rfl, ⟨1, 6, by decide, rfl⟩, q3⟩
  · exact ⟨(msg 2 1, qb), by kernel_rfl, ⟨2, 1, by decide, rfl⟩, q3⟩
  · exact ⟨(msg 2 2, qb), by kernel_rfl, ⟨2, 2, by decide, rfl⟩, q3⟩
  · exact ⟨(msg 2 3, qb), by kernel_rfl, ⟨2, 3, by decide, rfl⟩, q3⟩
  · exact ⟨(msg 2 4, qb), by kernel_rfl, ⟨2, 4, by decide, rfl⟩, q3⟩
  · exact ⟨(msg 2 5, qb), by kernel_rfl, ⟨2, 5, by decide, rfl⟩, q3⟩
  · exact ⟨(msg 2 6, qb), by kernel_rfl, ⟨2, 6, by decide, rfl⟩, q3⟩

/-! the manifest of a flight behind a set of versions (bit v - 1: version v) -/
def maxv (S : Nat) : Nat := if 32 ≤ S then 6 else if 16 ≤ S then 5 else if 8 ≤ S then 4 else if 4 ≤ S then 3 else if 2 ≤ S then 2 else 1
def everX (f S : Nat) : Nat := (List.range 6).foldl (fun a i => if S.testBit i then a ||| msgX f (i + 1) else a) 0
def mani (f S : Nat) : Manifest := ⟨fl f, (maxv S : Int), bitsL (msgX f (maxv S)), bitsL (everX f S)⟩
def opt (f S : Nat) : List Manifest := if S = 0 then [] else [mani f S]

theorem fin_check : (List.range 3).all (fun f => (List.range 64).all fun S => S == 0 || ((msgX f (maxv S) ||| everX f S) == everX f S && (List.range 64).all fun T => T == 0 || ((if maxv S < maxv T then maxv T else maxv S) == maxv (S ||| T) && (everX f S ||| everX f T) == everX f (S ||| T)))) = true := by kernel_rfl
theorem fin_at {f S : Nat} (hf : f < 3) (hS : S < 64) (h0 : S ≠ 0) : (msgX f (maxv S) ||| everX f S) = everX f S ∧ ∀ T, T < 64 → T ≠ 0 → (if maxv S < maxv T then maxv T else maxv S) = maxv (S ||| T) ∧ (everX f S ||| everX f T) = everX f (S ||| T) := by
  have h := List.all_eq_true.1 (List.all_eq_true.1 fin_check f (List.mem_range.2 hf)) S (List.mem_range.2 hS)
  have hz : (S == 0) = false := by simpa using h0
  rw [hz, Bool.false_or, Bool.and_eq_true] at h
  refine ⟨eq_of_beq h.1, fun T hT hT0 => ?_⟩
  have h2 := List.all_eq_true.1 h.2 T (List.mem_range.2 hT)
  have hz : (T == 0) = false := by simpa using hT0
  rw [hz, Bool.false_or, Bool.and_eq_true] at h2
  exact ⟨eq_of_beq h2.1, eq_of_beq h2.2⟩
theorem maxv_le (S : Nat) : 1 ≤ maxv S ∧ maxv S ≤ 6 := by unfold maxv; (repeat' split) <;> omega
theorem mani_ok {f S : Nat} (hf : f < 3) (hS : S < 64) (h0 : S ≠ 0) : okM (mani f S) := by
  have hm := maxv_le S
  refine ⟨(fl_valid (by omega)).1, by show 1 ≤ (maxv S : Int); omega, by show (maxv S : Int) ≤ 9999; omega, bits_asc _, bits_asc _, fun n hn => ?_, Nat.le_trans (bits_len _) (by omega), Nat.le_trans (bits_len _) (by omega)⟩
  show n ∈ bitsL (everX f S)
  rw [← (fin_at hf hS h0).1]
  exact mem_or.2 (.inl hn)
theorem mani_mrg {f S T : Nat} (hf : f < 3) (hS : S < 64) (h0 : S ≠ 0) (hT : T < 64) (hT0 : T ≠ 0) : mrg (mani f S) (mani f T) = some (mani f (S ||| T)) := by
  obtain ⟨h1, h2⟩ := (fin_at hf hS h0).2 T hT hT0
  unfold mrg
  rw [if_neg]
  · congr 1
    have hev : uniF ((mani f S).Ever.length + (mani f T).Ever.length) (mani f S).Ever (mani f T).Ever = bitsL (everX f (S ||| T)) := by
      rw [← h2]; exact uni_bits _ _
    by_cases h : maxv S < maxv T
    · have hv : (mani f S).Version < (mani f T).Version := by show (maxv S : Int) < maxv T; omega
      rw [if_pos h] at h1
      rw [if_pos hv, if_pos hv, hev]
      unfold mani
      rw [← h1]
    · have hv : ¬ (mani f S).Version < (mani f T).Version := by show ¬ (maxv S : Int) < maxv T; omega
      rw [if_neg h] at h1
      rw [if_neg hv, if_neg hv, hev]
      unfold mani
      rw [← h1]
  · rintro ⟨e1, e2⟩
    have : maxv S = maxv T := by simp only [mani] at e1; omega
    simp only [mani] at e2
    rw [this] at e2
    exact e2 rfl
theorem opt_join {f S T : Nat} (hf : f < 3) (hS : S < 64) (hT : T < 64) : joinS (opt f S) (opt f T) = some (opt f (S ||| T)) := by
  unfold opt
  by_cases h0 : S = 0
  · rw [if_pos h0, joinS_nil, h0, Nat.zero_or]
  · by_cases h1 : T = 0
    · rw [if_pos h1, joinS_nil_r, h1, Nat.or_zero]
    · have h2 : S ||| T ≠ 0 := fun h => h0 (by
        have := Nat.or_eq_zero_iff.1 h
        exact this.1)
      rw [if_neg h0, if_neg h1, if_neg h2, joinS, mani_mrg hf hS h0 hT h1]
      rw [show cmpF (mani f S).Flight (mani f T).Flight = 0 from cmpF_self _, if_neg (by decide), if_neg (by decide)]
      simp only [joinS_nil, Option.map_some]
theorem opt_fl {f S : Nat} {m : Manifest} (h : m ∈ opt f S) : m.Flight = fl f := by
  unfold opt at h
  split at h
  · simp at h
  · simp at h; subst h; rfl

/-! all three flights -/
abbrev Msk := Nat × Nat × Nat
def okS (S : Msk) : Prop := S.1 < 64 ∧ S.2.1 < 64 ∧ S.2.2 < 64
def orM (S T : Msk) : Msk := (S.1 ||| T.1, S.2.1 ||| T.2.1, S.2.2 ||| T.2.2)
theorem or64 {a b : Nat} (h : a < 64) (k : b < 64) : a ||| b < 64 := Nat.or_lt_two_pow (n := 6) h k
theorem orM_ok {S T : Msk} (h : okS S) (k : okS T) : okS (orM S T) := ⟨or64 h.1 k.1, or64 h.2.1 k.2.1, or64 h.2.2 k.2.2⟩
theorem orM_comm (S T : Msk) : orM S T = orM T S := by unfold orM; rw [Nat.or_comm, Nat.or_comm S.2.1, Nat.or_comm S.2.2]
theorem orM_assoc (S T U : Msk) : orM (orM S T) U = orM S (orM T U) := by unfold orM; simp only [Nat.or_assoc]
theorem orM_self (S : Msk) : orM S S = S := by unfold orM; simp
theorem orM_zero (S : Msk) : orM (0, 0, 0) S = S := by unfold orM; simp
theorem orM_zero_r (S : Msk) : orM S (0, 0, 0) = S := by unfold orM; simp
def cano (S : Msk) : List Manifest := opt 0 S.1 ++ (opt 1 S.2.1 ++ opt 2 S.2.2)
theorem opt_len (f S : Nat) : (opt f S).length ≤ 1 := by unfold opt; split <;> simp
theorem cano_len (S : Msk) : (cano S).length ≤ 3 := by
  unfold cano
  simp only [List.length_append]
  have := opt_len 0 S.1
  have := opt_len 1 S.2.1
  have := opt_len 2 S.2.2
  omega
theorem opt_ok {f S : Nat} (hf : f < 3) (hS : S < 64) {m : Manifest} (h : m ∈ opt f S) : okM m := by
  unfold opt at h
  split at h
  · simp at h
  · rename_i h0; simp at h; subst h; exact mani_ok hf hS h0
theorem cano_mem {S : Msk} (h : okS S) {m : Manifest} (hm : m ∈ cano S) : okM m ∧ ∃ f, f < 3 ∧ m.Flight = fl f := by
  unfold cano at hm
  rw [List.mem_append, List.mem_append] at hm
  rcases hm with hm | hm | hm
  · exact ⟨opt_ok (by omega) h.1 hm, 0, by omega, opt_fl hm⟩
  · exact ⟨opt_ok (by omega) h.2.1 hm, 1, by omega, opt_fl hm⟩
  · exact ⟨opt_ok (by omega) h.2.2 hm, 2, by omega, opt_fl hm⟩
theorem opt_sorted (f S : Nat) : sortedM (opt f S) := by unfold opt sortedM; split <;> simp
theorem cano_ok {S : Msk} (h : okS S) : okL (cano S) := by
  refine ⟨fun m hm => (cano_mem h hm).1, ?_, Nat.le_trans (cano_len S) (by omega)⟩
  unfold sortedM cano
  rw [List.pairwise_append, List.pairwise_append]
  refine ⟨opt_sorted _ _, ⟨opt_sorted _ _, opt_sorted _ _, fun a ha b hb => ?_⟩, fun a ha b hb => ?_⟩
  · rw [opt_fl ha, opt_fl hb]; exact fl_lt (by omega) (by omega)
  · rw [opt_fl ha]
    rcases List.mem_append.1 hb with hb | hb <;> rw [opt_fl hb] <;> exact fl_lt (by omega) (by omega)
theorem cano_join {S T : Msk} (h : okS S) (k : okS T) : joinS (cano S) (cano T) = some (cano (orM S T)) := by
  unfold cano
  rw [joinS_app 10 _ _ _ _ (by have := opt_len 0 S.1; have := opt_len 0 T.1; omega)
    (fun x hx y hy => by rw [opt_fl hx]; rcases List.mem_append.1 hy with hy | hy <;> rw [opt_fl hy] <;> exact fl_lt (by omega) (by omega))
    (fun x hx y hy => by rw [opt_fl hx]; rcases List.mem_append.1 hy with hy | hy <;> rw [opt_fl hy] <;> exact fl_lt (by omega) (by omega))]
  rw [joinS_app 10 _ _ _ _ (by have := opt_len 1 S.2.1; have := opt_len 1 T.2.1; omega)
    (fun x hx y hy => by rw [opt_fl hx, opt_fl hy]; exact fl_lt (by omega) (by omega))
    (fun x hx y hy => by rw [opt_fl hx, opt_fl hy]; exact fl_lt (by omega) (by omega))]
  rw [opt_join (by omega) h.1 k.1, opt_join (by omega) h.2.1 k.2.1, opt_join (by omega) h.2.2 k.2.2]
  rfl
theorem joined_ok {a b : List Manifest} (ha : okL a) (hb : okL b) : boarding_joined a b = some (joinR (joinS a b)) := by
  have := ha.2.2
  have := hb.2.2
  exact joined_eq a b (by omega) (fun m hm => (ha.1 m hm).small) (fun m hm => (hb.1 m hm).small)
theorem cano_joined {S T : Msk} (h : okS S) (k : okS T) : boarding_joined (cano S) (cano T) = some (cano (orM S T), 0) := by
  rw [joined_ok (cano_ok h) (cano_ok k), cano_join h k]
  have := cano_len (orM S T)
  simp only [joinR, if_neg (show ¬ 24 < (cano (orM S T)).length by omega)]
theorem join_eq {a b : List Manifest} (ha : okL a) (hb : okL b) : boarding_Join a b = some (joinR (joinS a b)) := by
  unfold boarding_Join
  have : boarding_Join_L1 [a, b] 0 = some (.brk ()) := by
    simp only [boarding_Join_L1, validate_ok ha, validate_ok hb, Option.bind_some]
    rfl
  rw [fin_brkE this, joined_ok ha hb]
  rfl
theorem cano_Join {S T : Msk} (h : okS S) (k : okS T) : boarding_Join (cano S) (cano T) = some (cano (orM S T), 0) := by
  rw [join_eq (cano_ok h) (cano_ok k), cano_join h k]
  have := cano_len (orM S T)
  simp only [joinR, if_neg (show ¬ 24 < (cano (orM S T)).length by omega)]

/-- the mask of one message -/
def bitv (p : Nat × Nat) : Msk := (if p.1 = 0 then 2 ^ (p.2 - 1) else 0, if p.1 = 1 then 2 ^ (p.2 - 1) else 0, if p.1 = 2 then 2 ^ (p.2 - 1) else 0)
theorem bitv_ok {p : Nat × Nat} (h : okFV p) : okS (bitv p) := by
  have h2 : 2 ^ (p.2 - 1) < 64 := Nat.pow_lt_pow_right (a := 2) (n := 6) (by omega) (by have := h.2; omega)
  unfold bitv okS
  refine ⟨?_, ?_, ?_⟩ <;> simp only <;> split <;> omega
/-- the manifest that a boarding message has alone -/
def oneOf (m : Message) : List Manifest := [⟨m.Out.Flight, m.Number, m.List, m.List⟩]
theorem one_cano {p : Nat × Nat} (h : okFV p) : oneOf (msg p.1 p.2) = cano (bitv p) := by
  have h0 : (List.range 3).all (fun f => (List.range 6).all fun v => decide (oneOf (msg f (v + 1)) = cano (bitv (f, v + 1)))) = true := by kernel_rfl
  have := List.all_eq_true.1 (List.all_eq_true.1 h0 p.1 (List.mem_range.2 h.1)) (p.2 - 1) (List.mem_range.2 (by have := h.2; omega))
  rw [show p.2 - 1 + 1 = p.2 by have := h.2.1; omega] at this
  exact of_decide_eq_true this
theorem apply_eq {x : List Manifest} (hx : okL x) {p : Nat × Nat} (h : okFV p) : boarding_Apply x (msg p.1 p.2) = boarding_joined x (oneOf (msg p.1 p.2)) := by
  unfold boarding_Apply
  rw [validate_ok hx, Option.bind_some, show ((0 : Int) != 0) = false from rfl, cond_false, msg_valid (f := p.1) (v := p.2) h, Option.bind_some, show ((0 : Int) != 0) = false from rfl, cond_false]
  rw [show ((msg p.1 p.2).Kind != (5 : Int)) = false from rfl, cond_false]
  show (boarding_joined x (oneOf (msg p.1 p.2))).bind (fun r => some (r.1, r.2)) = _
  cases boarding_joined x (oneOf (msg p.1 p.2)) <;> rfl
theorem cano_apply {S : Msk} (hS : okS S) {p : Nat × Nat} (h : okFV p) : boarding_Apply (cano S) (msg p.1 p.2) = some (cano (orM S (bitv p)), 0) := by
  rw [apply_eq (cano_ok hS) h, one_cano h, cano_joined hS (bitv_ok h)]

/-- the mask of many messages -/
def maskOf (l : List (Nat × Nat)) : Msk := l.foldr (fun p a => orM (bitv p) a) (0, 0, 0)
theorem mask_ok {l : List (Nat × Nat)} (h : ∀ p ∈ l, okFV p) : okS (maskOf l) := by
  induction l with
  | nil => exact ⟨by decide, by decide, by decide⟩
  | cons p l ih => exact orM_ok (bitv_ok (h p (List.mem_cons_self ..))) (ih (fun q hq => h q (List.mem_cons_of_mem _ hq)))
theorem mask_cons (p : Nat × Nat) (l : List (Nat × Nat)) : maskOf (p :: l) = orM (bitv p) (maskOf l) := rfl
theorem mask_app (l m : List (Nat × Nat)) : maskOf (l ++ m) = orM (maskOf l) (maskOf m) := by
  induction l with
  | nil => simp [maskOf, orM_zero]
  | cons p l ih => rw [List.cons_append, mask_cons, mask_cons, ih, orM_assoc]
theorem mask_mem {l : List (Nat × Nat)} {p : Nat × Nat} (h : p ∈ l) : orM (bitv p) (maskOf l) = maskOf l := by
  induction l with
  | nil => simp at h
  | cons q l ih =>
    rw [mask_cons]
    rcases List.mem_cons.1 h with rfl | h
    · rw [← orM_assoc, orM_self]
    · rw [← orM_assoc, orM_comm (bitv p), orM_assoc, ih h]
def msgs (l : List (Nat × Nat)) : List Message := l.map fun p => msg p.1 p.2
theorem awake_ok : law25_awake = some true := by kernel_rfl
end Go.Proofs.Ytajmhegkkbnkcaa.Ex
