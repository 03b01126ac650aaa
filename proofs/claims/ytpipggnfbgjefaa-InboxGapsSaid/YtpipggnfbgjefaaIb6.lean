/- The law InboxGaps. -/
import Derived.Test.YtpipggnfbgjefaaIb4
namespace Go.Proofs.Ytpipggnfbgjefaa.Ex.Ib
open Go.RowKit Go.Proofs.Ytpipggnfbgjefaa.Ax
set_option linter.unusedVariables false
set_option linter.unusedSimpArgs false

def bitF (x k : Int) : Int := andF .i64 (shrF .i64 x (IntKind.u64.wrap k)) (1 : Int)
theorem wrap_u {k : Int} (h0 : 0 ≤ k) (h1 : k ≤ 1000) : IntKind.u64.wrap k = k := by
  unfold IntKind.wrap
  simp only [IntKind.bits, IntKind.signed]
  first
    | omega
    | (simp; omega)
theorem and_one (a : Int) : andF .i64 a 1 = a % 2 := by
  unfold andF
  have e : (BitVec.ofInt IntKind.i64.bits a &&& BitVec.ofInt IntKind.i64.bits 1).toNat = (a % 2).toNat := by
    rw [BitVec.toNat_and, BitVec.toNat_ofInt, BitVec.toNat_ofInt]
    have : ((1 : Int) % ((2 ^ IntKind.i64.bits : Nat) : Int)).toNat = 1 := rfl
    rw [this, Nat.and_one_is_mod]
    have h2 : ((2 ^ IntKind.i64.bits : Nat) : Int) = 18446744073709551616 := rfl
    rw [h2]
    omega
  rw [e, Int.toNat_of_nonneg (by omega)]
  exact w64_id (z := a % 2) (by omega) (by omega)
theorem shr_lit (x : Int) {k : Int} (h0 : 0 ≤ k) (h1 : k ≤ 20) : shrF .i64 x (IntKind.u64.wrap k) = x / 2 ^ k.toNat := by
  rw [wrap_u h0 (by omega)]
  unfold shrF
  rw [Nat.min_eq_left (by show k.toNat ≤ 64; omega), Int.fdiv_eq_ediv_of_nonneg _ (Int.pow_nonneg (by decide))]
/-- the seven bits that the law looks at -/
def low (x : Int) : Int := 4 * (x / 4 % 128)
theorem bit_low (x : Int) {k : Int} (h2 : 2 ≤ k) (h8 : k ≤ 8) : andF .i64 (shrF .i64 x (IntKind.u64.wrap k)) 1 = andF .i64 (shrF .i64 (low x) (IntKind.u64.wrap k)) 1 := by
  rw [and_one, and_one, shr_lit x (by omega) (by omega), shr_lit (low x) (by omega) (by omega)]
  unfold low
  have hk : k = 2 ∨ k = 3 ∨ k = 4 ∨ k = 5 ∨ k = 6 ∨ k = 7 ∨ k = 8 := by omega
  rcases hk with rfl | rfl | rfl | rfl | rfl | rfl | rfl
  · show x / 4 % 2 = 4 * (x / 4 % 128) / 4 % 2; omega
  · show x / 8 % 2 = 4 * (x / 4 % 128) / 8 % 2; omega
  · show x / 16 % 2 = 4 * (x / 4 % 128) / 16 % 2; omega
  · show x / 32 % 2 = 4 * (x / 4 % 128) / 32 % 2; omega
  · show x / 64 % 2 = 4 * (x / 4 % 128) / 64 % 2; omega
  · show x / 128 % 2 = 4 * (x / 4 % 128) / 128 % 2; omega
  · show x / 256 % 2 = 4 * (x / 4 % 128) / 256 % 2; omega
theorem gaps_L1 (x : Int) : ∀ (n : Nat) (w : Int) (L : List Sender) (t i : Int), 2 ≤ i → i ≤ 9 → law05_InboxGaps_L1 x n w L t i = law05_InboxGaps_L1 (low x) n w L t i
  | 0, _, _, _, _, _, _ => rfl
  | n + 1, w, L, t, i, h0, h1 => by
    rw [law05_InboxGaps_L1, law05_InboxGaps_L1]
    by_cases c : i ≤ 8
    · rw [decide_eq_true c, cond_true, cond_true, bit_low x h0 c, w64_id (by omega) (by omega)]
      congr 1
      funext _
      congr 1
      · congr 1
        funext r7
        congr 1
        funext r8
        congr 1
        congr 1
        congr 1
        exact gaps_L1 x n _ _ _ (i + 1) (by omega) (by omega)
      · exact gaps_L1 x n _ _ _ (i + 1) (by omega) (by omega)
    · rw [decide_eq_false c, cond_false, cond_false]
theorem gaps_L2 (x : Int) (z : Int × (List Sender) × Int) (hz : z.2.2 ≤ 8) : ∀ (n : Nat) (a : List Int) (i : Int), 1 ≤ i → i ≤ 9 → law05_InboxGaps_L2 x z n a i = law05_InboxGaps_L2 (low x) z n a i
  | 0, _, _, _, _ => rfl
  | n + 1, a, i, h0, h1 => by
    rw [law05_InboxGaps_L2, law05_InboxGaps_L2]
    by_cases c : i < z.2.2
    · rw [decide_eq_true c, cond_true, cond_true, w64_id (by omega) (by omega)]
      by_cases d : i = 1
      · rw [show (i == 1) = true from by simpa using d, cond_true, cond_true]
        congr 1
        funext l
        exact gaps_L2 x z hz n l (i + 1) (by omega) (by omega)
      · rw [show (i == 1) = false from by simpa using d, cond_false, cond_false, bit_low x (by omega) (by omega)]
        congr 1
        funext _
        congr 1
        · congr 1
          funext l
          exact gaps_L2 x z hz n l (i + 1) (by omega) (by omega)
        · exact gaps_L2 x z hz n a (i + 1) (by omega) (by omega)
    · rw [decide_eq_false c, cond_false, cond_false]
theorem gaps_L3 (x : Int) (j : Int) (hj : j ≤ 8) (hb : andF .i64 (shrF .i64 (low x) (IntKind.u64.wrap j)) 1 ≠ 0) : ∀ (n : Nat) (i : Int), 2 ≤ i → i ≤ j → law05_InboxGaps_L3 x n i = law05_InboxGaps_L3 (low x) n i
  | 0, _, _, _ => rfl
  | n + 1, i, h0, h1 => by
    rw [law05_InboxGaps_L3, law05_InboxGaps_L3, bit_low x h0 (by omega), w64_id (by omega) (by omega)]
    congr 1
    funext _
    by_cases c : andF .i64 (shrF .i64 (low x) (IntKind.u64.wrap i)) 1 = 0
    · rw [show (andF .i64 (shrF .i64 (low x) (IntKind.u64.wrap i)) 1 == 0) = true from by simpa using c, cond_true, cond_true]
      have : i ≠ j := fun e => hb (e ▸ c)
      exact gaps_L3 x j hj hb n (i + 1) (by omega) (by omega)
    · rw [show (andF .i64 (shrF .i64 (low x) (IntKind.u64.wrap i)) 1 == 0) = false from by simpa using c, cond_false, cond_false]
theorem low_bit {k : Int} (h0 : 0 < k) (h1 : k < 128) : ∃ j : Int, 2 ≤ j ∧ j ≤ 8 ∧ andF .i64 (shrF .i64 (4 * k) (IntKind.u64.wrap j)) 1 ≠ 0 := by
  have key : ∀ j : Int, 2 ≤ j → j ≤ 8 → andF .i64 (shrF .i64 (4 * k) (IntKind.u64.wrap j)) 1 = 4 * k / 2 ^ j.toNat % 2 := fun j h2 h8 => by
    rw [and_one, shr_lit _ (by omega) (by omega)]
  by_cases c2 : k % 2 ≠ 0
  · refine ⟨2, by omega, by omega, ?_⟩; rw [key 2 (by omega) (by omega)]; show 4 * k / 4 % 2 ≠ 0; omega
  by_cases c3 : k / 2 % 2 ≠ 0
  · refine ⟨3, by omega, by omega, ?_⟩; rw [key 3 (by omega) (by omega)]; show 4 * k / 8 % 2 ≠ 0; omega
  by_cases c4 : k / 4 % 2 ≠ 0
  · refine ⟨4, by omega, by omega, ?_⟩; rw [key 4 (by omega) (by omega)]; show 4 * k / 16 % 2 ≠ 0; omega
  by_cases c5 : k / 8 % 2 ≠ 0
  · refine ⟨5, by omega, by omega, ?_⟩; rw [key 5 (by omega) (by omega)]; show 4 * k / 32 % 2 ≠ 0; omega
  by_cases c6 : k / 16 % 2 ≠ 0
  · refine ⟨6, by omega, by omega, ?_⟩; rw [key 6 (by omega) (by omega)]; show 4 * k / 64 % 2 ≠ 0; omega
  by_cases c7 : k / 32 % 2 ≠ 0
  · refine ⟨7, by omega, by omega, ?_⟩; rw [key 7 (by omega) (by omega)]; show 4 * k / 128 % 2 ≠ 0; omega
  · refine ⟨8, by omega, by omega, ?_⟩; rw [key 8 (by omega) (by omega)]; show 4 * k / 256 % 2 ≠ 0; omega
def chk (k : Nat) : Bool :=
  decide (law05_InboxGaps (4 * (k : Int)) = some true) &&
  (match law05_InboxGaps_L1 (4 * (k : Int)) 9223372036854775807 8 [] 0 2 with
   | some (.brk z) => decide (z.2.2 ≤ 8) && (decide (z.2.2 = 0) || decide (k ≠ 0))
   | _ => false)
theorem chk_all : (List.range 128).all chk = true := by kernel_rfl
theorem gaps_ok (x : Int) : law05_InboxGaps x = some true := by
  obtain ⟨k, hk, hk2⟩ : ∃ k : Nat, x / 4 % 128 = k ∧ k < 128 := ⟨(x / 4 % 128).toNat, by omega, by omega⟩
  have hc := List.all_eq_true.1 chk_all k (List.mem_range.2 hk2)
  unfold chk at hc
  rw [Bool.and_eq_true] at hc
  have h1 := of_decide_eq_true hc.1
  have h2 := hc.2
  have hl : low x = 4 * (k : Int) := by unfold low; rw [hk]
  rw [← hl] at h1 h2
  rw [← h1]
  unfold law05_InboxGaps
  rw [new_eq (by omega) (by omega)]
  simp only [Option.bind_some, bne_self_eq_false, cond_false]
  rw [gaps_L1 x _ _ _ _ 2 (by omega) (by omega)]
  cases hz : law05_InboxGaps_L1 (low x) 9223372036854775807 8 [] 0 2 with
  | none => rw [hz] at h2; cases h2
  | some c =>
    rw [hz] at h2
    cases c with
    | ret b => cases h2
    | brk z =>
      simp only [Bool.and_eq_true, Bool.or_eq_true, decide_eq_true_eq] at h2
      obtain ⟨h3, h4⟩ := h2
      simp only [Ctl.fin]
      rw [gaps_L2 x z h3 _ _ 1 (by omega) (by omega)]
      by_cases d : z.2.2 = 0
      · rw [show (z.2.2 == 0) = true from by simpa using d]
        simp only [cond_true]
      · have hk0 : k ≠ 0 := by rcases h4 with h | h; exact (d h).elim; exact h
        obtain ⟨j, j1, j2, j3⟩ := low_bit (k := (k : Int)) (by omega) (by omega)
        rw [← hl] at j3
        rw [gaps_L3 x j j2 j3 _ 2 (by omega) j1]
end Go.Proofs.Ytpipggnfbgjefaa.Ex.Ib
