/- The order of flights: both ways of comparing agree, and it is a total order. Plain Lean over the printed functions. -/
import Derived.Test.YtajmhegkkbnkcaaKp0
namespace Go.Proofs.Ytajmhegkkbnkcaa.Ex
open Go.RowKit Go.Proofs.Ytajmhegkkbnkcaa.Ax
set_option linter.unusedVariables false
set_option linter.unusedSimpArgs false

def cmpI (a b : Int) : Int := if a < b then -1 else if b < a then 1 else 0
def cmpS (a b : ByteArray) : Int := if Op.bytesLess a.toList b.toList then -1 else if Op.bytesLess b.toList a.toList then 1 else 0
def orI (a b : Int) : Int := if a = 0 then b else a
def cmpF (f g : Flight) : Int := orI (cmpS f.Carrier g.Carrier) (orI (cmpI f.Number g.Number) (orI (cmpS f.Suffix g.Suffix) (cmpI f.Day g.Day)))
/-- f comes before g -/
def flt (f g : Flight) : Prop := cmpF f g = -1

theorem less_flip : ∀ (x y : List UInt8), Op.bytesLess x y = false → Op.bytesLess y x = !(x == y)
  | [], [] => by simp [Op.bytesLess]
  | _ :: _, [] => by simp [Op.bytesLess]
  | [], _ :: _ => by simp [Op.bytesLess]
  | a :: x, b :: y => by
    intro h
    have ih := less_flip x y
    simp only [Op.bytesLess, Bool.or_eq_false_iff, Bool.and_eq_false_iff, decide_eq_false_iff_not, beq_eq_false_iff_ne] at h
    obtain ⟨h1, h2⟩ := h
    by_cases e : a = b
    · subst e
      rcases h2 with h2 | h2
      · exact absurd rfl h2
      · simp only [Op.bytesLess]
        rw [ih h2]
        simp [UInt8.lt_irrefl]
    · have hlt : b < a := by
        rcases UInt8.lt_or_lt_of_ne e with h | h
        · exact absurd h h1
        · exact h
      simp [Op.bytesLess, hlt, e]
theorem less_self : ∀ x : List UInt8, Op.bytesLess x x = false
  | [] => by simp [Op.bytesLess]
  | a :: x => by simp [Op.bytesLess, less_self x, UInt8.lt_irrefl]
theorem less_trans : ∀ (x y z : List UInt8), Op.bytesLess x y = true → Op.bytesLess y z = true → Op.bytesLess x z = true
  | _, _, [], _, h => by cases ‹List UInt8› <;> simp [Op.bytesLess] at h
  | _, [], _ :: _, h, _ => by cases ‹List UInt8› <;> simp [Op.bytesLess] at h
  | [], _ :: _, _ :: _, _, _ => by simp [Op.bytesLess]
  | a :: x, b :: y, c :: z, h1, h2 => by
    simp only [Op.bytesLess, Bool.or_eq_true, decide_eq_true_eq, Bool.and_eq_true, beq_iff_eq] at h1 h2 ⊢
    rcases h1 with h1 | ⟨rfl, h1⟩
    · rcases h2 with h2 | ⟨rfl, h2⟩
      · exact .inl (UInt8.lt_trans h1 h2)
      · exact .inl h1
    · rcases h2 with h2 | ⟨rfl, h2⟩
      · exact .inl h2
      · exact .inr ⟨rfl, less_trans x y z h1 h2⟩
theorem less_asymm {x y : List UInt8} (h : Op.bytesLess x y = true) : Op.bytesLess y x = false := by
  cases h2 : Op.bytesLess y x with
  | false => rfl
  | true => have := less_trans x y x h h2; rw [less_self] at this; cases this

theorem cmpS_neg {a b : ByteArray} : cmpS a b = -1 ↔ Op.bytesLess a.toList b.toList = true := by
  unfold cmpS
  constructor
  · intro h
    split at h
    · assumption
    · split at h <;> omega
  · intro h; rw [if_pos h]
theorem cmpS_zero {a b : ByteArray} : cmpS a b = 0 ↔ a = b := by
  unfold cmpS
  constructor
  · intro h
    split at h
    · omega
    · rename_i h1
      split at h
      · omega
      · rename_i h2
        have h1' : Op.bytesLess a.toList b.toList = false := by simpa using h1
        have := less_flip _ _ h1'
        rw [this] at h2
        exact toList_inj (by simpa using h2)
  · rintro rfl; simp [less_self]
theorem cmpS_flip (a b : ByteArray) : cmpS b a = - cmpS a b := by
  unfold cmpS
  cases h1 : Op.bytesLess a.toList b.toList <;> cases h2 : Op.bytesLess b.toList a.toList <;> simp
  have := less_asymm h1
  rw [h2] at this
  cases this
theorem cmpS_cases (a b : ByteArray) : cmpS a b = -1 ∨ cmpS a b = 0 ∨ cmpS a b = 1 := by unfold cmpS; (repeat' split) <;> simp
theorem cmpS_trans {a b c : ByteArray} (h1 : cmpS a b = -1) (h2 : cmpS b c = -1) : cmpS a c = -1 := cmpS_neg.2 (less_trans _ _ _ (cmpS_neg.1 h1) (cmpS_neg.1 h2))
theorem cmpI_neg {a b : Int} : cmpI a b = -1 ↔ a < b := by unfold cmpI; (repeat' split) <;> omega
theorem cmpI_zero {a b : Int} : cmpI a b = 0 ↔ a = b := by unfold cmpI; (repeat' split) <;> omega
theorem cmpI_flip (a b : Int) : cmpI b a = - cmpI a b := by unfold cmpI; (repeat' split) <;> omega
theorem cmpI_cases (a b : Int) : cmpI a b = -1 ∨ cmpI a b = 0 ∨ cmpI a b = 1 := by unfold cmpI; (repeat' split) <;> simp
theorem orI_neg {x y : Int} : orI x y = -1 ↔ x = -1 ∨ (x = 0 ∧ y = -1) := by unfold orI; split <;> omega
theorem orI_zero {x y : Int} : orI x y = 0 ↔ x = 0 ∧ y = 0 := by unfold orI; split <;> omega
theorem orI_flip (x y : Int) : orI (-x) (-y) = - orI x y := by unfold orI; (repeat' split) <;> omega
theorem orI_cases {x y : Int} (hx : x = -1 ∨ x = 0 ∨ x = 1) (hy : y = -1 ∨ y = 0 ∨ y = 1) : orI x y = -1 ∨ orI x y = 0 ∨ orI x y = 1 := by unfold orI; split <;> omega

theorem cmpF_cases (f g : Flight) : cmpF f g = -1 ∨ cmpF f g = 0 ∨ cmpF f g = 1 := orI_cases (cmpS_cases _ _) (orI_cases (cmpI_cases _ _) (orI_cases (cmpS_cases _ _) (cmpI_cases _ _)))
theorem cmpF_zero {f g : Flight} : cmpF f g = 0 ↔ f = g := by
  unfold cmpF
  rw [orI_zero, orI_zero, orI_zero, cmpS_zero, cmpI_zero, cmpS_zero, cmpI_zero]
  cases f
  cases g
  simp only [Flight.mk.injEq]
theorem cmpF_flip (f g : Flight) : cmpF g f = - cmpF f g := by
  unfold cmpF
  rw [cmpS_flip f.Carrier, cmpI_flip f.Number, cmpS_flip f.Suffix, cmpI_flip f.Day, orI_flip, orI_flip, orI_flip]
theorem cmpF_self (f : Flight) : cmpF f f = 0 := cmpF_zero.2 rfl
theorem flt_trans {a b c : Flight} (h1 : flt a b) (h2 : flt b c) : flt a c := by
  obtain ⟨c1, n1, s1, d1⟩ := a
  obtain ⟨c2, n2, s2, d2⟩ := b
  obtain ⟨c3, n3, s3, d3⟩ := c
  simp only [flt, cmpF, orI_neg, cmpI_neg, cmpS_zero, cmpI_zero] at h1 h2 ⊢
  rcases h1 with h1 | ⟨rfl, h1⟩
  · rcases h2 with h2 | ⟨rfl, h2⟩
    · exact .inl (cmpS_trans h1 h2)
    · exact .inl h1
  · rcases h2 with h2 | ⟨rfl, h2⟩
    · exact .inl h2
    · refine .inr ⟨rfl, ?_⟩
      rcases h1 with h1 | ⟨rfl, h1⟩
      · rcases h2 with h2 | ⟨rfl, h2⟩
        · exact .inl (by omega)
        · exact .inl h1
      · rcases h2 with h2 | ⟨rfl, h2⟩
        · exact .inl h2
        · refine .inr ⟨rfl, ?_⟩
          rcases h1 with h1 | ⟨rfl, h1⟩
          · rcases h2 with h2 | ⟨rfl, h2⟩
            · exact .inl (cmpS_trans h1 h2)
            · exact .inl h1
          · rcases h2 with h2 | ⟨rfl, h2⟩
            · exact .inl h2
            · exact .inr ⟨rfl, by omega⟩
theorem flt_irr {a : Flight} : ¬ flt a a := by unfold flt; rw [cmpF_self]; omega
theorem flt_ne {a b : Flight} (h : flt a b) : a ≠ b := fun e => flt_irr (e ▸ h)
theorem flt_asymm {a b : Flight} (h : flt a b) (k : flt b a) : False := flt_irr (flt_trans h k)
theorem flt_gt {a b : Flight} : cmpF a b = 1 ↔ flt b a := by unfold flt; rw [cmpF_flip a b]; omega
theorem flt_tri (a b : Flight) : flt a b ∨ a = b ∨ flt b a := by
  rcases cmpF_cases a b with h | h | h
  · exact .inl h
  · exact .inr (.inl (cmpF_zero.1 h))
  · exact .inr (.inr (flt_gt.1 h))
instance (a b : Flight) : Decidable (flt a b) := by unfold flt; infer_instance

theorem cmpi_eq (x y : Int) : cmp_Compare_int x y = some (cmpI x y) := by
  unfold cmp_Compare_int cmp_isNaN_int cmpI
  simp only [bne_self_eq_false, Option.bind_some, cond_ite, decide_eq_true_eq, Bool.false_eq_true, if_false]
  (repeat' split) <;> rfl
theorem cmps_eq (x y : ByteArray) : cmp_Compare_string x y = some (cmpS x y) := by
  unfold cmp_Compare_string cmp_isNaN_string cmpS
  have h : (x.toList == x.toList) = true := by simp
  have h' : (y.toList == y.toList) = true := by simp
  simp only [h, h', Bool.not_true, Option.bind_some, cond_false]
  cases h1 : Op.bytesLess x.toList y.toList
  · have := less_flip _ _ h1
    rw [this]
    cases h2 : (x.toList == y.toList) <;> simp
  · simp
theorem or4_eq (a b c d : Int) : cmp_Or_int [a, b, c, d] = some (orI a (orI b (orI c d))) := by
  unfold cmp_Or_int orI
  simp only [cmp_Or_int_L1, cond_ite, bne_iff_ne, ne_eq]
  by_cases h1 : a = 0
  · by_cases h2 : b = 0
    · by_cases h3 : c = 0
      · by_cases h4 : d = 0
        · simp [h1, h2, h3, h4, Ctl.fin]
        · simp [h1, h2, h3, h4, Ctl.fin]
      · simp [h1, h2, h3, Ctl.fin]
    · simp [h1, h2, Ctl.fin]
  · simp [h1, Ctl.fin]
theorem fcmp_eq (f g : Flight) : flight_Compare f g = some (cmpF f g) := by
  unfold flight_Compare
  simp only [cmpi_eq, cmps_eq, Option.bind_some, or4_eq]
  rfl
theorem flight_beq (a b : Flight) : ((a.Carrier.toList == b.Carrier.toList) && ((a.Number == b.Number) && ((a.Suffix.toList == b.Suffix.toList) && ((a.Day == b.Day) && true)))) = decide (a = b) := by
  rw [Bool.eq_iff_iff]
  simp only [Bool.and_eq_true, beq_iff_eq, decide_eq_true_eq, and_true]
  constructor
  · rintro ⟨h1, h2, h3, h4⟩
    cases a
    cases b
    simp only [Flight.mk.injEq]
    exact ⟨toList_inj h1, h2, toList_inj h3, h4⟩
  · rintro rfl
    exact ⟨rfl, rfl, rfl, rfl⟩
end Go.Proofs.Ytajmhegkkbnkcaa.Ex
