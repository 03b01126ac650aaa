/- The law's sanity check holds. -/
import Derived.Test.YtbopbmmalfobiaaStripG
import Derived.Test.YtbopbmmalfobiaaStripP
namespace Go.Proofs.Ytbopbmmalfobiaa
open Go.RowKit

theorem ints_nil (w : World) : IntsV w (.slice none 0 0) [] := ⟨none, 0, rfl, Nat.le_refl _, by simp [maxLen], by simp, fun _ => rfl, fun h => by simp at h⟩

theorem awake_any (w : World) : Calls Try.prog 12 #[] w fun e w' => e = .returned (.bool true) ∧ Below w.heap.size w w' := by
  have AD := Advance_any (.slice (some ⟨w.heap.size, 0, none⟩) 4 4) (.slice none 0 0) [1, 0, 2, 0] [] true (w.alloc (.cells #[.int .i64 1, .int .i64 0, .int .i64 2, .int .i64 0] 3))
    (ints_lit _ _ _ rfl rfl (by decide) (by simp [maxLen])) (ints_nil _) (by simp)
  rw [show advance [1, 0, 2, 0] [] true = ([0, 1, 0, 2], 0) from by decide] at AD
  have tok1 : True := trivial
  go_enter Try.func12, Try.ntmps12
  go_wp2_with (first
    | (go_at_call 10; refine AD.mono ?_; rintro e w1 ⟨hB1, v1, rfl, hA1⟩; have hI1 := hA1.ints; have hB0 := ((Below.refl w.heap.size w).alloc (Nat.le_refl _) (.cells #[.int .i64 1, .int .i64 0, .int .i64 2, .int .i64 0] 3)).trans (hB1.mono (by simp)))
    | (go_at_call 11; have _t := tok1; refine (Ints_any _ _ [0, 1, 0, 2] [0, 1, 0, 2] _ (hI1.alloc _) (ints_lit _ _ _ rfl rfl (by decide) (by simp [maxLen]))).mono ?_; clear tok1 _t; rintro e w2 ⟨rfl, hB2⟩; have hB02 := (hB0.alloc hB0.size _).trans (hB2.mono (by have := hB0.size; simp; omega)); have hI2 := (hI1.alloc _).below hB2)
    | (go_at_call 14; refine (Free_any v1 [0, 1, 0, 2] w2 hI2).mono ?_; rintro e w' ⟨rfl, rfl⟩)
    | (go_at_call 9; refine (Bags_any v1 [0, 1, 0, 2] _ hI2 (by simp)).mono ?_; rintro e w3 ⟨v3, rfl, hO3, hB3⟩; have hB03 := hB02.trans (hB3.mono hB02.size))
    | (go_at_call 11; refine (Ints_any _ _ [2, 1] [2, 1] _ (hO3.ints.alloc _) (ints_lit _ _ _ rfl rfl (by decide) (by simp [maxLen]))).mono ?_; rintro e w4 ⟨rfl, hB4⟩; have hB04 := (hB03.alloc hB03.size _).trans (hB4.mono (by have := hB03.size; simp; omega))))
  go_ret
  exact ⟨rfl, hB04⟩

theorem Ints_same (a b : Value) (l m : List Int) (w : World) (ha : IntsV w a l) (hb : IntsV w b m) (h : l = m) :
    Calls Try.prog 11 #[a, b] w fun e w' => e = .returned (.bool true) ∧ Below w.heap.size w w' :=
  (Ints_any a b l m w ha hb).mono fun e w' ⟨he, hB⟩ => ⟨by rw [he, decide_eq_true h], hB⟩

theorem OwnI.keep {base : Nat} {w w' : World} {v : Value} {l : List Int} (h : OwnI base w v l) (hB : Below w.heap.size w w') : OwnI base w' v l :=
  h.other (row := none) ⟨hB.os, hB.tape, hB.output, hB.size, fun k hk _ => hB.block k hk⟩ (by
    rcases hv : v.ownBlock with _ | g
    · exact .inl rfl
    · exact .inr (by simp))

/-- two owned rows, the one made after the other, lie apart -/
theorem own_apart {B B' : Nat} {w w' : World} {v v' : Value} {l l' : List Int} (h : OwnI B w v l) (h' : OwnI B' w' v' l') (hB : w.heap.size ≤ B') : ∀ b, v'.ownBlock = some b → v.ownBlock ≠ some b := by
  intro b hb hb2
  have h1 := (h.1.lt b hb2).2
  have h2 := (h'.1.lt b hb).1
  omega
end Go.Proofs.Ytbopbmmalfobiaa
