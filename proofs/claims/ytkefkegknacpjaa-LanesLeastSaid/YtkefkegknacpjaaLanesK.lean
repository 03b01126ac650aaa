/- awake and times of the law's package. -/
import Derived.Test.YtkefkegknacpjaaLanesJ
import Derived.Test.YtkefkegknacpjaaKeepA
import Derived.Test.YtkefkegknacpjaaSrc
namespace Go.Proofs.Ytkefkegknacpjaa
open Go.RowKit Go.Maps

theorem Ints_same (a b : Value) (l m : List Int) (w : World) (ha : IntsV w a l) (hb : IntsV w b m) (h : l = m) :
    Calls Try.prog 13 #[a, b] w fun e w' => e = .returned (.bool true) ∧ Below w.heap.size w w' :=
  (Ints_any a b l m w ha hb).mono fun e w' ⟨he, hB⟩ => ⟨by rw [he, decide_eq_true h], hB⟩

theorem ints_lit4 (w : World) (a b c d : Int) (h : ∀ n ∈ [a, b, c, d], (Lit.int .i64 n).wf = true) : IntsV (w.alloc (.cells #[.int .i64 a, .int .i64 b, .int .i64 c, .int .i64 d] 3)) (.slice (some ⟨w.heap.size, 0, none⟩) 4 4) [a, b, c, d] :=
  ints_lit _ _ _ rfl rfl h (by simp [maxLen])

theorem awake_any (w : World) : Calls Try.prog 9 #[] w fun e w' => e = .returned (.bool true) ∧ Below w.heap.size w w' := by
  have AD := fun w0 : World => Assign_any _ [5, 3, 4, 1] _ (ints_lit4 w0 5 3 4 1 (by decide))
  have CD := fun w0 : World => Chain_any _ [5, 3, 4, 1] _ (ints_lit4 w0 5 3 4 1 (by decide))
  have ND := fun w0 : World => Count_any _ [5, 3, 4, 1] _ (ints_lit4 w0 5 3 4 1 (by decide))
  rw [show asgL [5, 3, 4, 1] = [0, 1, 1, 2] from by decide, show dueErr [5, 3, 4, 1] = 0 from by decide] at AD
  rw [show chainF [5, 3, 4, 1] = [0, 2, 3] from by decide] at CD
  rw [show asgN [5, 3, 4, 1] = 3 from by decide] at ND
  have HAD := Lib.hid AD
  have HCD := Lib.hid CD
  have HND := Lib.hid ND
  clear AD CD ND
  have tok1 : True := trivial
  go_enter Try.func9, Try.ntmps9
  go_wp2_with (first
    | (go_at_call 11; refine (HAD.out w).mono ?_; rintro e w1 ⟨v1, rfl, hO1, hB1⟩; have hB01 := ((Below.refl w.heap.size w).alloc (Nat.le_refl _) (.cells #[.int .i64 5, .int .i64 3, .int .i64 4, .int .i64 1] 3)).trans (hB1.mono (by simp)))
    | (go_at_call 13; have _t := tok1; refine (Ints_same _ _ [0, 1, 1, 2] [0, 1, 1, 2] _ (hO1.ints.alloc _) (ints_lit4 w1 0 1 1 2 (by decide)) rfl).mono ?_; clear tok1 _t; rintro e w2 ⟨rfl, hB2⟩; have hB02 := (hB01.alloc hB01.size _).trans (hB2.mono (by have := hB01.size; simp; omega)))
    | (go_at_call 16; refine (HCD.out w2).mono ?_; rintro e w3 ⟨v3, rfl, hO3, hB3⟩; have hB03 := (hB02.alloc hB02.size _).trans (hB3.mono (by have := hB02.size; simp; omega)))
    | (go_at_call 13; refine (Ints_same _ _ [0, 2, 3] [0, 2, 3] _ (hO3.ints.alloc _) (ints_lit _ _ _ rfl rfl (by decide) (by simp [maxLen])) rfl).mono ?_; rintro e w4 ⟨rfl, hB4⟩; have hB04 := (hB03.alloc hB03.size _).trans (hB4.mono (by have := hB03.size; simp; omega)))
    | (go_at_call 14; refine (HND.out w4).mono ?_; rintro e w5 ⟨rfl, hB5⟩; have hB05 := (hB04.alloc hB04.size _).trans (hB5.mono (by have := hB04.size; simp; omega))))
  go_ret
  exact ⟨rfl, hB05⟩

theorem own_src {B b : Nat} {w : World} {v : Value} {l : List Int} (h : OwnI B w v l) (hb : b < B) : v.ownBlock = none ∨ v.ownBlock ≠ some b := .inr (fun e => by have := (h.1.lt b e).1; omega)

def TimesPost (w : World) (e : Ending) (w' : World) : Prop :=
  ∃ v out, e = .returned v ∧ OwnI w.heap.size w' v out ∧ out.length ≤ 29 ∧ (∀ x ∈ out, 0 ≤ x ∧ x < 12) ∧ Below w.heap.size w w'

theorem times_any (v : Value) (l : List Int) (w : World) (hv : IntsV w v l) : Calls Try.prog 10 #[v] w (TimesPost w) := by
  have NW := New_any v l w hv
  have m30 := modF_bd ((l.take 2000).headD 0) 30 (by omega)
  obtain ⟨a, c, rfl, _⟩ := hv.open
  generalize hm : modF ((l.take 2000).headD 0) 30 = n0 at *
  have HM := Lib.hid hm
  clear hm
  go_enter Try.func10, Try.ntmps10
  go_wp2_with (first
    | (go_at_call 21; refine NW.mono ?_; rintro e w1 ⟨b, rfl, hs1, hB1⟩)
    | (go_at_call 22; refine (N_any _ _ _ 30 w1 hs1 (by omega)).mono ?_; rintro e w2 ⟨rfl, hs2, hg2⟩; rw [HM.out]))
  have hB2 := below_grown hB1 hg2 hB1.size hs1.ge
  have hbw := hs2.lt
  go_loopw [4, 5] (fun o i wr => ∃ (k : Int) (out r : List Int), i = .int .i64 k ∧ 0 ≤ k ∧ (out.length : Int) + k ≤ 29 ∧ OwnI w2.heap.size wr o out ∧ SrcR w.heap.size wr b r ∧ (∀ x ∈ out, 0 ≤ x ∧ x < 12) ∧ Below w.heap.size w wr ∧ w2.heap.size ≤ wr.heap.size)
    (fun _ i _ => (intOf i).toNat)
  case atStart => exact ⟨n0, [], _, rfl, m30.1, by simp; omega, OwnI.nil _ _, hs2, by simp, hB2, Nat.le_refl _⟩
  case round =>
    obtain ⟨k, out, r, rfl, hk0, hk, hO, hs, hbd, hB, hsz⟩ := hrel
    have HBD := Lib.hid hbd
    have m12 := modF_bd (r.headD 0) 12 (by omega)
    have QN := N_any _ _ _ 12 wr hs (by omega)
    generalize modF (r.headD 0) 12 = y at *
    clear hbd NW
    by_cases hk1 : 0 < k
    · go_wp2_with (first
        | (go_at_call 22; refine QN.mono ?_; rintro e w3 ⟨rfl, hs3, hg3⟩; have hO3 := hO.other hg3 (own_src hO hbw); have hB3 := below_grown hB hg3 hB.size hs.ge; have hsz3 := hg3.size)
        | (at_builtin; refine wpList_append1I rfl _ _ rfl w2.heap.size _ out _ _ rfl rfl rfl hO3 (small_wf _ (by omega) (by omega)) (by omega) (by omega) ?_; intro v' wA hOA hgA))
      go_roundw
      case rel =>
        have hsA := hgA.size
        have hgg : w3.grownBy wA u4.ownBlock := grownBy_trans (World.grownBy_alloc _ _ _) hgA
        refine ⟨k - 1, _, r.tail, rfl, by omega, by simp; omega, hOA, hs3.other hgg (fun g hg => ⟨by have := (hO.1.lt g hg).1; have := hB2.size; omega, fun e => by have := (hO.1.lt g hg).1; omega⟩), ?_, own_app (hO3.below hB2.size) hB3 hB3.size hgA, by simp at hsA; omega⟩
        intro x hx
        rcases List.mem_append.1 hx with hx | hx
        · exact HBD.out x hx
        · obtain rfl := List.mem_singleton.1 hx
          exact m12
      case measure => simp [intOf]; omega
    · go_wp2
      go_ret
      exact ⟨u4, out, rfl, hO.below hB2.size, by omega, HBD.out, hB⟩
end Go.Proofs.Ytkefkegknacpjaa
