/- Validate of the program and of the reference. -/
import Derived.Test.YtmigkmdhenkpmaaDepE
namespace Go.Proofs.Ytmigkmdhenkpmaa
open Go.RowKit

def vErr : Option Flt → List Dep → Int
  | _, [] => 0
  | none, d :: l => if validD d then vErr (some d.flt) l else 1
  | some p, d :: l => if validD d then (if cmpF p d.flt = 0 then 5 else if cmpF p d.flt = 1 then 9 else vErr (some d.flt) l) else 1

def valE (l : List Dep) : Int := if 24 < l.length then 2 else vErr none l

def prevAt (l : List Dep) (k : Nat) : Option Flt := if k = 0 then none else (l[k - 1]?).map (·.flt)

theorem cell_keep {B : Nat} {w w' : World} {b o : Nat} {v : Value} (h : Below B w w') (hb : b < B) (e : w.cell? ⟨b, o, none⟩ = some v) : w'.cell? ⟨b, o, none⟩ = some v := (h.cell (p := ⟨b, o, none⟩) hb).trans e

theorem dep_box {w w2 : World} {t : TypeId} (x : Dep) (h : Below (w.alloc (.cells x.cells t)).heap.size (w.alloc (.cells x.cells t)) w2) : Below w.heap.size w w2 ∧ w.heap.size < w2.heap.size ∧
    w2.cell? ⟨w.heap.size, 0, none⟩ = some (.string x.flt.car) ∧ w2.cell? ⟨w.heap.size, 1, none⟩ = some (.int .i64 x.flt.num) ∧ w2.cell? ⟨w.heap.size, 2, none⟩ = some (.string x.flt.suf) ∧ w2.cell? ⟨w.heap.size, 3, none⟩ = some (.int .i64 x.flt.day) := by
  obtain ⟨hB, hq⟩ := box_then h
  exact ⟨hB, by have := h.size; have := size_new w (.cells x.cells t); omega, hq 0 _ rfl, hq 1 _ rfl, hq 2 _ rfl, hq 3 _ rfl⟩

theorem prevAt_succ {l : List Dep} {q : Nat} {y : Dep} (h : l[q]? = some y) : prevAt l (q + 1) = some y.flt := by
  unfold prevAt
  rw [if_neg (by omega), Nat.add_sub_cancel, h]
  rfl

theorem cmpF_bd (f g : Flt) : cmpF f g = 0 ∨ cmpF f g = 1 ∨ cmpF f g = -1 := by
  have h : -1 ≤ cmpF f g ∧ cmpF f g ≤ 1 := by
    unfold cmpF
    have hs : ∀ a b, -1 ≤ cmpS a b ∧ cmpS a b ≤ 1 := by intro a b; unfold cmpS; split <;> (try split) <;> omega
    have hi : ∀ a b, -1 ≤ cmpI a b ∧ cmpI a b ≤ 1 := by intro a b; unfold cmpI; split <;> (try split) <;> omega
    exact orI_wf (hs _ _) (orI_wf (hi _ _) (orI_wf (hs _ _) (hi _ _)))
  omega

theorem Validate_any (v : Value) (l : List Dep) (w : World) (hv : DepsV w v l) :
    Calls Try.prog 15 #[v] w fun e w' => e = .returned (.int .i64 (valE l)) ∧ Below w.heap.size w w' := by
  obtain ⟨a, c, rfl, la, _, _⟩ := hv.open
  by_cases h24 : 24 < l.length
  · rw [show valE l = 2 from if_pos h24]
    go_enter Try.func15, Try.ntmps15
    go_wp2
    go_ret
    exact ⟨rfl, Below.refl _ _⟩
  · have HV := Lib.hid hv
    clear hv
    obtain ⟨res, hres⟩ : ∃ r, r = valE l := ⟨_, rfl⟩
    rw [← hres]
    rw [show valE l = vErr none l from if_neg h24] at hres
    have HRES := Lib.hid hres
    clear hres
    go_enter Try.func15, Try.ntmps15
    go_wp2
    go_loopw [10] (fun i wr => ∃ k : Nat, k ≤ l.length ∧ i = .int .i64 k ∧ Below w.heap.size w wr ∧ Hid (res = vErr (prevAt l k) (l.drop k))) (fun i _ => l.length - (intOf i).toNat)
    case atStart => exact ⟨0, Nat.zero_le _, rfl, Below.refl _ _, HRES.out⟩
    case round =>
      obtain ⟨k, hk, rfl, hBr, hR⟩ := hrel
      by_cases hlt : k < l.length
      · obtain ⟨x, hx, hd⟩ := drop_at hlt
        obtain ⟨_, _, hvD, _, _, cD⟩ := (HV.out.below hBr).open
        simp only [Value.slice.injEq] at hvD
        obtain ⟨rfl, -, rfl⟩ := hvD
        obtain ⟨b, o, rfl, hb, cc⟩ := cD (by omega)
        obtain ⟨g0, g1, g2, g3, g4, g5, g6, g7, g8, g9⟩ := dep_at (cc k x hx)
        obtain ⟨vb, hvb⟩ : ∃ vb, vb = validD x := ⟨_, rfl⟩
        have HVB := Lib.hid hvb
        have HX := Lib.hid hx
        have HD := Lib.hid hd
        have HCC := Lib.hid cc
        have HCD := Lib.hid cD
        have VX := Lib.hid (Valid_any x)
        rw [← hvb] at VX
        have HB := Lib.hid hBr
        clear hx hd cc cD hvb hBr
        obtain ⟨⟨c2, n2, s2, d2⟩, p, op, cl, le, st, sa⟩ := x
        simp only at g0 g1 g2 g3 g4 g5 g6 g7 g8 g9
        cases vb
        · go_wp2_with (go_at_call 38; refine (VX.out _).mono ?_; rintro e w2 ⟨rfl, hB2⟩; obtain ⟨hB3, hq⟩ := box_then hB2)
          go_ret
          refine ⟨ret_int ?_, HB.out.trans (hB3.mono HB.out.size)⟩
          rw [hR.out, HD.out]
          cases prevAt l k <;> simp only [vErr, ← HVB.out] <;> rfl
        · by_cases hk0 : k = 0
          · subst hk0
            simp only [Nat.zero_mul, Nat.add_zero] at g0 g1 g2 g3 g4 g5 g6 g7 g8 g9
            go_wp2_with (go_at_call 38; refine (VX.out _).mono ?_; rintro e w2 ⟨rfl, hB2⟩; obtain ⟨hB3, hq⟩ := box_then hB2; have HB3 := Lib.hid (HB.out.trans (hB3.mono HB.out.size)); clear hB2 hB3 hq)
            go_roundw
            case rel =>
              refine ⟨1, by omega, by go_num, HB3.out, Lib.hid ?_⟩
              rw [hR.out, HD.out, show prevAt l 0 = none from rfl, prevAt_succ HX.out]
              simp only [vErr, ← HVB.out]
              rfl
            case measure => simp [intOf]; omega
          · obtain ⟨q, rfl⟩ : ∃ q, k = q + 1 := ⟨k - 1, by omega⟩
            obtain ⟨y, hy, -⟩ := drop_at (l := l) (k := q) (by omega)
            obtain ⟨e0, e1, e2, e3, -⟩ := dep_at (HCC.out q y hy)
            have HY := Lib.hid hy
            clear hy
            obtain ⟨⟨c3, n3, s3, d3⟩, p3, op3, cl3, le3, st3, sa3⟩ := y
            simp only at e0 e1 e2 e3
            go_wp2_with (go_at_call 38; refine (VX.out _).mono ?_; rintro e w2 ⟨rfl, hB2⟩; obtain ⟨hB3, hs2, z0, z1, z2, z3⟩ := dep_box ⟨⟨c2, n2, s2, d2⟩, p, op, cl, le, st, sa⟩ hB2; have f0 := cell_keep hB3 hb e0; have f1 := cell_keep hB3 hb e1; have f2 := cell_keep hB3 hb e2; have f3 := cell_keep hB3 hb e3; have HB3 := Lib.hid (HB.out.trans (hB3.mono HB.out.size)); clear hB2 hB3)
            obtain ⟨cv, hcv⟩ : ∃ cv, cv = cmpF ⟨c3, n3, s3, d3⟩ ⟨c2, n2, s2, d2⟩ := ⟨_, rfl⟩
            have hcb := cmpF_bd ⟨c3, n3, s3, d3⟩ ⟨c2, n2, s2, d2⟩
            have CX := Lib.hid (Compare_any ⟨c3, n3, s3, d3⟩ ⟨c2, n2, s2, d2⟩)
            rw [← hcv] at hcb CX
            have HCV := Lib.hid hcv
            clear hcv
            clear g0 g1 g2 g3 g4 g5 g6 g7 g8 g9 e0 e1 e2 e3
            have hwr : IntKind.i64.wrap (q : Int) = (q : Int) := IntWalk.i64_in _ (by omega)
            have hle : (q : Int) ≤ (l.length : Int) := by omega
            have hlt2 : (q : Int) < (l.length : Int) := by omega
            generalize wr.heap.size = nb at *
            refine wp_region_still_tail 8 (by kernel_rfl) (by kernel_rfl) ?_
            change wpStill _ _ w2.drew _ _ _
            simp only [List.take_succ_cons, List.take_zero, List.drop_succ_cons, List.drop_zero]
            repeat
              refine wpStill_step (fun K hK => ?_)
              go_simp
              refine hK _ ?_
              clear hK K
            refine wpStill_nil ?_
            change wpList _ _ _ _ _ w2.drew
            have HB4 := Lib.hid (HB3.out.drew)
            clear z0 z1 z2 z3 f0 f1 f2 f3 HB3 hwr
            generalize w2.drew = w3 at *
            rcases hcb with hcb | hcb | hcb
            all_goals
              subst hcb
              go_wp2_with (go_at_call 39; refine (CX.out _).mono ?_; rintro e w4 ⟨rfl, hB4⟩; have HB5 := Lib.hid (HB4.out.trans (hB4.mono HB4.out.size)); clear hB4)
            · go_ret
              refine ⟨ret_int ?_, HB5.out⟩
              rw [hR.out, HD.out, prevAt_succ HY.out]
              simp only [vErr, ← HVB.out, ← HCV.out]
              rfl
            · go_ret
              refine ⟨ret_int ?_, HB5.out⟩
              rw [hR.out, HD.out, prevAt_succ HY.out]
              simp only [vErr, ← HVB.out, ← HCV.out]
              rfl
            · go_roundw
              case rel =>
                refine ⟨q + 1 + 1, by omega, by go_num, HB5.out, Lib.hid ?_⟩
                rw [hR.out, HD.out, prevAt_succ HY.out, prevAt_succ HX.out]
                simp only [vErr, ← HVB.out, ← HCV.out]
                rfl
              case measure => simp [intOf]; omega
      · obtain rfl : k = l.length := by omega
        have HR := hR
        clear hR
        go_wp2
        go_ret
        refine ⟨ret_int ?_, hBr⟩
        rw [HR.out, List.drop_length]
        cases prevAt l l.length <;> rfl
end Go.Proofs.Ytmigkmdhenkpmaa
