/- The law's example and awake. -/
import Derived.Test.YtmigkmdhenkpmaaDepT
namespace Go.Proofs.Ytmigkmdhenkpmaa
open Go.RowKit

def exD : Dep := ⟨⟨⟨#[66, 65]⟩, 1, ⟨#[]⟩, 1⟩, ⟨#[67, 80, 72]⟩, 10, 20, 25, 0, 0⟩

theorem Example_any (w : World) : Calls Try.prog 27 #[] w fun e w' => e = .returned (.agg exD.cells) ∧ Below w.heap.size w w' := by
  have FX := fun w => Flights_any 0 (by omega) w
  have hf : (FL (0 : Int).toNat).cells = #[.string ⟨#[66, 65]⟩, .int .i64 1, .string ⟨#[]⟩, .int .i64 1] := by rfl
  rw [hf] at FX
  clear hf
  have FXH := Lib.hid FX
  clear FX
  obtain ⟨res, hres⟩ : ∃ r, r = exD.cells := ⟨_, rfl⟩
  have HRES := Lib.hid hres
  rw [← hres]
  clear hres
  go_enter Try.func27, Try.ntmps27
  go_wp2_with (go_at_call 25; refine (FXH.out _).mono ?_; rintro e w1 ⟨rfl, hB1⟩; obtain ⟨hB, -⟩ := box_then hB1; have hbk := box_heap hB1; obtain ⟨x0, x1, x2, x3, x4, x5, x6, x7, x8, x9⟩ := dep_at0 (d := DepT.zero) (fun j u hu => cell_of hbk hu); have f0 := frozen_of_row _ _ 0 _ _ hbk; have f1 := frozen_of_row _ _ 1 _ _ hbk; have f2 := frozen_of_row _ _ 2 _ _ hbk; have f3 := frozen_of_row _ _ 3 _ _ hbk; have f4 := frozen_of_row _ _ 4 _ _ hbk; have f5 := frozen_of_row _ _ 5 _ _ hbk; have f6 := frozen_of_row _ _ 6 _ _ hbk; have f7 := frozen_of_row _ _ 7 _ _ hbk; have f8 := frozen_of_row _ _ 8 _ _ hbk; have f9 := frozen_of_row _ _ 9 _ _ hbk; have HBK := Lib.hid hbk; have HB := Lib.hid hB; clear hbk hB hB1)
  generalize hw5 : World.setCell _ _ _ = w5
  obtain ⟨hbk5, hg5⟩ := store_dep HBK.out rfl exD hw5
  obtain ⟨y0, y1, y2, y3, y4, y5, y6, y7, y8, y9⟩ := dep_at0 (d := exD) (fun j u hu => cell_of hbk5 hu)
  have hB5 := below_grown HB.out hg5 HB.out.size (Nat.le_refl _)
  clear hw5
  (try simp only [Exit.inBlock, Exit.then])
  refine bodyPost_ret (v := .agg res) ?_ rfl ⟨rfl, hB5⟩
  rw [HRES.out]
  simp only [exD] at y0 y1 y2 y3 y4 y5 y6 y7 y8 y9
  simp [go_sem, results, Try.f27, y0, y1, y2, y3, y4, y5, y6, y7, y8, y9]
  rfl

def aw1 : Dep := { exD with closes := 25, leaves := 30 }
theorem aw_1 : applyF [exD] ⟨1, 5, exD.flt⟩ 0 = (0, [aw1]) := by decide +kernel
theorem aw_2 : applyF [exD] ⟨2, 12, exD.flt⟩ 10 = (12, []) := by decide +kernel
theorem lit_row (w : World) (d : Dep) : DepsV (w.alloc (.cells d.cells 35)) (.slice (some ⟨w.heap.size, 0, none⟩) 1 1) [d] := by
  refine ⟨_, _, rfl, Nat.le_refl _, by simp [maxLen], (fun h => by cases h), fun _ => ⟨w.heap.size, 0, rfl, by simp, fun k x hk j u hu => ?_⟩⟩
  match k, hk with
  | 0, hk =>
    simp at hk
    subst hk
    rw [World.cell?_alloc_new]
    simpa using hu
  | k + 1, hk => simp at hk

theorem lit_row2 (w : World) (o : Obj) (d : Dep) : DepsV ((w.alloc o).alloc (.cells d.cells 35)) (.slice (some ⟨w.heap.size + 1, 0, none⟩) 1 1) [d] := by
  have h := lit_row (w.alloc o) d
  rw [size_new] at h
  exact h

set_option maxHeartbeats 2000000 in
theorem awake_any (w : World) : Calls Try.prog 19 #[] w fun e w' => e = .returned (.bool true) ∧ Below w.heap.size w w' := by
  have tokA : True := trivial
  have tokB : True := trivial
  have tokC : True := trivial
  have tokD : True := trivial
  have tokE : True := trivial
  go_enter Try.func19, Try.ntmps19
  go_wp2_with (first
    | (go_at_call 27; refine (Example_any _).mono ?_; rintro e w1 ⟨rfl, hB1⟩; have HB1 := Lib.hid hB1; clear hB1; simp only [exD, Dep.cells])
    | (go_at_call 22; have _t := tokA; refine (Apply_any _ [exD] ⟨1, 5, exD.flt⟩ 0 _ (lit_row2 w1 (.cells exD.cells 35) exD)).mono ?_; clear tokA _t; rw [aw_1]; rintro e w2 ⟨v2, rfl, hO2, hB2⟩; obtain ⟨hq, -, hB12, hS⟩ := two_boxes w1 _ exD.cells exD.cells 35 35 rfl; have hB3 := hB12.trans (hB2.mono hB12.size); have HB2 := Lib.hid (HB1.out.trans (hB3.mono HB1.out.size)); have HX : Hid (∀ j u, exD.cells[j]? = some u → w2.cell? ⟨w1.heap.size, j, none⟩ = some u) := Lib.hid (fun j u hu => cell_keep hB2 (by omega) (hq j u hu)); have HN := Lib.hid (show w1.heap.size < w2.heap.size from (by have := hB2.size; omega)); obtain ⟨g, cap, rfl, hgb⟩ := own_shape hO2 (by simp); obtain ⟨xx, hxx, hxc, -⟩ := own_dep hO2 0 (by simp); obtain rfl : aw1 = xx := (by simpa using hxx); have HY : Hid (∀ j u, aw1.cells[j]? = some u → w2.cell? ⟨g, j, none⟩ = some u) := Lib.hid (fun j u hu => (by have := hxc j u hu; rw [Nat.zero_mul, Nat.zero_add] at this; exact this)); have HG := Lib.hid (World.ownsRow.lt hO2 g rfl).2; have HGN := Lib.hid hgb; clear hO2 hB2 hB3 hB12 hS hq hxx hxc; have hn2 : w1.heap.size < w2.heap.size := HN.out; obtain ⟨x0, x1, x2, x3, x4, x5, x6, x7, x8, x9⟩ := dep_at0 (d := exD) HX.out; simp only [exD] at x0 x1 x2 x3 x4 x5 x6 x7 x8 x9)
    | (go_at_call 22; refine (Apply_any _ [exD] ⟨2, 12, exD.flt⟩ 10 _ (lit_row w2 exD)).mono ?_; rw [aw_2]; rintro e w3 ⟨v3, rfl, hO3, hB3⟩; obtain ⟨hB4, hq4⟩ := box_then hB3; have HB3 := Lib.hid (HB2.out.trans (hB4.mono HB2.out.size)); have HX3 : Hid (∀ j u, exD.cells[j]? = some u → w3.cell? ⟨w1.heap.size, j, none⟩ = some u) := Lib.hid (fun j u hu => cell_keep hB4 HN.out (HX.out j u hu)); have HY3 : Hid (∀ j u, aw1.cells[j]? = some u → w3.cell? ⟨g, j, none⟩ = some u) := Lib.hid (fun j u hu => cell_keep hB4 HG.out (HY.out j u hu)); have HMw3 := Lib.hid hB4.size; clear hO3 hB3 hB4 hq4 x0 x1 x2 x3 x4 x5 x6 x7 x8 x9; obtain ⟨x0, x1, x2, x3, x4, x5, x6, x7, x8, x9⟩ := dep_at0 (d := exD) HX3.out; simp only [exD] at x0 x1 x2 x3 x4 x5 x6 x7 x8 x9)
    | (go_at_call 28; have _t := tokB; refine (IsOpen_any exD 10 w3).mono ?_; clear tokB _t; rintro e w4 ⟨rfl, hBc⟩; rw [show opF exD 10 = true from rfl]; have HB4 := Lib.hid (HB3.out.trans (hBc.mono HB3.out.size)); have HX4 : Hid (∀ j u, exD.cells[j]? = some u → w4.cell? ⟨w1.heap.size, j, none⟩ = some u) := Lib.hid (fun j u hu => cell_keep hBc (Nat.lt_of_lt_of_le HN.out (by have := HB3.out.size; have := HMw3.out; omega)) (HX3.out j u hu)); have HY4 : Hid (∀ j u, aw1.cells[j]? = some u → w4.cell? ⟨g, j, none⟩ = some u) := Lib.hid (fun j u hu => cell_keep hBc (by have := HMw3.out; have := HG.out; omega) (HY3.out j u hu)); have HMw4 := Lib.hid (Nat.le_trans HMw3.out hBc.size); clear hBc; obtain ⟨x0, x1, x2, x3, x4, x5, x6, x7, x8, x9⟩ := dep_at0 (d := exD) HX4.out; simp only [exD] at x0 x1 x2 x3 x4 x5 x6 x7 x8 x9)
    | (go_at_call 28; have _t := tokC; refine (IsOpen_any exD 19 w4).mono ?_; clear tokC _t; rintro e w5 ⟨rfl, hBc⟩; rw [show opF exD 19 = true from rfl]; have HB5 := Lib.hid (HB4.out.trans (hBc.mono HB4.out.size)); have HX5 : Hid (∀ j u, exD.cells[j]? = some u → w5.cell? ⟨w1.heap.size, j, none⟩ = some u) := Lib.hid (fun j u hu => cell_keep hBc (Nat.lt_of_lt_of_le HN.out (by have := HB4.out.size; have := HMw4.out; omega)) (HX4.out j u hu)); have HY5 : Hid (∀ j u, aw1.cells[j]? = some u → w5.cell? ⟨g, j, none⟩ = some u) := Lib.hid (fun j u hu => cell_keep hBc (by have := HMw4.out; have := HG.out; omega) (HY4.out j u hu)); have HMw5 := Lib.hid (Nat.le_trans HMw4.out hBc.size); clear hBc; obtain ⟨x0, x1, x2, x3, x4, x5, x6, x7, x8, x9⟩ := dep_at0 (d := exD) HX5.out; simp only [exD] at x0 x1 x2 x3 x4 x5 x6 x7 x8 x9)
    | (go_at_call 26; have _t := tokD; refine (IsClosed_any exD 20 w5).mono ?_; clear tokD _t; rintro e w6 ⟨rfl, hBc⟩; rw [show clF exD 20 = true from rfl]; have HB6 := Lib.hid (HB5.out.trans (hBc.mono HB5.out.size)); have HX6 : Hid (∀ j u, exD.cells[j]? = some u → w6.cell? ⟨w1.heap.size, j, none⟩ = some u) := Lib.hid (fun j u hu => cell_keep hBc (Nat.lt_of_lt_of_le HN.out (by have := HB5.out.size; have := HMw5.out; omega)) (HX5.out j u hu)); have HY6 : Hid (∀ j u, aw1.cells[j]? = some u → w6.cell? ⟨g, j, none⟩ = some u) := Lib.hid (fun j u hu => cell_keep hBc (by have := HMw5.out; have := HG.out; omega) (HY5.out j u hu)); have HMw6 := Lib.hid (Nat.le_trans HMw5.out hBc.size); clear hBc; obtain ⟨x0, x1, x2, x3, x4, x5, x6, x7, x8, x9⟩ := dep_at0 (d := exD) HX6.out; simp only [exD] at x0 x1 x2 x3 x4 x5 x6 x7 x8 x9)
    | (go_at_call 26; have _t := tokE; refine (IsClosed_any exD 19 w6).mono ?_; clear tokE _t; rintro e w7 ⟨rfl, hBc⟩; rw [show clF exD 19 = false from rfl]; have HB7 := Lib.hid (HB6.out.trans (hBc.mono HB6.out.size)); have HX7 : Hid (∀ j u, exD.cells[j]? = some u → w7.cell? ⟨w1.heap.size, j, none⟩ = some u) := Lib.hid (fun j u hu => cell_keep hBc (Nat.lt_of_lt_of_le HN.out (by have := HB6.out.size; have := HMw6.out; omega)) (HX6.out j u hu)); have HY7 : Hid (∀ j u, aw1.cells[j]? = some u → w7.cell? ⟨g, j, none⟩ = some u) := Lib.hid (fun j u hu => cell_keep hBc (by have := HMw6.out; have := HG.out; omega) (HY6.out j u hu)); have HMw7 := Lib.hid (Nat.le_trans HMw6.out hBc.size); clear hBc; obtain ⟨x0, x1, x2, x3, x4, x5, x6, x7, x8, x9⟩ := dep_at0 (d := exD) HX7.out; simp only [exD] at x0 x1 x2 x3 x4 x5 x6 x7 x8 x9; obtain ⟨y0, y1, y2, y3, y4, y5, y6, y7, y8, y9⟩ := dep_at0 (d := aw1) HY7.out; simp only [aw1, exD] at y0 y1 y2 y3 y4 y5 y6 y7 y8 y9))
  go_ret
  exact ⟨rfl, HB7.out⟩
end Go.Proofs.Ytmigkmdhenkpmaa
