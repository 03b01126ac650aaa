/- Find of the program and of the reference. -/
import Derived.Test.YtmigkmdhenkpmaaDepD
import Derived.Test.YtmigkmdhenkpmaaRow
namespace Go.Proofs.Ytmigkmdhenkpmaa
open Go.RowKit

abbrev DepsV := RowV 10 Dep.cells

/-- the ten cells of a departure -/
theorem dep_at {w : World} {b p : Nat} {d : Dep} (h : ∀ j u, d.cells[j]? = some u → w.cell? ⟨b, p + j, none⟩ = some u) :
    w.cell? ⟨b, p, none⟩ = some (.string d.flt.car) ∧ w.cell? ⟨b, p + 1, none⟩ = some (.int .i64 d.flt.num) ∧ w.cell? ⟨b, p + 2, none⟩ = some (.string d.flt.suf) ∧ w.cell? ⟨b, p + 3, none⟩ = some (.int .i64 d.flt.day) ∧
    w.cell? ⟨b, p + 4, none⟩ = some (.string d.port) ∧ w.cell? ⟨b, p + 5, none⟩ = some (.int .i64 d.opens) ∧ w.cell? ⟨b, p + 6, none⟩ = some (.int .i64 d.closes) ∧ w.cell? ⟨b, p + 7, none⟩ = some (.int .i64 d.leaves) ∧
    w.cell? ⟨b, p + 8, none⟩ = some (.int .i64 d.stand) ∧ w.cell? ⟨b, p + 9, none⟩ = some (.int .i64 d.state) :=
  ⟨h 0 _ rfl, h 1 _ rfl, h 2 _ rfl, h 3 _ rfl, h 4 _ rfl, h 5 _ rfl, h 6 _ rfl, h 7 _ rfl, h 8 _ rfl, h 9 _ rfl⟩

theorem flt_at {w : World} {b p : Nat} {d : Flt} (h : ∀ j u, d.cells[j]? = some u → w.cell? ⟨b, p + j, none⟩ = some u) :
    w.cell? ⟨b, p, none⟩ = some (.string d.car) ∧ w.cell? ⟨b, p + 1, none⟩ = some (.int .i64 d.num) ∧ w.cell? ⟨b, p + 2, none⟩ = some (.string d.suf) ∧ w.cell? ⟨b, p + 3, none⟩ = some (.int .i64 d.day) :=
  ⟨h 0 _ rfl, h 1 _ rfl, h 2 _ rfl, h 3 _ rfl⟩

/-- a box in old memory -/
theorem box_keep {w W wr : World} {A : Array Value} (hA : ∀ i v, A[i]? = some v → W.cell? ⟨w.heap.size, i, none⟩ = some v) (hS : W.heap.size = w.heap.size + 1) (hB : Below W.heap.size W wr) (i : Nat) (v : Value) (h : A[i]? = some v) : wr.cell? ⟨w.heap.size, i, none⟩ = some v :=
  (hB.cell (p := ⟨w.heap.size, i, none⟩) (by show w.heap.size < _; omega)).trans (hA i v h)

theorem flt_same {c1 c2 s1 s2 : ByteArray} {n1 n2 d1 d2 : Int} (h1 : c2.toList = c1.toList) (h2 : n2 = n1) (h3 : s2.toList = s1.toList) (h4 : d2 = d1) : (⟨c2, n2, s2, d2⟩ : Flt) = ⟨c1, n1, s1, d1⟩ := by
  rw [bytes_eq h1, bytes_eq h3, h2, h4]

theorem flt_cases {c1 c2 s1 s2 : ByteArray} {n1 n2 d1 d2 : Int} (h : ¬ (⟨c2, n2, s2, d2⟩ : Flt) = ⟨c1, n1, s1, d1⟩) :
    ¬ c2.toList = c1.toList ∨ (c2.toList = c1.toList ∧ ¬ n2 = n1) ∨ (c2.toList = c1.toList ∧ n2 = n1 ∧ ¬ s2.toList = s1.toList) ∨ (c2.toList = c1.toList ∧ n2 = n1 ∧ s2.toList = s1.toList ∧ ¬ d2 = d1) := by
  by_cases h1 : c2.toList = c1.toList
  · by_cases h2 : n2 = n1
    · by_cases h3 : s2.toList = s1.toList
      · by_cases h4 : d2 = d1
        · exact absurd (flt_same h1 h2 h3 h4) h
        · exact .inr (.inr (.inr ⟨h1, h2, h3, h4⟩))
      · exact .inr (.inr (.inl ⟨h1, h2, h3⟩))
    · exact .inr (.inl ⟨h1, h2⟩)
  · exact .inl h1

theorem box_more {n : Nat} {w wr : World} (h : Below n w wr) (o : Obj) (hn : n ≤ wr.heap.size := by omega) : Below n w (wr.alloc o) := h.alloc hn _

def findD (f : Flt) : List Dep → Nat → Int
  | [], _ => -1
  | d :: l, i => if d.flt = f then i else findD f l (i + 1)

theorem drop_at {α : Type} {l : List α} {k : Nat} (h : k < l.length) : ∃ x, l[k]? = some x ∧ l.drop k = x :: l.drop (k + 1) :=
  ⟨l[k], List.getElem?_eq_getElem h, List.drop_eq_getElem_cons h⟩

theorem Find_any (v : Value) (l : List Dep) (f : Flt) (w : World) (hv : DepsV w v l) :
    Calls Try.prog 17 #[v, .agg f.cells] w fun e w' => e = .returned (.int .i64 (findD f l 0)) ∧ Below w.heap.size w w' := by
  obtain ⟨a, c, rfl, la, _, _⟩ := hv.open
  have HV := Lib.hid hv
  clear hv
  obtain ⟨res, hres⟩ : ∃ r, r = findD f l 0 := ⟨_, rfl⟩
  rw [← hres]
  have HRES := Lib.hid hres
  clear hres
  obtain ⟨c1, n1, s1, d1⟩ := f
  simp only [Flt.cells]
  go_enter Try.func17, Try.ntmps17
  go_wp2
  generalize hW : w.alloc _ = W
  obtain ⟨hA, hB, hS⟩ := one_box _ _ _ _ hW
  have HA := Lib.hid hA
  have HB := Lib.hid hB
  clear hA hW hB
  go_loopw [9] (fun i wr => ∃ k : Nat, k ≤ l.length ∧ i = .int .i64 k ∧ Below W.heap.size W wr ∧ Hid (res = findD ⟨c1, n1, s1, d1⟩ (l.drop k) k)) (fun i _ => l.length - (intOf i).toNat)
  case atStart => exact ⟨0, Nat.zero_le _, rfl, Below.refl _ _, HRES.out⟩
  case round =>
    obtain ⟨k, hk, rfl, hBr, hR⟩ := hrel
    by_cases hlt : k < l.length
    · obtain ⟨x, hx, hd⟩ := drop_at hlt
      have HBW := HB.out.trans (hBr.mono HB.out.size)
      obtain ⟨_, _, hvD, _, _, cD⟩ := (HV.out.below HBW).open
      simp only [Value.slice.injEq] at hvD
      obtain ⟨rfl, -, rfl⟩ := hvD
      obtain ⟨b, o, rfl, hb, cc⟩ := cD (by omega)
      obtain ⟨g0, g1, g2, g3, g4, g5, g6, g7, g8, g9⟩ := dep_at (cc k x hx)
      have hq := box_keep HA.out hS hBr
      have q0 := hq 0 _ rfl
      have q1 := hq 1 _ rfl
      have q2 := hq 2 _ rfl
      have q3 := hq 3 _ rfl
      simp only [List.getElem_toArray, List.getElem_cons_zero, List.getElem_cons_succ] at q0 q1 q2 q3
      have HX := Lib.hid hx
      have HD := Lib.hid hd
      have HCC := Lib.hid cc
      have HCD := Lib.hid cD
      clear hx hd cc cD hq
      obtain ⟨⟨c2, n2, s2, d2⟩, p, op, cl, le, st, sa⟩ := x
      simp only at g0 g1 g2 g3 g4 g5 g6 g7 g8 g9
      have hnb : w.heap.size < wr.heap.size := by have := hBr.size; omega
      have HBR := Lib.hid hBr
      by_cases he : (⟨c2, n2, s2, d2⟩ : Flt) = ⟨c1, n1, s1, d1⟩
      · have HE := Lib.hid he
        obtain ⟨rfl, rfl, rfl, rfl⟩ := Flt.mk.inj he
        clear he
        go_wp2
        go_ret
        refine ⟨ret_int ?_, box_more (HB.out.trans (HBR.out.mono HB.out.size)) _⟩
        rw [hR.out, HD.out, findD, if_pos rfl]
      · have HE := Lib.hid he
        clear he
        go_wp2
        · exact absurd (flt_same (by assumption) (by assumption) (by assumption) (by assumption)) HE.out
        all_goals go_roundw
        all_goals first
          | exact ⟨k + 1, by omega, by go_num, box_more HBR.out _, Lib.hid (by rw [hR.out, HD.out, findD, if_neg HE.out])⟩
          | (simp [intOf]; omega)
    · obtain rfl : k = l.length := by omega
      have HR := hR
      clear hR
      go_wp2
      go_ret
      refine ⟨ret_int ?_, HB.out.trans (hBr.mono HB.out.size)⟩
      rw [HR.out, List.drop_length]
      rfl
theorem RFind_any (v : Value) (l : List Dep) (f : Flt) (w : World) (hv : DepsV w v l) :
    Calls Try.prog 18 #[v, .agg f.cells] w fun e w' => e = .returned (.int .i64 (findD f l 0)) ∧ Below w.heap.size w w' := by
  obtain ⟨a, c, rfl, la, _, _⟩ := hv.open
  have HV := Lib.hid hv
  clear hv
  obtain ⟨res, hres⟩ : ∃ r, r = findD f l 0 := ⟨_, rfl⟩
  rw [← hres]
  have HRES := Lib.hid hres
  clear hres
  obtain ⟨c1, n1, s1, d1⟩ := f
  simp only [Flt.cells]
  go_enter Try.func18, Try.ntmps18
  go_wp2
  generalize hW : w.alloc _ = W
  obtain ⟨hA, hB, hS⟩ := one_box _ _ _ _ hW
  have HA := Lib.hid hA
  have HB := Lib.hid hB
  clear hA hW hB
  go_loopw [5] (fun i wr => ∃ k : Nat, k ≤ l.length ∧ i = .int .i64 k ∧ Below W.heap.size W wr ∧ Hid (res = findD ⟨c1, n1, s1, d1⟩ (l.drop k) k)) (fun i _ => l.length - (intOf i).toNat)
  case atStart => exact ⟨0, Nat.zero_le _, rfl, Below.refl _ _, HRES.out⟩
  case round =>
    obtain ⟨k, hk, rfl, hBr, hR⟩ := hrel
    by_cases hlt : k < l.length
    · obtain ⟨x, hx, hd⟩ := drop_at hlt
      have HBW := HB.out.trans (hBr.mono HB.out.size)
      obtain ⟨_, _, hvD, _, _, cD⟩ := (HV.out.below HBW).open
      simp only [Value.slice.injEq] at hvD
      obtain ⟨rfl, -, rfl⟩ := hvD
      obtain ⟨b, o, rfl, hb, cc⟩ := cD (by omega)
      obtain ⟨g0, g1, g2, g3, g4, g5, g6, g7, g8, g9⟩ := dep_at (cc k x hx)
      have hq := box_keep HA.out hS hBr
      have q0 := hq 0 _ rfl
      have q1 := hq 1 _ rfl
      have q2 := hq 2 _ rfl
      have q3 := hq 3 _ rfl
      simp only [List.getElem_toArray, List.getElem_cons_zero, List.getElem_cons_succ] at q0 q1 q2 q3
      have HX := Lib.hid hx
      have HD := Lib.hid hd
      have HCC := Lib.hid cc
      have HCD := Lib.hid cD
      clear hx hd cc cD hq
      obtain ⟨⟨c2, n2, s2, d2⟩, p, op, cl, le, st, sa⟩ := x
      simp only at g0 g1 g2 g3 g4 g5 g6 g7 g8 g9
      have hnb : w.heap.size < wr.heap.size := by have := hBr.size; omega
      have HBR := Lib.hid hBr
      by_cases he : (⟨c2, n2, s2, d2⟩ : Flt) = ⟨c1, n1, s1, d1⟩
      · have HE := Lib.hid he
        obtain ⟨rfl, rfl, rfl, rfl⟩ := Flt.mk.inj he
        clear he
        go_wp2
        go_quiet (fail)
        go_wp2
        go_ret
        refine ⟨ret_int ?_, below_drewN (HB.out.trans (HBR.out.mono HB.out.size)) _⟩
        rw [hR.out, HD.out, findD, if_pos rfl]
      · have HE := Lib.hid he
        have hcs := flt_cases he
        clear he
        rcases hcs with h1 | ⟨h1, h2⟩ | ⟨h1, h2, h3⟩ | ⟨h1, h2, h3, h4⟩
        all_goals
          go_wp2
          go_quiet (fail)
          go_wp2
          go_roundw
        all_goals first
          | exact ⟨k + 1, by omega, by go_num, below_drewN HBR.out _, Lib.hid (by rw [hR.out, HD.out, findD, if_neg HE.out])⟩
          | (simp [intOf]; omega)
    · obtain rfl : k = l.length := by omega
      have HR := hR
      clear hR
      go_wp2
      go_ret
      refine ⟨ret_int ?_, HB.out.trans (hBr.mono HB.out.size)⟩
      rw [HR.out, List.drop_length]
      rfl
end Go.Proofs.Ytmigkmdhenkpmaa
