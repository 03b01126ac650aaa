/- Flights, and departures: valid, Validate, Find. -/
import Derived.Test.YtmigkmdhenkpmaaDepC
namespace Go.Proofs.Ytmigkmdhenkpmaa
open Go.RowKit

def validF (f : Flt) : Bool := carF f.car && decide (1 ≤ f.num) && decide (f.num ≤ 9999) && letsF f.suf 0 1 && decide (0 ≤ f.day) && decide (f.day ≤ 99)

theorem one_box (w W : World) (A : Array Value) (t : TypeId) (hW : w.alloc (.cells A t) = W) :
    (∀ i v, A[i]? = some v → W.cell? ⟨w.heap.size, i, none⟩ = some v) ∧ Below w.heap.size w W ∧ W.heap.size = w.heap.size + 1 := by
  subst hW
  exact ⟨fun i v h => cell_of (heap_alloc_new _ _) h, (Below.refl _ _).alloc (Nat.le_refl _) _, size_new _ _⟩

theorem FValid_any (f : Flt) (w : World) : Calls Try.prog 50 #[.agg f.cells] w fun e w' => e = .returned (.bool (validF f)) ∧ Below w.heap.size w w' := by
  have C1 := Lib.hid (Carrier_any f.car)
  have C2 := Lib.hid (Letters_any f.suf 0 1 (by omega))
  unfold validF
  generalize carF f.car = b1 at *
  generalize letsF f.suf 0 1 = b2 at *
  obtain ⟨c1, n1, s1, d1⟩ := f
  simp only [Flt.cells]
  obtain ⟨res, hres⟩ : ∃ r, r = (b1 && decide (1 ≤ n1) && decide (n1 ≤ 9999) && b2 && decide (0 ≤ d1) && decide (d1 ≤ 99)) := ⟨_, rfl⟩
  rw [← hres]
  have HRES := Lib.hid hres
  clear hres
  go_enter Try.func50, Try.ntmps50
  go_wp2_with (first
    | (go_at_call 58; refine (C1.out _).mono ?_; rintro e w1 ⟨rfl, rfl⟩)
    | (go_at_call 59; refine (C2.out _).mono ?_; rintro e w2 ⟨rfl, rfl⟩))
  all_goals go_ret
  all_goals refine ⟨ret_bool ?_, (one_box _ _ _ _ rfl).2.1⟩
  all_goals rw [HRES.out]
  all_goals clear HRES
  all_goals simp_all
  all_goals (intros; omega)

theorem RFValid_any (f : Flt) (w : World) : Calls Try.prog 56 #[.agg f.cells] w fun e w' => e = .returned (.bool (validF f)) ∧ Below w.heap.size w w' := by
  have C1 := Lib.hid (RCarrier_any f.car)
  have C2 := Lib.hid (RSuffix_any f.suf)
  unfold validF
  generalize carF f.car = b1 at *
  generalize letsF f.suf 0 1 = b2 at *
  obtain ⟨c1, n1, s1, d1⟩ := f
  simp only [Flt.cells]
  obtain ⟨res, hres⟩ : ∃ r, r = (b1 && decide (1 ≤ n1) && decide (n1 ≤ 9999) && b2 && decide (0 ≤ d1) && decide (d1 ≤ 99)) := ⟨_, rfl⟩
  rw [← hres]
  have HRES := Lib.hid hres
  clear hres
  go_enter Try.func56, Try.ntmps56
  go_wp2_with (first
    | (go_at_call 62; refine (C1.out _).mono ?_; rintro e w1 ⟨rfl, n, rfl⟩)
    | (go_at_call 63; refine (C2.out _).mono ?_; rintro e w2 ⟨rfl, rfl⟩))
  all_goals go_ret
  all_goals refine ⟨ret_bool ?_, below_drewN (one_box _ _ _ _ rfl).2.1 _⟩
  all_goals rw [HRES.out]
  all_goals clear HRES
  all_goals simp_all
  all_goals (intros; omega)

theorem box_then {w w1 : World} {A : Array Value} {t : TypeId} (h : Below (w.alloc (.cells A t)).heap.size (w.alloc (.cells A t)) w1) : Below w.heap.size w w1 ∧ ∀ i v, A[i]? = some v → w1.cell? ⟨w.heap.size, i, none⟩ = some v := by
  obtain ⟨h1, h2, h3⟩ := one_box w _ A t rfl
  exact ⟨h2.trans (h.mono h2.size), fun i v hi => (h.cell (p := ⟨w.heap.size, i, none⟩) (by show w.heap.size < _; omega)).trans (h1 i v hi)⟩

structure Dep where
  flt : Flt
  port : ByteArray
  opens : Int
  closes : Int
  leaves : Int
  stand : Int
  state : Int
deriving DecidableEq

def Dep.cells (d : Dep) : Array Value := #[.string d.flt.car, .int .i64 d.flt.num, .string d.flt.suf, .int .i64 d.flt.day, .string d.port, .int .i64 d.opens, .int .i64 d.closes, .int .i64 d.leaves, .int .i64 d.stand, .int .i64 d.state]

def validD (d : Dep) : Bool := validF d.flt && letsF d.port 3 3 && decide (0 ≤ d.opens) && decide (d.opens < d.closes) && decide (d.closes ≤ d.leaves) && decide (d.leaves ≤ 1048576) && decide (0 ≤ d.stand) && decide (d.stand ≤ 99) && decide (0 ≤ d.state) && decide (d.state ≤ 2)

def inI (n lo hi : Int) : Bool := decide (lo ≤ n) && decide (n ≤ hi)

theorem In_any (n lo hi : Int) (w : World) : Calls Try.prog 52 #[.int .i64 n, .int .i64 lo, .int .i64 hi] w fun e w' => e = .returned (.bool (inI n lo hi)) ∧ w' = w := by
  obtain ⟨res, hres⟩ : ∃ r, r = inI n lo hi := ⟨_, rfl⟩
  rw [← hres]
  have HRES := Lib.hid hres
  clear hres
  go_enter Try.func52, Try.ntmps52
  go_wp2
  all_goals go_ret
  all_goals refine ⟨ret_bool ?_, rfl⟩
  all_goals rw [HRES.out]
  all_goals clear HRES
  all_goals simp_all [inI]
  all_goals (intros; omega)

theorem Valid_any (d : Dep) (w : World) : Calls Try.prog 38 #[.agg d.cells] w fun e w' => e = .returned (.bool (validD d)) ∧ Below w.heap.size w w' := by
  have C1 := Lib.hid (FValid_any d.flt)
  have C2 := Lib.hid (ValidPort_any d.port)
  unfold validD
  have HF : d.flt.cells = #[.string d.flt.car, .int .i64 d.flt.num, .string d.flt.suf, .int .i64 d.flt.day] := rfl
  rw [HF] at C1
  clear HF
  generalize validF d.flt = b1 at *
  generalize letsF d.port 3 3 = b2 at *
  obtain ⟨⟨c1, n1, s1, d1⟩, p, o, c, l, st, sa⟩ := d
  simp only [Dep.cells]
  obtain ⟨res, hres⟩ : ∃ r, r = (b1 && b2 && decide (0 ≤ o) && decide (o < c) && decide (c ≤ l) && decide (l ≤ 1048576) && decide (0 ≤ st) && decide (st ≤ 99) && decide (0 ≤ sa) && decide (sa ≤ 2)) := ⟨_, rfl⟩
  rw [← hres]
  have HRES := Lib.hid hres
  clear hres
  go_enter Try.func38, Try.ntmps38
  go_wp2_with (first
    | (go_at_call 50; refine (C1.out _).mono ?_; rintro e w1 ⟨rfl, hB1⟩; obtain ⟨hB, hq⟩ := box_then hB1; have q4 := hq 4 _ rfl; have q5 := hq 5 _ rfl; have q6 := hq 6 _ rfl; have q7 := hq 7 _ rfl; have q8 := hq 8 _ rfl; have q9 := hq 9 _ rfl; clear hB1 hq; have HB := Lib.hid hB; clear hB)
    | (go_at_call 51; refine (C2.out _).mono ?_; rintro e w2 ⟨rfl, rfl⟩)
    | (go_at_call 52; refine (In_any _ _ _ _).mono ?_; rintro e w2 ⟨rfl, rfl⟩))
  all_goals go_ret
  all_goals refine ⟨ret_bool ?_, HB.out⟩
  all_goals rw [HRES.out]
  all_goals clear HRES HB C1 C2
  all_goals simp_all [inI]
  all_goals (intros; omega)
end Go.Proofs.Ytmigkmdhenkpmaa
