/- Revisions: amount, revised. -/
import Derived.Test.YtmigkmdhenkpmaaDepO
namespace Go.Proofs.Ytmigkmdhenkpmaa
open Go.RowKit

structure Rev where
  kind : Int
  amt : Int
  flt : Flt
deriving DecidableEq

def Rev.cells (r : Rev) : Array Value := #[.int .i64 r.kind, .int .i64 r.amt, .string r.flt.car, .int .i64 r.flt.num, .string r.flt.suf, .int .i64 r.flt.day]

def amtF (r : Rev) : Bool :=
  if r.kind = 1 then inI r.amt 1 1048576 else if r.kind = 2 then inI r.amt 0 1048576 else if r.kind = 3 then inI r.amt 0 99 else if r.kind = 4 then r.amt == 0 else if r.kind = 5 then r.amt == 0 else false

theorem amount_any (r : Rev) (w : World) : Calls Try.prog 44 #[.agg r.cells] w fun e w' => e = .returned (.bool (amtF r)) ∧ Below w.heap.size w w' := by
  obtain ⟨res, hres⟩ : ∃ b, b = amtF r := ⟨_, rfl⟩
  rw [← hres]
  have HRES := Lib.hid hres
  clear hres
  obtain ⟨k, m, ⟨c1, n1, s1, d1⟩⟩ := r
  simp only [Rev.cells]
  go_enter Try.func44, Try.ntmps44
  go_wp2_with (go_at_call 52; refine (In_any _ _ _ _).mono ?_; rintro e w2 ⟨rfl, rfl⟩)
  all_goals go_ret
  all_goals refine ⟨ret_bool ?_, (one_box _ _ _ _ rfl).2.1⟩
  all_goals rw [HRES.out]
  all_goals clear HRES
  all_goals simp_all [amtF]

theorem three_boxes (w : World) (a b c : Obj) : Below w.heap.size w (((w.alloc a).alloc b).alloc c) := by
  have h1 := size_new w a
  have h2 := size_new (w.alloc a) b
  exact (((Below.refl _ _).alloc (Nat.le_refl _) _).alloc (by omega) _).alloc (by omega) _

def revis (d : Dep) (r : Rev) : Dep :=
  if r.kind = 1 then { d with closes := d.closes + r.amt, leaves := d.leaves + r.amt } else if r.kind = 2 then { d with opens := r.amt } else if r.kind = 3 then { d with stand := r.amt } else if r.kind = 4 then { d with state := 1 } else { d with state := 0 }

theorem revised_any (d : Dep) (r : Rev) (w : World) (h1 : r.kind = 1 → -1000000000 ≤ d.closes ∧ d.closes ≤ 1000000000 ∧ -1000000000 ≤ d.leaves ∧ d.leaves ≤ 1000000000 ∧ -1000000000 ≤ r.amt ∧ r.amt ≤ 1000000000) :
    Calls Try.prog 45 #[.agg d.cells, .agg r.cells] w fun e w' => e = .returned (.agg (revis d r).cells) ∧ Below w.heap.size w w' := by
  obtain ⟨res, hres⟩ : ∃ b, b = (revis d r).cells := ⟨_, rfl⟩
  rw [← hres]
  have HRES := Lib.hid hres
  have H1 := Lib.hid h1
  clear hres h1
  obtain ⟨k, m, ⟨c1, n1, s1, d1⟩⟩ := r
  obtain ⟨⟨c2, n2, s2, d2⟩, p, op, cl, le, st, sa⟩ := d
  simp only [Rev.cells, Dep.cells]
  by_cases hk1 : k = 1
  · obtain ⟨b1, b2, b3, b4, b5, b6⟩ := H1.out hk1
    simp only at b1 b2 b3 b4 b5 b6
    subst hk1
    go_enter Try.func45, Try.ntmps45
    go_wp2
    (try simp only [Exit.inBlock, Exit.then])
    refine bodyPost_ret (v := .agg res) ?_ rfl ⟨rfl, three_boxes _ _ _ _⟩
    rw [HRES.out]
    clear HRES H1
    simp [go_sem, results, Try.f45]
    rfl
  · by_cases hk2 : k = 2
    · subst hk2
      go_enter Try.func45, Try.ntmps45
      go_wp2
      (try simp only [Exit.inBlock, Exit.then])
      refine bodyPost_ret (v := .agg res) ?_ rfl ⟨rfl, three_boxes _ _ _ _⟩
      rw [HRES.out]
      clear HRES H1
      simp [go_sem, results, Try.f45]
      rfl
    · by_cases hk3 : k = 3
      · subst hk3
        go_enter Try.func45, Try.ntmps45
        go_wp2
        (try simp only [Exit.inBlock, Exit.then])
        refine bodyPost_ret (v := .agg res) ?_ rfl ⟨rfl, three_boxes _ _ _ _⟩
        rw [HRES.out]
        clear HRES H1
        simp [go_sem, results, Try.f45]
        rfl
      · by_cases hk4 : k = 4
        · subst hk4
          go_enter Try.func45, Try.ntmps45
          go_wp2
          (try simp only [Exit.inBlock, Exit.then])
          refine bodyPost_ret (v := .agg res) ?_ rfl ⟨rfl, three_boxes _ _ _ _⟩
          rw [HRES.out]
          clear HRES H1
          simp [go_sem, results, Try.f45]
          rfl
        · have b1 : (k == 1) = false := by simp [hk1]
          have b2 : (k == 2) = false := by simp [hk2]
          have b3 : (k == 3) = false := by simp [hk3]
          have b4 : (k == 4) = false := by simp [hk4]
          go_enter Try.func45, Try.ntmps45
          go_wp2
          (try simp only [Exit.inBlock, Exit.then])
          refine bodyPost_ret (v := .agg res) ?_ rfl ⟨rfl, three_boxes _ _ _ _⟩
          rw [HRES.out]
          clear HRES H1
          simp [go_sem, results, Try.f45]
          simp [revis, Dep.cells, *]
end Go.Proofs.Ytmigkmdhenkpmaa
