/- Rows of departures that the call owns. -/
import Derived.Test.YtmigkmdhenkpmaaDepG
import Derived.Test.YtmigkmdhenkpmaaRowL
namespace Go.Proofs.Ytmigkmdhenkpmaa
open Go.RowKit

theorem infoDep : (Try.prog.info? 35).map (fun i => (i.zero, i.size, i.bytes)) = some (some (.agg #[.string ⟨#[]⟩, .int .i64 0, .string ⟨#[]⟩, .int .i64 0, .string ⟨#[]⟩, .int .i64 0, .int .i64 0, .int .i64 0, .int .i64 0, .int .i64 0]), 10, 104) := by kernel_rfl

def DepT : RowTy Try.prog Dep where
  t := 22
  e := 35
  sz := 10
  bytes := 104
  enc := Dep.cells
  zero := ⟨⟨⟨#[]⟩, 0, ⟨#[]⟩, 0⟩, ⟨#[]⟩, 0, 0, 0, 0, 0⟩
  hsz := fun _ => rfl
  pos := by decide
  one := fun x u hu => by
    simp [Dep.cells] at hu
    rcases hu with h | h | h | h | h | h | h | h | h | h <;> rw [h] <;> rfl
  ht := Try.underlying22
  info := by
    obtain ⟨i, h1, h2, h3, h4⟩ := info_parts infoDep
    exact ⟨i, _, h1, h2, h3, h4, rfl⟩

/-- the ten cells of a departure at the head of a block -/
theorem dep_at0 {w : World} {b : Nat} {d : Dep} (h : ∀ j u, d.cells[j]? = some u → w.cell? ⟨b, j, none⟩ = some u) :
    w.cell? ⟨b, 0, none⟩ = some (.string d.flt.car) ∧ w.cell? ⟨b, 1, none⟩ = some (.int .i64 d.flt.num) ∧ w.cell? ⟨b, 2, none⟩ = some (.string d.flt.suf) ∧ w.cell? ⟨b, 3, none⟩ = some (.int .i64 d.flt.day) ∧
    w.cell? ⟨b, 4, none⟩ = some (.string d.port) ∧ w.cell? ⟨b, 5, none⟩ = some (.int .i64 d.opens) ∧ w.cell? ⟨b, 6, none⟩ = some (.int .i64 d.closes) ∧ w.cell? ⟨b, 7, none⟩ = some (.int .i64 d.leaves) ∧
    w.cell? ⟨b, 8, none⟩ = some (.int .i64 d.stand) ∧ w.cell? ⟨b, 9, none⟩ = some (.int .i64 d.state) :=
  ⟨h 0 _ rfl, h 1 _ rfl, h 2 _ rfl, h 3 _ rfl, h 4 _ rfl, h 5 _ rfl, h 6 _ rfl, h 7 _ rfl, h 8 _ rfl, h 9 _ rfl⟩

/-- the cells of an owned departure, and that they may be written -/
theorem own_dep {base : Nat} {w : World} {g n cap : Nat} {l : List Dep} (h : DepT.Own base w (.slice (some ⟨g, 0, none⟩) n cap) l) (k : Nat) (hk : k < l.length) : ∃ x, l[k]? = some x ∧
    (∀ j u, x.cells[j]? = some u → w.cell? ⟨g, k * 10 + j, none⟩ = some u) ∧ ∀ j, w.frozen? ⟨g, j, none⟩ = false := by
  obtain ⟨x, hx, -⟩ := drop_at hk
  obtain ⟨a', cap', hv, _, _, hc⟩ := (OwnR.rows DepT.hsz h).open
  simp only [Value.slice.injEq] at hv
  obtain ⟨e1, e2, e3⟩ := hv
  subst e2
  obtain ⟨b, o, e, _, hc⟩ := hc (by omega)
  rw [e] at e1
  cases e1
  exact ⟨x, hx, fun j u hu => by have := hc k x hx j u hu; rw [Nat.zero_add] at this; exact this, fun j => World.ownsRow.frozenAt h j⟩

theorem with_any (v : Value) (l : List Dep) (k : Nat) (d : Dep) (w : World) (hv : DepsV w v l) (hk : k < l.length) (h24 : l.length ≤ 24) :
    Calls Try.prog 46 #[v, .int .i64 k, .agg d.cells] w fun e w' => ∃ v', e = .returned v' ∧ DepT.Own w.heap.size w' v' (l.set k d) ∧ Below w.heap.size w w' := by
  have hv' : DepT.V w v l := hv
  obtain ⟨a, c, rfl, la, _, _⟩ := hv.open
  obtain ⟨⟨c2, n2, s2, d2⟩, p, op, cl, le, st, sa⟩ := d
  simp only [Dep.cells]
  have hkl : (k : Int) < (l.length : Int) := by omega
  go_enter Try.func46, Try.ntmps46
  go_wp2_with (first
    | (at_make; refine DepT.make rfl _ _ rfl w.heap.size l.length rfl rfl (by unfold maxLen; omega) (by show 104 * _ ≤ _; omega) (by simp) ?_; intro w2 hown hgrow; rw [size_new] at hown; obtain ⟨hq, hb1, -⟩ := one_box w _ _ _ rfl; have hb2 := below_none hgrow; have hB2 : Below w.heap.size w w2 := hb1.trans (hb2.mono hb1.size); have hV2 : DepT.V w2 _ l := hv'.below hB2; have hsz := hb2.size; rw [size_new] at hsz)
    | ((refine DepT.copy rfl _ _ _ rfl w.heap.size (w.heap.size + 1) l.length _ (List.replicate l.length DepT.zero) l _ rfl rfl (by simp) hown hV2 rfl (by omega) ?_); intro w3 hown3 hgrow3; have hB3 := below_grown hB2 hgrow3 hB2.size (Nat.le_succ _); obtain ⟨q0, q1, q2, q3, q4, q5, q6, q7, q8, q9⟩ := dep_at0 (d := ⟨⟨c2, n2, s2, d2⟩, p, op, cl, le, st, sa⟩) (fun j u hu => hgrow3.cell ((hb2.cell (p := ⟨w.heap.size, j, none⟩) (by rw [size_new]; exact Nat.lt_succ_self _)).trans (hq j u hu)) (by simp)); obtain ⟨x, hx, hxc, hxf⟩ := own_dep hown3 k hk; obtain ⟨y0, y1, y2, y3, y4, y5, y6, y7, y8, y9⟩ := dep_at hxc; have f0 := hxf (k * 10); have f1 := hxf (k * 10 + 1); have f2 := hxf (k * 10 + 2); have f3 := hxf (k * 10 + 3); have f4 := hxf (k * 10 + 4); have f5 := hxf (k * 10 + 5); have f6 := hxf (k * 10 + 6); have f7 := hxf (k * 10 + 7); have f8 := hxf (k * 10 + 8); have f9 := hxf (k * 10 + 9); clear hxc hxf hq hx))
  go_ret
  obtain ⟨hS1, hS2⟩ := DepT.set hown3 rfl k hk ⟨⟨c2, n2, s2, d2⟩, p, op, cl, le, st, sa⟩
  exact ⟨_, rfl, hS1, below_grown hB3 hS2 hB3.size (Nat.le_succ _)⟩
end Go.Proofs.Ytmigkmdhenkpmaa
