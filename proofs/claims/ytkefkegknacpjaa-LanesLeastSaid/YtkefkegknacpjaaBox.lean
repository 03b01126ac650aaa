/- A variable in a block of its own (captured, or with an address taken). -/
import Derived.Test.YtkefkegknacpjaaOwn
namespace Go.Proofs.Ytkefkegknacpjaa
open Go.RowKit

/-- block b holds one variable, with the value v -/
def Bx (w : World) (b : Nat) (v : Value) : Prop := ∃ t, w.heap[b]? = some (.cells #[v] t (0, 0))

theorem Bx.lt {w : World} {b : Nat} {v : Value} (h : Bx w b v) : b < w.heap.size := by
  obtain ⟨t, h⟩ := h
  exact lt_of_block h
theorem Bx.cell {w : World} {b : Nat} {v : Value} (h : Bx w b v) : w.cell? ⟨b, 0, none⟩ = some v := by
  obtain ⟨t, h⟩ := h
  exact cell_of_one h
theorem Bx.frozen {w : World} {b : Nat} {v : Value} (h : Bx w b v) : w.frozen? ⟨b, 0, none⟩ = false := by
  obtain ⟨t, h⟩ := h
  exact free_of_one h
theorem Bx.new (w : World) (v : Value) (t : TypeId) : Bx (w.alloc (.cells #[v] t)) w.heap.size v := ⟨t, heap_alloc_new w _⟩
theorem Bx.other {w w' : World} {b : Nat} {v : Value} (h : Bx w b v) {row : Option Nat} (hg : w.grownBy w' row) (hne : row ≠ some b) : Bx w' b v := by
  obtain ⟨t, h⟩ := h
  exact ⟨t, (hg.block b (lt_of_block h) (fun e => hne e.symm)).trans h⟩
theorem Bx.keep {w w' : World} {b : Nat} {v : Value} (h : Bx w b v) (hB : Below w.heap.size w w') : Bx w' b v := by
  obtain ⟨t, h⟩ := h
  exact ⟨t, (hB.block b (lt_of_block h)).trans h⟩
theorem Bx.alloc {w : World} {b : Nat} {v : Value} (h : Bx w b v) (o : Obj) : Bx (w.alloc o) b v := h.keep ((Below.refl _ _).alloc (Nat.le_refl _) _)
theorem Bx.set {w : World} {b : Nat} {v : Value} (h : Bx w b v) (u : Value) : Bx (w.setCell ⟨b, 0, none⟩ u) b u := by
  obtain ⟨t, h⟩ := h
  exact ⟨t, one_setCell h⟩
theorem Bx.draws {w : World} {b : Nat} {v : Value} (h : Bx w b v) (n : Nat) : Bx (w.drewN n) b v := h
theorem Bx.drew {w : World} {b : Nat} {v : Value} (h : Bx w b v) : Bx w.drew b v := h
/-- a row that is owned is no variable's block, if the elements' type is not the variable's -/
theorem Bx.row {base : Nat} {w : World} {v : Value} {l : List Int} {b : Nat} {u : Value} (h : OwnI base w v l) (hb : Bx w b u) (hne : ∀ cap, w.heap[b]? ≠ some (.cells cap 3 (0, 0))) : v.ownBlock ≠ some b := by
  intro e
  rcases h.1.2 with ⟨rfl, _⟩ | ⟨g, cap, cur, rfl, _, hg, _⟩
  · cases e
  · cases e
    exact hne _ hg
end Go.Proofs.Ytkefkegknacpjaa
