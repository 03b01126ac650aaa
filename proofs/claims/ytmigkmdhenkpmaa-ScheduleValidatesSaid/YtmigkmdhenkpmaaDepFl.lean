/- Departures and flights that came in: flat structs. -/
import Derived.Test.YtmigkmdhenkpmaaDepE
import Derived.Test.YtmigkmdhenkpmaaDepH
import Derived.Test.YtmigkmdhenkpmaaFlatR
namespace Go.Proofs.Ytmigkmdhenkpmaa
open Go.RowKit

instance : Inhabited Dep := ⟨⟨⟨⟨#[]⟩, 0, ⟨#[]⟩, 0⟩, ⟨#[]⟩, 0, 0, 0, 0, 0⟩⟩

def wfI (n : Int) : Prop := (Lit.int .i64 n).wf = true
def flK : List FK := [.str, .int .i64, .str, .int .i64]
def depK : List FK := [.str, .int .i64, .str, .int .i64, .str, .int .i64, .int .i64, .int .i64, .int .i64, .int .i64]
def revK : List FK := [.int .i64, .int .i64, .str, .int .i64, .str, .int .i64]
def FltWf (f : Flt) : Prop := wfI f.num ∧ wfI f.day
def DepWf (d : Dep) : Prop := FltWf d.flt ∧ wfI d.opens ∧ wfI d.closes ∧ wfI d.leaves ∧ wfI d.stand ∧ wfI d.state
def RevWf (r : Rev) : Prop := FltWf r.flt ∧ wfI r.kind ∧ wfI r.amt

theorem flt_flat (cs : List Value) (h : HoldsAll flK cs) : ∃ x : Flt, x.cells.toList = cs ∧ FltWf x := by
  obtain ⟨x0, cs, rfl, w0, h⟩ := h.str
  obtain ⟨x1, cs, rfl, w1, h⟩ := h.int
  obtain ⟨x2, cs, rfl, w2, h⟩ := h.str
  obtain ⟨x3, cs, rfl, w3, h⟩ := h.int
  obtain rfl := h.nil
  exact ⟨⟨x0, x1, x2, x3⟩, rfl, w1, w3⟩

theorem dep_flat (cs : List Value) (h : HoldsAll depK cs) : ∃ x : Dep, x.cells.toList = cs ∧ DepWf x := by
  obtain ⟨x0, cs, rfl, w0, h⟩ := h.str
  obtain ⟨x1, cs, rfl, w1, h⟩ := h.int
  obtain ⟨x2, cs, rfl, w2, h⟩ := h.str
  obtain ⟨x3, cs, rfl, w3, h⟩ := h.int
  obtain ⟨x4, cs, rfl, w4, h⟩ := h.str
  obtain ⟨x5, cs, rfl, w5, h⟩ := h.int
  obtain ⟨x6, cs, rfl, w6, h⟩ := h.int
  obtain ⟨x7, cs, rfl, w7, h⟩ := h.int
  obtain ⟨x8, cs, rfl, w8, h⟩ := h.int
  obtain ⟨x9, cs, rfl, w9, h⟩ := h.int
  obtain rfl := h.nil
  exact ⟨⟨⟨x0, x1, x2, x3⟩, x4, x5, x6, x7, x8, x9⟩, rfl, ⟨w1, w3⟩, w5, w6, w7, w8, w9⟩

theorem rev_flat (cs : List Value) (h : HoldsAll revK cs) : ∃ x : Rev, x.cells.toList = cs ∧ RevWf x := by
  obtain ⟨x0, cs, rfl, w0, h⟩ := h.int
  obtain ⟨x1, cs, rfl, w1, h⟩ := h.int
  obtain ⟨x2, cs, rfl, w2, h⟩ := h.str
  obtain ⟨x3, cs, rfl, w3, h⟩ := h.int
  obtain ⟨x4, cs, rfl, w4, h⟩ := h.str
  obtain ⟨x5, cs, rfl, w5, h⟩ := h.int
  obtain rfl := h.nil
  exact ⟨⟨x0, x1, ⟨x2, x3, x4, x5⟩⟩, rfl, ⟨w3, w5⟩, w0, w1⟩

end Go.Proofs.Ytmigkmdhenkpmaa
