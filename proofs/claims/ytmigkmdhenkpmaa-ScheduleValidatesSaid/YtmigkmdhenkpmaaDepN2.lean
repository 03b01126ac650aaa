/- Lists of departures whose block is not the source's. -/
import Derived.Test.YtmigkmdhenkpmaaDepRev
import Derived.Test.YtmigkmdhenkpmaaDepFl
namespace Go.Proofs.Ytmigkmdhenkpmaa
open Go.RowKit

/-- a list read at v, whose block is not b -/
def DepsN (b : Nat) (w : World) (v : Value) (l : List Dep) : Prop := DepsV w v l ∧ (0 < l.length → ∀ q o n c, v = .slice (some ⟨q, o, none⟩) n c → q ≠ b)

theorem DepsN.grown {b : Nat} {w w' : World} {v : Value} {l : List Dep} (h : DepsN b w v l) (hg : w.grownBy w' (some b)) : DepsN b w' v l := ⟨deps_grown h.1 hg h.2, h.2⟩
theorem DepsN.below {b : Nat} {w w' : World} {v : Value} {l : List Dep} (h : DepsN b w v l) (hB : Below w.heap.size w w') : DepsN b w' v l := ⟨RowV.below h.1 hB, h.2⟩

theorem DepsN.own {base b : Nat} {w : World} {v : Value} {l : List Dep} (h : DepT.Own base w v l) (hb : b < base) : DepsN b w v l :=
  ⟨OwnR.rows DepT.hsz h, fun _ q o n c hv => by
    rcases h.2 with ⟨h1, _⟩ | ⟨g, cap, cur, h1, h2, _⟩
    · rw [h1] at hv
      cases hv
    · rw [h1] at hv
      simp only [Value.slice.injEq, Option.some.injEq, Addr.mk.injEq] at hv
      omega⟩

/-- a list that lay there before the source was made -/
theorem DepsN.old {b : Nat} {w w' : World} {v : Value} {l : List Dep} (h : DepsV w v l) (hB : Below w.heap.size w w') (hb : w.heap.size ≤ b) : DepsN b w' v l := by
  refine ⟨RowV.below h hB, fun hl q o n c hv => ?_⟩
  obtain ⟨a, cap, rfl, _, _, _, h5⟩ := h
  obtain ⟨q', off, rfl, hlt, _⟩ := h5 hl
  simp only [Value.slice.injEq, Option.some.injEq, Addr.mk.injEq] at hv
  omega

theorem wfI_of {n : Int} (h1 : -2000000 ≤ n) (h2 : n ≤ 2000000) : wfI n := by
  simp only [wfI, Lit.wf, Bool.and_eq_true, decide_eq_true_eq]
  exact ⟨Int.le_trans (by decide) h1, Int.le_trans h2 (by decide)⟩

theorem valid_wf {d : Dep} (h : validD d = true) : DepWf d := by
  unfold validD validF at h
  simp only [Bool.and_eq_true, decide_eq_true_eq] at h
  obtain ⟨⟨⟨⟨⟨⟨⟨⟨⟨⟨⟨⟨⟨⟨_, f1⟩, f2⟩, _⟩, f3⟩, f4⟩, _⟩, a3⟩, a4⟩, a5⟩, a6⟩, a7⟩, a8⟩, a9⟩, a10⟩ := h
  exact ⟨⟨wfI_of (by omega) (by omega), wfI_of (by omega) (by omega)⟩, wfI_of (by omega) (by omega), wfI_of (by omega) (by omega), wfI_of (by omega) (by omega), wfI_of (by omega) (by omega), wfI_of (by omega) (by omega)⟩
end Go.Proofs.Ytmigkmdhenkpmaa
