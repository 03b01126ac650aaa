/- Values that came in (integers, strings, bools, structs and slices of them, nested as they are): what their cells hold, and that they stand for their abstract values. Nothing of the dump is used here. -/
import Derived.Test.YtpipggnfbgjefaaExL
import Derived.Deep.Slices
import Derived.WalkKit
import Derived.OpenShut
namespace Go.Proofs.Ytpipggnfbgjefaa.Ex
open Go.RowKit Go.ChangeShapes Go.WideShapes Go.Proofs.Ytpipggnfbgjefaa.Ax
set_option linter.unusedVariables false
set_option linter.unusedSimpArgs false

inductive CK where
  | int (k : IntKind)
  | str
  | bool
  | sl (ks : List CK)

mutual
def KV : CK → AV → Prop
  | .int k, u => ∃ n, u = .int k n ∧ (Lit.int k n).wf = true
  | .str, u => ∃ s : ByteArray, u = .str s ∧ s.size ≤ maxLen
  | .bool, u => ∃ b, u = .bool b
  | .sl ks, u => ∃ xs : List (List AV), u = .lst ks.length xs ∧ ∀ c ∈ xs, KVs ks c
def KVs : List CK → List AV → Prop
  | [], c => c = []
  | k :: ks, c => ∃ u us, c = u :: us ∧ KV k u ∧ KVs ks us
end

theorem KV.one {k : CK} {u : AV} (h : KV k u) : u.one = true := by
  cases k with
  | int k => rw [KV] at h; obtain ⟨n, rfl, _⟩ := h; rfl
  | str => rw [KV] at h; obtain ⟨n, rfl, _⟩ := h; rfl
  | bool => rw [KV] at h; obtain ⟨n, rfl⟩ := h; rfl
  | sl ks => rw [KV] at h; obtain ⟨n, rfl, _⟩ := h; rfl
theorem KVs.len : ∀ {ks : List CK} {c : List AV}, KVs ks c → c.length = ks.length
  | [], c, h => by rw [KVs] at h; rw [h]; rfl
  | k :: ks, c, h => by
    rw [KVs] at h
    obtain ⟨u, us, rfl, _, h⟩ := h
    rw [List.length_cons, List.length_cons, KVs.len h]
theorem KVs.ones : ∀ {ks : List CK} {c : List AV}, KVs ks c → ∀ u ∈ c, u.one = true
  | [], c, h, u, hu => by rw [KVs] at h; rw [h] at hu; cases hu
  | k :: ks, c, h, u, hu => by
    rw [KVs] at h
    obtain ⟨v, us, rfl, h1, h⟩ := h
    rcases List.mem_cons.1 hu with rfl | hu
    · exact h1.one
    · exact KVs.ones h u hu
theorem KVs.append : ∀ {ks ls : List CK} {c d : List AV}, KVs ks c → KVs ls d → KVs (ks ++ ls) (c ++ d)
  | [], ls, c, d, h, h2 => by rw [KVs] at h; rw [h]; exact h2
  | k :: ks, ls, c, d, h, h2 => by
    rw [KVs] at h
    obtain ⟨v, us, rfl, h1, h⟩ := h
    rw [List.cons_append, List.cons_append, KVs]
    exact ⟨v, us ++ d, rfl, h1, KVs.append h h2⟩

/-- cells that stand for abstract values -/
def Stand (w : World) (cs : List Value) (c : List AV) : Prop := c.length = cs.length ∧ ∀ (j : Nat) (u : AV) (v : Value), c[j]? = some u → cs[j]? = some v → RV w (fun b => b < w.heap.size) noB u v
theorem Stand.one {w : World} {v : Value} {u : AV} (h : RV w (fun b => b < w.heap.size) noB u v) : Stand w [v] [u] := by
  refine ⟨rfl, fun j a b ha hb => ?_⟩
  match j, ha, hb with
  | 0, ha, hb => cases ha; cases hb; exact h
theorem Stand.append {w : World} {cs ds : List Value} {c d : List AV} (h : Stand w cs c) (k : Stand w ds d) : Stand w (cs ++ ds) (c ++ d) := by
  refine ⟨by rw [List.length_append, List.length_append, h.1, k.1], fun j u v hu hv => ?_⟩
  by_cases hj : j < c.length
  · rw [List.getElem?_append_left hj] at hu
    rw [List.getElem?_append_left (h.1 ▸ hj)] at hv
    exact h.2 j u v hu hv
  · rw [List.getElem?_append_right (by omega)] at hu
    rw [List.getElem?_append_right (by rw [← h.1]; omega), ← h.1] at hv
    exact k.2 _ u v hu hv

variable {H : Type} {enc : TypeId × Value → H} {P : Program} {w : World} {base : Nat} {spare : Nat → Bool} {held : Bool}

end Go.Proofs.Ytpipggnfbgjefaa.Ex
