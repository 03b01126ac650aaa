/- Slices of flat structs that came in, as rows. Nothing of the dump is used here. -/
import Derived.Test.YtmigkmdhenkpmaaFlat
import Derived.Test.YtmigkmdhenkpmaaRow
namespace Go.Proofs.Ytmigkmdhenkpmaa
open Go.RowKit Go.ChangeShapes Go.WideShapes

variable {H : Type} {enc : TypeId × Value → H} {P : Program} {w : World} {base : Nat} {spare : Nat → Bool} {held : Bool}

theorem add_spotless (b off i : Nat) {spot : Option Nat} {v : Value} (h : w.cell? ((⟨b, off, spot⟩ : Addr).add i) = some v) : w.cell? ⟨b, off + i, none⟩ = some v := by
  unfold Addr.add at h
  split at h
  · rename_i h0
    subst h0
    cases spot with
    | none => exact h
    | some s =>
      simp only [World.cell?] at h
      split at h <;> simp at h
  · exact h

theorem add_add' (a : Addr) (i j : Nat) : (a.add i).add j = a.add (i + j) := Go.Deep.add_add a i j

/-- a slice of flat structs that came in reads as a row of them -/
theorem rows_of_trod {α : Type} [Inhabited α] (en : α → Array Value) (Q : α → Prop) {t e : TypeId} {ks : List FK} {n : Nat} {a : Option Addr} {len cap : Nat} {d : DataW H} {p : List MemPlace}
    (hα : ∀ cs, HoldsAll ks cs → ∃ x, (en x).toList = cs ∧ Q x) (ht : P.underlying t = some (.slice e)) (hk : flatK P n e = some ks) (hc : P.cellsOf e = ks.length) (hp : 0 < ks.length)
    (h : DataW.Trod enc P w base spare held t (.slice a len cap) d p) : ∃ l : List α, RowV ks.length en w (.slice a len cap) l ∧ l.length = len ∧ ∀ x ∈ l, Q x := by
  obtain ⟨fuel, hf⟩ := h
  rcases Go.Deep.open_slice ht hf with ⟨hcs, _⟩ | ⟨x, l, c, m, n', D, Pl, hcs, _, hl, hm, hmm, _, hall⟩
  · simp [Value.cells] at hcs
    obtain ⟨rfl, rfl, rfl⟩ := hcs
    exact ⟨[], ⟨none, 0, rfl, Nat.le_refl _, by simp [maxLen], fun _ => rfl, fun h => by simp at h⟩, rfl, fun x hx => by cases hx⟩
  · simp [Value.cells] at hcs
    obtain ⟨rfl, rfl, rfl⟩ := hcs
    have hlm : len ≤ m := by rw [hmm]; split <;> omega
    obtain ⟨b, off, spot⟩ := x
    have h1 : ∀ i, i < len → ∃ y : α, Q y ∧ ∀ j u, (en y)[j]? = some u → w.cell? ⟨b, off + i * ks.length + j, none⟩ = some u := by
      intro i hi
      obtain ⟨cs, hcs, htr⟩ := hall i (by omega)
      obtain ⟨y, hy, hQ⟩ := hα cs (flat_trod n e ks _ _ _ hk htr)
      refine ⟨y, hQ, fun j u hu => ?_⟩
      obtain ⟨_, hlen, hget⟩ := World.cells?_some hcs
      have hju : cs[j]? = some u := by rw [← hy]; simpa using hu
      have hj : j < P.cellsOf e := by rw [← hlen]; exact (List.getElem?_eq_some_iff.1 hju).1
      have := hget j hj
      rw [add_add', hju, hc] at this
      have := add_spotless b off _ this
      rwa [Nat.add_assoc]
    obtain ⟨F, hF⟩ := Go.Deep.choose_lt h1
    refine ⟨(List.range len).map F, ⟨some ⟨b, off, spot⟩, cap, by simp, by simpa using hl, hm, (fun h => by cases h), fun hl0 => ?_⟩, by simp, fun x hx => ?_⟩
    · simp only [List.length_map, List.length_range] at hl0
      obtain ⟨cs, hcs, htr⟩ := hall 0 (by omega)
      obtain ⟨_, hlen, hget⟩ := World.cells?_some hcs
      have h0 := hget 0 (by omega)
      rw [List.getElem?_eq_getElem (by omega)] at h0
      rw [add_add'] at h0
      have hb := World.block_lt_of_cell? w _ h0
      have hspot : spot = none := by
        cases spot with
        | none => rfl
        | some s =>
          simp only [Addr.add, Nat.zero_mul, Nat.add_zero, if_true, World.cell?] at h0
          split at h0 <;> simp at h0
      subst hspot
      refine ⟨b, off, rfl, ?_, fun k x hk j u hu => ?_⟩
      · simpa [Addr.add] using hb
      · rw [List.getElem?_map] at hk
        by_cases hkl : k < len
        · rw [List.getElem?_range hkl] at hk
          simp only [Option.map_some, Option.some.injEq] at hk
          subst hk
          exact (hF k hkl).2 j u hu
        · rw [List.getElem?_eq_none (by simpa using hkl)] at hk
          cases hk
    · obtain ⟨i, hi, rfl⟩ := List.mem_map.1 hx
      exact (hF i (List.mem_range.1 hi)).1

/-- a flat struct that came in -/
theorem agg_of_trod {α : Type} (en : α → Array Value) (Q : α → Prop) {t : TypeId} {ks : List FK} {n : Nat} {cs : Array Value} {d : DataW H} {p : List MemPlace}
    (hα : ∀ cs, HoldsAll ks cs → ∃ x, (en x).toList = cs ∧ Q x) (hk : flatK P n t = some ks) (h : DataW.Trod enc P w base spare held t (.agg cs) d p) : ∃ x : α, cs = en x ∧ Q x := by
  obtain ⟨fuel, hf⟩ := h
  obtain ⟨x, hx, hQ⟩ := hα _ (flat_trod n t ks _ _ _ hk hf)
  exact ⟨x, by
    simp only [Value.cells] at hx
    exact (Array.toList_inj.1 hx).symm, hQ⟩
end Go.Proofs.Ytmigkmdhenkpmaa
