/- Slices whose elements have several cells: read rows and owned rows. Nothing of the dump is used here. -/
import Derived.Test.YtmigkmdhenkpmaaBase
import Derived.OwnWalkIn
namespace Go.Proofs.Ytmigkmdhenkpmaa
open Go.RowKit

/-- v reads as the list l, whose elements have sz cells each, told by enc -/
def RowV {α : Type} (sz : Nat) (enc : α → Array Value) (w : World) (v : Value) (l : List α) : Prop :=
  ∃ a cap, v = .slice a l.length cap ∧ l.length ≤ cap ∧ cap ≤ maxLen ∧ (a = none → cap = 0) ∧
    (0 < l.length → ∃ b off, a = some ⟨b, off, none⟩ ∧ b < w.heap.size ∧ ∀ k x, l[k]? = some x → ∀ j u, (enc x)[j]? = some u → w.cell? ⟨b, off + k * sz + j, none⟩ = some u)

theorem RowV.below {α : Type} {sz : Nat} {enc : α → Array Value} {w w' : World} {v : Value} {l : List α} (h : RowV sz enc w v l) (hb : Below w.heap.size w w') : RowV sz enc w' v l := by
  obtain ⟨a, cap, rfl, h1, h2, h4, h5⟩ := h
  refine ⟨a, cap, rfl, h1, h2, h4, fun hl => ?_⟩
  obtain ⟨b, off, rfl, hlt, hc⟩ := h5 hl
  exact ⟨b, off, rfl, by have := hb.size; omega, fun k x hk j u hu => (hb.cell (p := ⟨b, off + k * sz + j, none⟩) hlt).trans (hc k x hk j u hu)⟩

theorem RowV.open {α : Type} {sz : Nat} {enc : α → Array Value} {w : World} {v : Value} {l : List α} (h : RowV sz enc w v l) : ∃ a cap, v = .slice a l.length cap ∧ l.length ≤ 9223372036854775807 ∧ l.length ≤ cap ∧
    (0 < l.length → ∃ b off, a = some ⟨b, off, none⟩ ∧ b < w.heap.size ∧ ∀ k x, l[k]? = some x → ∀ j u, (enc x)[j]? = some u → w.cell? ⟨b, off + k * sz + j, none⟩ = some u) := by
  obtain ⟨a, cap, rfl, h1, h2, h4, h5⟩ := h
  unfold maxLen at h2
  exact ⟨a, cap, rfl, by omega, h1, h5⟩

/-- the list l lies in a row that the call owns (from block base on); elements of type e -/
def OwnR {α : Type} (e : TypeId) (sz : Nat) (enc : α → Array Value) (base : Nat) (w : World) (v : Value) (l : List α) : Prop :=
  w.ownsRow base e sz v l.length (l.flatMap fun x => (enc x).toList)

theorem flat_at {α : Type} {sz : Nat} {enc : α → Array Value} (hsz : ∀ x, (enc x).size = sz) : ∀ (l : List α) (k : Nat) (x : α) (_ : l[k]? = some x) (j : Nat) (u : Value) (_ : (enc x)[j]? = some u), (l.flatMap fun x => (enc x).toList)[k * sz + j]? = some u
  | [], k, x, h, _, _, _ => by simp at h
  | y :: l, 0, x, h, j, u, hu => by
    simp at h
    subst h
    rw [List.flatMap_cons, Nat.zero_mul, Nat.zero_add, List.getElem?_append_left (by rw [Array.length_toList]; exact (Array.getElem?_eq_some_iff.1 hu).1)]
    simpa using hu
  | y :: l, k + 1, x, h, j, u, hu => by
    have h' : l[k]? = some x := by simpa using h
    rw [List.flatMap_cons, List.getElem?_append_right (by rw [Array.length_toList, hsz]; exact Nat.le_trans (Nat.le_mul_of_pos_left _ (by omega)) (Nat.le_add_right _ _)), Array.length_toList, hsz]
    rw [show (k + 1) * sz + j - sz = k * sz + j by rw [Nat.succ_mul]; omega]
    exact flat_at hsz l k x h' j u hu

theorem flat_len {α : Type} {sz : Nat} {enc : α → Array Value} (hsz : ∀ x, (enc x).size = sz) : ∀ l : List α, (l.flatMap fun x => (enc x).toList).length = l.length * sz
  | [] => by simp
  | y :: l => by rw [List.flatMap_cons, List.length_append, flat_len hsz l, Array.length_toList, hsz, List.length_cons, Nat.succ_mul]; omega

theorem OwnR.rows {α : Type} {e : TypeId} {sz : Nat} {enc : α → Array Value} {base : Nat} {w : World} {v : Value} {l : List α} (hsz : ∀ x, (enc x).size = sz) (h : OwnR e sz enc base w v l) : RowV sz enc w v l := by
  obtain ⟨hl, h1⟩ := h
  rcases h1 with ⟨rfl, h0⟩ | ⟨g, cap, cur, rfl, hg, hh, hn, hm, hs, ht⟩
  · obtain rfl : l = [] := List.eq_nil_of_length_eq_zero h0
    exact ⟨none, 0, rfl, Nat.le_refl _, by simp [maxLen], fun _ => rfl, fun h => by simp at h⟩
  · refine ⟨some ⟨g, 0, none⟩, cap, rfl, hn, hm, (fun h => by cases h), fun _ => ⟨g, 0, rfl, lt_of_block hh, fun k x hk j u hu => ?_⟩⟩
    have := flat_at hsz l k x hk j u hu
    rw [← ht, List.getElem?_take] at this
    split at this
    · rename_i hlt
      simp [World.cell?, hh]
      simpa using this
    · cases this

theorem OwnR.nil {α : Type} (e : TypeId) (sz : Nat) (enc : α → Array Value) (base : Nat) (w : World) : OwnR e sz enc base w (.slice none 0 0) [] := World.ownsRow_nil _ _ _ _

theorem OwnR.below {α : Type} {e : TypeId} {sz : Nat} {enc : α → Array Value} {base base' : Nat} {w : World} {v : Value} {l : List α} (h : OwnR e sz enc base w v l) (hb : base' ≤ base) : OwnR e sz enc base' w v l := by
  obtain ⟨hl, h1⟩ := h
  refine ⟨hl, ?_⟩
  rcases h1 with h1 | ⟨g, cap, cur, rfl, hg, r⟩
  · exact .inl h1
  · exact .inr ⟨g, cap, cur, rfl, by omega, r⟩
end Go.Proofs.Ytmigkmdhenkpmaa
