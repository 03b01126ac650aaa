/- A store into some cells of one element of an owned row. Nothing of the dump is used here. -/
import Derived.Test.YtmigkmdhenkpmaaRowL
namespace Go.Proofs.Ytmigkmdhenkpmaa
open Go.RowKit

variable {P : Program} {α : Type} (R : RowTy P α)

theorem RowTy.put {base : Nat} {w : World} {g n cap : Nat} {l : List α} (h : R.Own base w (.slice (some ⟨g, 0, none⟩) n cap) l) (hn : n = l.length) (k : Nat) {x : α} (hx : l[k]? = some x) (j : Nat) (us : List Value) (y : α)
    (hy : (R.enc y).toList = setsFrom (R.enc x).toList j us) (hj : j + us.length ≤ R.sz) :
    R.Own base (setCells w g (k * R.sz + j) us) (.slice (some ⟨g, 0, none⟩) n cap) (l.set k y) ∧ w.grownBy (setCells w g (k * R.sz + j) us) (some g) := by
  subst hn
  obtain ⟨h1, h2⟩ := own_sets us w (k * R.sz + j) _ h
  refine ⟨?_, h2⟩
  show World.ownsRow _ _ _ _ _ (l.set k y).length _
  rw [List.length_set]
  have hk : k < l.length := (List.getElem?_eq_some_iff.1 hx).1
  have hfl := flat_len R.hsz l
  have hxl : (R.enc x).toList.length = R.sz := by rw [Array.length_toList, R.hsz]
  have hle : k * R.sz + R.sz ≤ l.length * R.sz := by rw [← Nat.succ_mul]; exact Nat.mul_le_mul_right _ hk
  have hl : l = l.set k x := by
    obtain ⟨hk', rfl⟩ := List.getElem?_eq_some_iff.1 hx
    rw [List.set_getElem_self]
  rw [setsFrom_eq _ _ _ (by rw [hfl]; omega)] at h1
  have e1 : (l.flatMap fun x => (R.enc x).toList) = ((l.take k).flatMap fun x => (R.enc x).toList) ++ ((R.enc x).toList ++ ((l.drop (k + 1)).flatMap fun x => (R.enc x).toList)) := by
    conv => lhs; rw [hl, List.set_eq_take_append_cons_drop, if_pos hk, List.flatMap_append, List.flatMap_cons]
  have ea : ((l.take k).flatMap fun x => (R.enc x).toList).length = k * R.sz := by rw [flat_len R.hsz, List.length_take, Nat.min_eq_left (Nat.le_of_lt hk)]
  rw [List.set_eq_take_append_cons_drop, if_pos hk, List.flatMap_append, List.flatMap_cons, hy, setsFrom_eq _ _ _ (by rw [hxl]; exact hj)]
  rw [e1, ← ea, List.take_length_add_append, List.take_append_of_le_length (by rw [hxl]; omega), Nat.add_assoc, List.drop_length_add_append, List.drop_append_of_le_length (by rw [hxl]; exact hj)] at h1
  rw [ea] at h1
  simp only [List.append_assoc] at h1 ⊢
  exact h1
end Go.Proofs.Ytmigkmdhenkpmaa
