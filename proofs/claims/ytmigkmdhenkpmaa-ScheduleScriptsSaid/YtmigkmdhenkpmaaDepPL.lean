/- Plain laws for ScheduleScripts: what a revision or a departure leaves as it was. -/
import Derived.Test.YtmigkmdhenkpmaaDepV
namespace Go.Proofs.Ytmigkmdhenkpmaa
open Go.RowKit

/-- what a step keeps -/
def Kept (l m : List Dep) : Prop :=
  m.length = l.length ∧ valE m = 0 ∧ ∀ (i : Nat) (x y : Dep), l[i]? = some x → m[i]? = some y → y.flt = x.flt ∧ (x.state = 2 → y = x)

theorem Kept.refl {l : List Dep} (h : valE l = 0) : Kept l l :=
  ⟨rfl, h, fun i x y hx hy => by rw [hx] at hy; cases hy; exact ⟨rfl, fun _ => rfl⟩⟩

theorem kept_set {l : List Dep} {k : Nat} {d y : Dep} (hv : valE l = 0) (hd : l[k]? = some d) (hy : validD y = true) (hf : y.flt = d.flt) (hs : d.state ≠ 2) : Kept l (l.set k y) := by
  refine ⟨List.length_set, valE_of (vErr_set l none k d y (vErr_of hv) hd hy hf) (by rw [List.length_set]; exact valE_le hv), ?_⟩
  intro i x z hx hz
  by_cases hik : k = i
  · subst hik
    rw [List.getElem?_set_self (List.getElem?_eq_some_iff.1 hd).1] at hz
    rw [hd] at hx
    cases hx
    cases hz
    exact ⟨hf, fun h => absurd h hs⟩
  · rw [List.getElem?_set_ne hik, hx] at hz
    cases hz
    exact ⟨rfl, fun _ => rfl⟩

theorem revis_flt (d : Dep) (r : Rev) : (revis d r).flt = d.flt := by
  unfold revis
  (repeat' split) <;> rfl

theorem want_two (r : Rev) : wantS r ≠ 2 := by
  unfold wantS
  split <;> omega

theorem apply_kept {l : List Dep} (hv : valE l = 0) (r : Rev) (now : Int) : (∃ c, c ≠ 0 ∧ applyF l r now = (c, [])) ∨ ∃ m, applyF l r now = (0, m) ∧ Kept l m := by
  unfold applyF
  rw [if_pos hv]
  by_cases hk : 1 ≤ r.kind ∧ r.kind ≤ 5
  · rw [if_pos hk]
    by_cases hf : findD r.flt l 0 < 0
    · exact .inl ⟨6, by omega, if_pos hf⟩
    · rw [if_neg hf]
      generalize (findD r.flt l 0).toNat = k
      unfold applyAt
      rcases hd : l[k]? with _ | d
      · exact .inl ⟨6, by omega, rfl⟩
      · show (∃ c, c ≠ 0 ∧ (if d.state = wantS r then _ else _) = (c, [])) ∨ ∃ m, (if d.state = wantS r then _ else _) = (0, m) ∧ Kept l m
        by_cases hs : d.state = wantS r
        · rw [if_pos hs]
          by_cases ha : amtF r = true
          · rw [if_pos ha]
            by_cases ho : r.kind = 2 ∧ (d.opens ≤ now ∨ r.amt < now)
            · exact .inl ⟨12, by omega, if_pos ho⟩
            · rw [if_neg ho]
              by_cases hvd : validD (revis d r) = true
              · exact .inr ⟨_, if_pos hvd, kept_set hv hd hvd (revis_flt d r) (by rw [hs]; exact want_two r)⟩
              · exact .inl ⟨1, by omega, if_neg hvd⟩
          · exact .inl ⟨1, by omega, if_neg ha⟩
        · exact .inl ⟨7, by omega, if_neg hs⟩
  · exact .inl ⟨4, by omega, if_neg hk⟩

theorem depart_kept {l : List Dep} (hv : valE l = 0) (f : Flt) (now : Int) : (∃ c, c ≠ 0 ∧ departF l f now = (c, [])) ∨ ∃ m, departF l f now = (0, m) ∧ Kept l m := by
  unfold departF
  rw [if_pos hv]
  by_cases hf : findD f l 0 < 0
  · exact .inl ⟨6, by omega, if_pos hf⟩
  · rw [if_neg hf]
    generalize (findD f l 0).toNat = k
    unfold departAt
    rcases hd : l[k]? with _ | d
    · exact .inl ⟨6, by omega, rfl⟩
    · show (∃ c, c ≠ 0 ∧ (if d.state = 0 ∧ d.closes ≤ now then _ else _) = (c, [])) ∨ ∃ m, (if d.state = 0 ∧ d.closes ≤ now then _ else _) = (0, m) ∧ Kept l m
      by_cases hs : d.state = 0 ∧ d.closes ≤ now
      · refine .inr ⟨_, if_pos hs, kept_set hv hd (valid_state (valE_all hv d (List.mem_of_getElem? hd)) 2 (by omega)) rfl (by omega)⟩
      · exact .inl ⟨7, by omega, if_neg hs⟩
end Go.Proofs.Ytmigkmdhenkpmaa
