/- Values of flat types (integers, strings, bools, structs of them, nested too) that came in: what their cells hold. Nothing of the dump is used here. -/
import Derived.Deep.Slices
import Derived.WalkKit
import Derived.OpenShut
namespace Go.Proofs.Ytmigkmdhenkpmaa
open Go.RowKit Go.ChangeShapes Go.WideShapes

inductive FK where
  | int (k : IntKind)
  | str
  | bool
deriving DecidableEq

def FK.holds : FK → Value → Prop
  | .int k, v => ∃ n, v = .int k n ∧ (Lit.int k n).wf = true
  | .str, v => ∃ s : ByteArray, v = .string s ∧ s.size ≤ maxLen
  | .bool, v => ∃ b, v = .bool b

def HoldsAll : List FK → List Value → Prop
  | [], [] => True
  | k :: ks, v :: vs => k.holds v ∧ HoldsAll ks vs
  | _, _ => False

theorem HoldsAll.length : ∀ {ks : List FK} {vs : List Value}, HoldsAll ks vs → vs.length = ks.length
  | [], [], _ => rfl
  | k :: ks, v :: vs, h => by rw [List.length_cons, List.length_cons, HoldsAll.length h.2]
  | [], _ :: _, h => h.elim
  | _ :: _, [], h => h.elim

theorem HoldsAll.nil : ∀ {cs : List Value}, HoldsAll [] cs → cs = []
  | [], _ => rfl
  | _ :: _, h => h.elim

theorem HoldsAll.int {k : IntKind} {ks : List FK} : ∀ {cs : List Value}, HoldsAll (.int k :: ks) cs → ∃ n vs, cs = .int k n :: vs ∧ (Lit.int k n).wf = true ∧ HoldsAll ks vs
  | [], h => h.elim
  | _ :: vs, ⟨⟨n, e, w⟩, h⟩ => ⟨n, vs, by rw [e], w, h⟩

theorem HoldsAll.str {ks : List FK} : ∀ {cs : List Value}, HoldsAll (.str :: ks) cs → ∃ (n : ByteArray) (vs : List Value), cs = .string n :: vs ∧ n.size ≤ maxLen ∧ HoldsAll ks vs
  | [], h => h.elim
  | _ :: vs, ⟨⟨n, e, w⟩, h⟩ => ⟨n, vs, by rw [e], w, h⟩

theorem HoldsAll.bool {ks : List FK} : ∀ {cs : List Value}, HoldsAll (.bool :: ks) cs → ∃ (n : Bool) (vs : List Value), cs = .bool n :: vs ∧ HoldsAll ks vs
  | [], h => h.elim
  | _ :: vs, ⟨⟨n, e⟩, h⟩ => ⟨n, vs, by rw [e], h⟩

theorem HoldsAll.append : ∀ {ks ls : List FK} {vs us : List Value}, HoldsAll ks vs → HoldsAll ls us → HoldsAll (ks ++ ls) (vs ++ us)
  | [], _, [], _, _, h => h
  | _ :: _, _, _ :: _, _, h, h2 => ⟨h.1, HoldsAll.append h.2 h2⟩
  | [], _, _ :: _, _, h, _ => h.elim
  | _ :: _, _, [], _, h, _ => h.elim

/-- the flat kinds of the fields, which must lie one behind the other from off on -/
def flatFs (P : Program) (f : TypeId → Option (List FK)) : Nat → List Field → Option (List FK)
  | _, [] => some []
  | off, fd :: rest =>
    match f fd.type with
    | none => none
    | some ks =>
      if fd.offset = off ∧ ks.length = P.cellsOf fd.type then (flatFs P f (off + ks.length) rest).map (ks ++ ·) else none

def flatK (P : Program) : Nat → TypeId → Option (List FK)
  | 0, _ => none
  | n + 1, t =>
    match P.underlying t with
    | some .bool => some [.bool]
    | some (.int k) => some [.int k]
    | some .string => some [.str]
    | some (.struct fs) =>
      match flatFs P (flatK P n) 0 fs.toList with
      | some ks => if ks.length = P.cellsOf t then some ks else none
      | none => none
    | _ => none

variable {H : Type} {enc : TypeId × Value → H} {P : Program} {w : World} {base : Nat} {spare : Nat → Bool} {held : Bool}

theorem flat_fields {f : TypeId → Option (List FK)} {fuel : Nat} {cs : List Value}
    (hf : ∀ t ks cs x, f t = some ks → DataW.trod enc P w base spare held fuel t cs = some x → HoldsAll ks cs) : ∀ (fs : List Field) (off : Nat) (ks : List FK),
    flatFs P f off fs = some ks → (∀ fd ∈ fs, ∃ y, DataW.trod enc P w base spare held fuel fd.type ((cs.drop fd.offset).take (P.cellsOf fd.type)) = some y) → HoldsAll ks ((cs.drop off).take ks.length)
  | [], off, ks, h, _ => by
    simp only [flatFs, Option.some.injEq] at h
    subst h
    simp [HoldsAll]
  | fd :: rest, off, ks, h, hy => by
    simp only [flatFs] at h
    split at h
    · cases h
    · rename_i k1 hk1
      split at h
      · rename_i hc
        obtain ⟨ho, hl⟩ := hc
        simp only [Option.map_eq_some_iff] at h
        obtain ⟨k2, hk2, rfl⟩ := h
        obtain ⟨y, hy1⟩ := hy fd (by simp)
        have h1 := hf _ _ _ _ hk1 hy1
        have h2 := flat_fields hf rest (off + k1.length) k2 hk2 (fun g hg => hy g (by simp [hg]))
        rw [ho, ← hl] at h1
        have := h1.append h2
        rw [List.length_append, List.take_add, List.drop_drop]
        exact this
      · cases h

theorem flat_trod : ∀ (n : Nat) (t : TypeId) (ks : List FK) (fuel : Nat) (cs : List Value) (x : DataW H × List MemPlace), flatK P n t = some ks → DataW.trod enc P w base spare held fuel t cs = some x → HoldsAll ks cs
  | 0, _, _, _, _, _, h, _ => by simp [flatK] at h
  | n + 1, t, ks, fuel, cs, x, h, ht => by
    unfold flatK at h
    split at h
    · rename_i hu
      cases h
      obtain ⟨b, rfl, _⟩ := DataW.trod_bool hu ht
      exact ⟨⟨b, rfl⟩, trivial⟩
    · rename_i k hu
      cases h
      obtain ⟨m, rfl, _, hw⟩ := DataW.trod_int hu ht
      exact ⟨⟨m, rfl, hw⟩, trivial⟩
    · rename_i hu
      cases h
      obtain ⟨s, rfl, _, hs⟩ := DataW.trod_string hu ht
      exact ⟨⟨s, rfl, hs⟩, trivial⟩
    · rename_i fs hu
      split at h
      · rename_i ks' hk
        split at h
        · rename_i hl
          cases h
          obtain ⟨xs, m, rfl, _, hcl, hxl, hall⟩ := DataW.trod_struct hu ht
          have := flat_fields (cs := cs) (fun t' ks' cs' x' h1 h2 => flat_trod n t' ks' m cs' x' h1 h2) fs.toList 0 ks hk (fun fd hfd => by
            obtain ⟨i, hi, rfl⟩ := List.getElem_of_mem hfd
            have hi' : i < fs.size := by simpa using hi
            have := hall i fs.toList[i] (by simp [hi'])
            rw [this, List.getElem?_eq_getElem (by omega)]
            exact ⟨_, rfl⟩)
          rwa [List.drop_zero, hl, ← hcl, List.take_length] at this
        · cases h
      · cases h
    · cases h
end Go.Proofs.Ytmigkmdhenkpmaa
