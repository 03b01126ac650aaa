/- keep.Schedule: a valid schedule. -/
import Derived.Test.YtmigkmdhenkpmaaDepQ
import Derived.Test.YtmigkmdhenkpmaaDepR
import Derived.Deep.RegionHeld3
namespace Go.Proofs.Ytmigkmdhenkpmaa
open Go.RowKit

/-- one generated departure lies in block nd; the list so far is owned -/
structure St (B b : Nat) (w0 wi : World) (r : List Int) (v : Value) (l : List Dep) (nd : Nat) (cs : Array Value) : Prop where
  src : SrcR B wi b r
  own : DepT.Own w0.heap.size wi v l
  grow : w0.grownBy wi (some b)
  blk : wi.heap[nd]? = some (.cells cs 35 (0, 0))
  new : w0.heap.size ≤ nd
  apart : ∀ g, v.ownBlock = some g → g ≠ nd
  hb : b < w0.heap.size

theorem St.n {B b : Nat} {w0 wi w' : World} {r : List Int} {v : Value} {l : List Dep} {nd : Nat} {cs : Array Value} (h : St B b w0 wi r v l nd cs) (hs : SrcR B w' b r.tail) (hg : wi.grownBy w' (some b)) : St B b w0 w' r.tail v l nd cs where
  src := hs
  own := World.ownsRow.kept h.own hg (.inr (fun e => by have := (World.ownsRow.lt h.own b e).1; have := h.hb; omega))
  grow := grownBy_trans h.grow hg
  blk := (hg.block nd (lt_of_block h.blk) (by have := h.hb; have := h.new; simp; omega)).trans h.blk
  new := h.new
  apart := h.apart
  hb := h.hb

theorem St.set {B b : Nat} {w0 wi : World} {r : List Int} {v : Value} {l : List Dep} {nd : Nat} {cs : Array Value} (h : St B b w0 wi r v l nd cs) (j : Nat) (u : Value) : St B b w0 (wi.setCell ⟨nd, j, none⟩ u) r v l nd (cs.setIfInBounds j u) where
  src := h.src.other (grownBy_set wi nd j u) (fun g hg => by cases hg; have := h.hb; have := h.new; have := h.src.ge; exact ⟨by omega, by omega⟩)
  own := World.ownsRow.kept h.own (grownBy_set wi nd j u) (by
    rcases hv : v.ownBlock with _ | g
    · exact .inl rfl
    · exact .inr (by simpa using h.apart g hv))
  grow := by
    have h1 := grownBy_set wi nd j u
    exact ⟨h1.os.trans h.grow.os, h1.tape.trans h.grow.tape, h1.output.trans h.grow.output, Nat.le_trans h.grow.size h1.size, fun i hi hn => (h1.block i (Nat.lt_of_lt_of_le hi h.grow.size) (by have := h.new; simp; omega)).trans (h.grow.block i hi hn)⟩
  blk := (one_set h.blk rfl rfl).1
  new := h.new
  apart := h.apart
  hb := h.hb

theorem St.drew {B b : Nat} {w0 wi : World} {r : List Int} {v : Value} {l : List Dep} {nd : Nat} {cs : Array Value} (h : St B b w0 wi r v l nd cs) : St B b w0 wi.drew r v l nd cs :=
  ⟨h.src, h.own, ⟨h.grow.os, h.grow.tape, h.grow.output, h.grow.size, h.grow.block⟩, h.blk, h.new, h.apart, h.hb⟩

theorem St.alloc {B b : Nat} {w0 wi : World} {r : List Int} {v : Value} {l : List Dep} {nd : Nat} {cs : Array Value} (h : St B b w0 wi r v l nd cs) (o : Obj) : St B b w0 (wi.alloc o) r v l nd cs where
  src := h.src.below ((Below.refl _ _).alloc (Nat.le_refl _) _)
  own := World.ownsRow.alloc h.own _
  grow := grownBy_trans h.grow (World.grownBy_alloc _ _ _)
  blk := (((Below.refl wi.heap.size wi).alloc (Nat.le_refl _) o).block nd (lt_of_block h.blk)).trans h.blk
  new := h.new
  apart := h.apart
  hb := h.hb

/-- the last flight of a list -/
def lastF (p : Option Flt) (l : List Dep) : Option Flt :=
  match l with
  | [] => p
  | d :: l => lastF (some d.flt) l

theorem vErr_snoc (d : Dep) (hd : validD d = true) : ∀ (l : List Dep) (p : Option Flt), vErr p l = 0 → (∀ q, lastF p l = some q → cmpF q d.flt = -1) → vErr p (l ++ [d]) = 0
  | [], none, _, _ => by simp [vErr, hd]
  | [], some p, _, h => by
    have := h p rfl
    simp [vErr, hd, this]
  | x :: l, none, h, hq => by
    simp only [vErr, List.cons_append] at h ⊢
    split at h
    · rename_i hx
      rw [if_pos hx]
      exact vErr_snoc d hd l _ h hq
    · omega
  | x :: l, some p, h, hq => by
    simp only [vErr, List.cons_append] at h ⊢
    split at h
    · rename_i hx
      rw [if_pos hx]
      split at h
      · omega
      · rename_i h1
        rw [if_neg h1]
        split at h
        · omega
        · rename_i h2
          rw [if_neg h2]
          exact vErr_snoc d hd l _ h hq
    · omega

theorem lastF_snoc (d : Dep) : ∀ (l : List Dep) (p : Option Flt), lastF p (l ++ [d]) = some d.flt
  | [], _ => rfl
  | _ :: l, _ => lastF_snoc d l _

theorem FL_up : ∀ j, j < 27 → ∀ i, i < j → cmpF (FL i) (FL j) = -1 := by decide +kernel
theorem FL_ok : ∀ j, j < 27 → validF (FL j) = true := by decide +kernel

def SchedPost (B b most : Nat) (w : World) (e : Ending) (w' : World) : Prop :=
  ∃ v l r, e = .returned v ∧ DepT.Own w.heap.size w' v l ∧ l.length ≤ most ∧ vErr none l = 0 ∧ SrcR B w' b r ∧ w.grownBy w' (some b)
end Go.Proofs.Ytmigkmdhenkpmaa
