/- Abstract operations that change the world: blocks made, written, taken over. Nothing of the dump is used here. -/
import Derived.Test.YtkefkegknacpjaaAxD
import Derived.OwnWalkIn
namespace Go.Proofs.Ytkefkegknacpjaa.Ax
open Go.RowKit
set_option linter.unusedVariables false
set_option linter.unusedSimpArgs false

def setB (β : Nat → Option Hdr) (n : Nat) (h : Hdr) : Nat → Option Hdr := fun id => if id = n then some h else β id

theorem setB_le {β : Nat → Option Hdr} {n : Nat} (h : Hdr) (hn : β n = none) : ∀ id g, β id = some g → setB β n h id = some g := by
  intro id g e
  unfold setB
  split
  · rename_i e'; rw [e', hn] at e; cases e
  · exact e

section
variable {C : Ctx} {I : Nat → Prop} {σ : ASt} {a : Act} {w : World} {β : Nat → Option Hdr} {F : Nat → Prop}

theorem RelB.fresh (h : RelB C I σ a w β F) {n : Nat} (hn : ¬ I n) : β n = none := by
  cases e : β n with
  | none => rfl
  | some g => exact absurd (h.dom n g e) hn

theorem RelB.noH (h : RelB C I σ a w β F) {n : Nat} (hn : ¬ I n) : σ.H n = none := by
  cases e : σ.H n with
  | none => rfl
  | some k =>
    obtain ⟨g, h1, _⟩ := h.live n k e
    exact absurd (h.dom n g h1) hn

/-- a world that differs in no block that is known, with the same streams -/
structure Same (w w' : World) (b : Option Nat) : Prop where
  os : w'.os = w.os
  tape : w'.tape = w.tape
  output : w'.output = w.output
  size : w.heap.size ≤ w'.heap.size
  block : ∀ i, i < w.heap.size → some i ≠ b → w'.heap[i]? = w.heap[i]?

/-- the world grows, or changes in the block of one id; what is known is told anew -/
theorem RelB.step (h : RelB C I σ a w β F) {w' : World} {b : Option Nat} (hs : Same w w' b) (hb : ∀ i, b = some i → ¬ F i ∧ (i < C.w0.heap.size → ∃ h ∈ C.γ, h.blk = some i)) (I' : Nat → Prop) (hI : ∀ i, I i → I' i) (H' : Nat → Option ABlk) (β' : Nat → Option Hdr) (hβ : ∀ id g, β id = some g → β' id = some g) (hdom : ∀ id g, β' id = some g → I' id)
    (hlive : ∀ id k, H' id = some k → (σ.H id = some k ∧ ∀ g i, β id = some g → g.blk = some i → some i ≠ b) ∨ ∃ g, β' id = some g ∧ BlkR w' F β' g k ∧ ∀ i, g.blk = some i → i < w'.heap.size ∧ ¬ F i ∧ C.Mine i)
    (hinj : ∀ id id' k k' g g' i, H' id = some k → H' id' = some k' → β' id = some g → β' id' = some g' → g.blk = some i → g'.blk = some i → id = id') : RelB C I' { σ with H := H' } a w' β' F := by
  have hF : ∀ i, F i → w'.heap[i]? = w.heap[i]? := fun i hi => hs.block i (h.news i hi).1 (fun e => (hb i e.symm).1 hi)
  refine ⟨fun t => (h.env t).mono (fun _ x => x) hF hβ, h.size, h.defers, fun id k hk => ?_, hinj, hdom, fun i g e => hβ _ _ (h.gr i g e), h.sub, fun i hi => ⟨Nat.lt_of_lt_of_le (h.news i hi).1 hs.size, (h.news i hi).2⟩, hs.os.trans h.os, hs.tape.trans h.tape, hs.output.trans h.output, Nat.le_trans h.grow hs.size, fun i hi hn => ?_, fun g => (h.glo g).mono (fun _ x => x) hF (fun _ _ e => e)⟩
  · rcases hlive id k hk with ⟨h1, h2⟩ | h1
    · obtain ⟨g, e1, e2, e3⟩ := h.live id k h1
      refine ⟨g, hβ _ _ e1, e2.mono (fun _ x => x) hF (fun i hi => hs.block i (e3 i hi).1 (h2 g i e1 hi)) hβ, fun i hi => ⟨Nat.lt_of_lt_of_le (e3 i hi).1 hs.size, (e3 i hi).2⟩⟩
    · exact h1
  · rw [hs.block i (Nat.lt_of_lt_of_le hi h.grow) (fun e => by obtain ⟨g, e1, e2⟩ := (hb i e.symm).2 hi; exact hn g e1 e2)]
    exact h.block i hi hn

/-- a new block with a new id -/
theorem RelB.new (h : RelB C I σ a w β F) {n : Nat} (hn : ¬ I n) {w' : World} (hs : Same w w' none) (g : Hdr) (hg : ∀ i, g.blk = some i → w.heap.size ≤ i ∧ i < w'.heap.size) (k : ABlk) (hk : BlkR w' F (setB β n g) g k) :
    RelB C (fun i => I i ∨ i = n) { σ with H := setH σ.H n (some k) } a w' (setB β n g) F := by
  have hβ := setB_le g (h.fresh hn)
  refine h.step hs (fun i e => by cases e) _ (fun i hi => .inl hi) _ _ hβ (fun id g' e => ?_) (fun id k' e => ?_) (fun id id' k1 k2 g1 g2 i e1 e2 e3 e4 e5 e6 => ?_)
  · unfold setB at e
    split at e
    · exact .inr ‹_›
    · exact .inl (h.dom _ _ e)
  · by_cases hid : id = n
    · subst hid
      rw [setH_same] at e
      cases e
      exact .inr ⟨g, by simp [setB], hk, fun i hi => ⟨(hg i hi).2, fun hF => by have := (h.news i hF).1; have := (hg i hi).1; omega, .inr (Nat.le_trans h.grow (hg i hi).1)⟩⟩
    · rw [setH_ne _ _ hid] at e
      exact .inl ⟨e, fun _ _ _ _ => by simp⟩
  · have old : ∀ {id1 k1 g1 i1}, id1 ≠ n → setH σ.H n (some k) id1 = some k1 → setB β n g id1 = some g1 → g1.blk = some i1 → i1 < w.heap.size := fun {id1 k1 g1 i1} hid e e' hi => by
      rw [setH_ne _ _ hid] at e
      rw [setB, if_neg hid] at e'
      obtain ⟨g', q1, _, q3⟩ := h.live id1 k1 e
      rw [e'] at q1
      cases q1
      exact (q3 i1 hi).1
    by_cases hid : id = n <;> by_cases hid' : id' = n
    · rw [hid, hid']
    · have q := old hid' e2 e4 e6
      rw [hid, setB, if_pos rfl] at e3
      cases e3
      have := (hg i e5).1
      omega
    · have q := old hid e1 e3 e5
      rw [hid', setB, if_pos rfl] at e4
      cases e4
      have := (hg i e6).1
      omega
    · rw [setH_ne _ _ hid] at e1
      rw [setH_ne _ _ hid'] at e2
      rw [setB, if_neg hid] at e3
      rw [setB, if_neg hid'] at e4
      exact h.inj id id' k1 k2 g1 g2 i e1 e2 e3 e4 e5 e6

/-- the block of an id is written -/
theorem RelB.write (h : RelB C I σ a w β F) {id : Nat} {k : ABlk} (hk : σ.H id = some k) {g : Hdr} (hg : β id = some g) {b : Nat} (hb : g.blk = some b) {w' : World} (hs : Same w w' (some b)) (k' : ABlk) (hk' : BlkR w' F β g k') :
    RelB C I { σ with H := setH σ.H id (some k') } a w' β F := by
  obtain ⟨g0, q1, _, q3⟩ := h.live id k hk
  rw [hg] at q1
  cases q1
  obtain ⟨r1, r2, r3⟩ := q3 b hb
  refine h.step hs (fun i e => ?_) _ (fun i hi => hi) _ _ (fun _ _ e => e) (fun id g' e => h.dom id g' e) (fun id' k2 e => ?_) (fun id1 id2 k1 k2 g1 g2 i e1 e2 e3 e4 e5 e6 => ?_)
  · cases e
    refine ⟨r2, fun hlt => ?_⟩
    rcases r3 with r3 | r3
    · exact r3
    · omega
  · by_cases hid : id' = id
    · subst hid
      rw [setH_same] at e
      cases e
      exact .inr ⟨g, hg, hk', fun i hi => by rw [hb] at hi; cases hi; exact ⟨Nat.lt_of_lt_of_le r1 hs.size, r2, r3⟩⟩
    · rw [setH_ne _ _ hid] at e
      refine .inl ⟨e, fun g' i e1 e2 e3 => hid ?_⟩
      cases e3
      exact h.inj id' id k2 k g' g _ e hk e1 hg e2 hb
  · have old : ∀ {id1 k1}, setH σ.H id (some k') id1 = some k1 → ∃ k, σ.H id1 = some k := fun {id1 k1} e => by
      by_cases hid : id1 = id
      · subst hid; exact ⟨k, hk⟩
      · rw [setH_ne _ _ hid] at e; exact ⟨_, e⟩
    obtain ⟨_, o1⟩ := old e1
    obtain ⟨_, o2⟩ := old e2
    exact h.inj id1 id2 _ _ g1 g2 i o1 o2 e3 e4 e5 e6

/-- a block goes over to another id -/
theorem RelB.take (h : RelB C I σ a w β F) {id n : Nat} {k : ABlk} (hk : σ.H id = some k) {g : Hdr} (hg : β id = some g) (hn : ¬ I n) (g' : Hdr) (hb : g'.blk = g.blk) (k' : ABlk) (hk' : BlkR w F (setB β n g') g' k') :
    RelB C (fun i => I i ∨ i = n) { σ with H := setH (setH σ.H id none) n (some k') } a w (setB β n g') F := by
  have hβ := setB_le g' (h.fresh hn)
  obtain ⟨g0, q1, _, q3⟩ := h.live id k hk
  rw [hg] at q1
  cases q1
  have hnid : n ≠ id := fun e => hn (e ▸ h.dom id g hg)
  have old : ∀ {id1 k1}, id1 ≠ n → setH (setH σ.H id none) n (some k') id1 = some k1 → id1 ≠ id ∧ σ.H id1 = some k1 := fun {id1 k1} h1 e => by
    rw [setH_ne _ _ h1] at e
    by_cases hid : id1 = id
    · subst hid; rw [setH_same] at e; cases e
    · rw [setH_ne _ _ hid] at e; exact ⟨hid, e⟩
  refine h.step (w' := w) (b := none) ⟨rfl, rfl, rfl, Nat.le_refl _, fun _ _ _ => rfl⟩ (fun i e => by cases e) _ (fun i hi => .inl hi) _ _ hβ (fun id g' e => ?_) (fun id1 k1 e => ?_) (fun id1 id2 k1 k2 g1 g2 i e1 e2 e3 e4 e5 e6 => ?_)
  · unfold setB at e
    split at e
    · exact .inr ‹_›
    · exact .inl (h.dom _ _ e)
  · by_cases hid : id1 = n
    · subst hid
      rw [setH_same] at e
      cases e
      refine .inr ⟨g', by simp [setB], hk', fun i hi => ?_⟩
      obtain ⟨r1, r2, r3⟩ := q3 i (hb ▸ hi)
      exact ⟨r1, r2, r3⟩
    · exact .inl ⟨(old hid e).2, fun _ _ _ _ => by simp⟩
  · by_cases hid : id1 = n <;> by_cases hid' : id2 = n
    · rw [hid, hid']
    · obtain ⟨o1, o2⟩ := old hid' e2
      rw [setB, if_neg hid'] at e4
      rw [hid, setB, if_pos rfl] at e3
      cases e3
      exact absurd (h.inj id2 id k2 k g2 g i o2 hk e4 hg e6 (hb ▸ e5)) o1
    · obtain ⟨o1, o2⟩ := old hid e1
      rw [setB, if_neg hid] at e3
      rw [hid', setB, if_pos rfl] at e4
      cases e4
      exact absurd (h.inj id1 id k1 k g1 g i o2 hk e3 hg e5 (hb ▸ e6)) o1
    · rw [setB, if_neg hid] at e3
      rw [setB, if_neg hid'] at e4
      exact h.inj id1 id2 k1 k2 g1 g2 i (old hid e1).2 (old hid' e2).2 e3 e4 e5 e6

/-- what is known of a block is forgotten -/
theorem RelB.kill (h : RelB C I σ a w β F) (id : Nat) : RelB C I { σ with H := setH σ.H id none } a w β F := by
  have old : ∀ {id1 k1}, setH σ.H id none id1 = some k1 → σ.H id1 = some k1 := fun {id1 k1} e => by
    by_cases hid : id1 = id
    · subst hid; rw [setH_same] at e; cases e
    · rwa [setH_ne _ _ hid] at e
  exact { h with live := fun id k e => h.live id k (old e), inj := fun id1 id2 k1 k2 g1 g2 i e1 e2 => h.inj id1 id2 k1 k2 g1 g2 i (old e1) (old e2) }

/-- a block is only read from now on -/
theorem RelB.freeze (h : RelB C I σ a w β F) {id : Nat} {k : ABlk} (hk : σ.H id = some k) {g : Hdr} (hg : β id = some g) : RelB C I { σ with H := setH σ.H id none } a w β (fun b => F b ∨ g.blk = some b) := by
  have old : ∀ {id1 k1}, setH σ.H id none id1 = some k1 → id1 ≠ id ∧ σ.H id1 = some k1 := fun {id1 k1} e => by
    by_cases hid : id1 = id
    · subst hid; rw [setH_same] at e; cases e
    · rw [setH_ne _ _ hid] at e; exact ⟨hid, e⟩
  obtain ⟨g0, q1, _, q3⟩ := h.live id k hk
  rw [hg] at q1
  cases q1
  have hF : ∀ b, F b → F b ∨ g.blk = some b := fun b hb => .inl hb
  refine ⟨fun t => (h.env t).mono hF (fun _ _ => rfl) (fun _ _ e => e), h.size, h.defers, fun id1 k1 e1 => ?_, fun id1 id2 k1 k2 g1 g2 i e1 e2 => h.inj id1 id2 k1 k2 g1 g2 i (old e1).2 (old e2).2, h.dom, h.gr, fun b hb => .inl (h.sub b hb), fun b hb => ?_, h.os, h.tape, h.output, h.grow, h.block, fun g => (h.glo g).mono hF (fun _ _ => rfl) (fun _ _ e => e)⟩
  · obtain ⟨o1, o2⟩ := old e1
    obtain ⟨g1, s1, s2, s3⟩ := h.live id1 k1 o2
    refine ⟨g1, s1, s2.mono hF (fun _ _ => rfl) (fun _ _ => rfl) (fun _ _ e => e), fun b hb => ⟨(s3 b hb).1, fun hF' => ?_, (s3 b hb).2.2⟩⟩
    rcases hF' with hF' | hF'
    · exact (s3 b hb).2.1 hF'
    · exact o1 (h.inj id1 id k1 k g1 g b o2 hk s1 hg hb hF')
  · rcases hb with hb | hb
    · exact h.news b hb
    · exact ⟨(q3 b hb).1, .inr (q3 b hb).2.2⟩
end
end Go.Proofs.Ytkefkegknacpjaa.Ax
