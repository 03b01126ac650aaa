/- Insertion into a row that the call owns: what is told of the row behind it. Nothing of the dump is used here. -/
import Derived.Test.YtpipggnfbgjefaaAxS
import Derived.Laws.IdiomCopy
namespace Go.Proofs.Ytpipggnfbgjefaa.Ax
open Go.RowKit
set_option linter.unusedVariables false
set_option linter.unusedSimpArgs false

theorem setCells_row (P : Program) (w : World) (b o : Nat) (cur : Array Value) (ty : TypeId) (vs : List Value) (hg : w.heap[b]? = some (.cells cur ty (0, 0))) (hf : o + vs.length ≤ cur.size) (h1 : ∀ v ∈ vs, v.oneCell' = true) :
    w.setCells b o vs = w.setRow b (cur.toList.take o ++ vs ++ cur.toList.drop (o + vs.length)).toArray := by
  have e1 := run_storeCells_at P b o ty vs 0 cur w hg (by simpa using hf) h1
  have e2 := run_storeCells_cells (P := P) b o vs 0 w (fun j hj => by
    have : o + 0 + j < cur.size := by omega
    simp [World.cell?, hg, this]; omega) (fun j hj => by simp [World.frozen?, hg]) h1
  simp only [Nat.add_zero] at e1 e2
  rw [e1] at e2
  injection e2 with _ e3
  exact e3.symm

theorem Flat.take {w : World} {F : Nat → Prop} {β : Nat → Option Hdr} {sz : Nat} {xs : List (List AV)} {cs : List Value} (h : Flat w F β sz xs cs) {i : Nat} (hi : i ≤ xs.length) : Flat w F β sz (xs.take i) (cs.take (i * sz)) := by
  obtain ⟨h1, h2, h3⟩ := h
  have hle : i * sz ≤ cs.length := by rw [h1]; exact Nat.mul_le_mul_right _ hi
  refine ⟨by rw [List.length_take, List.length_take, Nat.min_eq_left hle, Nat.min_eq_left hi], fun k c hk => ?_, fun k c j u hk hj => ?_⟩
  · rw [List.getElem?_take] at hk
    split at hk
    · exact h2 k c hk
    · cases hk
  · rw [List.getElem?_take] at hk
    split at hk
    · rename_i hki
      obtain ⟨v, e1, e2⟩ := h3 k c j u hk hj
      have hj' := (List.getElem?_eq_some_iff.1 hj).1
      rw [(h2 k c hk).1] at hj'
      exact ⟨v, by rw [List.getElem?_take, if_pos (flat_lt hki hj')]; exact e1, e2⟩
    · cases hk

theorem Flat.drop {w : World} {F : Nat → Prop} {β : Nat → Option Hdr} {sz : Nat} {xs : List (List AV)} {cs : List Value} (h : Flat w F β sz xs cs) (i : Nat) : Flat w F β sz (xs.drop i) (cs.drop (i * sz)) := by
  obtain ⟨h1, h2, h3⟩ := h
  refine ⟨by rw [List.length_drop, List.length_drop, h1, Nat.sub_mul], fun k c hk => ?_, fun k c j u hk hj => ?_⟩
  · rw [List.getElem?_drop] at hk
    exact h2 _ c hk
  · rw [List.getElem?_drop] at hk
    obtain ⟨v, e1, e2⟩ := h3 _ c j u hk hj
    exact ⟨v, by rw [List.getElem?_drop, ← e1]; congr 1; rw [Nat.add_mul]; omega, e2⟩

/-- the row behind an insertion comes back under a new id; the other row stays -/
theorem ins_rel {C : Ctx} {args : List AV} {sz : Nat} {xs ys zs : List (List AV)} {a : Act} {w w' : World} {β : Nat → Option Hdr} {F : Nat → Prop} (h : RelB C (Below' 2) (entry args [.row sz xs, .row sz ys]) a w β F) {g : Hdr} (hg : β 0 = some g) (g' : Hdr) (hs : Same w w' g.blk)
    (hg' : g'.blk = g.blk ∨ ∃ b, g'.blk = some b ∧ w.heap.size ≤ b ∧ b < w'.heap.size) (hb : BlkR w' F (setB β 2 g') g' (.row sz zs)) :
    Rel { C with nt := 1 } (Below' 3) (entry [.osl 2] [.dead, .row sz ys, .row sz zs]) ⟨#[.slice (ownBase g'.blk 0) g'.len g'.cap], []⟩ w' := by
  obtain ⟨g0, q1, _, q3⟩ := h.live 0 _ rfl
  obtain ⟨g1, p1, _, p3⟩ := h.live 1 _ rfl
  rw [hg] at q1
  cases q1
  have hn : ¬ Below' 2 2 := fun (e : 2 < 2) => by omega
  have hβ := setB_le g' (h.fresh hn)
  have h01 : ∀ i, g.blk = some i → g1.blk = some i → False := fun i e1 e2 => by
    have := h.inj 0 1 _ _ g g1 i rfl rfl hg p1 e1 e2
    omega
  have hH : ∀ id k, (entry [.osl 2] [.dead, .row sz ys, .row sz zs]).H id = some k → (id = 1 ∧ k = .row sz ys) ∨ (id = 2 ∧ k = .row sz zs) := fun id k e => by
    obtain ⟨e1, e2⟩ := entry_H e
    match id, e1 with
    | 0, e1 => cases e1; cases e2
    | 1, e1 => cases e1; exact .inl ⟨rfl, rfl⟩
    | 2, e1 => cases e1; exact .inr ⟨rfl, rfl⟩
  have h1' : setB β 2 g' 1 = some g1 := hβ 1 g1 p1
  have hd : ∀ i, g1.blk = some i → g'.blk = some i → False := fun i e1 e2 => by
    rcases hg' with e | ⟨b, e, e3, _⟩
    · exact h01 i (e ▸ e2) e1
    · rw [e] at e2
      cases e2
      have := (p3 _ e1).1
      omega
  have q := h.step hs (fun i e => by
      obtain ⟨r1, r2, r3⟩ := q3 i e
      refine ⟨r2, fun hi => ?_⟩
      rcases r3 with r3 | r3
      · exact r3
      · omega) (Below' 3) (fun i (hi : i < 2) => (show i < 3 by omega)) (entry [.osl 2] [.dead, .row sz ys, .row sz zs]).H (setB β 2 g') hβ (fun id g2 e => by
      by_cases hid : id = 2
      · subst hid; exact (show 2 < 3 by omega)
      · unfold setB at e; rw [if_neg hid] at e
        have : id < 2 := h.dom id g2 e
        exact (show id < 3 by omega)) (fun id k e => by
      rcases hH id k e with ⟨rfl, rfl⟩ | ⟨rfl, rfl⟩
      · refine .inl ⟨rfl, fun g2 i e1 e2 e3 => ?_⟩
        rw [p1] at e1
        cases e1
        exact h01 i e3.symm e2
      · refine .inr ⟨g', setB_same _ _ _, hb, fun i hi => ?_⟩
        rcases hg' with e2 | ⟨b, e2, e3, e4⟩
        · obtain ⟨r1, r2, r3⟩ := q3 i (e2 ▸ hi)
          exact ⟨Nat.lt_of_lt_of_le r1 hs.size, r2, r3⟩
        · rw [e2] at hi
          cases hi
          exact ⟨e4, fun hf => by have := (h.news _ hf).1; omega, .inr (Nat.le_trans h.grow e3)⟩) (fun id id' k k' g2 g3 i e1 e2 e3 e4 e5 e6 => by
      rcases hH id k e1 with ⟨rfl, rfl⟩ | ⟨rfl, rfl⟩ <;> rcases hH id' k' e2 with ⟨rfl, rfl⟩ | ⟨rfl, rfl⟩
      · rfl
      · rw [h1'] at e3; rw [setB_same] at e4; cases e3; cases e4; exact (hd i e5 e6).elim
      · rw [h1'] at e4; rw [setB_same] at e3; cases e3; cases e4; exact (hd i e6 e5).elim
      · rfl)
  refine ⟨setB β 2 g', F, ⟨fun t => ?_, rfl, rfl, q.live, q.inj, q.dom, q.gr, q.sub, q.news, q.os, q.tape, q.output, q.grow, q.block, q.glo⟩⟩
  match t with
  | 0 => exact .osl 2 g' (setB_same _ _ _)
  | t + 1 => exact .any _

/-- a block that came back may be given up -/
theorem rel_dead1 {C : Ctx} {res : AV} {sz : Nat} {ys : List (List AV)} {z : ABlk} {a : Act} {w : World} (h : Rel C (Below' 3) (entry [res] [.dead, .row sz ys, z]) a w) : Rel C (Below' 3) (entry [res] [.dead, .dead, z]) a w := by
  obtain ⟨β, F, h⟩ := h
  have hH : ∀ id k, (entry [res] [.dead, .dead, z]).H id = some k → (entry [res] [.dead, .row sz ys, z]).H id = some k := fun id k e => by
    match id, e with
    | 0, e => exact e
    | 1, e => cases e
    | n + 2, e => exact e
  exact ⟨β, F, ⟨h.env, h.size, h.defers, fun id k e => h.live id k (hH id k e), fun id id' k k' g g' b e1 e2 => h.inj id id' k k' g g' b (hH id k e1) (hH id' k' e2), h.dom, h.gr, h.sub, h.news, h.os, h.tape, h.output, h.grow, h.block, h.glo⟩⟩
end Go.Proofs.Ytpipggnfbgjefaa.Ax
