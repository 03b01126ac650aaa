/- The abstract walk of operations. Nothing of the dump is used here. -/
import Derived.Test.YtkefkegknacpjaaAxS
namespace Go.Proofs.Ytkefkegknacpjaa.Ax
open Go.RowKit
set_option linter.unusedVariables false
set_option linter.unusedSimpArgs false

def chunkA (sz : Nat) : Nat → List AV → List (List AV)
  | 0, _ => []
  | n + 1, c => c.take sz :: chunkA sz n (c.drop sz)

theorem chunk_len (sz : Nat) : ∀ (n : Nat) (c : List AV), (chunkA sz n c).length = n
  | 0, c => rfl
  | n + 1, c => by simp [chunkA, chunk_len sz n]

theorem chunk_at (sz : Nat) : ∀ (n : Nat) (c : List AV) (k : Nat) (e : List AV), (chunkA sz n c)[k]? = some e → k < n ∧ e = (c.drop (k * sz)).take sz
  | 0, c, k, e, h => by simp [chunkA] at h
  | n + 1, c, 0, e, h => by simp [chunkA] at h; simp [h]
  | n + 1, c, k + 1, e, h => by
    obtain ⟨h1, h2⟩ := chunk_at sz n (c.drop sz) k e (by simpa [chunkA] using h)
    refine ⟨by omega, ?_⟩
    rw [h2, List.drop_drop, Nat.succ_mul, Nat.add_comm sz]

theorem chunk_flat {w : World} {F : Nat → Prop} {β : Nat → Option Hdr} {c : List AV} {arr : Array Value} {sz n : Nat} (h : RVs w F β c arr) (hl : c.length = n * sz) (h1 : c.all AV.one = true) : Flat w F β sz (chunkA sz n c) arr.toList := by
  have hlen : ∀ (k : Nat), k < n → ((c.drop (k * sz)).take sz).length = sz := fun k hk => by
    have : (k + 1) * sz ≤ n * sz := Nat.mul_le_mul_right _ hk
    rw [Nat.succ_mul] at this
    simp only [List.length_take, List.length_drop]
    omega
  refine ⟨by rw [chunk_len, Array.length_toList, ← h.1, hl], fun k e hk => ?_, fun k e j u hk hj => ?_⟩
  · obtain ⟨hkn, rfl⟩ := chunk_at sz n c k e hk
    refine ⟨hlen k hkn, fun u hu => ?_⟩
    rw [List.all_eq_true] at h1
    exact h1 u (List.mem_of_mem_drop (List.mem_of_mem_take hu))
  · obtain ⟨_, rfl⟩ := chunk_at sz n c k e hk
    rw [List.getElem?_take, List.getElem?_drop] at hj
    split at hj
    · obtain ⟨v, e1, e2⟩ := h.at hj
      exact ⟨v, by rw [Array.getElem?_toList]; exact e1, e2⟩
    · cases hj

theorem ok_buildSlice {P : Program} {tab : Tab} (hT : TabOK P tab) {g : Nat} {o : Oper} {σ : ASt} {t e : TypeId} {ti : TI} {sz eb : Nat} {ez : List AV} {n : Nat} {parts : Array (Nat × Operand)} {c : List AV} (ho : o.op = .buildSlice t n parts) (ht : tab t = some ti) (hd : ti.d = .slc e sz eb ez) (hez : ez.length = sz)
    (hn : n * sz ≤ 16777216) (hm : n ≤ 16777216) (hc : fillA ((List.range n).map fun i => (i * sz, sz)) (List.replicate (n * sz) .any) (parts.toList.map fun p => (p.1, ev σ.env p.2)) = some c) (h1 : c.all AV.one = true) (hl : c.length = n * sz) :
    OpOK P g o σ ⟨.osl σ.n, [(σ.n, some (.row sz (chunkA sz n c)))], [], σ.n + 1⟩ := by
  refine ⟨Nat.le_succ _, fun C I σ2 a w K Q hC hxs hH hI hdd hR hK => ?_⟩
  obtain ⟨β, F, hR⟩ := hR
  have hnI : ¬ I σ.n := hI σ.n (Nat.le_refl _) (Nat.lt_succ_self _)
  obtain ⟨i0, d0, z0, _, k1, _, _, _, _, k2⟩ := ty_parts (hT t ti ht)
  rw [hd] at k2
  obtain ⟨i, z, rfl, k3, rfl, rfl, k4, rfl⟩ := td_slc k2.symm
  have hz : (zeroValue e).run P w = .ok z w := by simp [zeroValue, run_typeInfo w k3, k4]
  -- the cells before the parts are put in
  have hbig : ¬ 16777216 < n * i.size := by omega
  obtain ⟨zc, hzc⟩ : ∃ zc : Array Value, (n * i.size = 0 ∧ zc = #[]) ∨ (n * i.size ≠ 0 ∧ zc = z.cells) := by
    by_cases h0 : n * i.size = 0
    · exact ⟨_, .inl ⟨h0, rfl⟩⟩
    · exact ⟨_, .inr ⟨h0, rfl⟩⟩
  obtain ⟨init, hinit⟩ : ∃ init : Array Value, init = (Array.range (n * i.size)).map (zc[· % zc.size]!) := ⟨_, rfl⟩
  have hisz : init.size = n * i.size := by rw [hinit]; simp
  have hany : RVs w F β (List.replicate (n * i.size) .any) init := ⟨by simp [hisz], fun j u v hu _ => by rw [List.eq_of_mem_replicate (List.mem_of_getElem? hu)]; exact .any v⟩
  have hparts := parts_of (w := w) (F := F) (β := β) (env := σ.env) (a := a) (parts := parts) (fun y hy => hxs y (by simp [ho, Op.operands] at hy ⊢; exact hy) _ _ _ _ (hR.ev y))
  obtain ⟨cs', e1, e2⟩ := fill_ok (pl := fun k => some (k * i.size, i.size)) (place := (List.range n).map fun k => (k * i.size, i.size)) (fun k p h => by
    rw [List.getElem?_map] at h
    by_cases hk : k < n
    · simp [hk] at h; exact congrArg some h
    · simp [hk] at h) _ (parts.map fun p => (p.1, a.eval p.2)).toList _ _ init hc hany (by simp) hparts
  have hrun : (execOp a.eval o).run P w = .ok (.value (.slice (some ⟨w.heap.size, 0, none⟩) n n)) (w.alloc (.cells cs' e)) := by
    simp only [execOp, ho, Instr.buildSlice, Sem.run_bind, run_underlying k1, Result.andThen_ok, run_sizeOf w k3]
    rw [if_neg (by simpa using hbig)]
    rcases hzc with ⟨h0, rfl⟩ | ⟨h0, rfl⟩
    · rw [if_pos h0]
      simp only [Sem.run_bind, Sem.run_pure, Result.andThen_ok, ← hinit, e1, run_newRow']
    · rw [if_neg h0]
      simp only [Sem.run_bind, Sem.run_pure, Result.andThen_ok, hz, ← hinit, e1, run_newRow']
  have hns := same_alloc w (.cells cs' e)
  have hcs := e2.news hR hnI ⟨some w.heap.size, n, n⟩ (.cells cs' e)
  have hfl := chunk_flat (n := n) hcs hl h1
  have hblk := flat_blk hfl (heap_alloc_new w _) (fun p hp => by simp) (cap := n) (by rw [← hcs.1, hl]; exact Nat.le_refl _) (by rw [chunk_len]; exact Nat.le_refl _) (by
    simp only [maxLen]
    omega)
  rw [chunk_len] at hblk
  have h2 := hR.new hnI hns ⟨some w.heap.size, n, n⟩ (fun j e => by cases e; exact ⟨Nat.le_refl _, by simp⟩) _ hblk
  exact upon_value hrun (hK _ _ ⟨_, F, (h2.put o.dst (.osl σ.n) _ hdd (.osl σ.n ⟨some w.heap.size, n, n⟩ (setB_same _ _ _))).fin rfl rfl (fun i hi => one_id hi)⟩)
end Go.Proofs.Ytkefkegknacpjaa.Ax
