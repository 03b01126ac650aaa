/- Abstract operations: append, make, composite slices, stores, as steps of a walk. Nothing of the dump is used here. -/
import Derived.Test.YtkefkegknacpjaaAxH
namespace Go.Proofs.Ytkefkegknacpjaa.Ax
open Go.RowKit
set_option linter.unusedVariables false
set_option linter.unusedSimpArgs false

theorem wrH_app (H : Nat → Option ABlk) : ∀ (l m : List (Nat × Option ABlk)), wrH H (l ++ m) = wrH (wrH H l) m
  | [], m => rfl
  | (i, k) :: l, m => by simp only [List.cons_append, wrH]; exact wrH_app _ l m

theorem wrH_one (H : Nat → Option ABlk) : ∀ (l : List (Nat × Option ABlk)) (id : Nat), id ∉ l.map (·.1) → wrH H l id = H id
  | [], id, _ => rfl
  | (i, k) :: l, id, h => by
    simp only [List.map_cons, List.mem_cons, not_or] at h
    simp only [wrH]
    rw [wrH_one _ l id h.2, setH_ne _ _ h.1]

theorem cont_same {H H2 : Nat → Option ABlk} {v : AV} {sz : Nat} {ys : List (List AV)} {ids : List Nat} (h : Cont H v sz ys ids) (he : ∀ id ∈ ids, H2 id = H id) : Cont H2 v sz ys ids := by
  rcases h with h | h | ⟨id, h1, h2, h3⟩ | ⟨id, lo, hi, mx, xs, h1, h2, h3⟩
  · exact .inl h
  · exact .inr (.inl h)
  · exact .inr (.inr (.inl ⟨id, h1, by rw [he id (by simp [h3])]; exact h2, h3⟩))
  · exact .inr (.inr (.inr ⟨id, lo, hi, mx, xs, h1, by rw [he id (by simp [h3.2.2.2.2])]; exact h2, h3⟩))

theorem owns_same {H H2 : Nat → Option ABlk} {g : Nat} {v : AV} {sz : Nat} {xs : List (List AV)} {wr : List (Nat × Option ABlk)} (h : OwnS H g v sz xs wr) (he : ∀ id ∈ wr.map (·.1), H2 id = H id) : OwnS H2 g v sz xs wr := by
  rcases h with h | ⟨id, h1, h2, h4⟩ | ⟨id, hi, mx, ys, h1, h2, h3, h4, h5, h6⟩
  · exact .inl h
  · exact .inr (.inl ⟨id, h1, by rw [he id (by simp [h4])]; exact h2, h4⟩)
  · exact .inr (.inr ⟨id, hi, mx, ys, h1, by rw [he id (by simp [h6])]; exact h2, h3, h4, h5, h6⟩)

theorem RelB.known {C : Ctx} {I : Nat → Prop} {σ : ASt} {a : Act} {w : World} {β : Nat → Option Hdr} {F : Nat → Prop} (h : RelB C I σ a w β F) (ids : List Nat) : Known σ.H ids w F β := fun id _ k hk => by
  obtain ⟨g, h1, h2, _⟩ := h.live id k hk
  exact ⟨g, h1, h2⟩

theorem ok_append {P : Program} {tab : Tab} (hT : TabOK P tab) {g : Nat} {o : Oper} {σ : ASt} {s x : Operand} {t e : TypeId} {ti : TI} {sz eb : Nat} {ez : List AV} {xs ys : List (List AV)} {wr : List (Nat × Option ABlk)} {ids : List Nat}
    (ho : o.op = .call { callee := .builtin .append, args := #[s, x], argTypes := #[t, t] }) (ht : tab t = some ti) (hd : ti.d = .slc e sz eb ez) (hez : ez.length = sz)
    (hs : OwnS σ.H g (ev σ.env s) sz xs wr) (hx : Cont σ.H (ev σ.env x) sz ys ids) (hb : (xs.length + ys.length) * eb ≤ 140737488355328) (h63 : xs.length + ys.length ≤ maxLen) :
    OpOK P g o σ ⟨.osl σ.n, wr ++ [(σ.n, some (.row sz (xs ++ ys)))], ids, σ.n + 1⟩ := by
  refine ⟨Nat.le_succ _, fun C I σ2 a w K Q hC hxs hH hI hdd hR hK => ?_⟩
  obtain ⟨β, F, hR⟩ := hR
  have hn : ¬ I σ.n := hI σ.n (Nat.le_refl _) (Nat.lt_succ_self _)
  have e1 := hxs s (by simp [ho, Op.operands, Call.operands])
  have e2 := hxs x (by simp [ho, Op.operands, Call.operands])
  have hs2 := owns_same hs (H2 := σ2.H) (fun id hid => hH id (by simp at hid ⊢; exact .inr (.inl hid)))
  have hx2 := cont_same hx (H2 := σ2.H) (fun id hid => hH id (by simp [hid]))
  have v1 := e1 _ _ _ _ (hR.ev s)
  have v2 := e2 _ _ _ _ (hR.ev x)
  obtain ⟨i0, d0, z0, _, k1, _, _, _, _, k2⟩ := ty_parts (hT t ti ht)
  rw [hd] at k2
  obtain ⟨i, z, rfl, k3, rfl, rfl, k4, rfl⟩ := td_slc k2.symm
  have hzs : z.cells.size = i.size := by simpa using hez
  obtain ⟨u, w', β', r1, r2, r3⟩ := append_rel (P := P) (ty := o.type) hR hn hC hs2 v1 (cont_reads hx2 (hR.known ids) v2) k1 k3 k4 rfl hzs hb h63
  refine upon_value (u := u) (w' := w') ?_ (hK _ _ ⟨β', F, ?_⟩)
  · simp [execOp, ho, resolve, invoke, builtin, r1]
  · exact (r2.put o.dst (.osl σ.n) u hdd r3).fin rfl rfl (fun i hi => one_id hi)

theorem replicate_flat {w : World} {F : Nat → Prop} {β : Nat → Option Hdr} {z : Value} {sz : Nat} (hz : z.cells.size = sz) (h1 : (z.cells.toList.map avc).all AV.one = true) (m : Nat) : Flat w F β sz (List.replicate m (z.cells.toList.map avc)) (madeCells z.cells (m * sz)).toList := by
  have el : ∀ (k : Nat) (c : List AV), (List.replicate m (z.cells.toList.map avc))[k]? = some c → k < m ∧ c = z.cells.toList.map avc := fun k c hk => by
    have := (List.getElem?_eq_some_iff.1 hk).1
    simp at this
    exact ⟨this, List.eq_of_mem_replicate (List.mem_of_getElem? hk)⟩
  refine ⟨by rw [Array.length_toList, size_madeCells, List.length_replicate], fun k c hk => ?_, fun k c j u hk hj => ?_⟩
  · obtain ⟨_, rfl⟩ := el k c hk
    exact ⟨by simp [hz], fun u hu => by rw [List.all_eq_true] at h1; exact h1 u hu⟩
  · obtain ⟨hkm, rfl⟩ := el k c hk
    have hj' := (List.getElem?_eq_some_iff.1 hj).1
    simp [hz] at hj'
    have hsz : 0 < sz := by omega
    obtain ⟨v, e1, e2⟩ := (zero_rvs w F β z).at hj
    refine ⟨v, ?_, e2⟩
    have e3 : (k * sz + j) % sz = j := by rw [Nat.add_comm, Nat.add_mul_mod_self_right, Nat.mod_eq_of_lt hj']
    have e4 : z.cells[j]? = some v := e1
    have e5 : z.cells[j] = v := by
      rw [Array.getElem?_eq_getElem (by omega)] at e4
      exact Option.some.inj e4
    simp [madeCells, flat_lt hkm hj', hz, e3, hj', e5]

theorem ok_makeSlice {P : Program} {tab : Tab} (hT : TabOK P tab) {g : Nat} {o : Oper} {σ : ASt} {l c : Operand} {t e : TypeId} {ti : TI} {sz eb : Nat} {ez : List AV} {k k' : IntKind} {m : Nat}
    (ho : o.op = .makeSlice t l c) (ht : tab t = some ti) (hd : ti.d = .slc e sz eb ez) (hez : ez.length = sz) (hone : ez.all AV.one = true) (hl : ev σ.env l = .int k m) (hc : ev σ.env c = .int k' m) (hb : eb * m ≤ 281474976710656) (h63 : m ≤ maxLen) :
    OpOK P g o σ ⟨.osl σ.n, [(σ.n, some (.row sz (List.replicate m ez)))], [], σ.n + 1⟩ := by
  refine ⟨Nat.le_succ _, fun C I σ2 a w K Q hC hxs hH hI hdd hR hK => ?_⟩
  obtain ⟨β, F, hR⟩ := hR
  have hn : ¬ I σ.n := hI σ.n (Nat.le_refl _) (Nat.lt_succ_self _)
  have v1 := hxs l (by simp [ho, Op.operands]) _ _ _ _ (hR.ev l)
  have v2 := hxs c (by simp [ho, Op.operands]) _ _ _ _ (hR.ev c)
  rw [hl] at v1
  rw [hc] at v2
  generalize hvl : a.eval l = vl at v1
  generalize hvc : a.eval c = vc at v2
  cases v1
  cases v2
  obtain ⟨i0, d0, z0, _, k1, _, _, _, _, k2⟩ := ty_parts (hT t ti ht)
  rw [hd] at k2
  obtain ⟨i, z, rfl, k3, rfl, rfl, k4, rfl⟩ := td_slc k2.symm
  have hzs : z.cells.size = i.size := by simpa using hez
  have hrun := run_make (P := P) w t e i z k1 k3 k4 k k' m m (by omega) (by omega) (by have : ((i.bytes * m : Nat) : Int) ≤ ((281474976710656 : Nat) : Int) := Int.ofNat_le.2 hb; simpa using this) (by simp only [maxLen] at h63; omega)
  simp only [Int.toNat_natCast] at hrun
  have hns := same_alloc w (.cells (madeCells z.cells (m * i.size)) e)
  have hfl := replicate_flat (w := w.alloc (.cells (madeCells z.cells (m * i.size)) e)) (F := F) (β := setB β σ.n ⟨some w.heap.size, m, m⟩) hzs hone m
  have hblk := flat_blk hfl (heap_alloc_new w _) (fun p hp => by simp) (cap := m) (by rw [size_madeCells]; exact Nat.le_refl _) (by simp) h63
  simp only [List.length_replicate] at hblk
  have h2 := hR.new hn hns ⟨some w.heap.size, m, m⟩ (fun j e => by cases e; exact ⟨Nat.le_refl _, by simp⟩) _ hblk
  refine upon_value (u := .slice (some ⟨w.heap.size, 0, none⟩) m m) (w' := w.alloc (.cells (madeCells z.cells (m * i.size)) e)) (by simp [execOp, ho, hvl, hvc, hrun]) (hK _ _ ⟨setB β σ.n ⟨some w.heap.size, m, m⟩, F, ?_⟩)
  exact (h2.put o.dst (.osl σ.n) _ hdd (.osl σ.n ⟨some w.heap.size, m, m⟩ (setB_same _ _ _))).fin rfl rfl (fun i hi => one_id hi)
end Go.Proofs.Ytkefkegknacpjaa.Ax
