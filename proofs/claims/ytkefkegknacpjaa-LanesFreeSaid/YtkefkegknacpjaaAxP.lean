/- Abstract operations: stores. Nothing of the dump is used here. -/
import Derived.Test.YtkefkegknacpjaaAxO2
namespace Go.Proofs.Ytkefkegknacpjaa.Ax
open Go.RowKit
set_option linter.unusedVariables false
set_option linter.unusedSimpArgs false

def spliceA (c : List AV) (j : Nat) (cs : List AV) : List AV := c.take j ++ (cs ++ c.drop (j + cs.length))

theorem splice_len {c cs : List AV} {j : Nat} (h : j + cs.length ≤ c.length) : (spliceA c j cs).length = c.length := by
  unfold spliceA
  simp only [List.length_append, List.length_take, List.length_drop]
  omega

theorem splice_at {α : Type} {c cs : List α} {j : Nat} (h : j + cs.length ≤ c.length) (p : Nat) : (c.take j ++ (cs ++ c.drop (j + cs.length)))[p]? = if p < j then c[p]? else if p < j + cs.length then cs[p - j]? else c[p]? := by
  have hl : (c.take j).length = j := by rw [List.length_take]; omega
  by_cases h1 : p < j
  · rw [if_pos h1, List.getElem?_append_left (by omega), List.getElem?_take, if_pos h1]
  · rw [if_neg h1, List.getElem?_append_right (by omega), hl]
    by_cases h2 : p < j + cs.length
    · rw [if_pos h2, List.getElem?_append_left (by omega)]
    · rw [if_neg h2, List.getElem?_append_right (by omega), List.getElem?_drop]
      congr 1
      omega

theorem run_storeVar {P : Program} {tab : Tab} (hT : TabOK P tab) {t : TypeId} {ti : TI} (ht : tab t = some ti) {w : World} {g off : Nat} {cur : Array Value} {ty : TypeId} (hg : w.heap[g]? = some (.cells cur ty (0, 0))) {v : Value} (hv : v.cells.size = ti.size)
    (h1 : ∀ u ∈ v.cells.toList, u.oneCell' = true) (hl : off + ti.size ≤ cur.size) :
    (storeVar t ⟨g, off, none⟩ v).run P w = .ok () (w.setRow g (cur.toList.take off ++ v.cells.toList ++ cur.toList.drop (off + v.cells.toList.length)).toArray) := by
  obtain ⟨i, d, z, e1, _, _, _, e2, _, _⟩ := ty_parts (hT t ti ht)
  have hst := run_storeCells_at P g off ty v.cells.toList 0 cur w hg (by simp; omega) h1
  simp only [Nat.add_zero] at hst
  have hne : ¬ v.cells.size ≠ i.size := by rw [hv, e2]; exact fun h => h rfl
  simp only [storeVar, Sem.run_bind, run_sizeOf w e1, Result.andThen_ok]
  rw [if_neg hne]
  simp [hst]

/-- the cells of a value that is stored -/
theorem stored_cells {w : World} {F : Nat → Prop} {β : Nat → Option Hdr} {x : AV} {v : Value} (h : RV w F β x v) (hx : x.okc = true) (h1 : x.cells.all AV.one = true) : RVs w F β x.cells v.cells ∧ ∀ u ∈ v.cells.toList, u.oneCell' = true := by
  have hr := h.cells hx
  refine ⟨hr, fun u hu => ?_⟩
  obtain ⟨k, hk, he⟩ := List.getElem_of_mem hu
  have hk' : k < x.cells.length := by rw [hr.1]; simpa using hk
  have e1 := List.getElem?_eq_getElem hk'
  have := hr.2 k _ u e1 (by rw [← Array.getElem?_toList, List.getElem?_eq_getElem hk, he])
  rw [List.all_eq_true] at h1
  exact (this.oneCell (h1 _ (List.getElem_mem _))).1

theorem ok_storeB {P : Program} {tab : Tab} (hT : TabOK P tab) {g : Nat} {o : Oper} {σ : ASt} {p x : Operand} {t : TypeId} {ti : TI} {id j : Nat} {c : List AV} (ho : o.op = .store t p x) (ht : tab t = some ti) (hp : ev σ.env p = .ptr id j) (hH : σ.H id = some (.box c))
    (hx : (ev σ.env x).okc = true) (h1 : (ev σ.env x).cells.all AV.one = true) (hs : (ev σ.env x).cells.length = ti.size) (hl : j + ti.size ≤ c.length) : OpOK P g o σ ⟨.any, [(id, some (.box (spliceA c j (ev σ.env x).cells)))], [], σ.n⟩ := by
  refine ⟨Nat.le_refl _, fun C I σ2 a w K Q hC hxs hH2 hI hd hR hK => ?_⟩
  obtain ⟨β, F, hR⟩ := hR
  have hv := hxs p (by simp [ho, Op.operands]) _ _ _ _ (hR.ev p)
  have hu := hxs x (by simp [ho, Op.operands]) _ _ _ _ (hR.ev x)
  rw [hp] at hv
  have hH' : σ2.H id = some (.box c) := by rw [hH2 id (by simp)]; exact hH
  obtain ⟨h, e1, e2, e3⟩ := hR.live id _ hH'
  obtain ⟨b, arr, ty, q1, q2, q3, q4⟩ := e2
  obtain ⟨r1, r2⟩ := stored_cells hu hx h1
  generalize hpv : a.eval p = pv at hv
  cases hv with
  | ptr _ _ b' h' f1 f2 =>
    rw [e1] at f1
    cases f1
    rw [q1] at f2
    cases f2
    have hsz : (a.eval x).cells.size = ti.size := by rw [← r1.1]; exact hs
    have hrun := run_storeVar (P := P) hT ht q2 (off := j) hsz r2 (by omega)
    refine upon_skip (w' := w.setRow b (arr.toList.take j ++ (a.eval x).cells.toList ++ arr.toList.drop (j + (a.eval x).cells.toList.length)).toArray) ?_ (hK _ _ ⟨β, F, ?_⟩)
    · simp [execOp, ho, hpv, Instr.storeAt, Instr.sureAddr]
      simpa using congrArg (fun r => r.andThen fun _ w' => Result.ok Next.skip w') hrun
    · obtain ⟨d4, d5, d6⟩ := e3 _ q1
      have hFw : ∀ k, F k → (w.setRow b (arr.toList.take j ++ (a.eval x).cells.toList ++ arr.toList.drop (j + (a.eval x).cells.toList.length)).toArray).heap[k]? = w.heap[k]? := fun k hk => (same_setRow w b _).block k (hR.news k hk).1 (fun e => d5 (by cases e; exact hk))
      have hblk : BlkR (w.setRow b (arr.toList.take j ++ (a.eval x).cells.toList ++ arr.toList.drop (j + (a.eval x).cells.toList.length)).toArray) F β h (.box (spliceA c j (ev σ.env x).cells)) := by
        refine ⟨b, _, ty, q1, setRow_heap w b arr _ ty _ q2, ?_, fun k u v hu' hv' => ?_⟩
        · rw [splice_len (by omega)]
          simp only [List.size_toArray, List.length_append, List.length_take, List.length_drop, Array.length_toList]
          omega
        · unfold spliceA at hu'
          rw [splice_at (by omega)] at hu'
          rw [List.append_assoc, List.getElem?_toArray, splice_at (by simp; omega)] at hv'
          simp only [Array.length_toList, ← r1.1] at hv'
          split at hu'
          · rename_i hk
            rw [if_pos hk, Array.getElem?_toList] at hv'
            exact (q4 k u v hu' hv').mono (fun _ x => x) hFw (fun _ _ x => x)
          · rename_i hk
            rw [if_neg hk] at hv'
            split at hu'
            · rename_i hk2
              rw [if_pos hk2, Array.getElem?_toList] at hv'
              exact (r1.2 _ u v hu' hv').mono (fun _ x => x) hFw (fun _ _ x => x)
            · rename_i hk2
              rw [if_neg hk2, Array.getElem?_toList] at hv'
              exact (q4 k u v hu' hv').mono (fun _ x => x) hFw (fun _ _ x => x)
      exact ((hR.write hH' e1 q1 (same_setRow w b _) _ hblk).put o.dst .any undef hd (.any _)).fin rfl rfl (fun i hi => .inl hi)

/-- a store into an element of a row, in the world -/
theorem store_rel {P : Program} {tab : Tab} (hT : TabOK P tab) {C : Ctx} {I : Nat → Prop} {σ2 : ASt} {a : Act} {w : World} {β : Nat → Option Hdr} {F : Nat → Prop} (hR : RelB C I σ2 a w β F) {o : Oper} {p x : Operand} {t : TypeId} {ti : TI} {id sz i j : Nat} {xs : List (List AV)} {c cs : List AV} (ho : o.op = .store t p x) (ht : tab t = some ti)
    (hv : RV w F β (.eptr id sz i j) (a.eval p)) (hH' : σ2.H id = some (.row sz xs)) (hc : xs[i]? = some c) (r1 : RVs w F β cs (a.eval x).cells) (r2 : ∀ u ∈ (a.eval x).cells.toList, u.oneCell' = true) (h1 : cs.all AV.one = true) (hs : cs.length = ti.size) (hl : j + ti.size ≤ c.length) :
    ∃ w', (execOp a.eval o).run P w = .ok .skip w' ∧ RelB C I { σ2 with H := setH σ2.H id (some (.row sz (xs.set i (spliceA c j cs)))) } a w' β F := by
  obtain ⟨h, e1, e2, e3⟩ := hR.live id _ hH'
  obtain ⟨k1, k2, k3, k4, k5, k6⟩ := e2
  generalize hpv : a.eval p = pv at hv
  cases hv with
  | eptr _ _ _ _ b h' f1 f2 =>
    rw [e1] at f1
    cases f1
    obtain ⟨arr, ty, q2, q3, q4⟩ := k6 b f2
    obtain ⟨d4, d5, d6⟩ := e3 b f2
    have hi : i < xs.length := (List.getElem?_eq_some_iff.1 hc).1
    have hcl := (k5 i c hc).1
    have hb1 : i * sz + (j + ti.size) ≤ arr.size := by
      have : (i + 1) * sz ≤ h.cap * sz := Nat.mul_le_mul_right _ (by omega)
      rw [Nat.succ_mul] at this
      omega
    have hsz : (a.eval x).cells.size = ti.size := by rw [← r1.1]; exact hs
    have hrun := run_storeVar (P := P) hT ht q2 (off := i * sz + j) hsz r2 (by omega)
    generalize hA : (arr.toList.take (i * sz + j) ++ (a.eval x).cells.toList ++ arr.toList.drop (i * sz + j + (a.eval x).cells.toList.length)).toArray = A at hrun
    have hAt : ∀ p, A[p]? = if p < i * sz + j then arr[p]? else if p < i * sz + j + ti.size then (a.eval x).cells[p - (i * sz + j)]? else arr[p]? := fun p => by
      rw [← hA, List.append_assoc, List.getElem?_toArray, splice_at (by simp; omega)]
      simp only [Array.length_toList, hsz, Array.getElem?_toList]
    have hAs : A.size = arr.size := by
      rw [← hA]
      simp only [List.size_toArray, List.length_append, List.length_take, List.length_drop, Array.length_toList]
      omega
    refine ⟨w.setRow b A, ?_, ?_⟩
    · simp [execOp, ho, hpv, Instr.storeAt, Instr.sureAddr]
      simpa using congrArg (fun r => r.andThen fun _ w' => Result.ok Next.skip w') hrun
    · have hFw : ∀ k, F k → (w.setRow b A).heap[k]? = w.heap[k]? := fun k hk => (same_setRow w b _).block k (hR.news k hk).1 (fun e => d5 (by cases e; exact hk))
      have hblk : BlkR (w.setRow b A) F β h (.row sz (xs.set i (spliceA c j cs))) := by
        refine ⟨by rw [List.length_set]; exact k1, by rw [List.length_set]; exact k2, k3, k4, fun k c' hk => ?_, fun b' e => ?_⟩
        · by_cases hik : i = k
          · subst hik
            rw [List.getElem?_set_self hi] at hk
            cases hk
            refine ⟨by rw [splice_len (by omega)]; exact hcl, fun u hu => ?_⟩
            obtain ⟨q, hq, he⟩ := List.getElem_of_mem hu
            have hq' := List.getElem?_eq_getElem hq
            rw [he] at hq'
            unfold spliceA at hq'
            rw [splice_at (by omega)] at hq'
            rw [List.all_eq_true] at h1
            split at hq'
            · exact (k5 i c hc).2 u (List.mem_of_getElem? hq')
            · split at hq'
              · exact h1 u (List.mem_of_getElem? hq')
              · exact (k5 i c hc).2 u (List.mem_of_getElem? hq')
          · rw [List.getElem?_set_ne hik] at hk
            exact k5 k c' hk
        · rw [f2] at e
          cases e
          refine ⟨A, ty, setRow_heap w b arr A ty _ q2, by rw [hAs]; exact q3, fun k c' m u hk hm => ?_⟩
          by_cases hik : i = k
          · subst hik
            rw [List.getElem?_set_self hi] at hk
            cases hk
            unfold spliceA at hm
            rw [splice_at (by omega)] at hm
            split at hm
            · rename_i h2
              obtain ⟨v, s1, s2⟩ := q4 i c m u hc hm
              exact ⟨v, by rw [hAt, if_pos (by omega)]; exact s1, s2.mono (fun _ x => x) hFw (fun _ _ x => x)⟩
            · rename_i h2
              split at hm
              · rename_i h3
                obtain ⟨v, s1, s2⟩ := r1.at hm
                exact ⟨v, by rw [hAt, if_neg (by omega), if_pos (by omega), show i * sz + m - (i * sz + j) = m - j by omega]; exact s1, s2.mono (fun _ x => x) hFw (fun _ _ x => x)⟩
              · rename_i h3
                obtain ⟨v, s1, s2⟩ := q4 i c m u hc hm
                exact ⟨v, by rw [hAt, if_neg (by omega), if_neg (by omega)]; exact s1, s2.mono (fun _ x => x) hFw (fun _ _ x => x)⟩
          · rw [List.getElem?_set_ne hik] at hk
            obtain ⟨v, s1, s2⟩ := q4 k c' m u hk hm
            refine ⟨v, ?_, s2.mono (fun _ x => x) hFw (fun _ _ x => x)⟩
            have hm' := (List.getElem?_eq_some_iff.1 hm).1
            rw [(k5 k c' hk).1] at hm'
            have hout : k * sz + m < i * sz + j ∨ i * sz + j + ti.size ≤ k * sz + m := by
              rcases Nat.lt_or_ge k i with hlt | hge
              · have : (k + 1) * sz ≤ i * sz := Nat.mul_le_mul_right _ hlt
                rw [Nat.succ_mul] at this
                omega
              · have : (i + 1) * sz ≤ k * sz := Nat.mul_le_mul_right _ (by omega)
                rw [Nat.succ_mul] at this
                omega
            rw [hAt]
            rcases hout with ho' | ho'
            · rw [if_pos ho']; exact s1
            · rw [if_neg (by omega), if_neg (by omega)]; exact s1
      exact hR.write hH' e1 f2 (same_setRow w b _) _ hblk

theorem ok_storeR {P : Program} {tab : Tab} (hT : TabOK P tab) {g : Nat} {o : Oper} {σ : ASt} {p x : Operand} {t : TypeId} {ti : TI} {id sz i j : Nat} {xs : List (List AV)} {c : List AV} (ho : o.op = .store t p x) (ht : tab t = some ti) (hp : ev σ.env p = .eptr id sz i j) (hH : σ.H id = some (.row sz xs)) (hc : xs[i]? = some c)
    (hx : (ev σ.env x).okc = true) (h1 : (ev σ.env x).cells.all AV.one = true) (hs : (ev σ.env x).cells.length = ti.size) (hl : j + ti.size ≤ c.length) : OpOK P g o σ ⟨.any, [(id, some (.row sz (xs.set i (spliceA c j (ev σ.env x).cells))))], [], σ.n⟩ := by
  refine ⟨Nat.le_refl _, fun C I σ2 a w K Q hC hxs hH2 hI hd hR hK => ?_⟩
  obtain ⟨β, F, hR⟩ := hR
  have hv := hxs p (by simp [ho, Op.operands]) _ _ _ _ (hR.ev p)
  have hu := hxs x (by simp [ho, Op.operands]) _ _ _ _ (hR.ev x)
  rw [hp] at hv
  have hH' : σ2.H id = some (.row sz xs) := by rw [hH2 id (by simp)]; exact hH
  obtain ⟨r1, r2⟩ := stored_cells hu hx h1
  obtain ⟨w', hrun, hrel⟩ := store_rel hT hR ho ht hv hH' hc r1 r2 h1 hs hl
  exact upon_skip (w' := w') hrun (hK _ _ ⟨β, F, (hrel.put o.dst .any undef hd (.any _)).fin rfl rfl (fun i hi => .inl hi)⟩)

/-- rows, from now on only read -/
def BorH (H : Nat → Option ABlk) (β : Nat → Option Hdr) (bs : List Nat) (b : Nat) : Prop := ∃ id ∈ bs, ∃ h k, H id = some k ∧ β id = some h ∧ h.blk = some b

theorem RelB.freezeL {C : Ctx} {I : Nat → Prop} {σ : ASt} {a : Act} {w : World} {β : Nat → Option Hdr} {F : Nat → Prop} (h : RelB C I σ a w β F) (bs : List Nat) (H' : Nat → Option ABlk) (hH : ∀ id, H' id = if id ∈ bs then none else σ.H id) : RelB C I { σ with H := H' } a w β (fun b => F b ∨ BorH σ.H β bs b) := by
  have old : ∀ {id1 k1}, H' id1 = some k1 → id1 ∉ bs ∧ σ.H id1 = some k1 := fun {id1 k1} e => by
    rw [hH] at e
    split at e
    · cases e
    · exact ⟨‹_›, e⟩
  have hF : ∀ b, F b → F b ∨ BorH σ.H β bs b := fun b hb => .inl hb
  refine ⟨fun t => (h.env t).mono hF (fun _ _ => rfl) (fun _ _ e => e), h.size, h.defers, fun id1 k1 e1 => ?_, fun id1 id2 k1 k2 g1 g2 i e1 e2 => h.inj id1 id2 k1 k2 g1 g2 i (old e1).2 (old e2).2, h.dom, h.gr, fun b hb => .inl (h.sub b hb), fun b hb => ?_, h.os, h.tape, h.output, h.grow, h.block, fun g => (h.glo g).mono hF (fun _ _ => rfl) (fun _ _ e => e)⟩
  · obtain ⟨o1, o2⟩ := old e1
    obtain ⟨g1, s1, s2, s3⟩ := h.live id1 k1 o2
    refine ⟨g1, s1, s2.mono hF (fun _ _ => rfl) (fun _ _ => rfl) (fun _ _ e => e), fun b hb => ⟨(s3 b hb).1, fun hF' => ?_, (s3 b hb).2.2⟩⟩
    rcases hF' with hF' | ⟨id2, hid2, g2, k2, q1, q2, q3⟩
    · exact (s3 b hb).2.1 hF'
    · exact o1 (h.inj id1 id2 k1 k2 g1 g2 b o2 q1 s1 q2 hb q3 ▸ hid2)
  · rcases hb with hb | ⟨id2, hid2, g2, k2, q1, q2, q3⟩
    · exact h.news b hb
    · obtain ⟨g3, s1, _, s3⟩ := h.live id2 k2 q1
      rw [q2] at s1
      cases s1
      exact ⟨(s3 b q3).1, .inr (s3 b q3).2.2⟩

/-- values whose rows are only read from now on: the rows ids go -/
def FrzL (H : Nat → Option ABlk) (c c' : List AV) (ids : List Nat) : Prop := c.length = c'.length ∧ ∀ (j : Nat) (u u' : AV), c[j]? = some u → c'[j]? = some u' → ArgR H [] [] ids u u'

theorem giveUp_at : ∀ (bs : List Nat) (H : Nat → Option ABlk) (id : Nat), wrH H (giveUp bs) id = if id ∈ bs then none else H id
  | [], H, id => by simp [giveUp, wrH]
  | i :: l, H, id => by
    simp only [giveUp, wrH]
    rw [giveUp_at l]
    by_cases h1 : id ∈ l
    · simp [h1]
    · rw [if_neg h1]
      by_cases h2 : id = i
      · subst h2; simp [setH_same]
      · rw [setH_ne _ _ h2]; simp [h1, h2]

/-- a store of rows into an element of a row: they are only read from now on -/
theorem ok_storeF {P : Program} {tab : Tab} (hT : TabOK P tab) {g : Nat} {o : Oper} {σ : ASt} {p x : Operand} {t : TypeId} {ti : TI} {id sz i j : Nat} {xs : List (List AV)} {c cs : List AV} {ids : List Nat} (ho : o.op = .store t p x) (ht : tab t = some ti) (hp : ev σ.env p = .eptr id sz i j) (hH : σ.H id = some (.row sz xs)) (hc : xs[i]? = some c)
    (hx : (ev σ.env x).okc = true) (h1 : (ev σ.env x).cells.all AV.one = true) (h2 : cs.all AV.one = true) (hs : cs.length = ti.size) (hl : j + ti.size ≤ c.length) (hz : FrzL σ.H (ev σ.env x).cells cs ids) (hid : id ∉ ids) :
    OpOK P g o σ ⟨.any, giveUp ids ++ [(id, some (.row sz (xs.set i (spliceA c j cs))))], ids, σ.n⟩ := by
  refine ⟨Nat.le_refl _, fun C I σ2 a w K Q hC hxs hH2 hI hd hR hK => ?_⟩
  obtain ⟨β, F, hR⟩ := hR
  have hv := hxs p (by simp [ho, Op.operands]) _ _ _ _ (hR.ev p)
  have hu := hxs x (by simp [ho, Op.operands]) _ _ _ _ (hR.ev x)
  rw [hp] at hv
  have hH' : σ2.H id = some (.row sz xs) := by rw [hH2 id (by simp)]; exact hH
  obtain ⟨r1, r2⟩ := stored_cells hu hx h1
  have hF := hR.freezeL ids (wrH σ2.H (giveUp ids)) (giveUp_at ids σ2.H)
  have hb1 : ∀ i ∈ ids, ∀ k, σ.H i = some k → ∃ g, β i = some g ∧ BlkR w F β g k ∧ ∀ b, g.blk = some b → F b ∨ BorH σ2.H β ids b := fun i hi k hk => by
    rw [← hH2 i (by simp [hi])] at hk
    obtain ⟨h, e1, e2, _⟩ := hR.live i k hk
    exact ⟨h, e1, e2, fun b hb => .inr ⟨i, hi, h, k, hk, e1, hb⟩⟩
  have hrv : RVs w (fun b => F b ∨ BorH σ2.H β ids b) β cs (a.eval x).cells := ⟨hz.1 ▸ r1.1, fun k u' v hu' hv' => by
    have hj : k < (ev σ.env x).cells.length := by rw [hz.1]; exact (List.getElem?_eq_some_iff.1 hu').1
    exact (hz.2 k _ u' (List.getElem?_eq_getElem hj) hu').rv (fun b hb => .inl hb) (fun k id g e => by simp at e) (fun k hk => by simp at hk) hb1 (r1.2 k _ v (List.getElem?_eq_getElem hj) hv')⟩
  obtain ⟨w', hrun, hrel⟩ := store_rel hT hF ho ht (hv.mono (fun b hb => .inl hb) (fun _ _ => rfl) (fun _ _ e => e)) (by show wrH σ2.H (giveUp ids) id = _; rw [giveUp_at, if_neg hid]; exact hH') hc hrv r2 h2 hs hl
  refine upon_skip (w' := w') hrun (hK _ _ ⟨β, _, (hrel.put o.dst .any undef hd (.any _)).fin rfl ?_ (fun i hi => .inl hi)⟩)
  show wrH σ2.H (giveUp ids ++ [(id, _)]) = setH (wrH σ2.H (giveUp ids)) id _
  rw [wrH_app]
  rfl
end Go.Proofs.Ytkefkegknacpjaa.Ax
