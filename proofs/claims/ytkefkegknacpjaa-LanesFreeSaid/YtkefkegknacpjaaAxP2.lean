/- Abstract operations: copy. Nothing of the dump is used here. -/
import Derived.Test.YtkefkegknacpjaaAxP
namespace Go.Proofs.Ytkefkegknacpjaa.Ax
open Go.RowKit
set_option linter.unusedVariables false
set_option linter.unusedSimpArgs false

theorem setH_self {H : Nat → Option ABlk} {id : Nat} {k : ABlk} (h : H id = some k) : setH H id (some k) = H := by
  funext u
  by_cases e : u = id
  · subst e; rw [setH_same, h]
  · rw [setH_ne _ _ e]

theorem run_copy_flat {P : Program} (w : World) (dT sT ty elem : TypeId) (i : TypeInfo) (b dLen dCap : Nat) (a : Option Addr) (n c : Nat) (cur : Array Value) (t : TypeId) (cs : List Value)
    (hu : P.underlying dT = some (.slice elem)) (hi : P.info? elem = some i) (hg : w.heap[b]? = some (.cells cur t (0, 0))) (hn : n ≤ dLen) (hf : (Builtin.firstCells i.size n (.slice a n c)).run P w = .ok cs.toArray w)
    (hfit : cs.length ≤ cur.size) (h1 : ∀ v ∈ cs, v.oneCell' = true) :
    (Builtin.copy_ #[dT, sT] ty #[.slice (some ⟨b, 0, none⟩) dLen dCap, .slice a n c]).run P w = .ok (goInt n) (w.setRow b (cs ++ cur.toList.drop cs.length).toArray) := by
  have hst := run_storeCells_at P b 0 t cs 0 cur w hg (by simpa using hfit) h1
  have hm : Nat.min n dLen = n := Nat.min_eq_left hn
  simp [Builtin.copy_, run_underlying hu, Builtin.lenOf, sizeOf, typeInfo, hi, hm, hf, hst]

theorem run_copy_none {P : Program} (w : World) (dT sT ty elem : TypeId) (i : TypeInfo) (a : Option Addr) (c : Nat)
    (hu : P.underlying dT = some (.slice elem)) (hi : P.info? elem = some i) (cs : List Value) (hf : (Builtin.firstCells i.size 0 (.slice a 0 c)).run P w = .ok cs.toArray w) :
    (Builtin.copy_ #[dT, sT] ty #[.slice none 0 0, .slice a 0 c]).run P w = .ok (goInt 0) w := by
  simp [Builtin.copy_, run_underlying hu, Builtin.lenOf, sizeOf, typeInfo, hi, hf]

theorem ok_copy {P : Program} {tab : Tab} (hT : TabOK P tab) {g : Nat} {o : Oper} {σ : ASt} {d x : Operand} {t t' e : TypeId} {ti : TI} {sz eb id : Nat} {ez : List AV} {xs ys : List (List AV)} {ids : List Nat}
    (ho : o.op = .call { callee := .builtin .copy, args := #[d, x], argTypes := #[t, t'] }) (ht : tab t = some ti) (hd : ti.d = .slc e sz eb ez) (hez : ez.length = sz)
    (hs : ev σ.env d = .osl id) (hH0 : σ.H id = some (.row sz xs)) (hx : Cont σ.H (ev σ.env x) sz ys ids) (hle : ys.length ≤ xs.length) :
    OpOK P g o σ ⟨.int .i64 (ys.length : Nat), [(id, some (.row sz (ys ++ xs.drop ys.length)))], ids, σ.n⟩ := by
  refine ⟨Nat.le_refl _, fun C I σ2 a w K Q hC hxs hH hI hdd hR hK => ?_⟩
  obtain ⟨β, F, hR⟩ := hR
  have e1 := hxs d (by simp [ho, Op.operands, Call.operands])
  have e2 := hxs x (by simp [ho, Op.operands, Call.operands])
  have hx2 := cont_same hx (H2 := σ2.H) (fun id hid => hH id (by simp [hid]))
  have v1 := e1 _ _ _ _ (hR.ev d)
  have v2 := e2 _ _ _ _ (hR.ev x)
  rw [hs] at v1
  have hH' : σ2.H id = some (.row sz xs) := by rw [hH id (by simp)]; exact hH0
  obtain ⟨i0, d0, z0, _, k1, _, _, _, _, k2⟩ := ty_parts (hT t ti ht)
  rw [hd] at k2
  obtain ⟨i, z, rfl, k3, rfl, rfl, k4, rfl⟩ := td_slc k2.symm
  obtain ⟨xa, xc, news, hxv, hxa, hfl, hcells⟩ := cont_reads hx2 (hR.known ids) v2
  have hfirst := first_run (P := P) hxa hfl hcells (c := xc)
  obtain ⟨h, f1, f2, f3⟩ := hR.live id _ hH'
  have hblk := f2
  obtain ⟨q1, q2, q3, q4, q5, q6⟩ := f2
  generalize hdv : a.eval d = dv at v1
  cases v1 with
  | osl _ h' g1 =>
    rw [f1] at g1
    cases g1
    cases hb : h.blk with
    | none =>
      have hc0 := q4 hb
      have hx0 : xs = [] := List.eq_nil_of_length_eq_zero (by omega)
      subst hx0
      have hy0 : ys = [] := List.eq_nil_of_length_eq_zero (by simpa using hle)
      subst hy0
      have hl0 : h.len = 0 := by simpa using q1
      have hrun := run_copy_none (P := P) w t t' o.type e i xa xc k1 k3 news hfirst
      refine upon_value (u := goInt 0) (w' := w) ?_ (hK _ _ ⟨β, F, ?_⟩)
      · simp only [List.length_nil] at hxv
        simp [execOp, ho, resolve, invoke, builtin, hdv, hxv, hb, ownBase, hl0, hc0, hrun]
      · exact (hR.put o.dst (.int .i64 ((0 : Nat) : Int)) (goInt 0) hdd (.int _ _)).fin rfl (by simp only [List.nil_append, List.length_nil, List.drop_zero, ASt.app, wrH]; exact setH_self hH') (fun i hi => Or.inl hi)
    | some b =>
      obtain ⟨arr, ty', r1, r2, r3⟩ := q6 b hb
      have hfit : news.length ≤ arr.size := by
        rw [hfl.1]
        exact Nat.le_trans (Nat.mul_le_mul_right _ (by omega)) r2
      have hrun := run_copy_flat (P := P) w t t' o.type e i b h.len h.cap xa ys.length xc arr ty' news k1 k3 r1 (by omega) hfirst hfit hfl.one
      have hS := same_setRow w b (news ++ arr.toList.drop news.length).toArray
      obtain ⟨d4, d5, d6⟩ := f3 b hb
      have hFw : ∀ k, F k → (w.setRow b (news ++ arr.toList.drop news.length).toArray).heap[k]? = w.heap[k]? := fun k hk => hS.block k (hR.news k hk).1 (fun e => d5 (by cases e; exact hk))
      have hnew : BlkR (w.setRow b (news ++ arr.toList.drop news.length).toArray) F β h (.row i.size (ys ++ xs.drop ys.length)) := by
        have el : ∀ (k : Nat) (c : List AV), (ys ++ xs.drop ys.length)[k]? = some c → (k < ys.length ∧ ys[k]? = some c) ∨ (ys.length ≤ k ∧ xs[k]? = some c) := fun k c hk => by
          by_cases hlt : k < ys.length
          · rw [List.getElem?_append_left hlt] at hk; exact .inl ⟨hlt, hk⟩
          · rw [List.getElem?_append_right (by omega), List.getElem?_drop, show ys.length + (k - ys.length) = k by omega] at hk
            exact .inr ⟨by omega, hk⟩
        have hlen : (ys ++ xs.drop ys.length).length = xs.length := by simp; omega
        refine ⟨by rw [hlen]; exact q1, by rw [hlen]; exact q2, q3, q4, fun k c hk => ?_, fun b' e => ?_⟩
        · rcases el k c hk with ⟨_, h1⟩ | ⟨_, h1⟩
          · exact hfl.2.1 _ _ h1
          · exact q5 _ _ h1
        · rw [hb] at e
          cases e
          refine ⟨_, ty', setRow_heap w b arr _ ty' _ r1, ?_, fun k c j u hk hj => ?_⟩
          · simp only [List.size_toArray, List.length_append, List.length_drop, Array.length_toList]
            omega
          · rcases el k c hk with ⟨hlt, h1⟩ | ⟨hlt, h1⟩
            · obtain ⟨v, s1, s2⟩ := hfl.2.2 k c j u h1 hj
              have hp := (List.getElem?_eq_some_iff.1 s1).1
              exact ⟨v, by rw [List.getElem?_toArray, List.getElem?_append_left hp]; exact s1, s2.mono (fun _ x => x) hFw (fun _ _ x => x)⟩
            · obtain ⟨v, s1, s2⟩ := r3 k c j u h1 hj
              have hle' : news.length ≤ k * i.size + j := by
                rw [hfl.1]
                exact Nat.le_trans (Nat.mul_le_mul_right _ hlt) (Nat.le_add_right _ _)
              refine ⟨v, ?_, s2.mono (fun _ x => x) hFw (fun _ _ x => x)⟩
              rw [List.getElem?_toArray, List.getElem?_append_right hle', List.getElem?_drop, show news.length + (k * i.size + j - news.length) = k * i.size + j by omega, Array.getElem?_toList]
              exact s1
      refine upon_value (u := goInt ys.length) (w' := w.setRow b (news ++ arr.toList.drop news.length).toArray) ?_ (hK _ _ ⟨β, F, ?_⟩)
      · simp [execOp, ho, resolve, invoke, builtin, hdv, hxv, hb, ownBase, hrun]
      · exact ((hR.write hH' f1 hb hS _ hnew).put o.dst (.int .i64 ((ys.length : Nat) : Int)) _ hdd (.int _ _)).fin rfl rfl (fun i hi => Or.inl hi)
end Go.Proofs.Ytkefkegknacpjaa.Ax
