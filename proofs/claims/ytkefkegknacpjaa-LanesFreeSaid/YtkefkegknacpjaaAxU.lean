/- Kinds of cells; what is known, told in other names. Nothing of the dump is used here. -/
import Derived.Test.YtkefkegknacpjaaAxT
namespace Go.Proofs.Ytkefkegknacpjaa.Ax
open Go.RowKit
set_option linter.unusedVariables false
set_option linter.unusedSimpArgs false

def matchK : List CK → List AV → Bool
  | [], [] => true
  | .int :: ks, .int _ _ :: c => matchK ks c
  | .str :: ks, .str _ :: c => matchK ks c
  | .bool :: ks, .bool _ :: c => matchK ks c
  | .bool :: ks, .tru :: c => matchK ks c
  | .bool :: ks, .fls :: c => matchK ks c
  | _, _ => false

theorem matchK_app : ∀ {k1 k2 : List CK} {c : List AV}, matchK (k1 ++ k2) c = true → matchK k1 (c.take k1.length) = true ∧ matchK k2 (c.drop k1.length) = true
  | [], k2, c, h => by simpa [matchK] using h
  | k :: k1, k2, [], h => by cases k <;> simp [matchK] at h
  | k :: k1, k2, x :: c, h => by
    cases k <;> cases x <;> simp only [List.cons_append, matchK, Bool.false_eq_true] at h <;> (obtain ⟨h1, h2⟩ := matchK_app h; exact ⟨by simpa [matchK] using h1, by simpa using h2⟩)

theorem matchK_len : ∀ {k : List CK} {c : List AV}, matchK k c = true → c.length = k.length
  | [], [], _ => rfl
  | k :: k1, [], h => by cases k <;> simp [matchK] at h
  | [], x :: c, h => by simp [matchK] at h
  | k :: k1, x :: c, h => by
    cases k <;> cases x <;> simp only [matchK, Bool.false_eq_true] at h <;> (have := matchK_len h; simp [this])

theorem kind_ok {P : Program} : ∀ (d : Nat) (t : TypeId) (ks : List CK) (c : List AV), eqKinds P d t = some ks → matchK ks c = true → kindOf P d t c = true
  | 0, t, ks, c, h, _ => by simp [eqKinds] at h
  | d + 1, t, ks, c, h, hm => by
    unfold eqKinds at h
    unfold kindOf
    split at h
    · rename_i e; cases h; rw [e]
      match c, hm with
      | [.int _ _], _ => rfl
      | [], hm => simp [matchK] at hm
      | x :: y :: c, hm => have := matchK_len hm; simp at this
      | [.any], hm | [.tru], hm | [.fls], hm | [.bool _], hm | [.str _], hm | [.nilp], hm | [.val _], hm | [.nils], hm | [.ptr _ _], hm | [.eptr _ _ _ _], hm | [.iptr _], hm | [.lst _ _], hm | [.osl _], hm | [.sub _ _ _ _ _], hm | [.agg _], hm | [.tup _], hm | [.fn _ _], hm => simp [matchK] at hm
    · rename_i e; cases h; rw [e]
      match c, hm with
      | [.str _], _ => rfl
      | [], hm => simp [matchK] at hm
      | x :: y :: c, hm => have := matchK_len hm; simp at this
      | [.any], hm | [.tru], hm | [.fls], hm | [.bool _], hm | [.int _ _], hm | [.nilp], hm | [.val _], hm | [.nils], hm | [.ptr _ _], hm | [.eptr _ _ _ _], hm | [.iptr _], hm | [.lst _ _], hm | [.osl _], hm | [.sub _ _ _ _ _], hm | [.agg _], hm | [.tup _], hm | [.fn _ _], hm => simp [matchK] at hm
    · rename_i e; cases h; rw [e]
      match c, hm with
      | [.bool _], _ => rfl
      | [.tru], _ => rfl
      | [.fls], _ => rfl
      | [], hm => simp [matchK] at hm
      | x :: y :: c, hm => have := matchK_len hm; simp at this
      | [.any], hm | [.str _], hm | [.int _ _], hm | [.nilp], hm | [.val _], hm | [.nils], hm | [.ptr _ _], hm | [.eptr _ _ _ _], hm | [.iptr _], hm | [.lst _ _], hm | [.osl _], hm | [.sub _ _ _ _ _], hm | [.agg _], hm | [.tup _], hm | [.fn _ _], hm => simp [matchK] at hm
    · rename_i fs e
      rw [e]
      simp only
      have key : ∀ (l : List Field) (ks : List CK) (c : List AV), kindsF P (eqKinds P d) l = some ks → matchK ks c = true → kinds P (kindOf P d) l c = true := by
        intro l
        induction l with
        | nil => intro ks c _ _; rfl
        | cons f l ih =>
          intro ks c h1 h2
          simp only [kindsF] at h1
          split at h1
          · rename_i i k r q1 q2 q3
            split at h1
            · rename_i hl
              cases h1
              obtain ⟨m1, m2⟩ := matchK_app h2
              rw [hl] at m1 m2
              simp only [kinds, q1, Bool.and_eq_true]
              exact ⟨kind_ok d f.type k _ q2 m1, ih r _ q3 m2⟩
            · cases h1
          · cases h1
      exact key fs.toList ks c h hm
    · cases h

theorem kindsF_len {P : Program} {rec : TypeId → Option (List CK)} {rec2 : TypeId → Bool} : ∀ (l : List Field) (ks : List CK) (off n : Nat), kindsF P rec l = some ks → tileB P rec2 l off n = true → off + ks.length = n
  | [], ks, off, n, h, k => by
    simp only [kindsF] at h
    cases h
    simp only [tileB, beq_iff_eq] at k
    simpa using k
  | f :: l, ks, off, n, h, k => by
    simp only [kindsF] at h
    split at h
    · rename_i i kk r q1 q2 q3
      split at h
      · rename_i hl
        cases h
        simp only [tileB, q1, Bool.and_eq_true] at k
        have := kindsF_len l r _ n q3 k.2
        rw [List.length_append, hl]
        omega
      · cases h
    · cases h

/-- two structs are compared -/
theorem gives_eqA {P : Program} {tab : Tab} (hT : TabOK P tab) {o : Oper} {env : Nat → AV} {H : Nat → Option ABlk} {op : BinOp} {x y : Operand} {t t' : TypeId} {ti : TI} {ks : List CK} {c e : List AV} {r : Bool} (ho : o.op = .binOp op t x y t') (hop : op = .eql ∨ op = .neq) (ht : tab t = some ti) (hk : ti.eqk = some ks)
    (hc : ev env x = .agg c) (hd : ev env y = .agg e) (hm : matchK ks c = true) (hr : eqCells c e = some r) : Gives P o env H (.bool (if op = .eql then r else !r)) [] := by
  have h0 := hT t ti ht
  unfold tyInfo at h0
  split at h0
  · rename_i i d h1 h2
    split at h0
    · rename_i z hz
      cases h0
      simp only at hk
      unfold eqkOf at hk
      split at hk
      · rename_i fs hfs
        split at hk
        · rename_i hb
          simp only [Bool.and_eq_true, Bool.not_eq_true'] at hb
          refine gives_eqS ho hop hfs h1 hb.1 hb.2 hc hd ?_ (kind_ok 10 t ks c hk hm) hr
          rw [matchK_len hm]
          have h3 := hk
          unfold eqKinds at h3
          rw [hfs] at h3
          have h4 := hb.1
          unfold eqTy at h4
          rw [hfs, h1] at h4
          simp only [Bool.and_eq_true] at h4
          have := kindsF_len _ _ 0 _ h3 h4.2
          omega
        · cases hk
      · cases hk
    · cases h0
  · cases h0

/-- what the one state says, the other says in other names -/
structure Wk (g : Nat) (σ σ' : ASt) (gs zs bs : List Nat) : Prop where
  env : ∀ t, ArgR σ.H gs zs bs (σ.env t) (σ'.env t)
  blk : ∀ (k : Nat) (b' : ABlk), σ'.H k = some b' → (∃ id b, gs[k]? = some id ∧ σ.H id = some b ∧
      ((∃ c c', b = .box c ∧ b' = .box c' ∧ c.length = c'.length ∧ ∀ (j : Nat) (u u' : AV), c[j]? = some u → c'[j]? = some u' → ArgR σ.H gs zs bs u u') ∨
      (∃ sz xs xs', b = .row sz xs ∧ b' = .row sz xs' ∧ xs.length = xs'.length ∧ ∀ (i : Nat) (c c' : List AV), xs[i]? = some c → xs'[i]? = some c' → c.length = c'.length ∧ (∀ u ∈ c', u.one = true) ∧ ∀ (j : Nat) (u u' : AV), c[j]? = some u → c'[j]? = some u' → ArgR σ.H gs zs bs u u'))) ∨ (k ∈ zs ∧ ∃ sz, b' = .row sz [])
  fix : ∀ i, i < g → gs[i]? = some i
  nd : ∀ (i j id : Nat) (b b' : ABlk), gs[i]? = some id → gs[j]? = some id → σ'.H i = some b → σ'.H j = some b' → i = j
  dis : ∀ (k id : Nat) (b : ABlk), gs[k]? = some id → σ'.H k = some b → id ∉ bs
  zge : ∀ k ∈ zs, k < σ'.n
  zfl : ∀ k ∈ zs, ∀ id, gs[k]? = some id → σ.n ≤ id
  gle : gs.length ≤ σ'.n

theorem Wk.rel {g : Nat} {σ σ' : ASt} {gs zs bs : List Nat} (h : Wk g σ σ' gs zs bs) {C : Ctx} (hC : C.γ.length = g) {a : Act} {w : World} (hR : Rel C (Below' σ.n) σ a w) : Rel C (Below' σ'.n) σ' a w := by
  obtain ⟨β, F, hR⟩ := hR
  let Bor : Nat → Prop := fun b => ∃ id ∈ bs, ∃ h k, σ.H id = some k ∧ β id = some h ∧ h.blk = some b
  let β' : Nat → Option Hdr := fun k => if k ∈ zs then some ⟨none, 0, 0⟩ else match gs[k]? with
    | some id => β id
    | none => none
  let F' : Nat → Prop := fun b => F b ∨ Bor b
  have hβ : ∀ (k id : Nat) (g : Hdr), gs[k]? = some id → β id = some g → β' k = some g := fun k id g e1 e2 => by
    have hk : k ∉ zs := fun hk => by
      have h1 := h.zfl k hk id e1
      have h2 : id < σ.n := hR.dom id g e2
      omega
    simp only [β', if_neg hk, e1]; exact e2
  have hz : ∀ k ∈ zs, β' k = some ⟨none, 0, 0⟩ := fun k hk => by simp only [β', if_pos hk]
  have hb : ∀ id ∈ bs, ∀ k, σ.H id = some k → ∃ g, β id = some g ∧ BlkR w F β g k ∧ ∀ b, g.blk = some b → F' b := fun id hid k hk => by
    obtain ⟨g', e1, e2, _⟩ := hR.live id k hk
    exact ⟨g', e1, e2, fun b hb => .inr ⟨id, hid, g', k, hk, e1, hb⟩⟩
  have hF : ∀ b, F b → F' b := fun b hb => .inl hb
  have hconv : ∀ {x y : AV} {v : Value}, ArgR σ.H gs zs bs x y → RV w F β x v → RV w F' β' y v := fun {x y v} hxy hv => hxy.rv hF hβ hz hb hv
  have hbor : ∀ b, Bor b → b < w.heap.size ∧ ¬ F b ∧ C.Mine b := fun b ⟨id, hid, g', k, h1, h2, h3⟩ => by
    obtain ⟨g'', q1, _, q3⟩ := hR.live id k h1
    rw [h2] at q1
    cases q1
    obtain ⟨r1, r2, r3⟩ := q3 b h3
    exact ⟨r1, r2, r3⟩
  have live : ∀ (k : Nat) (b' : ABlk), σ'.H k = some b' → (∃ id b g', gs[k]? = some id ∧ σ.H id = some b ∧ β id = some g' ∧ β' k = some g' ∧ BlkR w F' β' g' b' ∧ ∀ i, g'.blk = some i → i < w.heap.size ∧ ¬ F i ∧ C.Mine i) ∨ (β' k = some ⟨none, 0, 0⟩ ∧ BlkR w F' β' ⟨none, 0, 0⟩ b') := fun k b' hk => by
    rcases h.blk k b' hk with ⟨id, b, e1, e2, e3⟩ | ⟨e1, sz, rfl⟩
    · obtain ⟨g', q1, q2, q3⟩ := hR.live id b e2
      refine .inl ⟨id, b, g', e1, e2, q1, hβ k id g' e1 q1, ?_, q3⟩
      rcases e3 with ⟨c, c', rfl, rfl, hl, ha⟩ | ⟨sz, xs, xs', rfl, rfl, hl, hn⟩
      · obtain ⟨i, arr, ty, r1, r2, r3, r4⟩ := q2
        refine ⟨i, arr, ty, r1, r2, hl ▸ r3, fun j u' v hu' hv => ?_⟩
        have hj : j < c.length := by rw [hl]; exact (List.getElem?_eq_some_iff.1 hu').1
        exact hconv (ha j _ u' (List.getElem?_eq_getElem hj) hu') (r4 j _ v (List.getElem?_eq_getElem hj) hv)
      · obtain ⟨r1, r2, r3, r4, r5, r6⟩ := q2
        have el : ∀ (k : Nat) (c' : List AV), xs'[k]? = some c' → ∃ c, xs[k]? = some c := fun k c' hk => ⟨_, List.getElem?_eq_getElem (by rw [hl]; exact (List.getElem?_eq_some_iff.1 hk).1)⟩
        refine ⟨hl ▸ r1, hl ▸ r2, r3, r4, fun k c' hk => ?_, fun i hi => ?_⟩
        · obtain ⟨c, hc⟩ := el k c' hk
          obtain ⟨q1, q2, _⟩ := hn k c c' hc hk
          exact ⟨q1 ▸ (r5 k c hc).1, q2⟩
        · obtain ⟨arr, ty, s1, s2, s3⟩ := r6 i hi
          refine ⟨arr, ty, s1, s2, fun k c' j u' hk hj => ?_⟩
          obtain ⟨c, hc⟩ := el k c' hk
          obtain ⟨q1, _, q3⟩ := hn k c c' hc hk
          have hjl : j < c.length := by rw [q1]; exact (List.getElem?_eq_some_iff.1 hj).1
          obtain ⟨v, t1, t2⟩ := s3 k c j _ hc (List.getElem?_eq_getElem hjl)
          exact ⟨v, t1, hconv (q3 j _ u' (List.getElem?_eq_getElem hjl) hj) t2⟩
    · exact .inr ⟨hz k e1, ⟨rfl, Nat.le_refl _, by simp [maxLen], fun _ => rfl, fun k c hk => by simp at hk, fun b e => by cases e⟩⟩
  refine ⟨β', F', fun t => hconv (h.env t) (hR.env t), hR.size, hR.defers, fun k b' hk => ?_, fun k1 k2 b1 b2 g1 g2 i e1 e2 e3 e4 e5 e6 => ?_, fun k g' e => ?_, fun i g' e => ?_, fun b hb => .inl (hR.sub b hb), fun b hb => ?_, hR.os, hR.tape, hR.output, hR.grow, hR.block, fun g => (hR.glo g).mono (fun b hb => .inl hb) (fun _ _ => rfl) (fun _ _ e => e)⟩
  · rcases live k b' hk with ⟨id, b, g', e1, e2, e3, e4, e5, e6⟩ | ⟨e1, e2⟩
    · refine ⟨g', e4, e5, fun i hi => ⟨(e6 i hi).1, fun hF => ?_, (e6 i hi).2.2⟩⟩
      · rcases hF with hF | ⟨id2, hid2, g2, k2, q1, q2, q3⟩
        · exact (e6 i hi).2.1 hF
        · have := hR.inj id id2 b k2 g' g2 i e2 q1 e3 q2 hi q3
          exact h.dis k id b' e1 hk (this ▸ hid2)
    · exact ⟨_, e1, e2, fun i hi => by cases hi⟩
  · rcases live k1 b1 e1 with ⟨id1, c1, h1, q1, q2, q3, q4, _⟩ | ⟨q, _⟩
    · rcases live k2 b2 e2 with ⟨id2, c2, h2, r1, r2, r3, r4, _⟩ | ⟨r, _⟩
      · rw [e3] at q4
        rw [e4] at r4
        cases q4
        cases r4
        have := hR.inj id1 id2 c1 c2 g1 g2 i q2 r2 q3 r3 e5 e6
        subst this
        exact h.nd k1 k2 id1 b1 b2 q1 r1 e1 e2
      · rw [e4] at r; cases r; cases e6
    · rw [e3] at q; cases q; cases e5
  · simp only [β'] at e
    split at e
    · exact h.zge k ‹_›
    · cases hk : gs[k]? with
      | some id =>
        have := (List.getElem?_eq_some_iff.1 hk).1
        have := h.gle
        show k < σ'.n
        omega
      | none =>
        rw [hk] at e
        cases e
  · have h1 := h.fix i (by rw [← hC]; exact (List.getElem?_eq_some_iff.1 e).1)
    exact hβ i i g' h1 (hR.gr i g' e)
  · rcases hb with hb | hb
    · exact hR.news b hb
    · obtain ⟨h1, _, h3⟩ := hbor b hb
      exact ⟨h1, .inr h3⟩
end Go.Proofs.Ytkefkegknacpjaa.Ax
