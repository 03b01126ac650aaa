import Derived.Test.YtkajegjghfbgaaaAxS
import Derived.Test.YtkajegjghfbgaaaAxI
import Derived.Lib.SliceRun
import Derived.Laws.Cover3

/- The abstract walk of operations. Nothing of the dump is used here. -/
namespace Go.Proofs.Ytkajegjghfbgaaa.Ax
open Go.RowKit
set_option linter.unusedVariables false
set_option linter.unusedSimpArgs false

def chunkA (sz : Nat) : Nat → List AV → List (List AV)
  | 0, _ => []
  | n + 1, c => c.take sz :: chunkA sz n (c.drop sz)

theorem chunk_len (sz : Nat) : ∀ (n : Nat) (c : List AV), (chunkA sz n c).length = n
  | 0, c => rfl
  | n + 1, c => by simp [chunkA, chunk_len sz n]

theorem chunk_at (sz : Nat) : ∀ (n : Nat) (c : List AV) (k : Nat) (e : List AV), (chunkA sz n c)[k]? = some e → k < n ∧ e = (c.drop (k * sz)).take sz
  | 0, c, k, e, h => by simp [chunkA] at h
  | n + 1, c, 0, e, h => by simp [chunkA] at h; simp [h]
  | n + 1, c, k + 1, e, h => by
    obtain ⟨h1, h2⟩ := chunk_at sz n (c.drop sz) k e (by simpa [chunkA] using h)
    refine ⟨by omega, ?_⟩
    rw [h2, List.drop_drop, Nat.succ_mul, Nat.add_comm sz]

theorem chunk_flat {w : World} {F : Nat → Prop} {β : Nat → Option Hdr} {c : List AV} {arr : Array Value} {sz n : Nat} (h : RVs w F β c arr) (hl : c.length = n * sz) (h1 : c.all AV.one = true) : Flat w F β sz (chunkA sz n c) arr.toList := by
  have hlen : ∀ (k : Nat), k < n → ((c.drop (k * sz)).take sz).length = sz := fun k hk => by
    have : (k + 1) * sz ≤ n * sz := Nat.mul_le_mul_right _ hk
    rw [Nat.succ_mul] at this
    simp only [List.length_take, List.length_drop]
    omega
  refine ⟨by rw [chunk_len, Array.length_toList, ← h.1, hl], fun k e hk => ?_, fun k e j u hk hj => ?_⟩
  · obtain ⟨hkn, rfl⟩ := chunk_at sz n c k e hk
    refine ⟨hlen k hkn, fun u hu => ?_⟩
    rw [List.all_eq_true] at h1
    exact h1 u (List.mem_of_mem_drop (List.mem_of_mem_take hu))
  · obtain ⟨_, rfl⟩ := chunk_at sz n c k e hk
    rw [List.getElem?_take, List.getElem?_drop] at hj
    split at hj
    · obtain ⟨v, e1, e2⟩ := h.at hj
      exact ⟨v, by rw [Array.getElem?_toList]; exact e1, e2⟩
    · cases hj

theorem ok_buildSlice {P : Program} {tab : Tab} (hT : TabOK P tab) {g : Nat} {o : Oper} {σ : ASt} {t e : TypeId} {ti : TI} {sz eb : Nat} {ez : List AV} {n : Nat} {parts : Array (Nat × Operand)} {c : List AV} (ho : o.op = .buildSlice t n parts) (ht : tab t = some ti) (hd : ti.d = .slc e sz eb ez) (hez : ez.length = sz)
    (hn : n * sz ≤ 16777216) (hm : n ≤ 16777216) (hc : fillA ((List.range n).map fun i => (i * sz, sz)) (List.replicate (n * sz) .any) (parts.toList.map fun p => (p.1, ev σ.env p.2)) = some c) (h1 : c.all AV.one = true) (hl : c.length = n * sz) :
    OpOK P g o σ ⟨.osl σ.n, [(σ.n, some (.row sz (chunkA sz n c)))], [], σ.n + 1⟩ := by
  refine ⟨Nat.le_succ _, fun C I σ2 a w K Q hC hxs hH hI hdd hR hK => ?_⟩
  obtain ⟨β, F, hR⟩ := hR
  have hnI : ¬ I σ.n := hI σ.n (Nat.le_refl _) (Nat.lt_succ_self _)
  obtain ⟨i0, d0, z0, _, k1, _, _, _, _, k2⟩ := ty_parts (hT t ti ht)
  rw [hd] at k2
  obtain ⟨i, z, rfl, k3, rfl, rfl, k4, rfl⟩ := td_slc k2.symm
  have hz : (zeroValue e).run P w = .ok z w := by simp [zeroValue, run_typeInfo w k3, k4]
  -- the cells before the parts are put in
  have hbig : ¬ 16777216 < n * i.size := by omega
  obtain ⟨zc, hzc⟩ : ∃ zc : Array Value, (n * i.size = 0 ∧ zc = #[]) ∨ (n * i.size ≠ 0 ∧ zc = z.cells) := by
    by_cases h0 : n * i.size = 0
    · exact ⟨_, .inl ⟨h0, rfl⟩⟩
    · exact ⟨_, .inr ⟨h0, rfl⟩⟩
  obtain ⟨init, hinit⟩ : ∃ init : Array Value, init = (Array.range (n * i.size)).map (zc[· % zc.size]!) := ⟨_, rfl⟩
  have hisz : init.size = n * i.size := by rw [hinit]; simp
  have hany : RVs w F β (List.replicate (n * i.size) .any) init := ⟨by simp [hisz], fun j u v hu _ => by rw [List.eq_of_mem_replicate (List.mem_of_getElem? hu)]; exact .any v⟩
  have hparts := parts_of (w := w) (F := F) (β := β) (env := σ.env) (a := a) (parts := parts) (fun y hy => hxs y (by simp [ho, Op.operands] at hy ⊢; exact hy) _ _ _ _ (hR.ev y))
  obtain ⟨cs', e1, e2⟩ := fill_ok (pl := fun k => some (k * i.size, i.size)) (place := (List.range n).map fun k => (k * i.size, i.size)) (fun k p h => by
    rw [List.getElem?_map] at h
    by_cases hk : k < n
    · simp [hk] at h; exact congrArg some h
    · simp [hk] at h) _ (parts.map fun p => (p.1, a.eval p.2)).toList _ _ init hc hany (by simp) hparts
  have hrun : (execOp a.eval o).run P w = .ok (.value (.slice (some ⟨w.heap.size, 0, none⟩) n n)) (w.alloc (.cells cs' e)) := by
    simp only [execOp, ho, Instr.buildSlice, Sem.run_bind, run_underlying k1, Result.andThen_ok, run_sizeOf w k3]
    rw [if_neg (by simpa using hbig)]
    rcases hzc with ⟨h0, rfl⟩ | ⟨h0, rfl⟩
    · rw [if_pos h0]
      simp only [Sem.run_bind, Sem.run_pure, Result.andThen_ok, ← hinit, e1, run_newRow']
    · rw [if_neg h0]
      simp only [Sem.run_bind, Sem.run_pure, Result.andThen_ok, hz, ← hinit, e1, run_newRow']
  have hns := same_alloc w (.cells cs' e)
  have hcs := e2.news hR hnI ⟨some w.heap.size, n, n⟩ (.cells cs' e)
  have hfl := chunk_flat (n := n) hcs hl h1
  have hblk := flat_blk hfl (heap_alloc_new w _) (fun p hp => by simp) (cap := n) (by rw [← hcs.1, hl]; exact Nat.le_refl _) (by rw [chunk_len]; exact Nat.le_refl _) (by
    simp only [maxLen]
    omega)
  rw [chunk_len] at hblk
  have h2 := hR.new hnI hns ⟨some w.heap.size, n, n⟩ (fun j e => by cases e; exact ⟨Nat.le_refl _, by simp⟩) _ hblk
  exact upon_value hrun (hK _ _ ⟨_, F, (h2.put o.dst (.osl σ.n) _ hdd (.osl σ.n ⟨some w.heap.size, n, n⟩ (setB_same _ _ _))).fin rfl rfl (fun i hi => one_id hi)⟩)
end Go.Proofs.Ytkajegjghfbgaaa.Ax

/- Kinds of cells; what is known, told in other names. Nothing of the dump is used here. -/
namespace Go.Proofs.Ytkajegjghfbgaaa.Ax
open Go.RowKit
set_option linter.unusedVariables false
set_option linter.unusedSimpArgs false

def matchK : List CK → List AV → Bool
  | [], [] => true
  | .int :: ks, .int _ _ :: c => matchK ks c
  | .str :: ks, .str _ :: c => matchK ks c
  | .bool :: ks, .bool _ :: c => matchK ks c
  | .bool :: ks, .tru :: c => matchK ks c
  | .bool :: ks, .fls :: c => matchK ks c
  | _, _ => false

theorem matchK_app : ∀ {k1 k2 : List CK} {c : List AV}, matchK (k1 ++ k2) c = true → matchK k1 (c.take k1.length) = true ∧ matchK k2 (c.drop k1.length) = true
  | [], k2, c, h => by simpa [matchK] using h
  | k :: k1, k2, [], h => by cases k <;> simp [matchK] at h
  | k :: k1, k2, x :: c, h => by
    cases k <;> cases x <;> simp only [List.cons_append, matchK, Bool.false_eq_true] at h <;> (obtain ⟨h1, h2⟩ := matchK_app h; exact ⟨by simpa [matchK] using h1, by simpa using h2⟩)

theorem matchK_len : ∀ {k : List CK} {c : List AV}, matchK k c = true → c.length = k.length
  | [], [], _ => rfl
  | k :: k1, [], h => by cases k <;> simp [matchK] at h
  | [], x :: c, h => by simp [matchK] at h
  | k :: k1, x :: c, h => by
    cases k <;> cases x <;> simp only [matchK, Bool.false_eq_true] at h <;> (have := matchK_len h; simp [this])

theorem kind_ok {P : Program} : ∀ (d : Nat) (t : TypeId) (ks : List CK) (c : List AV), eqKinds P d t = some ks → matchK ks c = true → kindOf P d t c = true
  | 0, t, ks, c, h, _ => by simp [eqKinds] at h
  | d + 1, t, ks, c, h, hm => by
    unfold eqKinds at h
    unfold kindOf
    split at h
    · rename_i e; cases h; rw [e]
      match c, hm with
      | [.int _ _], _ => rfl
      | [], hm => simp [matchK] at hm
      | x :: y :: c, hm => have := matchK_len hm; simp at this
      | [.any], hm | [.tru], hm | [.fls], hm | [.bool _], hm | [.str _], hm | [.nilp], hm | [.val _], hm | [.nils], hm | [.ptr _ _], hm | [.eptr _ _ _ _], hm | [.mp _], hm | [.iptr _], hm | [.lst _ _], hm | [.lsc _ _], hm | [.osl _], hm | [.sub _ _ _ _ _], hm | [.agg _], hm | [.tup _], hm | [.fn _ _], hm => simp [matchK] at hm
    · rename_i e; cases h; rw [e]
      match c, hm with
      | [.str _], _ => rfl
      | [], hm => simp [matchK] at hm
      | x :: y :: c, hm => have := matchK_len hm; simp at this
      | [.any], hm | [.tru], hm | [.fls], hm | [.bool _], hm | [.int _ _], hm | [.nilp], hm | [.val _], hm | [.nils], hm | [.ptr _ _], hm | [.eptr _ _ _ _], hm | [.mp _], hm | [.iptr _], hm | [.lst _ _], hm | [.lsc _ _], hm | [.osl _], hm | [.sub _ _ _ _ _], hm | [.agg _], hm | [.tup _], hm | [.fn _ _], hm => simp [matchK] at hm
    · rename_i e; cases h; rw [e]
      match c, hm with
      | [.bool _], _ => rfl
      | [.tru], _ => rfl
      | [.fls], _ => rfl
      | [], hm => simp [matchK] at hm
      | x :: y :: c, hm => have := matchK_len hm; simp at this
      | [.any], hm | [.str _], hm | [.int _ _], hm | [.nilp], hm | [.val _], hm | [.nils], hm | [.ptr _ _], hm | [.eptr _ _ _ _], hm | [.mp _], hm | [.iptr _], hm | [.lst _ _], hm | [.lsc _ _], hm | [.osl _], hm | [.sub _ _ _ _ _], hm | [.agg _], hm | [.tup _], hm | [.fn _ _], hm => simp [matchK] at hm
    · rename_i fs e
      rw [e]
      simp only
      have key : ∀ (l : List Field) (ks : List CK) (c : List AV), kindsF P (eqKinds P d) l = some ks → matchK ks c = true → kinds P (kindOf P d) l c = true := by
        intro l
        induction l with
        | nil => intro ks c _ _; rfl
        | cons f l ih =>
          intro ks c h1 h2
          simp only [kindsF] at h1
          split at h1
          · rename_i i k r q1 q2 q3
            split at h1
            · rename_i hl
              cases h1
              obtain ⟨m1, m2⟩ := matchK_app h2
              rw [hl] at m1 m2
              simp only [kinds, q1, Bool.and_eq_true]
              exact ⟨kind_ok d f.type k _ q2 m1, ih r _ q3 m2⟩
            · cases h1
          · cases h1
      exact key fs.toList ks c h hm
    · cases h

theorem kindsF_len {P : Program} {rec : TypeId → Option (List CK)} {rec2 : TypeId → Bool} : ∀ (l : List Field) (ks : List CK) (off n : Nat), kindsF P rec l = some ks → tileB P rec2 l off n = true → off + ks.length = n
  | [], ks, off, n, h, k => by
    simp only [kindsF] at h
    cases h
    simp only [tileB, beq_iff_eq] at k
    simpa using k
  | f :: l, ks, off, n, h, k => by
    simp only [kindsF] at h
    split at h
    · rename_i i kk r q1 q2 q3
      split at h
      · rename_i hl
        cases h
        simp only [tileB, q1, Bool.and_eq_true] at k
        have := kindsF_len l r _ n q3 k.2
        rw [List.length_append, hl]
        omega
      · cases h
    · cases h

/-- an array is put together -/
theorem gives_buildA {P : Program} {tab : Tab} (hT : TabOK P tab) {o : Oper} {env : Nat → AV} {H : Nat → Option ABlk} {t : TypeId} {ti : TI} {n sz : Nat} {g : Bool} {parts : Array (Nat × Operand)} {c : List AV} (ho : o.op = .build t parts) (ht : tab t = some ti) (hd : ti.d = .arr n sz g)
    (hc : fillA ((List.range n).map fun i => (i * sz, sz)) ti.zero (parts.toList.map fun p => (p.1, ev env p.2)) = some c) : Gives P o env H (.agg c) [] := by
  intro w F β a hx _
  obtain ⟨ii, dd, z, g1, g2, g5, _, _, g6, g3⟩ := ty_parts (hT t ti ht)
  rw [hd] at g3
  obtain ⟨e, i', d', rfl, g4, rfl, _, _⟩ := td_arr g3.symm
  have hz : (zeroValue t).run P w = .ok z w := by simp [zeroValue, run_typeInfo w g1, g5]
  obtain ⟨cs', e1, e2⟩ := fill_ok (w := w) (F := F) (β := β) (pl := fun k => some (k * i'.size, i'.size)) (place := (List.range n).map fun k => (k * i'.size, i'.size)) (fun k p h => by
    rw [List.getElem?_map] at h
    by_cases hk : k < n
    · simp [hk] at h; exact congrArg some h
    · simp [hk] at h) _ (parts.map fun p => (p.1, a.eval p.2)).toList _ _ z.cells hc (by rw [g6]; exact zero_rvs _ _ _ _) (by simp)
    (parts_of (fun y hy => hx y (by simp [ho, Op.operands] at hy ⊢; exact hy) ))
  refine ⟨.agg cs', ?_, .agg _ _ e2.1 e2.2⟩
  simp only [execOp, ho, Instr.build, Sem.run_bind, hz, Result.andThen_ok, run_underlying g2, run_sizeOf w g4, e1, Sem.run_pure]

/-- two arrays of ints are compared -/
theorem gives_eqArr {P : Program} {o : Oper} {env : Nat → AV} {H : Nat → Option ABlk} {op : BinOp} {x y : Operand} {t t' : TypeId} {c e : List AV} {r : Bool} {n : Nat} {et : TypeId} {i : TypeInfo} {kk : IntKind} (ho : o.op = .binOp op t x y t') (hop : op = .eql ∨ op = .neq) (hu : P.underlying t = some (.array n et)) (hi : P.info? et = some i)
    (hsz : i.size = 1) (hue : P.underlying et = some (.int kk)) (hg : P.eqGuardType P.depth t = false) (hc : ev env x = .agg c) (hd : ev env y = .agg e) (hm : matchK (List.replicate n .int) c = true) (hr : eqCells c e = some r) : Gives P o env H (.bool (if op = .eql then r else !r)) [] := by
  intro w F β a hx _
  have h1 := hx x (by simp [ho, Op.operands])
  have h2 := hx y (by simp [ho, Op.operands])
  rw [hc] at h1
  rw [hd] at h2
  generalize hvx : a.eval x = vx at h1
  generalize hvy : a.eval y = vy at h2
  have hcl : c.length = n := by have := matchK_len hm; simpa using this
  cases h1 with
  | agg _ xs k1 k2 =>
    cases h2 with
    | agg _ ys k3 k4 =>
      have hcs : P.cellsOf et = 1 := by simp [Program.cellsOf, hi, hsz]
      have hel : c.length = e.length := eqCells_len hr
      have main : ∀ (m p : Nat) (r : Bool), p + m = n → eqCells (c.drop p) (e.drop p) = some r → matchK (List.replicate m .int) (c.drop p) = true → (Op.eqItems 9999 et 1 xs ys (List.range' p m)).run P w = .ok r w := by
        intro m
        induction m with
        | zero =>
          intro p r hp hr _
          rw [List.drop_eq_nil_of_le (by omega), List.drop_eq_nil_of_le (by omega)] at hr
          simp only [eqCells] at hr
          cases hr
          simp [Op.eqItems]
        | succ m ih =>
          intro p r hp hr hm
          have hlt : p < c.length := by omega
          have hlt2 : p < e.length := by omega
          rw [List.drop_eq_getElem_cons hlt, List.drop_eq_getElem_cons hlt2] at hr
          rw [List.drop_eq_getElem_cons hlt, List.replicate_succ] at hm
          simp only [eqCells] at hr
          split at hr
          · rename_i b r' e1 e2
            cases hr
            generalize hcp : c[p] = cp at hm e1
            generalize hep : e[p] = ep at e1
            cases cp <;> simp only [matchK, Bool.false_eq_true] at hm
            rename_i k z
            cases ep <;> simp only [eq1, reduceCtorEq] at e1
            rename_i k' z'
            split at e1
            · rename_i hk
              subst hk
              cases e1
              have hx1 := k2 p _ (xs[p]'(by omega)) (by rw [List.getElem?_eq_getElem hlt, hcp]) (by simp)
              have hy1 := k4 p _ (ys[p]'(by omega)) (by rw [List.getElem?_eq_getElem hlt2, hep]) (by simp)
              have px : (part et xs p).run P w = .ok xs[p] w := by rw [run_part w hi hue]; simp [aggD, show p < xs.size by omega]
              have py : (part et ys p).run P w = .ok ys[p] w := by rw [run_part w hi hue]; simp [aggD, show p < ys.size by omega]
              have hrest := ih (p + 1) r' (by omega) e2 hm
              have hq : (Op.equalIn 9999 et xs[p] ys[p]).run P w = .ok (z == z') w := by
                generalize xs[p] = u at hx1
                generalize ys[p] = v at hy1
                cases hx1
                cases hy1
                exact run_equalIn_int w 9998 et _ _ _ _ hue
              rw [List.range'_succ]
              simp only [Op.eqItems, Nat.mul_one, Sem.run_bind, px, py, hq, Result.andThen_ok]
              cases hzz : (z == z')
              · simp
              · simpa using hrest
            · cases e1
          · cases hr
      have hrun := run_equalIn_array (w := w) 9999 xs ys hu hi
      rw [hcs, List.range_eq_range', main n 0 r (by omega) (by simpa using hr) (by simpa using hm)] at hrun
      have hgu := run_eqGuard_agg (P := P) w op t x y xs ys hg
      rcases hop with rfl | rfl
      · refine ⟨.bool r, ?_, .bool _⟩
        simp only [execOp, ho, hvx, hvy, Sem.run_bind, hgu, Result.andThen_ok, run_eql_struct, hrun, Sem.run_pure]
      · refine ⟨.bool (!r), ?_, .bool _⟩
        simp only [execOp, ho, hvx, hvy, Sem.run_bind, hgu, Result.andThen_ok, run_neq_struct, hrun, Sem.run_pure]

/-- two structs are compared -/
theorem gives_eqA {P : Program} {tab : Tab} (hT : TabOK P tab) {o : Oper} {env : Nat → AV} {H : Nat → Option ABlk} {op : BinOp} {x y : Operand} {t t' : TypeId} {ti : TI} {ks : List CK} {c e : List AV} {r : Bool} (ho : o.op = .binOp op t x y t') (hop : op = .eql ∨ op = .neq) (ht : tab t = some ti) (hk : ti.eqk = some ks)
    (hc : ev env x = .agg c) (hd : ev env y = .agg e) (hm : matchK ks c = true) (hr : eqCells c e = some r) : Gives P o env H (.bool (if op = .eql then r else !r)) [] := by
  have h0 := hT t ti ht
  unfold tyInfo at h0
  split at h0
  · rename_i i d h1 h2
    split at h0
    · rename_i z hz
      cases h0
      simp only at hk
      unfold eqkOf at hk
      split at hk
      · rename_i fs hfs
        split at hk
        · rename_i hb
          simp only [Bool.and_eq_true, Bool.not_eq_true'] at hb
          refine gives_eqS ho hop hfs h1 hb.1 hb.2 hc hd ?_ (kind_ok 10 t ks c hk hm) hr
          rw [matchK_len hm]
          have h3 := hk
          unfold eqKinds at h3
          rw [hfs] at h3
          have h4 := hb.1
          unfold eqTy at h4
          rw [hfs, h1] at h4
          simp only [Bool.and_eq_true] at h4
          have := kindsF_len _ _ 0 _ h3 h4.2
          omega
        · cases hk
      · rename_i n et hu
        split at hk
        · rename_i kk ii q1 q2
          split at hk
          · rename_i hb
            simp only [Bool.and_eq_true, beq_iff_eq, Bool.not_eq_true'] at hb
            cases hk
            exact gives_eqArr ho hop hu q2 hb.1 q1 hb.2 hc hd hm hr
          · cases hk
        · cases hk
      · cases hk
    · cases h0
  · cases h0

/-- what the one state says, the other says in other names -/
structure Wk (g : Nat) (σ σ' : ASt) (gs zs bs : List Nat) : Prop where
  env : ∀ t, ArgR σ.H gs zs bs (σ.env t) (σ'.env t)
  blk : ∀ (k : Nat) (b' : ABlk), σ'.H k = some b' → (∃ id b, gs[k]? = some id ∧ σ.H id = some b ∧
      ((∃ c c', b = .box c ∧ b' = .box c' ∧ c.length = c'.length ∧ ∀ (j : Nat) (u u' : AV), c[j]? = some u → c'[j]? = some u' → ArgR σ.H gs zs bs u u') ∨
      (∃ sz xs xs', b = .row sz xs ∧ b' = .row sz xs' ∧ xs.length = xs'.length ∧ ∀ (i : Nat) (c c' : List AV), xs[i]? = some c → xs'[i]? = some c' → c.length = c'.length ∧ (∀ u ∈ c', u.one = true) ∧ ∀ (j : Nat) (u u' : AV), c[j]? = some u → c'[j]? = some u' → ArgR σ.H gs zs bs u u') ∨ ∃ q q', b = .obj q ∧ b' = .obj q' ∧ ∀ o, q o → q' o)) ∨ (k ∈ zs ∧ ∃ sz, b' = .row sz [])
  fix : ∀ i, i < g → gs[i]? = some i
  nd : ∀ (i j id : Nat) (b b' : ABlk), gs[i]? = some id → gs[j]? = some id → σ'.H i = some b → σ'.H j = some b' → i = j
  dis : ∀ (k id : Nat) (b : ABlk), gs[k]? = some id → σ'.H k = some b → id ∉ bs
  zge : ∀ k ∈ zs, k < σ'.n
  zfl : ∀ k ∈ zs, ∀ id, gs[k]? = some id → σ.n ≤ id
  gle : gs.length ≤ σ'.n

theorem Wk.rel {g : Nat} {σ σ' : ASt} {gs zs bs : List Nat} (h : Wk g σ σ' gs zs bs) {C : Ctx} (hC : C.γ.length = g) {a : Act} {w : World} (hR : Rel C (Below' σ.n) σ a w) : Rel C (Below' σ'.n) σ' a w := by
  obtain ⟨β, F, hR⟩ := hR
  let Bor : Nat → Prop := fun b => ∃ id ∈ bs, ∃ h k, σ.H id = some k ∧ β id = some h ∧ h.blk = some b
  let β' : Nat → Option Hdr := fun k => if k ∈ zs then some ⟨none, 0, 0⟩ else match gs[k]? with
    | some id => β id
    | none => none
  let F' : Nat → Prop := fun b => F b ∨ Bor b
  have hβ : ∀ (k id : Nat) (g : Hdr), gs[k]? = some id → β id = some g → β' k = some g := fun k id g e1 e2 => by
    have hk : k ∉ zs := fun hk => by
      have h1 := h.zfl k hk id e1
      have h2 : id < σ.n := hR.dom id g e2
      omega
    simp only [β', if_neg hk, e1]; exact e2
  have hz : ∀ k ∈ zs, β' k = some ⟨none, 0, 0⟩ := fun k hk => by simp only [β', if_pos hk]
  have hb : ∀ id ∈ bs, ∀ k, σ.H id = some k → ∃ g, β id = some g ∧ BlkR w F β g k ∧ ∀ b, g.blk = some b → F' b := fun id hid k hk => by
    obtain ⟨g', e1, e2, _⟩ := hR.live id k hk
    exact ⟨g', e1, e2, fun b hb => .inr ⟨id, hid, g', k, hk, e1, hb⟩⟩
  have hF : ∀ b, F b → F' b := fun b hb => .inl hb
  have hconv : ∀ {x y : AV} {v : Value}, ArgR σ.H gs zs bs x y → RV w F β x v → RV w F' β' y v := fun {x y v} hxy hv => hxy.rv hF hβ hz hb hv
  have hbor : ∀ b, Bor b → b < w.heap.size ∧ ¬ F b ∧ C.Mine b := fun b ⟨id, hid, g', k, h1, h2, h3⟩ => by
    obtain ⟨g'', q1, _, q3⟩ := hR.live id k h1
    rw [h2] at q1
    cases q1
    obtain ⟨r1, r2, r3⟩ := q3 b h3
    exact ⟨r1, r2, r3⟩
  have live : ∀ (k : Nat) (b' : ABlk), σ'.H k = some b' → (∃ id b g', gs[k]? = some id ∧ σ.H id = some b ∧ β id = some g' ∧ β' k = some g' ∧ BlkR w F' β' g' b' ∧ ∀ i, g'.blk = some i → i < w.heap.size ∧ ¬ F i ∧ C.Mine i) ∨ (β' k = some ⟨none, 0, 0⟩ ∧ BlkR w F' β' ⟨none, 0, 0⟩ b') := fun k b' hk => by
    rcases h.blk k b' hk with ⟨id, b, e1, e2, e3⟩ | ⟨e1, sz, rfl⟩
    · obtain ⟨g', q1, q2, q3⟩ := hR.live id b e2
      refine .inl ⟨id, b, g', e1, e2, q1, hβ k id g' e1 q1, ?_, q3⟩
      rcases e3 with ⟨c, c', rfl, rfl, hl, ha⟩ | ⟨sz, xs, xs', rfl, rfl, hl, hn⟩ | ⟨q, q', rfl, rfl, hq⟩
      · obtain ⟨i, arr, ty, r1, r2, r3, r4⟩ := q2
        refine ⟨i, arr, ty, r1, r2, hl ▸ r3, fun j u' v hu' hv => ?_⟩
        have hj : j < c.length := by rw [hl]; exact (List.getElem?_eq_some_iff.1 hu').1
        exact hconv (ha j _ u' (List.getElem?_eq_getElem hj) hu') (r4 j _ v (List.getElem?_eq_getElem hj) hv)
      · obtain ⟨r1, r2, r3, r4, r5, r6⟩ := q2
        have el : ∀ (k : Nat) (c' : List AV), xs'[k]? = some c' → ∃ c, xs[k]? = some c := fun k c' hk => ⟨_, List.getElem?_eq_getElem (by rw [hl]; exact (List.getElem?_eq_some_iff.1 hk).1)⟩
        refine ⟨hl ▸ r1, hl ▸ r2, r3, r4, fun k c' hk => ?_, fun i hi => ?_⟩
        · obtain ⟨c, hc⟩ := el k c' hk
          obtain ⟨q1, q2, _⟩ := hn k c c' hc hk
          exact ⟨q1 ▸ (r5 k c hc).1, q2⟩
        · obtain ⟨arr, ty, s1, s2, s3⟩ := r6 i hi
          refine ⟨arr, ty, s1, s2, fun k c' j u' hk hj => ?_⟩
          obtain ⟨c, hc⟩ := el k c' hk
          obtain ⟨q1, _, q3⟩ := hn k c c' hc hk
          have hjl : j < c.length := by rw [q1]; exact (List.getElem?_eq_some_iff.1 hj).1
          obtain ⟨v, t1, t2⟩ := s3 k c j _ hc (List.getElem?_eq_getElem hjl)
          exact ⟨v, t1, hconv (q3 j _ u' (List.getElem?_eq_getElem hjl) hj) t2⟩
      · obtain ⟨b, o, r1, r2, r3⟩ := q2
        exact ⟨b, o, r1, r2, hq o r3⟩
    · exact .inr ⟨hz k e1, ⟨rfl, Nat.le_refl _, by simp [maxLen], fun _ => rfl, fun k c hk => by simp at hk, fun b e => by cases e⟩⟩
  refine ⟨β', F', fun t => hconv (h.env t) (hR.env t), hR.size, hR.defers, fun k b' hk => ?_, fun k1 k2 b1 b2 g1 g2 i e1 e2 e3 e4 e5 e6 => ?_, fun k g' e => ?_, fun i g' e => ?_, fun b hb => .inl (hR.sub b hb), fun b hb => ?_, hR.os, hR.tape, hR.output, hR.grow, hR.block, fun g => (hR.glo g).mono (fun b hb => .inl hb) (fun _ _ => rfl) (fun _ _ e => e)⟩
  · rcases live k b' hk with ⟨id, b, g', e1, e2, e3, e4, e5, e6⟩ | ⟨e1, e2⟩
    · refine ⟨g', e4, e5, fun i hi => ⟨(e6 i hi).1, fun hF => ?_, (e6 i hi).2.2⟩⟩
      · rcases hF with hF | ⟨id2, hid2, g2, k2, q1, q2, q3⟩
        · exact (e6 i hi).2.1 hF
        · have := hR.inj id id2 b k2 g' g2 i e2 q1 e3 q2 hi q3
          exact h.dis k id b' e1 hk (this ▸ hid2)
    · exact ⟨_, e1, e2, fun i hi => by cases hi⟩
  · rcases live k1 b1 e1 with ⟨id1, c1, h1, q1, q2, q3, q4, _⟩ | ⟨q, _⟩
    · rcases live k2 b2 e2 with ⟨id2, c2, h2, r1, r2, r3, r4, _⟩ | ⟨r, _⟩
      · rw [e3] at q4
        rw [e4] at r4
        cases q4
        cases r4
        have := hR.inj id1 id2 c1 c2 g1 g2 i q2 r2 q3 r3 e5 e6
        subst this
        exact h.nd k1 k2 id1 b1 b2 q1 r1 e1 e2
      · rw [e4] at r; cases r; cases e6
    · rw [e3] at q; cases q; cases e5
  · simp only [β'] at e
    split at e
    · exact h.zge k ‹_›
    · cases hk : gs[k]? with
      | some id =>
        have := (List.getElem?_eq_some_iff.1 hk).1
        have := h.gle
        show k < σ'.n
        omega
      | none =>
        rw [hk] at e
        cases e
  · have h1 := h.fix i (by rw [← hC]; exact (List.getElem?_eq_some_iff.1 e).1)
    exact hβ i i g' h1 (hR.gr i g' e)
  · rcases hb with hb | hb
    · exact hR.news b hb
    · obtain ⟨h1, _, h3⟩ := hbor b hb
      exact ⟨h1, .inr h3⟩
end Go.Proofs.Ytkajegjghfbgaaa.Ax

/- Values worked out before a walk goes on. Nothing of the dump is used here. -/
namespace Go.Proofs.Ytkajegjghfbgaaa.Ax
open Go.RowKit
set_option linter.unusedVariables false
set_option linter.unusedSimpArgs false

def forceN : Nat → (Nat → Prop) → Prop
  | 0, K => K 0
  | n + 1, K => K (n + 1)

theorem forceN_iff {n : Nat} {K : Nat → Prop} : forceN n K ↔ K n := by cases n <;> exact Iff.rfl

/-- the head of a value is worked out before the walk goes on -/
def forceH : AV → (AV → Prop) → Prop
  | .ptr id j, K => forceN id fun id => K (.ptr id j)
  | .eptr id sz i j, K => forceN id fun id => K (.eptr id sz i j)
  | .mp id, K => forceN id fun id => K (.mp id)
  | .osl id, K => forceN id fun id => K (.osl id)
  | .sub id a b c d, K => forceN id fun id => K (.sub id a b c d)
  | .any, K => K .any
  | .int k n, K => K (.int k n)
  | .tru, K => K .tru
  | .fls, K => K .fls
  | .bool b, K => K (.bool b)
  | .str s, K => K (.str s)
  | .nilp, K => K .nilp
  | .val v, K => K (.val v)
  | .nils, K => K .nils
  | .iptr c, K => K (.iptr c)
  | .lst sz xs, K => K (.lst sz xs)
  | .lsc sz xs, K => K (.lsc sz xs)
  | .agg c, K => K (.agg c)
  | .tup c, K => K (.tup c)
  | .fn f c, K => K (.fn f c)

theorem forceH_iff {v : AV} {K : AV → Prop} : forceH v K ↔ K v := by
  cases v <;> first
    | exact Iff.rfl
    | exact forceN_iff (K := fun id => K (.ptr id _))
    | exact forceN_iff (K := fun id => K (.eptr id _ _ _))
    | exact forceN_iff (K := fun id => K (.mp id))
    | exact forceN_iff (K := fun id => K (.osl id))
    | exact forceN_iff (K := fun id => K (.sub id _ _ _ _))

def forceL : List AV → (List AV → Prop) → Prop
  | [], K => K []
  | v :: l, K => forceH v fun v => forceL l fun l => K (v :: l)

theorem forceL_iff : ∀ {l : List AV} {K : List AV → Prop}, forceL l K ↔ K l
  | [], K => Iff.rfl
  | v :: l, K => forceH_iff.trans forceL_iff

def forceC : List (List AV) → (List (List AV) → Prop) → Prop
  | [], K => K []
  | c :: l, K => forceL c fun c => forceC l fun l => K (c :: l)

theorem forceC_iff : ∀ {l : List (List AV)} {K : List (List AV) → Prop}, forceC l K ↔ K l
  | [], K => Iff.rfl
  | c :: l, K => forceL_iff.trans forceC_iff

end Go.Proofs.Ytkajegjghfbgaaa.Ax

/- The abstract walk of one operation. Nothing of the dump is used here. -/
namespace Go.Proofs.Ytkajegjghfbgaaa.Ax
open Go.RowKit
set_option linter.unusedVariables false
set_option linter.unusedSimpArgs false

/-- blocks that a call only reads: lent (then what comes back leads to none of them), or given up -/
def LendOK (up : Bool) (g : Nat) (bs : List Nat) (res : AV) (G' : List ABlk) : Prop := match up with
  | true => True
  | false => bs = [] ∨ (res.flat = true ∧ ∀ b ∈ G', b.flat)

/-- a call that has its contract: what is handed over (args', G; gs granted, bs only read), what comes back (res, G') -/
structure CallOK (P : Program) (f : FuncId) (args : List AV) (H : Nat → Option ABlk) (n : Nat) (args' : List AV) (gs bs : List Nat) (G G' : List ABlk) (res : AV) (Gc : List ABlk) (g : Nat) (up : Bool) (m : Nat) : Prop where
  fn : ∃ fn bd, P.funcs[f]? = some fn ∧ fn.name ≠ "runtime.NumGoroutine" ∧ fn.body = some bd
  len : args.length = args'.length
  args : ∀ (t : Nat) (u u' : AV), args[t]? = some u → args'[t]? = some u' → ArgR H gs [] bs u u'
  gl : gs.length = G.length
  gk : ∀ (k id : Nat) (b : ABlk), gs[k]? = some id → G[k]? = some b → H id = some (b.ren (rho gs n (G'.length - G.length)))
  nd : ∀ (i j id : Nat), gs[i]? = some id → gs[j]? = some id → i = j
  dis : ∀ id ∈ gs, id ∉ bs
  gc : Gc = G'.map (ABlk.ren (rho gs n (G'.length - G.length)))
  le : G.length ≤ G'.length
  flat : LendOK up g bs res G'
  ac : AC P f args' G res G'
  m : G'.length - G.length = m

def intIx : AV → Nat → Prop := fun v m => ∃ k, v = .int k m

def boolOf : AV → Option Bool
  | .tru => some true
  | .fls => some false
  | .bool b => some b
  | _ => none

def eqB (op : BinOp) (r : Bool) : Bool := match op with
  | .eql => r
  | _ => !r

def isEq : BinOp → Bool
  | .eql | .neq => true
  | _ => false

/-- the bound of a slice expression: n -/
def boundP (env : Nat → AV) (x : Option Operand) (d : Nat) (K : Nat → Prop) : Prop := match x with
  | none => K d
  | some x => match ev env x with
    | .int _ i => ∃ n : Nat, i = n ∧ K n
    | _ => False

theorem boundP_ok {env : Nat → AV} {x : Option Operand} {d : Nat} {K : Nat → Prop} (h : boundP env x d K) : ∃ n, BoundA env x d n ∧ K n := by
  unfold boundP at h
  split at h
  · exact ⟨d, rfl, h⟩
  · rename_i y
    split at h
    · rename_i k i e
      obtain ⟨n, rfl, hk⟩ := h
      exact ⟨n, ⟨k, e⟩, hk⟩
    · exact h.elim

def sameN (a b : Nat) (K : Prop) : Prop := match Nat.beq a b with
  | true => K
  | false => False

theorem sameN_ok {a b : Nat} {K : Prop} (h : sameN a b K) : a = b ∧ K := by
  unfold sameN at h
  split at h
  · rename_i e; exact ⟨Nat.eq_of_beq_eq_true e, h⟩
  · exact h.elim

def contP (H : Nat → Option ABlk) (v : AV) (sz : Nat) (K : List (List AV) → List Nat → Prop) : Prop := match v with
  | .nils => K [] []
  | .lst sz' ys => sameN sz' sz (K ys [])
  | .osl id => match H id with
    | some (.row sz' ys) => sameN sz' sz (K ys [id])
    | _ => False
  | .sub id sz' lo hi mx => match H id with
    | some (.row sz2 xs) => sameN sz' sz <| sameN sz2 sz <| lo ≤ hi ∧ hi ≤ xs.length ∧ (∀ m, mx = some m → hi ≤ m) ∧ K ((xs.drop lo).take (hi - lo)) [id]
    | _ => False
  | _ => False

theorem contP_ok {H : Nat → Option ABlk} {v : AV} {sz : Nat} {K : List (List AV) → List Nat → Prop} (h : contP H v sz K) : ∃ ys ids, Cont H v sz ys ids ∧ K ys ids := by
  unfold contP at h
  split at h
  · exact ⟨[], [], .inl ⟨rfl, rfl, rfl⟩, h⟩
  · replace h := sameN_ok h; obtain ⟨rfl, h⟩ := h; exact ⟨_, [], .inr (.inl ⟨rfl, rfl⟩), h⟩
  · split at h
    · rename_i e; replace h := sameN_ok h; obtain ⟨rfl, h⟩ := h; exact ⟨_, _, .inr (.inr (.inl ⟨_, rfl, e, rfl⟩)), h⟩
    · exact h.elim
  · split at h
    · rename_i e; replace h := sameN_ok h; obtain ⟨rfl, h⟩ := h; replace h := sameN_ok h; obtain ⟨rfl, h1, h2, h3, h⟩ := h; exact ⟨_, _, .inr (.inr (.inr ⟨_, _, _, _, _, rfl, e, h1, h2, h3, rfl, rfl⟩)), h⟩
    · exact h.elim
  · exact h.elim

def ownP (H : Nat → Option ABlk) (g : Nat) (v : AV) (sz : Nat) (K : List (List AV) → List (Nat × Option ABlk) → Prop) : Prop := match v with
  | .nils => K [] []
  | .osl id => match H id with
    | some (.row sz' xs) => sameN sz' sz (K xs [(id, none)])
    | _ => False
  | .sub id sz' lo hi (some m) => match H id with
    | some (.row sz2 xs) => sameN sz' sz <| sameN sz2 sz <| lo = 0 ∧ m = hi ∧ hi ≤ xs.length ∧ K (xs.take hi) [(id, none)]
    | _ => False
  | .sub id sz' lo hi none => match H id with
    | some (.row sz2 xs) => sameN sz' sz <| sameN sz2 sz <| lo = 0 ∧ hi ≤ xs.length ∧ K (xs.take hi) [(id, none)]
    | _ => False
  | _ => False

theorem ownP_ok {H : Nat → Option ABlk} {g : Nat} {v : AV} {sz : Nat} {K : List (List AV) → List (Nat × Option ABlk) → Prop} (h : ownP H g v sz K) : ∃ xs wr, OwnS H g v sz xs wr ∧ K xs wr := by
  unfold ownP at h
  split at h
  · exact ⟨[], [], .inl ⟨rfl, rfl, rfl⟩, h⟩
  · split at h
    · rename_i e1; replace h := sameN_ok h; obtain ⟨rfl, h⟩ := h; exact ⟨_, _, .inr (.inl ⟨_, rfl, e1, rfl⟩), h⟩
    · exact h.elim
  · split at h
    · rename_i e1; replace h := sameN_ok h; obtain ⟨rfl, h⟩ := h; replace h := sameN_ok h; obtain ⟨rfl, rfl, rfl, h1, h⟩ := h; exact ⟨_, _, .inr (.inr ⟨_, _, _, _, rfl, e1, h1, rfl, .inr rfl, rfl⟩), h⟩
    · exact h.elim
  · split at h
    · rename_i e1; replace h := sameN_ok h; obtain ⟨rfl, h⟩ := h; replace h := sameN_ok h; obtain ⟨rfl, rfl, h1, h⟩ := h; exact ⟨_, _, .inr (.inr ⟨_, _, _, _, rfl, e1, h1, rfl, .inl rfl, rfl⟩), h⟩
    · exact h.elim
  · exact h.elim

/-- is it a slice of bytes? -/
def bytesTy (tab : Tab) (s : TypeId) : Bool := match tab s with
  | some tj => match tj.d with
    | .slc e _ _ _ => match tab e with
      | some te => match te.d with
        | .int .u8 => true
        | _ => false
      | none => false
    | _ => false
  | none => false

theorem bytesTy_ok {tab : Tab} {s : TypeId} (h : bytesTy tab s = true) : ∃ tj e sz eb ez te, tab s = some tj ∧ tj.d = .slc e sz eb ez ∧ tab e = some te ∧ te.d = .int .u8 := by
  unfold bytesTy at h
  split at h
  · rename_i tj h1
    split at h
    · rename_i e sz eb ez h2
      split at h
      · rename_i te h3
        split at h
        · rename_i h4
          exact ⟨tj, e, sz, eb, ez, te, h1, h2, h3, h4⟩
        · cases h
      · cases h
    · cases h
  · cases h

def upL : Bool → List Nat → List (Nat × Option ABlk)
  | true, bs => giveUp bs
  | false, _ => []

/-- is there a row of its own among the cells? -/
def hasOsl : List AV → Bool
  | [] => false
  | .osl _ :: _ | .nils :: _ | .tru :: _ | .fls :: _ => true
  | .any :: l | .int _ _ :: l | .bool _ :: l | .str _ :: l | .nilp :: l | .val _ :: l | .ptr _ _ :: l | .eptr _ _ _ _ :: l | .mp _ :: l | .iptr _ :: l | .lst _ _ :: l | .lsc _ _ :: l | .sub _ _ _ _ _ :: l | .agg _ :: l | .tup _ :: l | .fn _ _ :: l => hasOsl l

/-- the cells, their rows only read from now on -/
def frzP (H : Nat → Option ABlk) : List AV → (List AV → List Nat → Prop) → Prop
  | [], K => K [] []
  | .osl id :: l, K => match H id with
    | some (.row sz ys) => (∀ c ∈ ys, AV.niL c = true) ∧ frzP H l fun l' ids => K (.lst sz ys :: l') (id :: ids)
    | _ => False
  | .nils :: l, K => ∃ sz : Nat, frzP H l fun l' ids => K (.lst sz [] :: l') ids
  | .tru :: l, K => frzP H l fun l' ids => K (.bool true :: l') ids
  | .fls :: l, K => frzP H l fun l' ids => K (.bool false :: l') ids
  | .int k n :: l, K => frzP H l fun l' ids => K (.int k n :: l') ids
  | .bool b :: l, K => frzP H l fun l' ids => K (.bool b :: l') ids
  | .str s :: l, K => frzP H l fun l' ids => K (.str s :: l') ids
  | .lst sz xs :: l, K => frzP H l fun l' ids => K (.lst sz xs :: l') ids
  | .nilp :: l, K => frzP H l fun l' ids => K (.nilp :: l') ids
  | .val v :: l, K => frzP H l fun l' ids => K (.val v :: l') ids
  | .iptr c :: l, K => frzP H l fun l' ids => K (.iptr c :: l') ids
  | .any :: _, _ | .lsc _ _ :: _, _ | .ptr _ _ :: _, _ | .eptr _ _ _ _ :: _, _ | .mp _ :: _, _ | .sub _ _ _ _ _ :: _, _ | .agg _ :: _, _ | .tup _ :: _, _ | .fn _ _ :: _, _ => False

theorem ArgR.more {H : Nat → Option ABlk} {gs zs bs bs' : List Nat} {x y : AV} (h : ArgR H gs zs bs x y) (hb : ∀ i ∈ bs, i ∈ bs') : ArgR H gs zs bs' x y := by
  induction h with
  | any x => exact .any x
  | ni x hx => exact .ni x hx
  | tru => exact .tru
  | fls => exact .fls
  | nils sz => exact .nils sz
  | nilz k hk => exact .nilz k hk
  | ptr id j k hk => exact .ptr id j k hk
  | eptr id sz i j k hk => exact .eptr id sz i j k hk
  | mp id k hk => exact .mp id k hk
  | oslg id k hk => exact .oslg id k hk
  | osl id sz xs hm hH hn => exact .osl id sz xs (hb _ hm) hH hn
  | oslr id sz xs xs' hm hH hl hcl hn hone _ ih => exact .oslr id sz xs xs' (hb _ hm) hH hl hcl hn hone ih
  | sub id sz lo hi mx xs hm hH hn l1 l2 l3 => exact .sub id sz lo hi mx xs (hb _ hm) hH hn l1 l2 l3
  | ibox id j c hm hH h1 hn => exact .ibox id j c (hb _ hm) hH h1 hn
  | irow id sz i j xs c hm hH hc hn => exact .irow id sz i j xs c (hb _ hm) hH hc hn
  | agg c c' h1 _ ih => exact .agg c c' h1 ih
  | tup c c' h1 _ ih => exact .tup c c' h1 ih
  | fn f c c' h1 _ ih => exact .fn f c c' h1 ih

theorem frzP_ok {H : Nat → Option ABlk} : ∀ {c : List AV} {K : List AV → List Nat → Prop}, frzP H c K → ∃ c' ids, FrzL H c c' ids ∧ K c' ids
  | [], K, h => ⟨[], [], ⟨rfl, fun j u u' e => by simp at e⟩, h⟩
  | u :: l, K, h => by
    have step : ∀ {u' : AV} {ids0 : List Nat}, ArgR H [] [] ids0 u u' → (frzP H l fun l' ids => K (u' :: l') (ids0 ++ ids)) → ∃ c' ids, FrzL H (u :: l) c' ids ∧ K c' ids := fun {u' ids0} hu hk => by
      obtain ⟨c', ids, ⟨h1, h2⟩, h3⟩ := frzP_ok hk
      refine ⟨u' :: c', ids0 ++ ids, ⟨by simp [h1], fun j x x' hx hx' => ?_⟩, h3⟩
      cases j with
      | zero => simp at hx hx'; subst hx; subst hx'; exact hu.more (fun i hi => List.mem_append_left _ hi)
      | succ j => exact (h2 j x x' (by simpa using hx) (by simpa using hx')).more (fun i hi => List.mem_append_right _ hi)
    cases u
    case nils =>
      obtain ⟨sz, h⟩ := h
      exact step (ids0 := []) (.nils sz) h
    case tru => exact step (ids0 := []) .tru h
    case fls => exact step (ids0 := []) .fls h
    case osl id =>
      simp only [frzP] at h
      split at h
      · rename_i sz ys e
        exact step (ids0 := [id]) (.osl id sz ys (by simp) e h.1) h.2
      · exact h.elim
    all_goals first | exact step (ids0 := []) (.ni _ rfl) h | exact False.elim h

/-- one operation -/
def awp1 (P : Program) (tab : Tab) (g : Nat) (o : Oper) (σ : ASt) (K : Eff → Prop) : Prop := match σ with
  | ⟨env, H, nn⟩ =>
  match o.op with
  | .move x => K ⟨ev env x, [], [], nn⟩
  | .assign x => K ⟨ev env x, [], [], nn⟩
  | .pick c x y => match ev env c with
    | .tru => K ⟨ev env x, [], [], nn⟩
    | .fls => K ⟨ev env y, [], [], nn⟩
    | _ => False
  | .extract x i => match ev env x with
    | .tup vs => match vs[i]? with
      | some v => K ⟨v, [], [], nn⟩
      | none => False
    | _ => False
  | .field t x i => match tab t with
    | some ti => match ti.d, ev env x with
      | .struct fs, .agg c => match fs[i]? with
        | some (off, n, b) => partA c off n b (fun v => K ⟨v, [], [], nn⟩)
        | none => False
      | _, _ => False
    | none => False
  | .build t parts => match tab t with
    | some ti => match ti.d with
      | .struct fs => match fillA (structPlaces fs) ti.zero (parts.toList.map fun p => (p.1, ev env p.2)) with
        | some c => K ⟨.agg c, [], [], nn⟩
        | none => False
      | .arr n sz _ => match fillA ((List.range n).map fun i => (i * sz, sz)) ti.zero (parts.toList.map fun p => (p.1, ev env p.2)) with
        | some c => K ⟨.agg c, [], [], nn⟩
        | none => False
      | _ => False
    | none => False
  | .buildSlice t n parts => match tab t with
    | some ti => match ti.d with
      | .slc _ sz _ ez => match fillA ((List.range n).map fun i => (i * sz, sz)) (List.replicate (n * sz) .any) (parts.toList.map fun p => (p.1, ev env p.2)) with
        | some c => match Nat.beq ez.length sz && Nat.ble (n * sz) 16777216 && Nat.ble n 16777216 && c.all AV.one && Nat.beq c.length (n * sz) with
          | true => forceC (chunkA sz n c) fun r => K ⟨.osl nn, [(nn, some (.row sz r))], [], nn + 1⟩
          | false => False
        | none => False
      | _ => False
    | none => False
  | .box _ x => match (ev env x).okc with
    | true => K ⟨.ptr nn 0, [(nn, some (.box (ev env x).cells))], [], nn + 1⟩
    | false => False
  | .alloc t => match tab t with
    | some ti => match ti.d with
      | .arr _ _ _ => (∃ s xs, AllocR ti.zero s xs ∧ K ⟨.ptr nn 0, [(nn, some (.row s xs))], [], nn + 1⟩) ∨ K ⟨.ptr nn 0, [(nn, some (.box ti.zero))], [], nn + 1⟩
      | _ => K ⟨.ptr nn 0, [(nn, some (.box ti.zero))], [], nn + 1⟩
    | none => False
  | .load t x => match tab t with
    | some ti => match ev env x with
      | .iptr c => partA c 0 ti.size ti.agg (fun v => K ⟨v, [], [], nn⟩)
      | .ptr id j => match H id with
        | some (.box c) => partA c j ti.size ti.agg (fun v => K ⟨v, [], [id], nn⟩)
        | some (.row s xs) => sameN j 0 <| ∃ c, RowCells xs s c ∧ partA c 0 ti.size ti.agg (fun v => K ⟨v, [], [id], nn⟩)
        | _ => False
      | .eptr id sz i j => match H id with
        | some (.row sz' xs) => sameN sz' sz <| ∃ c, xs[i]? = some c ∧ partA c j ti.size ti.agg (fun v => K ⟨v, [], [id], nn⟩)
        | _ => False
      | _ => False
    | none => False
  | .store t p x => match tab t with
    | some ti => match (ev env x).okc && (ev env x).cells.all AV.one && Nat.beq (ev env x).cells.length ti.size with
      | true => match ev env p with
        | .ptr id j => match H id with
          | some (.box c) => match Nat.ble (j + ti.size) c.length with
            | true => K ⟨.any, [(id, some (.box (spliceA c j (ev env x).cells)))], [], nn⟩
            | false => False
          | _ => False
        | .eptr id sz i j => match H id with
          | some (.row sz' xs) => match hasOsl (ev env x).cells with
            | false => sameN sz' sz <| ∃ c, xs[i]? = some c ∧ j + ti.size ≤ c.length ∧ ∃ zs : List (List AV), xs.set i (spliceA c j (ev env x).cells) = zs ∧ K ⟨.any, [(id, some (.row sz zs))], [], nn⟩
            | true => sameN sz' sz <| frzP H (ev env x).cells fun cs ids => match cs.all AV.one && Nat.beq cs.length ti.size && !ids.contains id with
              | true => ∃ c, xs[i]? = some c ∧ j + ti.size ≤ c.length ∧ ∃ zs : List (List AV), xs.set i (spliceA c j cs) = zs ∧ K ⟨.any, giveUp ids ++ [(id, some (.row sz zs))], ids, nn⟩
              | false => False
          | _ => False
        | _ => False
      | false => False
    | none => False
  | .nilCheck x => match ev env x with
    | .ptr .. | .eptr .. | .iptr .. => K ⟨ev env x, [], [], nn⟩
    | _ => False
  | .binOp op t x y _ => match ev env x, ev env y with
    | .agg c, .agg e => match tab t with
      | some ti => match ti.eqk with
        | some ks => match matchK ks c && isEq op, eqCells c e with
          | true, some r => K ⟨.bool (eqB op r), [], [], nn⟩
          | _, _ => False
        | none => False
      | none => False
    | u, v => match isEq op, bval u, bval v with
      | true, some a, some b => match tab t with
        | some ti => match ti.d with
          | .bool => K ⟨.bool (eqB op (a == b)), [], [], nn⟩
          | _ => False
        | none => False
      | _, _, _ => binA op u v (fun r => K ⟨r, [], [], nn⟩)
  | .unOp op _ x => match op, ev env x with
    | .not, .tru => K ⟨.fls, [], [], nn⟩
    | .not, .fls => K ⟨.tru, [], [], nn⟩
    | .not, .bool b => K ⟨.bool (!b), [], [], nn⟩
    | .neg, .int k n => ∃ z, k.wrap (0 - n) = z ∧ K ⟨.int k z, [], [], nn⟩
    | _, _ => False
  | .convert s t x => match tab s, tab t with
    | some _, some ti => match ti.d, ev env x with
      | .int k, .int _ n => ∃ z, k.wrap n = z ∧ K ⟨.int k z, [], [], nn⟩
      | .str, v => match bytesTy tab s with
        | true => contP H v 1 fun ys ids => ∃ ns : List Int, (ys = ns.map fun n => [.int .u8 n]) ∧ K ⟨.str (bytesF ns), [], ids, nn⟩
        | false => False
      | _, _ => False
    | _, _ => False
  | .makeFunc fn first cap => match fn, first with
    | .func f, ⟨[]⟩ => K ⟨.fn f (cap.toList.map (ev env)), [], [], nn⟩
    | _, _ => False
  | .makeSlice t l c => match tab t with
    | some ti => match ti.d, ev env l, ev env c with
      | .slc _ sz eb ez, .int _ i, .int _ j => match Nat.beq ez.length sz && ez.all AV.one with
        | true => ∃ m : Nat, i = m ∧ j = m ∧ eb * m ≤ 281474976710656 ∧ m ≤ maxLen ∧ ∃ zs : List (List AV), List.replicate m ez = zs ∧ K ⟨.osl nn, [(nn, some (.row sz zs))], [], nn + 1⟩
        | false => False
      | _, _, _ => False
    | none => False
  | .fieldAddr t x i => match tab t with
    | some ti => match ti.d with
      | .struct fs => match fs[i]? with
        | some (off, _ + 1, _) => match ev env x with
          | .ptr id j => K ⟨.ptr id (j + off), [], [], nn⟩
          | .eptr id sz k j => K ⟨.eptr id sz k (j + off), [], [], nn⟩
          | .iptr c => K ⟨.iptr (c.drop off), [], [], nn⟩
          | _ => False
        | _ => False
      | _ => False
    | none => False
  | .indexAddr t x ix => match tab t with
    | some ti => match ti.d, ev env ix with
      | .slc _ sz _ _, .int _ i => match ev env x with
        | .lst sz' xs => sameN sz' sz <| ∃ (m : Nat) (c : List AV), i = m ∧ xs[m]? = some c ∧ K ⟨.iptr c, [], [], nn⟩
        | .osl id => match H id with
          | some (.row sz' xs) => sameN sz' sz <| ∃ m : Nat, i = m ∧ m < xs.length ∧ K ⟨.eptr id sz m 0, [], [id], nn⟩
          | _ => False
        | _ => False
      | .arr n sz _, .int _ i => match ev env x with
        | .ptr id j => match H id with
          | some (.row s _) => sameN j 0 <| ∃ m r : Nat, i = m ∧ m < n ∧ sz = r * s ∧ K ⟨.eptr id s (m * r) 0, [], [], nn⟩
          | _ => ∃ m : Nat, i = m ∧ m < n ∧ K ⟨.ptr id (j + m * sz), [], [], nn⟩
        | .eptr id s q j => match Nat.beq sz s with
          | true => ∃ m : Nat, i = m ∧ m < n ∧ K ⟨.eptr id s (q + m) j, [], [], nn⟩
          | false => ∃ m : Nat, i = m ∧ m < n ∧ K ⟨.eptr id s q (j + m * sz), [], [], nn⟩
        | .iptr c => ∃ m : Nat, i = m ∧ m < n ∧ K ⟨.iptr (c.drop (m * sz)), [], [], nn⟩
        | _ => False
      | _, _ => False
    | none => False
  | .index t x ix => match tab t with
    | some ti => match ti.d, ev env x, ev env ix with
      | .str, .str s, .int _ i => ∃ (m : Nat) (b : UInt8), i = m ∧ s[m]? = some b ∧ K ⟨.int .u8 b.toNat, [], [], nn⟩
      | .arr n sz g, .agg c, .int _ i => ∃ m : Nat, i = m ∧ m < n ∧ partA c (m * sz) sz g fun v => K ⟨v, [], [], nn⟩
      | _, _, _ => False
    | none => False
  | .slice t x lo hi mx => match tab t with
    | some ti => match ti.d with
      | .str => match mx, ev env x with
        | none, .str s => boundP env lo 0 fun l => boundP env hi s.size fun h => l ≤ h ∧ h ≤ s.size ∧ K ⟨.str (s.extract l h), [], [], nn⟩
        | _, _ => False
      | .slc _ sz _ _ => match ev env x with
        | .lst sz' xs => match mx with
          | none => sameN sz' sz <| boundP env lo 0 fun l => boundP env hi xs.length fun h => l ≤ h ∧ h ≤ xs.length ∧ ∃ ys : List (List AV), (xs.drop l).take (h - l) = ys ∧ K ⟨.lst sz ys, [], [], nn⟩
          | some q' => match lo, hi with
            | none, some q => sameN sz' sz <| boundP env (some q) xs.length fun h => boundP env (some q') 0 fun m => h = m ∧ h ≤ xs.length ∧ ∃ ys : List (List AV), xs.take h = ys ∧ K ⟨.lsc sz ys, [], [], nn⟩
            | _, _ => False
        | .nils => match mx with
          | none => boundP env lo 0 fun l => boundP env hi 0 fun h => l ≤ h ∧ h ≤ 0 ∧ K ⟨.lst sz [], [], [], nn⟩
          | some _ => False
        | .osl id => match H id with
          | some (.row sz' xs) => match mx with
            | none => sameN sz' sz <| boundP env lo 0 fun l => boundP env hi xs.length fun h => l ≤ h ∧ h ≤ xs.length ∧ K ⟨.sub id sz l h none, [], [id], nn⟩
            | some q => match hi with
              | some _ => sameN sz' sz <| boundP env lo 0 fun l => boundP env hi xs.length fun h => boundP env (some q) 0 fun m => l ≤ h ∧ h ≤ m ∧ m ≤ xs.length ∧ K ⟨.sub id sz l h (some m), [], [id], nn⟩
              | none => False
          | _ => False
        | _ => False
      | _ => False
    | none => False
  | .call c => match c.callee, c.args, c.argTypes with
    | .builtin .len, ⟨[x]⟩, ⟨[t]⟩ => match tab t with
      | some ti => match ti.d, ev env x with
        | .str, .str s => K ⟨.int .i64 s.size, [], [], nn⟩
        | .slc .., .lst _ xs => ∃ z : Int, ((xs.length : Nat) : Int) = z ∧ K ⟨.int .i64 z, [], [], nn⟩
        | .slc .., .nils => K ⟨.int .i64 (0 : Nat), [], [], nn⟩
        | .slc .., .osl id => match H id with
          | some (.row _ xs) => ∃ z : Int, ((xs.length : Nat) : Int) = z ∧ K ⟨.int .i64 z, [], [id], nn⟩
          | _ => False
        | .slc .., .sub _ _ lo hi _ => ∃ z : Int, ((hi - lo : Nat) : Int) = z ∧ K ⟨.int .i64 z, [], [], nn⟩
        | .arr n _ _, _ => K ⟨.int .i64 n, [], [], nn⟩
        | _, _ => ∃ e, OpOK P g o ⟨env, H, nn⟩ e ∧ K e
      | none => ∃ e, OpOK P g o ⟨env, H, nn⟩ e ∧ K e
    | .builtin .min, ⟨[x, y]⟩, _ => match ev env x, ev env y with
      | .int k m, .int _ n => K ⟨.int k (if n < m then n else m), [], [], nn⟩
      | _, _ => False
    | .builtin .max, ⟨[x, y]⟩, _ => match ev env x, ev env y with
      | .int k m, .int _ n => K ⟨.int k (if m < n then n else m), [], [], nn⟩
      | _, _ => False
    | .builtin .append, ⟨[s, x]⟩, ⟨[t, t']⟩ => match Nat.beq t' t with
      | true => match tab t with
        | some ti => match ti.d with
          | .slc _ sz eb ez => match Nat.beq ez.length sz with
            | true => match ev env s with
              | .lsc sz' xs => sameN sz' sz <| contP H (ev env x) sz fun ys ids => (ys = [] → K ⟨.lst sz xs, [], ids, nn⟩) ∧ (ys ≠ [] → (xs.length + ys.length) * eb ≤ 140737488355328 ∧ xs.length + ys.length ≤ maxLen ∧
                ∃ zs : List (List AV), xs ++ ys = zs ∧ K ⟨.osl nn, [(nn, some (.row sz zs))], ids, nn + 1⟩)
              | v => ownP H g v sz fun xs wr => contP H (ev env x) sz fun ys ids => (xs.length + ys.length) * eb ≤ 140737488355328 ∧ xs.length + ys.length ≤ maxLen ∧
                ∃ zs : List (List AV), xs ++ ys = zs ∧ K ⟨.osl nn, wr ++ [(nn, some (.row sz zs))], ids, nn + 1⟩
            | false => False
          | _ => False
        | none => False
      | false => False
    | .builtin .copy, ⟨[d, x]⟩, ⟨[t, _]⟩ => match tab t with
      | some ti => match ti.d with
        | .slc _ sz eb ez => match Nat.beq ez.length sz with
          | true => match ev env d with
            | .osl id => match H id with
              | some (.row sz' xs) => sameN sz' sz <| contP H (ev env x) sz fun ys ids => ys.length ≤ xs.length ∧ ∃ (zs : List (List AV)) (z : Int), ys ++ xs.drop ys.length = zs ∧ ((ys.length : Nat) : Int) = z ∧
                  K ⟨.int .i64 z, [(id, some (.row sz zs))], ids, nn⟩
              | _ => False
            | _ => False
          | false => False
        | _ => False
      | none => False
    | .value fx, xs, _ => match ev env fx with
      | .fn f cap => ∃ (args' : List AV) (gs bs : List Nat) (G G' : List ABlk) (res : AV) (Gc : List ABlk) (up : Bool) (m : Nat), CallOK P f (xs.toList.map (ev env) ++ cap) H nn args' gs bs G G' res Gc g up m ∧
          K ⟨res.ren (rho gs nn m), namesC (rho gs nn m) 0 Gc ++ upL up bs, gs ++ bs, nn + m + 1⟩
      | _ => False
    | _, _, _ => False
  | .makeMap .. | .mapUpdate .. => ∃ e, OpOK P g o ⟨env, H, nn⟩ e ∧ K e
  | _ => False
end Go.Proofs.Ytkajegjghfbgaaa.Ax

/- The abstract walk of one operation is sound. Nothing of the dump is used here. -/
namespace Go.Proofs.Ytkajegjghfbgaaa.Ax
open Go.RowKit
set_option linter.unusedVariables false
set_option linter.unusedSimpArgs false

theorem partA_gives {c : List AV} {o n : Nat} {b : Bool} {K : AV → Prop} (h : partA c o n b K) : ∃ v, K v ∧ ((b = true ∧ o + n ≤ c.length ∧ v = .agg ((c.drop o).take n)) ∨ (b = false ∧ c[o]? = some v)) := partA_ok h

theorem awp1_ok {P : Program} {tab : Tab} (hT : TabOK P tab) {g : Nat} {o : Oper} {σ : ASt} {K : Eff → Prop} (h : awp1 P tab g o σ K) : ∃ e, K e ∧ OpOK P g o σ e := by
  obtain ⟨env, H, nn⟩ := σ
  simp only [awp1] at h
  cases ho : o.op <;> rw [ho] at h <;> simp only at h
  case move x => exact ⟨_, h, ok_gives (gives_move (.inl ho))⟩
  case assign x => exact ⟨_, h, ok_gives (gives_move (.inr ho))⟩
  case pick c x y =>
    split at h
    · rename_i e; exact ⟨_, h, ok_gives (gives_pick ho (.inl ⟨e, rfl⟩))⟩
    · rename_i e; exact ⟨_, h, ok_gives (gives_pick ho (.inr ⟨e, rfl⟩))⟩
    · exact h.elim
  case extract x i =>
    split at h
    · rename_i e
      split at h
      · rename_i e2; exact ⟨_, h, ok_gives (gives_extract ho e e2)⟩
      · exact h.elim
    · exact h.elim
  case field t x i =>
    split at h
    · rename_i ti ht
      split at h
      · rename_i e1 e2
        split at h
        · rename_i e3
          obtain ⟨v, hv, hp⟩ := partA_ok h
          exact ⟨_, hv, ok_gives (gives_field hT ho ht e1 e3 e2 hp)⟩
        · exact h.elim
      · exact h.elim
    · exact h.elim
  case build t parts =>
    split at h
    · rename_i ti ht
      split at h
      · rename_i e1
        split at h
        · rename_i e2; exact ⟨_, h, ok_gives (gives_build hT ho ht e1 e2)⟩
        · exact h.elim
      · rename_i e1
        split at h
        · rename_i e2; exact ⟨_, h, ok_gives (gives_buildA hT ho ht e1 e2)⟩
        · exact h.elim
      · exact h.elim
    · exact h.elim
  case buildSlice t n parts =>
    split at h
    · rename_i ti ht
      split at h
      · rename_i e1
        split at h
        · rename_i e2
          split at h
          · rename_i e3
            simp only [Bool.and_eq_true] at e3
            obtain ⟨⟨⟨⟨q1, q2⟩, q3⟩, q4⟩, q5⟩ := e3
            exact ⟨_, forceC_iff.1 h, ok_buildSlice hT ho ht e1 (Nat.eq_of_beq_eq_true q1) (Nat.le_of_ble_eq_true q2) (Nat.le_of_ble_eq_true q3) e2 q4 (Nat.eq_of_beq_eq_true q5)⟩
          · exact h.elim
        · exact h.elim
      · exact h.elim
    · exact h.elim
  case box t x =>
    split at h
    · rename_i e; exact ⟨_, h, ok_box ho e⟩
    · exact h.elim
  case alloc t =>
    split at h
    · rename_i ti ht
      split at h
      · rcases h with ⟨s, xs, hz, h⟩ | h
        · exact ⟨_, h, ok_allocR hT ho ht hz⟩
        · exact ⟨_, h, ok_alloc hT ho ht⟩
      · exact ⟨_, h, ok_alloc hT ho ht⟩
    · exact h.elim
  case load t x =>
    split at h
    · rename_i ti ht
      split at h
      · rename_i e
        obtain ⟨v, hv, hp⟩ := partA_ok h
        exact ⟨_, hv, ok_gives (gives_load hT ho ht (.inl ⟨e, rfl, rfl⟩) hp)⟩
      · rename_i e
        split at h
        · rename_i e2
          obtain ⟨v, hv, hp⟩ := partA_ok h
          exact ⟨_, hv, ok_gives (gives_load hT ho ht (.inr (.inl ⟨_, e, e2, rfl⟩)) hp)⟩
        · rename_i e2
          replace h := sameN_ok h
          obtain ⟨rfl, c, hc, h⟩ := h
          obtain ⟨v, hv, hp⟩ := partA_ok h
          exact ⟨_, hv, ok_gives (gives_load hT ho ht (.inr (.inr (.inr ⟨_, _, _, e, rfl, e2, hc, rfl⟩))) hp)⟩
        · exact h.elim
      · rename_i e
        split at h
        · rename_i e2
          replace h := sameN_ok h
          obtain ⟨rfl, c, hc, h⟩ := h
          obtain ⟨v, hv, hp⟩ := partA_ok h
          exact ⟨_, hv, ok_gives (gives_load hT ho ht (.inr (.inr (.inl ⟨_, _, _, _, e, e2, hc, rfl⟩))) hp)⟩
        · exact h.elim
      · exact h.elim
    · exact h.elim
  case store t p x =>
    split at h
    · rename_i ti ht
      split at h
      · rename_i e1
        simp only [Bool.and_eq_true] at e1
        obtain ⟨⟨q1, q2⟩, q3⟩ := e1
        have q3 := Nat.eq_of_beq_eq_true q3
        split at h
        · rename_i e2
          split at h
          · rename_i e3
            split at h
            · rename_i e4; exact ⟨_, h, ok_storeB hT ho ht e2 e3 q1 q2 q3 (Nat.le_of_ble_eq_true e4)⟩
            · exact h.elim
          · exact h.elim
        · rename_i e2
          split at h
          · rename_i e3
            split at h
            · replace h := sameN_ok h
              obtain ⟨rfl, c, hc, hl, _, rfl, h⟩ := h
              exact ⟨_, h, ok_storeR hT ho ht e2 e3 hc q1 q2 q3 hl⟩
            · replace h := sameN_ok h
              obtain ⟨rfl, h⟩ := h
              obtain ⟨cs, ids, hz, h⟩ := frzP_ok h
              split at h
              · rename_i e4
                simp only [Bool.and_eq_true, Bool.not_eq_true'] at e4
                obtain ⟨⟨p1, p2⟩, p3⟩ := e4
                obtain ⟨c, hc, hl, _, rfl, h⟩ := h
                exact ⟨_, h, ok_storeF hT ho ht e2 e3 hc q1 q2 p1 (Nat.eq_of_beq_eq_true p2) hl hz (fun hm => by rw [← List.contains_iff_mem, p3] at hm; cases hm)⟩
              · exact h.elim
          · exact h.elim
        · exact h.elim
      · exact h.elim
    · exact h.elim
  case nilCheck x =>
    split at h
    · rename_i e; exact ⟨_, h, ok_gives (gives_nilCheck ho (.inl ⟨_, _, e⟩))⟩
    · rename_i e; exact ⟨_, h, ok_gives (gives_nilCheck ho (.inr (.inl ⟨_, _, _, _, e⟩)))⟩
    · rename_i e; exact ⟨_, h, ok_gives (gives_nilCheck ho (.inr (.inr ⟨_, e⟩)))⟩
    · exact h.elim
  case binOp op t x y t' =>
    split at h
    · rename_i e1 e2
      split at h
      · rename_i ti ht
        split at h
        · rename_i ks hk
          split at h
          · rename_i q1 q2
            simp only [Bool.and_eq_true] at q1
            have hop : op = .eql ∨ op = .neq := by
              have := q1.2
              cases op <;> simp [isEq] at this <;> simp
            refine ⟨_, h, ok_gives ?_⟩
            have := gives_eqA hT ho hop ht hk e1 e2 q1.1 q2 (H := H)
            have he : ∀ r, (if op = .eql then r else !r) = eqB op r := fun r => by rcases hop with rfl | rfl <;> rfl
            rw [he] at this
            exact this
          · exact h.elim
        · exact h.elim
      · exact h.elim
    · split at h
      · rename_i q1 q2 q3
        split at h
        · rename_i ti ht
          split at h
          · rename_i hd
            have hop : op = .eql ∨ op = .neq := by cases op <;> simp [isEq] at q1 <;> simp
            refine ⟨_, h, ok_gives ?_⟩
            have := gives_eqBool hT ho hop ht hd q2 q3 (H := H)
            have he : ∀ r, (if op = .eql then r else !r) = eqB op r := fun r => by rcases hop with rfl | rfl <;> rfl
            rw [he] at this
            exact this
          · exact h.elim
        · exact h.elim
      · obtain ⟨v, hv, hg⟩ := gives_bin (H := H) ho h
        exact ⟨_, hv, ok_gives hg⟩
  case unOp op t x =>
    split at h
    · rename_i e; exact ⟨_, h, ok_gives (gives_not ho (.inl ⟨e, rfl⟩))⟩
    · rename_i e; exact ⟨_, h, ok_gives (gives_not ho (.inr (.inl ⟨e, rfl⟩)))⟩
    · rename_i e; exact ⟨_, h, ok_gives (gives_not ho (.inr (.inr ⟨_, e, rfl⟩)))⟩
    · rename_i e
      obtain ⟨z, rfl, h⟩ := h
      exact ⟨_, h, ok_gives (gives_neg ho e)⟩
    · exact h.elim
  case convert s t x =>
    split at h
    · rename_i e1 e2
      split at h
      · rename_i e3 e4
        obtain ⟨z, rfl, h⟩ := h
        exact ⟨_, h, ok_gives (gives_convInt hT ho e1 e2 e3 e4)⟩
      · rename_i e3
        split at h
        · rename_i e4
          obtain ⟨tj, e, sz, eb, ez, te, q1, q2, q3, q4⟩ := bytesTy_ok e4
          obtain ⟨ys, ids, hc, ns, hys, h⟩ := contP_ok h
          exact ⟨_, h, ok_gives (gives_bytesStr hT ho q1 e2 e3 q2 q3 q4 hc hys)⟩
        · exact h.elim
      · exact h.elim
    · exact h.elim
  case makeFunc fn first cap =>
    split at h
    · exact ⟨_, h, ok_gives (gives_makeFunc ho)⟩
    · exact h.elim
  case makeSlice t l c =>
    split at h
    · rename_i ti ht
      split at h
      · rename_i e1 e2 e3
        split at h
        · rename_i e4
          simp only [Bool.and_eq_true] at e4
          obtain ⟨m, rfl, rfl, h1, h2, _, rfl, h⟩ := h
          exact ⟨_, h, ok_makeSlice hT ho ht e1 (Nat.eq_of_beq_eq_true e4.1) e4.2 e2 e3 h1 h2⟩
        · exact h.elim
      · exact h.elim
    · exact h.elim
  case fieldAddr t x i =>
    split at h
    · rename_i ti ht
      split at h
      · rename_i e1
        split at h
        · rename_i e2
          split at h
          · rename_i e3; exact ⟨_, h, ok_gives (gives_fieldAddr hT ho ht e1 e2 (.inl ⟨_, _, e3, rfl⟩))⟩
          · rename_i e3; exact ⟨_, h, ok_gives (gives_fieldAddr hT ho ht e1 e2 (.inr (.inl ⟨_, _, _, _, e3, rfl⟩)))⟩
          · rename_i e3; exact ⟨_, h, ok_gives (gives_fieldAddr hT ho ht e1 e2 (.inr (.inr ⟨_, e3, rfl⟩)))⟩
          · exact h.elim
        · exact h.elim
      · exact h.elim
    · exact h.elim
  case indexAddr t x ix =>
    split at h
    · rename_i ti ht
      split at h
      · rename_i e1 e2
        split at h
        · rename_i e3
          replace h := sameN_ok h
          obtain ⟨rfl, m, c, rfl, hc, h⟩ := h
          exact ⟨_, h, ok_gives (gives_indexL hT ho ht e1 e3 e2 hc (rfl : (0 : Nat) = 0))⟩
        · rename_i e3
          split at h
          · rename_i e4
            replace h := sameN_ok h
            obtain ⟨rfl, m, rfl, hm, h⟩ := h
            exact ⟨_, h, ok_gives (gives_indexO hT ho ht e1 e3 e2 e4 hm)⟩
          · exact h.elim
        · exact h.elim
      · rename_i e1 e2
        split at h
        · rename_i e3
          split at h
          · rename_i s _ e4
            replace h := sameN_ok h
            obtain ⟨rfl, m, r, rfl, hm, hr, h⟩ := h
            exact ⟨_, h, ok_gives (gives_indexA hT ho ht e1 e2 hm (.inr (.inr (.inr (.inl ⟨_, _, _, e3, hr, rfl⟩)))))⟩
          · obtain ⟨m, rfl, hm, h⟩ := h
            exact ⟨_, h, ok_gives (gives_indexA hT ho ht e1 e2 hm (.inl ⟨_, _, e3, rfl⟩))⟩
        · rename_i e3
          split at h
          · rename_i e4
            have e5 := Nat.eq_of_beq_eq_true e4
            subst e5
            obtain ⟨m, rfl, hm, h⟩ := h
            exact ⟨_, h, ok_gives (gives_indexA hT ho ht e1 e2 hm (.inr (.inr (.inr (.inr ⟨_, _, _, e3, rfl⟩)))))⟩
          · obtain ⟨m, rfl, hm, h⟩ := h
            exact ⟨_, h, ok_gives (gives_indexA hT ho ht e1 e2 hm (.inr (.inl ⟨_, _, _, _, e3, rfl⟩)))⟩
        · rename_i e3
          obtain ⟨m, rfl, hm, h⟩ := h
          exact ⟨_, h, ok_gives (gives_indexA hT ho ht e1 e2 hm (.inr (.inr (.inl ⟨_, e3, rfl⟩))))⟩
        · exact h.elim
      · exact h.elim
    · exact h.elim
  case index t x ix =>
    split at h
    · rename_i ti ht
      split at h
      · rename_i e1 e2 e3
        obtain ⟨m, b, rfl, hb, h⟩ := h
        exact ⟨_, h, ok_gives (gives_byte hT ho ht e1 e2 e3 hb)⟩
      · rename_i e1 e2 e3
        obtain ⟨m, rfl, hm, h⟩ := h
        obtain ⟨v, hv, hp⟩ := partA_ok h
        exact ⟨_, hv, ok_gives (gives_indexV hT ho ht e1 e2 e3 hm hp)⟩
      · exact h.elim
    · exact h.elim
  case slice t x lo hi mx =>
    split at h
    · rename_i ti ht
      split at h
      · rename_i e1
        split at h
        · rename_i e2
          obtain ⟨l, hl, h⟩ := boundP_ok h
          obtain ⟨q, hq, h1, h2, h⟩ := boundP_ok h
          exact ⟨_, h, ok_gives (gives_substr hT ho ht e1 e2 hl hq h1 h2)⟩
        · exact h.elim
      · rename_i e1
        split at h
        · rename_i e2
          split at h
          · replace h := sameN_ok h
            obtain ⟨rfl, h⟩ := h
            obtain ⟨l, hl, h⟩ := boundP_ok h
            obtain ⟨q, hq, h1, h2, _, rfl, h⟩ := boundP_ok h
            exact ⟨_, h, ok_gives (gives_sliceL hT ho ht e1 (.inl e2) hl hq h1 h2)⟩
          · split at h
            · replace h := sameN_ok h
              obtain ⟨rfl, h⟩ := h
              obtain ⟨q, hq, h⟩ := boundP_ok h
              obtain ⟨m, hm, rfl, h2, _, rfl, h⟩ := boundP_ok h
              exact ⟨_, h, ok_gives (gives_sliceC hT ho ht e1 e2 hq hm h2)⟩
            · exact h.elim
        · rename_i e2
          split at h
          · obtain ⟨l, hl, h⟩ := boundP_ok h
            obtain ⟨q, hq, h1, h2, h⟩ := boundP_ok h
            refine ⟨_, h, ok_gives ?_⟩
            have := gives_sliceL hT ho ht e1 (.inr ⟨e2, rfl⟩) hl hq h1 h2 (H := H)
            simpa using this
          · exact h.elim
        · rename_i e2
          split at h
          · rename_i e3
            split at h
            · replace h := sameN_ok h
              obtain ⟨rfl, h⟩ := h
              obtain ⟨l, hl, h⟩ := boundP_ok h
              obtain ⟨q, hq, h1, h2, h⟩ := boundP_ok h
              exact ⟨_, h, ok_gives (gives_sliceO (m := 0) hT ho ht e1 e2 e3 hl hq (fun _ e => by cases e) h1 h2 (fun e => by cases e) (fun e => by cases e))⟩
            · split at h
              · replace h := sameN_ok h
                obtain ⟨rfl, h⟩ := h
                obtain ⟨l, hl, h⟩ := boundP_ok h
                obtain ⟨q, hq, h⟩ := boundP_ok h
                obtain ⟨m, hm, h1, h2, h3, h⟩ := boundP_ok h
                exact ⟨_, h, ok_gives (gives_sliceO (m := m) hT ho ht e1 e2 e3 hl hq (fun q' e => by cases e; exact hm) h1 (by omega) (fun _ => ⟨h2, h3⟩) (fun _ => rfl))⟩
              · exact h.elim
          · exact h.elim
        · exact h.elim
      · exact h.elim
    · exact h.elim
  case call c =>
    obtain ⟨callee, args, argTypes⟩ := c
    simp only at h
    split at h
    · split at h
      · rename_i ti ht
        split at h
        · rename_i e1 e2; exact ⟨_, h, ok_gives (gives_len hT ho ht (.inl ⟨_, e1, e2, rfl, rfl⟩))⟩
        · rename_i e1 e2; obtain ⟨_, rfl, h⟩ := h; exact ⟨_, h, ok_gives (gives_len hT ho ht (.inr (.inl ⟨_, _, _, _, e1, .inl ⟨_, _, e2, rfl, rfl⟩⟩)))⟩
        · rename_i e1 e2; exact ⟨_, h, ok_gives (gives_len hT ho ht (.inr (.inl ⟨_, _, _, _, e1, .inr (.inl ⟨e2, rfl, rfl⟩)⟩)))⟩
        · rename_i e1 e2
          split at h
          · rename_i e3; obtain ⟨_, rfl, h⟩ := h; exact ⟨_, h, ok_gives (gives_len hT ho ht (.inr (.inl ⟨_, _, _, _, e1, .inr (.inr (.inl ⟨_, _, _, e2, e3, rfl, rfl⟩))⟩)))⟩
          · exact h.elim
        · rename_i e1 e2; obtain ⟨_, rfl, h⟩ := h; exact ⟨_, h, ok_gives (gives_len hT ho ht (.inr (.inl ⟨_, _, _, _, e1, .inr (.inr (.inr ⟨_, _, _, _, _, e2, rfl, rfl⟩))⟩)))⟩
        · rename_i e1; exact ⟨_, h, ok_gives (gives_len hT ho ht (.inr (.inr ⟨_, _, e1, rfl⟩)))⟩
        · obtain ⟨e, h1, h2⟩ := h; exact ⟨e, h2, h1⟩
      · obtain ⟨e, h1, h2⟩ := h; exact ⟨e, h2, h1⟩
    · split at h
      · rename_i e1 e2; exact ⟨_, h, ok_gives (gives_min ho e1 e2)⟩
      · exact h.elim
    · split at h
      · rename_i e1 e2; exact ⟨_, h, ok_gives (gives_max ho e1 e2)⟩
      · exact h.elim
    · split at h
      · rename_i eb
        have eb := Nat.eq_of_beq_eq_true eb
        subst eb
        split at h
        · rename_i ti ht
          split at h
          · rename_i e1
            split at h
            · rename_i e2
              split at h
              · rename_i e3
                replace h := sameN_ok h
                obtain ⟨rfl, h⟩ := h
                obtain ⟨ys, ids, hx, h1, h2⟩ := contP_ok h
                by_cases hy : ys = []
                · subst hy
                  exact ⟨_, h1 rfl, ok_append3 hT ho ht e1 e3 hx⟩
                · obtain ⟨h3, h4, _, rfl, h⟩ := h2 hy
                  exact ⟨_, h, ok_append2 hT ho ht e1 (Nat.eq_of_beq_eq_true e2) e3 hx hy h3 h4⟩
              · obtain ⟨xs, wr, hs, h⟩ := ownP_ok h
                obtain ⟨ys, ids, hx, h1, h2, _, rfl, h⟩ := contP_ok h
                exact ⟨_, h, ok_append hT ho ht e1 (Nat.eq_of_beq_eq_true e2) hs hx h1 h2⟩
            · exact h.elim
          · exact h.elim
        · exact h.elim
      · exact h.elim
    · split at h
      · rename_i ti ht
        split at h
        · rename_i e1
          split at h
          · rename_i e2
            split at h
            · rename_i e3
              split at h
              · rename_i e4
                replace h := sameN_ok h
                obtain ⟨rfl, h⟩ := h
                obtain ⟨ys, ids, hx, h1, _, _, rfl, rfl, h⟩ := contP_ok h
                exact ⟨_, h, ok_copy hT ho ht e1 (Nat.eq_of_beq_eq_true e2) e3 e4 hx h1⟩
              · exact h.elim
            · exact h.elim
          · exact h.elim
        · exact h.elim
      · exact h.elim
    · split at h
      · rename_i e1
        obtain ⟨args', gs, bs, G, G', res, Gc, up, m, hc, h⟩ := h
        obtain rfl := hc.m
        rw [hc.gc, namesC_map] at h
        obtain ⟨fn, bd, f1, f2, f3⟩ := hc.fn
        have hfl := hc.flat
        cases up with
        | false =>
          simp only [upL, List.append_nil] at h
          exact ⟨_, h, ok_call ho e1 f1 f2 f3 (by have := hc.len; simpa using this) hc.args hc.gl hc.gk hc.nd hc.dis hc.le hfl hc.ac⟩
        | true => exact ⟨_, h, ok_callF ho e1 f1 f2 f3 (by have := hc.len; simpa using this) hc.args hc.gl hc.gk hc.nd hc.dis hc.le hc.ac⟩
      · exact h.elim
    · exact h.elim
  all_goals first | exact h.elim | (obtain ⟨e, h1, h2⟩ := h; exact ⟨e, h2, h1⟩)
end Go.Proofs.Ytkajegjghfbgaaa.Ax

/- The abstract walk of regions. Nothing of the dump is used here. -/
namespace Go.Proofs.Ytkajegjghfbgaaa.Ax
open Go.RowKit
set_option linter.unusedVariables false
set_option linter.unusedSimpArgs false

def forceV : AV → (AV → Prop) → Prop
  | .agg c, K => forceL c fun c => K (.agg c)
  | .tup c, K => forceL c fun c => K (.tup c)
  | .fn f c, K => forceL c fun c => K (.fn f c)
  | .iptr c, K => forceL c fun c => K (.iptr c)
  | .ptr id j, K => forceN id fun id => K (.ptr id j)
  | .eptr id sz i j, K => forceN id fun id => K (.eptr id sz i j)
  | .mp id, K => forceN id fun id => K (.mp id)
  | .osl id, K => forceN id fun id => K (.osl id)
  | .sub id a b c d, K => forceN id fun id => K (.sub id a b c d)
  | .any, K => K .any
  | .int k n, K => K (.int k n)
  | .tru, K => K .tru
  | .fls, K => K .fls
  | .bool b, K => K (.bool b)
  | .str s, K => K (.str s)
  | .nilp, K => K .nilp
  | .val v, K => K (.val v)
  | .nils, K => K .nils
  | .lst sz xs, K => K (.lst sz xs)
  | .lsc sz xs, K => K (.lsc sz xs)

theorem forceV_iff {v : AV} {K : AV → Prop} : forceV v K ↔ K v := by
  cases v <;> first
    | exact Iff.rfl
    | exact forceN_iff (K := fun id => K (.ptr id _))
    | exact forceN_iff (K := fun id => K (.eptr id _ _ _))
    | exact forceN_iff (K := fun id => K (.mp id))
    | exact forceN_iff (K := fun id => K (.osl id))
    | exact forceN_iff (K := fun id => K (.sub id _ _ _ _))
    | exact forceL_iff (K := fun c => K (.agg c))
    | exact forceL_iff (K := fun c => K (.tup c))
    | exact forceL_iff (K := fun c => K (.fn _ c))
    | exact forceL_iff (K := fun c => K (.iptr c))

def forceW : List (Nat × Option ABlk) → (List (Nat × Option ABlk) → Prop) → Prop
  | [], K => K []
  | (id, none) :: l, K => forceN id fun id => forceW l fun l => K ((id, none) :: l)
  | (id, some (.box c)) :: l, K => forceN id fun id => forceL c fun c => forceW l fun l => K ((id, some (.box c)) :: l)
  | (id, some (.row sz xs)) :: l, K => forceN id fun id => forceW l fun l => K ((id, some (.row sz xs)) :: l)
  | (id, some .dead) :: l, K => forceN id fun id => forceW l fun l => K ((id, some .dead) :: l)
  | (id, some (.obj q)) :: l, K => forceN id fun id => forceW l fun l => K ((id, some (.obj q)) :: l)

theorem forceW_iff : ∀ {l : List (Nat × Option ABlk)} {K : List (Nat × Option ABlk) → Prop}, forceW l K ↔ K l
  | [], K => Iff.rfl
  | (id, none) :: l, K => forceN_iff.trans forceW_iff
  | (id, some (.box c)) :: l, K => forceN_iff.trans (forceL_iff.trans forceW_iff)
  | (id, some (.row sz xs)) :: l, K => forceN_iff.trans forceW_iff
  | (id, some .dead) :: l, K => forceN_iff.trans forceW_iff
  | (id, some (.obj q)) :: l, K => forceN_iff.trans forceW_iff

/-- the state after an operation, in small terms -/
def stepK (σ : ASt) (o : Oper) (e : Eff) (K : Eff → ASt → Prop) : Prop := match σ, e with
  | ⟨env, H, _⟩, ⟨v, wr, rd, n'⟩ => forceV v fun v => forceW wr fun wr => forceN n' fun n' => K ⟨v, wr, rd, n'⟩ ⟨putE env o.dst v, wrH H wr, n'⟩

theorem stepK_iff {σ : ASt} {o : Oper} {e : Eff} {K : Eff → ASt → Prop} : stepK σ o e K ↔ K e (σ.app o e) :=
  forceV_iff.trans (forceW_iff.trans forceN_iff)

def setT (σ : ASt) (t : Nat) (v : AV) (K : ASt → Prop) : Prop := match σ with
  | ⟨env, H, n⟩ => K ⟨setE env t v, H, n⟩

/-- one operation with its guard -/
def awpG (P : Program) (tab : Tab) (g nt : Nat) (ops : List Oper) (o : Oper) (σ : ASt) (K : Eff → ASt → Prop) : Prop :=
  match (match o.dst with | none => true | some d => Nat.blt d nt) with
  | false => False
  | true => match o.guard with
    | none => awp1 P tab g o σ (fun e => stepK σ o e K)
    | some (j, want) => match (ops[j]?).bind (·.dst) with
      | none => False
      | some t => match σ.env t, want with
        | .tru, true => awp1 P tab g o σ (fun e => stepK σ o e K)
        | .fls, false => awp1 P tab g o σ (fun e => stepK σ o e K)
        | .tru, false => stepK σ o (skipE σ) K
        | .fls, true => stepK σ o (skipE σ) K
        | .bool b, true => (b = true → setT σ t .tru fun σ => awp1 P tab g o σ (fun e => stepK σ o e K)) ∧ (b = false → setT σ t .fls fun σ => stepK σ o (skipE σ) K)
        | .bool b, false => (b = false → setT σ t .fls fun σ => awp1 P tab g o σ (fun e => stepK σ o e K)) ∧ (b = true → setT σ t .tru fun σ => stepK σ o (skipE σ) K)
        | .tup [], _ => stepK σ o (skipE σ) K
        | _, _ => False

theorem ref_bool {σ : ASt} {t : Nat} {b : Bool} (h : σ.env t = .bool b) (v : AV) (hv : ∀ w F β, RV w F β v (.bool b)) : Ref σ ⟨setE σ.env t v, σ.H, σ.n⟩ := by
  refine ⟨fun u => ?_, rfl, rfl⟩
  by_cases hu : u = t
  · subst hu
    simp only [setE_same]
    intro w F β x hx
    rw [h] at hx
    cases hx
    exact hv w F β
  · simp only [setE_ne _ _ hu]
    exact .refl _

theorem awpG_ok {P : Program} {tab : Tab} (hT : TabOK P tab) {g nt : Nat} {ops : Array Oper} {o : Oper} {σ : ASt} {K : Eff → ASt → Prop} (h : awpG P tab g nt ops.toList o σ K) :
    ∃ σr e, Ref σ σr ∧ StepOK P g ops o σr e ∧ (∀ d, o.dst = some d → d < nt) ∧ K e (σr.app o e) := by
  unfold awpG at h
  split at h
  · exact h.elim
  · rename_i hd
    have hdst : ∀ d, o.dst = some d → d < nt := fun d e => by rw [e] at hd; exact Nat.blt_eq.mp hd
    split at h
    · rename_i hg
      obtain ⟨e, he, hok⟩ := awp1_ok hT h
      exact ⟨σ, e, .refl _, .inl ⟨hg, hok⟩, hdst, stepK_iff.1 he⟩
    · rename_i j want hg
      split at h
      · exact h.elim
      · rename_i t ht
        rw [Array.getElem?_toList] at ht
        have hb1 : ∀ (v : AV) (b : Bool), IsB v b → IsB ((⟨setE σ.env t v, σ.H, σ.n⟩ : ASt).env t) b := fun v b hb => by simp only [setE_same]; exact hb
        split at h
        · rename_i e1
          obtain ⟨e, he, hok⟩ := awp1_ok hT h
          exact ⟨σ, e, .refl _, .inr (.inr ⟨j, true, t, true, hg, ht, .inl ⟨e1, rfl⟩, .inl ⟨rfl, hok⟩⟩), hdst, stepK_iff.1 he⟩
        · rename_i e1
          obtain ⟨e, he, hok⟩ := awp1_ok hT h
          exact ⟨σ, e, .refl _, .inr (.inr ⟨j, false, t, false, hg, ht, .inr (.inl ⟨e1, rfl⟩), .inl ⟨rfl, hok⟩⟩), hdst, stepK_iff.1 he⟩
        · rename_i e1
          exact ⟨σ, _, .refl _, .inr (.inr ⟨j, false, t, true, hg, ht, .inl ⟨e1, rfl⟩, .inr ⟨by simp, rfl⟩⟩), hdst, stepK_iff.1 h⟩
        · rename_i e1
          exact ⟨σ, _, .refl _, .inr (.inr ⟨j, true, t, false, hg, ht, .inr (.inl ⟨e1, rfl⟩), .inr ⟨by simp, rfl⟩⟩), hdst, stepK_iff.1 h⟩
        · rename_i b e1
          cases b with
          | true =>
            obtain ⟨e, he, hok⟩ := awp1_ok hT (σ := ⟨setE σ.env t .tru, σ.H, σ.n⟩) (K := fun e => stepK ⟨setE σ.env t .tru, σ.H, σ.n⟩ o e K) (h.1 rfl)
            exact ⟨_, e, ref_bool e1 .tru (fun _ _ _ => .tru), .inr (.inr ⟨j, true, t, true, hg, ht, hb1 _ _ (.inl ⟨rfl, rfl⟩), .inl ⟨rfl, hok⟩⟩), hdst, stepK_iff.1 he⟩
          | false =>
            exact ⟨_, skipE σ, ref_bool e1 .fls (fun _ _ _ => .fls), .inr (.inr ⟨j, true, t, false, hg, ht, hb1 _ _ (.inr (.inl ⟨rfl, rfl⟩)), .inr ⟨by simp, rfl⟩⟩), hdst, stepK_iff.1 (h.2 rfl)⟩
        · rename_i b e1
          cases b with
          | false =>
            obtain ⟨e, he, hok⟩ := awp1_ok hT (σ := ⟨setE σ.env t .fls, σ.H, σ.n⟩) (K := fun e => stepK ⟨setE σ.env t .fls, σ.H, σ.n⟩ o e K) (h.1 rfl)
            exact ⟨_, e, ref_bool e1 .fls (fun _ _ _ => .fls), .inr (.inr ⟨j, false, t, false, hg, ht, hb1 _ _ (.inr (.inl ⟨rfl, rfl⟩)), .inl ⟨rfl, hok⟩⟩), hdst, stepK_iff.1 he⟩
          | true =>
            exact ⟨_, skipE σ, ref_bool e1 .tru (fun _ _ _ => .tru), .inr (.inr ⟨j, false, t, true, hg, ht, hb1 _ _ (.inl ⟨rfl, rfl⟩), .inr ⟨by simp, rfl⟩⟩), hdst, stepK_iff.1 (h.2 rfl)⟩
        · rename_i e1
          exact ⟨σ, _, .refl _, .inr (.inl ⟨j, _, t, hg, ht, e1, rfl⟩), hdst, stepK_iff.1 h⟩
        · exact h.elim

def awpOps (P : Program) (tab : Tab) (g nt : Nat) (ops : List Oper) : List Oper → ASt → (List Eff → ASt → Prop) → Prop
  | [], σ, K => K [] σ
  | o :: rest, σ, K => awpG P tab g nt ops o σ (fun e σ' => awpOps P tab g nt ops rest σ' (fun es σ'' => K (e :: es) σ''))

theorem awpOps_ok {P : Program} {tab : Tab} (hT : TabOK P tab) {g nt : Nat} {ops : Array Oper} : ∀ {l : List Oper} {σ : ASt} {K : List Eff → ASt → Prop}, awpOps P tab g nt ops.toList l σ K → ∃ es σ', Run P g nt ops l σ es σ' ∧ K es σ'
  | [], σ, K, h => ⟨[], σ, .nil σ, h⟩
  | o :: rest, σ, K, h => by
    obtain ⟨σr, e, h1, h2, h3, h4⟩ := awpG_ok hT h
    obtain ⟨es, σ', h5, h6⟩ := awpOps_ok hT h4
    exact ⟨e :: es, σ', .cons o rest σ σr σ' e es h1 h2 h3 h5, h6⟩

/-- the ids that operations read and write -/
def Eff.fp (e : Eff) : List Nat × List Nat := (e.rd, e.wids)

def conflB (ops : Array Oper) (oi oj : Oper) (fi fj : List Nat × List Nat) : Bool :=
  (match oi.dst with
    | some d => (oj.looksAt ops).contains d || (match oj.dst with | some d' => Nat.beq d' d | none => false)
    | none => false) ||
  (match oj.dst with
    | some d => (oi.looksAt ops).contains d
    | none => false) ||
  fi.2.any (fun id => fj.1.contains id || fj.2.contains id) || fj.2.any (fun id => fi.1.contains id)

def ordOK (ops : Array Oper) (fps : List (List Nat × List Nat)) : Bool :=
  let bm := befL ops.toList []
  (List.range ops.size).all fun j => match ops[j]?, fps[j]? with
    | some oj, some fj => oj.after.toList.all (fun e => !Region.binds .any e || Nat.blt e.on j) &&
        (List.range j).all fun i => (bm[j]?.getD 0).testBit i || (match ops[i]?, fps[i]? with
          | some oi, some fi => !conflB ops oi oj fi fj
          | _, _ => false)
    | _, _ => false

theorem conflB_ok {ops : Array Oper} {oi oj : Oper} {ei ej : Eff} (h : Confl ops oi oj ei ej) : conflB ops oi oj ei.fp ej.fp = true := by
  unfold conflB
  simp only [Bool.or_eq_true]
  rcases h with ⟨t, ⟨h1, h2⟩ | ⟨h1, h2⟩⟩ | ⟨id, ⟨h1, h2⟩ | ⟨h1, h2⟩⟩
  · refine .inl (.inl (.inl ?_))
    rw [h1]
    simp only [Bool.or_eq_true]
    rcases h2 with h2 | h2
    · exact .inl (by simpa using h2)
    · right; rw [h2]; simp
  · refine .inl (.inl (.inr ?_))
    rw [h1]
    simpa using h2
  · refine .inl (.inr ?_)
    rw [List.any_eq_true]
    refine ⟨id, h1, ?_⟩
    simp only [Bool.or_eq_true, Eff.fp, List.contains_iff_mem]
    exact h2
  · refine .inr ?_
    rw [List.any_eq_true]
    exact ⟨id, h1, by simpa [Eff.fp] using h2⟩

theorem run_fun {P : Program} {g nt : Nat} {ops : Array Oper} : ∀ {l : List Oper} {σ σ' : ASt} {es : List Eff}, Run P g nt ops l σ es σ' → ∃ (S R : Nat → ASt) (E : Nat → Eff), S 0 = σ ∧ S l.length = σ' ∧ es.length = l.length ∧ (∀ i e, es[i]? = some e → E i = e) ∧
    ∀ (i : Nat) (o : Oper), l[i]? = some o → Ref (S i) (R i) ∧ StepOK P g ops o (R i) (E i) ∧ (∀ d, o.dst = some d → d < nt) ∧ S (i + 1) = (R i).app o (E i) := by
  intro l σ σ' es h
  induction h with
  | nil σ => exact ⟨fun _ => σ, fun _ => σ, fun _ => skipE σ, rfl, rfl, rfl, fun i e h => by simp at h, fun i o h => by simp at h⟩
  | cons o rest σ σr σ' e es h1 h2 h3 _ ih =>
    obtain ⟨S, R, E, s0, s1, s2, s3, s4⟩ := ih
    refine ⟨fun | 0 => σ | i + 1 => S i, fun | 0 => σr | i + 1 => R i, fun | 0 => e | i + 1 => E i, rfl, s1, by simp [s2], fun i e' he => ?_, fun i o' ho => ?_⟩
    · cases i with
      | zero => simp at he; exact he
      | succ i => exact s3 i e' (by simpa using he)
    · cases i with
      | zero =>
        simp at ho
        subst ho
        exact ⟨h1, h2, h3, s0⟩
      | succ i => exact s4 i o' (by simpa using ho)

theorem run_draw {P : Program} (hP : P.follows .mixedOrders = true) {g nt id : Nat} {ops : Array Oper} {σ σ' : ASt} {es : List Eff} (h : Run P g nt ops ops.toList σ es σ') (ho : ordOK ops (es.map Eff.fp) = true) {C : Ctx} (hC : C.γ.length = g) (hnt : C.nt = nt) {a : Act} {w : World} (hR : Rel C (Below' σ.n) σ a w)
    {Q : Exit → Act → World → Prop} (hK : ∀ a' w', Rel C (Below' σ'.n) σ' a' w' → Q .normal a' w') : (Code.region id ops true).wp P Q a w := by
  obtain ⟨S, R, E, s0, s1, s2, s3, s4⟩ := run_fun h
  simp only [Array.length_toList] at s1 s2
  have hE : ∀ (i : Nat) (f : List Nat × List Nat), (es.map Eff.fp)[i]? = some f → (E i).fp = f := fun i f hf => by
    rw [List.getElem?_map] at hf
    cases he : es[i]? with
    | none => rw [he] at hf; cases hf
    | some e => rw [he] at hf; cases hf; rw [s3 i e he]
  unfold ordOK at ho
  simp only [List.all_eq_true, List.mem_range] at ho
  have T : Tr P g nt ops S R E := by
    refine ⟨fun i o hi => s4 i o (by rw [Array.getElem?_toList]; exact hi), fun i j oi oj hij hoi hoj hc => ?_, fun j i ⟨o, hoj, e, he, hb, hi⟩ => ?_⟩
    · have hj := (Array.getElem?_eq_some_iff.1 hoj).1
      have h1 := ho j hj
      rw [hoj] at h1
      have hfj : (es.map Eff.fp)[j]? = some (E j).fp := by
        have hlt : j < (es.map Eff.fp).length := by simp; omega
        rw [List.getElem?_eq_getElem hlt]
        exact congrArg some (hE j _ (List.getElem?_eq_getElem hlt)).symm
      have hfi : (es.map Eff.fp)[i]? = some (E i).fp := by
        have hlt : i < (es.map Eff.fp).length := by simp; omega
        rw [List.getElem?_eq_getElem hlt]
        exact congrArg some (hE i _ (List.getElem?_eq_getElem hlt)).symm
      rw [hfj] at h1
      simp only [Bool.and_eq_true, List.all_eq_true, List.mem_range] at h1
      have h2 := h1.2 i hij
      rw [hoi, hfi] at h2
      simp only [Bool.or_eq_true, conflB_ok hc, Bool.not_true, Bool.false_eq_true, or_false] at h2
      exact befL_ok ops ops.toList [] (fun j => .inl (by simp)) (fun j i hb => by simp at hb) j i h2
    · have hj := (Array.getElem?_eq_some_iff.1 hoj).1
      have h1 := ho j hj
      rw [hoj] at h1
      split at h1
      · rename_i oj fj e1 e2
        cases e1
        simp only [Bool.and_eq_true, List.all_eq_true] at h1
        have h2 := h1.1 e (by simpa using he)
        simp only [hb, Bool.not_true, Bool.false_or] at h2
        rw [← hi]
        exact Nat.blt_eq.mp h2
      · cases h1
  refine wp_region_any hP ?_
  have hR' : Rel C (Below' σ.n) σ a { w with drawn := w.drawn + 1 } := by
    obtain ⟨β, F, hB⟩ := hR
    exact ⟨β, F, hB.drew _⟩
  refine T.all hC hnt (fun a' w' hr => hK a' w' (s1 ▸ hr)) ops.size _ σ a _ (by simp) (by simp [List.countP_replicate]) ⟨?_, fun t k hk h1 _ => ?_, fun id k hk h1 _ => ?_, fun j i hL => ?_⟩
  · obtain ⟨β, F, hB⟩ := hR'
    exact ⟨β, F, hB.fin rfl rfl (fun i hi => .inl (by rw [s0]; exact hi))⟩
  · have hn : ∀ j, ¬ Ls (Array.replicate ops.size false) j := fun j hL => by
      unfold Ls at hL
      simp only [Array.getD_eq_getD_getElem?, Array.getElem?_replicate] at hL
      split at hL <;> simp at hL
    rw [← s0]
    exact T.chainT (Nat.zero_le _) hk (fun j o _ hj hoj hd => hn j (h1 j o hj hoj hd))
  · have hn : ∀ j, ¬ Ls (Array.replicate ops.size false) j := fun j hL => by
      unfold Ls at hL
      simp only [Array.getD_eq_getD_getElem?, Array.getElem?_replicate] at hL
      split at hL <;> simp at hL
    rw [← s0]
    exact T.chainH (Nat.zero_le _) hk (fun j _ hj hd => hn j (h1 j hj (by omega) hd))
  · unfold Ls at hL
    simp only [Array.getD_eq_getD_getElem?, Array.getElem?_replicate] at hL
    split at hL <;> simp at hL
end Go.Proofs.Ytkajegjghfbgaaa.Ax

/- The abstract walk of code; calls entered. Nothing of the dump is used here. -/
namespace Go.Proofs.Ytkajegjghfbgaaa.Ax
open Go.RowKit
set_option linter.unusedVariables false
set_option linter.unusedSimpArgs false

/-- a slice that is only read, compared with nil: is it asked for equality, and the elements of the slice -/
def nilCmp (tab : Tab) (o : Oper) (σ : ASt) : Option (Bool × List (List AV)) := match o.guard with
  | some _ => none
  | none => match o.op with
    | .binOp op t x (.const (.slice none 0 0)) _ => match tab t with
      | some ti => match ti.d, op, ev σ.env x with
        | .slc .., .eql, .lst _ xs => some (true, xs)
        | .slc .., .neq, .lst _ xs => some (false, xs)
        | _, _, _ => none
      | none => none
    | _ => none

def nilB : Bool → Bool → Bool
  | true, b => b
  | false, b => !b

def stepN (σ : ASt) (o : Oper) (v : AV) (K : ASt → Prop) : Prop := match σ with
  | ⟨env, H, n⟩ => K ⟨putE env o.dst v, H, n⟩

/-- the operations of a region whose order is fixed -/
def awpN (P : Program) (tab : Tab) (g nt : Nat) (ops : List Oper) : List Oper → ASt → (ASt → Prop) → Prop
  | [], σ, K => K σ
  | o :: rest, σ, K => match nilCmp tab o σ with
    | some (q, xs) => match (match o.dst with | none => true | some d => Nat.blt d nt) with
      | true => ∀ b : Bool, (b = true → xs = []) → stepN σ o (.bool (nilB q b)) fun σ' => awpN P tab g nt ops rest σ' K
      | false => False
    | none => awpG P tab g nt ops o σ (fun _ σ' => awpN P tab g nt ops rest σ' K)

theorem nilCmp_ok {P : Program} {tab : Tab} (hT : TabOK P tab) {o : Oper} {σ : ASt} {q : Bool} {xs : List (List AV)} (h : nilCmp tab o σ = some (q, xs)) {C : Ctx} {I : Nat → Prop} {a : Act} {w : World} {β : Nat → Option Hdr} {F : Nat → Prop} (hR : RelB C I σ a w β F) :
    ∃ b : Bool, (b = true → xs = []) ∧ o.guard = none ∧ (execOp a.eval o).run P w = .ok (.value (.bool (nilB q b))) w := by
  unfold nilCmp at h
  split at h
  · cases h
  · rename_i hg
    split at h
    · rename_i op t x _ ho
      split at h
      · rename_i ti ht
        obtain ⟨ii, dd, z, g1, g2, _, _, _, _, g3⟩ := ty_parts (hT t ti ht)
        have fin : ∀ (e : TypeId) (sz eb : Nat) (ez : List AV) (q' : Bool) (sz' : Nat) (ys : List (List AV)), ti.d = .slc e sz eb ez → (op = .eql ∧ q' = true ∨ op = .neq ∧ q' = false) → ev σ.env x = .lst sz' ys → ∃ b : Bool, (b = true → ys = []) ∧ o.guard = none ∧ (execOp a.eval o).run P w = .ok (.value (.bool (nilB q' b))) w := by
          intro e sz eb ez q' sz' ys hd hop hx
          rw [hd] at g3
          obtain ⟨i, zv, rfl, _⟩ := td_slc g3.symm
          have hv := hR.ev x
          rw [hx] at hv
          generalize hvx : a.eval x = vx at hv
          cases hv with
          | lst _ _ ad cap vs k1 k2 k3 k4 k5 k6 k7 =>
            refine ⟨ad.isNone, fun e => List.eq_nil_of_length_eq_zero (by
              have : ad = none := by cases ad with | none => rfl | some _ => cases e
              have := k3 this
              omega), hg, ?_⟩
            have hc : a.eval (.const (.slice none 0 0)) = .slice none 0 0 := rfl
            rcases hop with ⟨rfl, rfl⟩ | ⟨rfl, rfl⟩
            · have hgu : (eqGuard .eql t x (.const (.slice none 0 0)) (.slice ad ys.length cap) (.slice none 0 0)).run P w = .ok () w := rfl
              simp only [execOp, ho, hvx, hc, Sem.run_bind, hgu, Result.andThen_ok, Lib.run_eql_slice_nil w t e ad ys.length cap 0 0 g2, Sem.run_pure, nilB]
            · have hgu : (eqGuard .neq t x (.const (.slice none 0 0)) (.slice ad ys.length cap) (.slice none 0 0)).run P w = .ok () w := rfl
              simp only [execOp, ho, hvx, hc, Sem.run_bind, hgu, Result.andThen_ok, run_neq_slice_nil w t e ad ys.length cap g2, Sem.run_pure, nilB]
        split at h
        · rename_i hd hx; cases h; exact fin _ _ _ _ _ _ _ hd (.inl ⟨rfl, rfl⟩) hx
        · rename_i hd hx; cases h; exact fin _ _ _ _ _ _ _ hd (.inr ⟨rfl, rfl⟩) hx
        · cases h
      · cases h
    · cases h

theorem awpN_ok {P : Program} {tab : Tab} (hT : TabOK P tab) {g nt : Nat} {ops : Array Oper} {Q : Exit → Act → World → Prop} {C : Ctx} (hC : C.γ.length = g) (hnt : C.nt = nt) : ∀ {l : List Oper} {σ : ASt} {K : ASt → Prop}, awpN P tab g nt ops.toList l σ K → ∀ {a : Act} {w : World}, Rel C (Below' σ.n) σ a w →
    (∀ σ' a' w', K σ' → Rel C (Below' σ'.n) σ' a' w' → Q .normal a' w') → wpList P ops Q l a w
  | [], σ, K, h, a, w, hR, hK => hK _ _ _ h hR
  | o :: rest, σ, K, h, a, w, hR, hK => by
    simp only [awpN] at h
    split at h
    · rename_i q xs hq
      split at h
      · rename_i hd
        obtain ⟨β, F, hB⟩ := hR
        obtain ⟨b, h1, h2, h3⟩ := nilCmp_ok hT hq hB
        refine wpList_plain h2 fun K' hK' => upon_value h3 (hK' _ _ (awpN_ok hT hC hnt (h b h1) ⟨β, F, ?_⟩ hK))
        exact (hB.put o.dst (.bool (nilB q b)) _ (fun d e => by rw [e] at hd; rw [hnt]; exact Nat.blt_eq.mp hd) (.bool _)).fin rfl rfl (fun i hi => hi)
      · exact h.elim
    · obtain ⟨σr, e, h1, h2, h3, h4⟩ := awpG_ok hT h
      have hmono := h2.mono
      refine wpList_step fun K' hKK => ?_
      refine h2.run hC (fun t _ => .refl _) (fun id _ => rfl) (fun id q1 q2 q3 => ?_) (fun d e => hnt ▸ h3 d e) (hR.ref h1) (fun a' w' hR2 => hKK _ _ (awpN_ok hT hC hnt h4 ?_ hK))
      · have : id < σ.n := q3
        rw [← h1.2.2] at this
        omega
      · obtain ⟨β, F, hB⟩ := hR2
        refine ⟨β, F, hB.fin rfl rfl (fun i hi => ?_)⟩
        show i < e.n
        rcases hi with hi | hi
        · have : i < σ.n := hi
          rw [← h1.2.2] at this
          omega
        · exact hi.2

/-- from what is known, the code comes to an end of which K holds -/
def SW (P : Program) (g nt : Nat) (c : Code) (K : Exit → ASt → Prop) (σ : ASt) : Prop :=
  ∀ (C : Ctx) (a : Act) (w : World), C.γ.length = g → C.nt = nt → Rel C (Below' σ.n) σ a w → c.wp P (fun e a' w' => ∃ σ', K e σ' ∧ Rel C (Below' σ'.n) σ' a' w') a w

def thenA (k : ASt → Prop) (K : Exit → ASt → Prop) (e : Exit) (σ : ASt) : Prop := match e with
  | .normal => k σ
  | e => K e σ

def blockA (id : Nat) (K : Exit → ASt → Prop) (e : Exit) (σ : ASt) : Prop := match e with
  | .exit id' => match Nat.beq id' id with
    | true => K .normal σ
    | false => K (.exit id') σ
  | e => K e σ

def awp (P : Program) (tab : Tab) (g nt : Nat) : Code → (Exit → ASt → Prop) → ASt → Prop
  | .skip, K, σ => K .normal σ
  | .region _ ops false, K, σ => awpN P tab g nt ops.toList ops.toList σ (fun σ' => K .normal σ')
  | .region _ ops true, K, σ => awpOps P tab g nt ops.toList ops.toList σ (fun es σ' => ordOK ops (es.map Eff.fp) = true ∧ K .normal σ')
  | .seq a b, K, σ => awp P tab g nt a (thenA (awp P tab g nt b K) K) σ
  | .cond c a b, K, σ => match ev σ.env c with
    | .tru => awp P tab g nt a K σ
    | .fls => awp P tab g nt b K σ
    | .bool t => (t = true → awp P tab g nt a K σ) ∧ (t = false → awp P tab g nt b K σ)
    | _ => False
  | .block id c, K, σ => awp P tab g nt c (blockA id K) σ
  | .exit id, K, σ => K (.exit id) σ
  | .ret, K, σ => K .ret σ
  | .loop c, K, σ => SW P g nt (.loop c) K σ
  | c, K, σ => SW P g nt c K σ

theorem SW.mono {P : Program} {g nt : Nat} {c : Code} {K K' : Exit → ASt → Prop} {σ : ASt} (h : SW P g nt c K σ) (hk : ∀ e σ, K e σ → K' e σ) : SW P g nt c K' σ :=
  fun C a w h1 h2 h3 => wp_mono (h C a w h1 h2 h3) (fun e a' w' ⟨σ', q, r⟩ => ⟨σ', hk e σ' q, r⟩)

theorem SW.weak {P : Program} {g nt : Nat} {c : Code} {K : Exit → ASt → Prop} {σ σ' : ASt} {gs zs bs : List Nat} (hw : Wk g σ σ' gs zs bs) (h : SW P g nt c K σ') : SW P g nt c K σ :=
  fun C a w h1 h2 h3 => h C a w h1 h2 (hw.rel h1 h3)

theorem awp_ok {P : Program} {tab : Tab} (hT : TabOK P tab) (hP : P.follows .mixedOrders = true) {g nt : Nat} : ∀ (c : Code) {K : Exit → ASt → Prop} {σ : ASt}, awp P tab g nt c K σ → SW P g nt c K σ
  | .skip, K, σ, h => fun C a w _ _ hR => wp_skip ⟨σ, h, hR⟩
  | .region id ops false, K, σ, h => fun C a w hC hnt hR => by
    exact wp_region_list (awpN_ok (Q := fun e a' w' => ∃ σ', K e σ' ∧ Rel C (Below' σ'.n) σ' a' w') hT hC hnt h hR (fun σ' a' w' hk hr => ⟨σ', hk, hr⟩))
  | .region id ops true, K, σ, h => fun C a w hC hnt hR => by
    obtain ⟨es, σ', h1, h2, h3⟩ := awpOps_ok hT h
    exact run_draw hP h1 h2 hC hnt hR (Q := fun e a' w' => ∃ σ', K e σ' ∧ Rel C (Below' σ'.n) σ' a' w') (fun a' w' hr => ⟨σ', h3, hr⟩)
  | .seq x y, K, σ, h => fun C a w hC hnt hR => by
    refine wp_seq (wp_mono (awp_ok hT hP x h C a w hC hnt hR) (fun e a' w' ⟨σ', q, r⟩ => ?_))
    cases e with
    | normal => exact awp_ok hT hP y q C a' w' hC hnt r
    | _ => exact ⟨σ', q, r⟩
  | .cond c x y, K, σ, h => fun C a w hC hnt hR => by
    have hR' := hR
    obtain ⟨β, F, hB⟩ := hR'
    have hv := hB.ev c
    simp only [awp] at h
    split at h
    · rename_i e
      rw [e] at hv
      generalize hvc : a.eval c = v at hv
      cases hv
      exact wp_cond_true hvc (awp_ok hT hP x h C a w hC hnt hR)
    · rename_i e
      rw [e] at hv
      generalize hvc : a.eval c = v at hv
      cases hv
      exact wp_cond_false hvc (awp_ok hT hP y h C a w hC hnt hR)
    · rename_i t e
      rw [e] at hv
      generalize hvc : a.eval c = v at hv
      cases hv
      cases t with
      | true => exact wp_cond_true hvc (awp_ok hT hP x (h.1 rfl) C a w hC hnt hR)
      | false => exact wp_cond_false hvc (awp_ok hT hP y (h.2 rfl) C a w hC hnt hR)
    · exact h.elim
  | .block id c, K, σ, h => fun C a w hC hnt hR => by
    refine wp_block (wp_mono (awp_ok hT hP c h C a w hC hnt hR) (fun e a' w' ⟨σ', q, r⟩ => ?_))
    cases e with
    | exit id' =>
      simp only [Exit.inBlock]
      simp only [blockA] at q
      split
      · rename_i he
        subst he
        rw [show Nat.beq id' id' = true from by simp] at q
        exact ⟨σ', q, r⟩
      · rename_i he
        split at q
        · rename_i e2; exact absurd (Nat.eq_of_beq_eq_true e2) he
        · exact ⟨σ', q, r⟩
    | _ => exact ⟨σ', q, r⟩
  | .exit id, K, σ, h => fun C a w _ _ hR => wp_exit ⟨σ, h, hR⟩
  | .ret, K, σ, h => fun C a w _ _ hR => wp_ret ⟨σ, h, hR⟩
  | .loop c, K, σ, h => h
  | .rangeFunc .., K, σ, h => h
  | .scope c, K, σ, h => h
  | .label l, K, σ, h => h
  | .goto l, K, σ, h => h
  | .refuse s, K, σ, h => h

/-- where the code is left by an exit, what is known may be told anew -/
def outA (g : Nat) (K : Exit → ASt → Prop) (e : Exit) (σ : ASt) : Prop := match e with
  | .exit id => ∃ (σ' : ASt) (gs zs bs : List Nat), Wk g σ σ' gs zs bs ∧ K (.exit id) σ'
  | e => K e σ

theorem sw_out {P : Program} {g nt : Nat} {c : Code} {K : Exit → ASt → Prop} {σ : ASt} (h : SW P g nt c (outA g K) σ) : SW P g nt c K σ := by
  intro C a w h1 h2 h3
  refine wp_mono (h C a w h1 h2 h3) (fun e a' w' ⟨σ', q, r⟩ => ?_)
  cases e with
  | exit id =>
    obtain ⟨σ3, gs, zs, bs, hw, hk⟩ := q
    exact ⟨σ3, hk, hw.rel h1 r⟩
  | _ => exact ⟨σ', q, r⟩

/-- a loop: Inv x is what is known at its head, x gets less with every round -/
theorem sw_loop {P : Program} {tab : Tab} (hT : TabOK P tab) (hP : P.follows .mixedOrders = true) {g nt : Nat} {α : Type} {c : Code} {K : Exit → ASt → Prop} {σ : ASt} (I : α → Prop) (S : α → ASt) (μ : α → Nat) (x0 : α) (h0 : I x0) {gs zs bs : List Nat} (hw : Wk g σ (S x0) gs zs bs)
    (round : ∀ x, I x → awp P tab g nt c (thenA (fun σ' => ∃ y gs zs bs, I y ∧ μ y < μ x ∧ Wk g σ' (S y) gs zs bs) K) (S x)) : SW P g nt (.loop c) K σ := by
  intro C a w hC hnt hR b k cs
  have key : ∀ (n : Nat) (x : α) (a : Act) (w : World), μ x = n → I x → Rel C (Below' (S x).n) (S x) a w →
      ∃ e a' w', (∃ σ', K e σ' ∧ Rel C (Below' σ'.n) σ' a' w') ∧ Arrives P (lone (b.at a (.code c :: .inLoop c :: k)) cs w) b k cs e a' w' := by
    intro n
    induction n using Nat.strongRecOn with
    | _ n ih =>
      intro x a w hn hI hr
      obtain ⟨e, a₁, w₁, ⟨σ', hq, hr'⟩, harr⟩ := awp_ok hT hP c (round x hI) C a w hC hnt hr b (.inLoop c :: k) cs
      cases e with
      | normal =>
        obtain ⟨y, gs, zs, bs, hIy, hlt, hw'⟩ := hq
        obtain ⟨e₂, a₂, w₂, hq₂, harr₂⟩ := ih (μ y) (hn ▸ hlt) y a₁ w₁ rfl hIy (hw'.rel hC hr')
        exact ⟨e₂, a₂, w₂, hq₂, .of_steps (Steps.trans harr (.one step_inLoop)) harr₂⟩
      | exit id => exact ⟨_, a₁, w₁, ⟨σ', hq, hr'⟩, .pass (x := .inLoop c) rfl (fun _ _ => .inl (by simp)) harr⟩
      | goto l => exact ⟨_, a₁, w₁, ⟨σ', hq, hr'⟩, .pass (x := .inLoop c) rfl (fun _ _ => .inl (by simp)) harr⟩
      | ret => exact ⟨_, a₁, w₁, ⟨σ', hq, hr'⟩, .pass (x := .inLoop c) rfl (fun _ _ => .inl (by simp)) harr⟩
      | panic ch => exact ⟨_, a₁, w₁, ⟨σ', hq, hr'⟩, .pass (x := .inLoop c) rfl (fun _ _ => .inl (by simp)) harr⟩
      | outgrown => exact ⟨_, a₁, w₁, ⟨σ', hq, hr'⟩, .pass (x := .inLoop c) rfl (fun _ _ => .inl (by simp)) harr⟩
  obtain ⟨e, a', w', hq, harr⟩ := key _ x0 a w rfl h0 (hw.rel hC hR)
  exact ⟨e, a', w', hq, .of_steps (.one step_loop) harr⟩

/-- what a function gives back, of one result variable -/
def resV (tab : Tab) (σ : ASt) (r : ResultVar) (K : AV → Prop) : Prop := match r with
  | .tmp t => K (σ.env t)
  | .cell a ty => match tab ty with
    | some ti => match σ.env a with
      | .ptr id j => match σ.H id with
        | some (.box c) => partA c j ti.size ti.agg K
        | _ => False
      | _ => False
    | none => False

def resVs (tab : Tab) (σ : ASt) : List ResultVar → (List AV → Prop) → Prop
  | [], K => K []
  | r :: l, K => resV tab σ r (fun v => resVs tab σ l (fun vs => K (v :: vs)))

def resA (tab : Tab) (σ : ASt) (rs : List ResultVar) (K : AV → Prop) : Prop := resVs tab σ rs (fun vs => match vs with
  | [v] => K v
  | vs => K (.tup vs))

def resOf (tmps : Array Value) (r : ResultVar) : Sem Value := match r with
  | .tmp t => pure (tmps.getD t undef)
  | .cell p t => do loadVar t (← asAddr (tmps.getD p undef))

theorem resV_ok {P : Program} {tab : Tab} (hT : TabOK P tab) {C : Ctx} {I : Nat → Prop} {σ : ASt} {a : Act} {w : World} {β : Nat → Option Hdr} {F : Nat → Prop} (hR : RelB C I σ a w β F) {r : ResultVar} {K : AV → Prop} (h : resV tab σ r K) :
    ∃ v u, K v ∧ (resOf a.tmps r).run P w = .ok u w ∧ RV w F β v u := by
  unfold resV at h
  split at h
  · exact ⟨_, _, h, rfl, hR.env _⟩
  · rename_i p ty
    split at h
    · rename_i ti ht
      split at h
      · rename_i id j e
        split at h
        · rename_i c hH
          obtain ⟨v, hv, hp⟩ := partA_ok h
          obtain ⟨g, e1, hb, _⟩ := hR.live id _ hH
          have hpv := hR.env p
          rw [e] at hpv
          obtain ⟨b, _, hpe, hpt⟩ := box_points hpv e1 hb
          obtain ⟨u, h1, h2⟩ := load_run hT ht hpt hp b 0 rfl
          rw [Nat.zero_add] at h1
          refine ⟨v, u, hv, ?_, h2⟩
          simp only [resOf, hpe, asAddr, Sem.run_bind, Sem.run_pure, Result.andThen_ok, h1]
        · exact h.elim
      · exact h.elim
    · exact h.elim

theorem resVs_ok {P : Program} {tab : Tab} (hT : TabOK P tab) {C : Ctx} {I : Nat → Prop} {σ : ASt} {a : Act} {w : World} {β : Nat → Option Hdr} {F : Nat → Prop} (hR : RelB C I σ a w β F) : ∀ {l : List ResultVar} {K : List AV → Prop}, resVs tab σ l K →
    ∃ vs us, K vs ∧ (l.mapM (resOf a.tmps)).run P w = .ok us w ∧ RVs w F β vs us.toArray
  | [], K, h => ⟨[], [], h, by simp, rfl, fun j u v hu => by simp at hu⟩
  | r :: l, K, h => by
    obtain ⟨v, u, h1, h2, h3⟩ := resV_ok hT hR h
    obtain ⟨vs, us, h4, h5, h6⟩ := resVs_ok hT hR h1
    refine ⟨v :: vs, u :: us, h4, ?_, by simpa using h6.1, fun j x y hx hy => ?_⟩
    · rw [List.mapM_cons]
      simp only [Sem.run_bind, h2, Result.andThen_ok, h5, Sem.run_pure]
    · cases j with
      | zero => simp at hx hy; subst hx; subst hy; exact h3
      | succ j => exact h6.2 j x y (by simpa using hx) (by simpa using hy)

theorem resA_ok {P : Program} {tab : Tab} (hT : TabOK P tab) {C : Ctx} {I : Nat → Prop} {σ : ASt} {a : Act} {w : World} {β : Nat → Option Hdr} {F : Nat → Prop} (hR : RelB C I σ a w β F) {fn : Func} {K : AV → Prop} (h : resA tab σ fn.results.toList K) : ∃ v u, K v ∧ (results fn a.tmps).run P w = .ok u w ∧ RV w F β v u := by
  obtain ⟨vs, us, h1, h2, h3⟩ := resVs_ok hT hR h
  have hrun : (results fn a.tmps).run P w = .ok (if h : us.toArray.size = 1 then us.toArray[0] else .tuple us.toArray) w := by
    have hun : results fn a.tmps = (do let vs ← fn.results.mapM (resOf a.tmps); pure (if h : vs.size = 1 then vs[0] else .tuple vs)) := rfl
    rw [hun, Array.mapM_eq_mapM_toList]
    simp only [Sem.run_bind, Sem.run_map]
    rw [h2]
    simp
  match vs, us, h1, h3, hrun with
  | [v], [u], h1, h3, hrun => exact ⟨v, u, h1, by simpa using hrun, h3.2 0 v u rfl rfl⟩
  | [], [], h1, h3, hrun => exact ⟨.tup [], .tuple #[], h1, by simpa using hrun, .tup _ _ h3.1 h3.2⟩
  | v :: v2 :: vs, u :: u2 :: us, h1, h3, hrun => exact ⟨.tup (v :: v2 :: vs), .tuple (u :: u2 :: us).toArray, h1, by simpa using hrun, .tup _ _ h3.1 h3.2⟩
  | [], u :: us, h1, h3, hrun => exact absurd h3.1 (by simp)
  | [v], [], h1, h3, hrun => exact absurd h3.1 (by simp)
  | [v], u :: u2 :: us, h1, h3, hrun => exact absurd h3.1 (by simp)
  | v :: v2 :: vs, [], h1, h3, hrun => exact absurd h3.1 (by simp)
  | v :: v2 :: vs, [u], h1, h3, hrun => exact absurd h3.1 (by simp)

/-- one value, in slot 0 -/
def oneE (v : AV) : Nat → AV
  | 0 => v
  | _ => .any

/-- what is to be shown at the end of a function -/
def retA (tab : Tab) (g : Nat) (rs : List ResultVar) (res : AV) (G' : List ABlk) (e : Exit) (σ : ASt) : Prop := match e with
  | .normal | .ret => resA tab σ rs (fun v => ∃ gs zs bs, Wk g ⟨oneE v, σ.H, σ.n⟩ (entry [res] G') gs zs bs)
  | _ => False

/-- the state in which the body of a function begins -/
def start (args : List AV) (G : List ABlk) : ASt := entry args G

theorem ac_of {P : Program} {tab : Tab} (hT : TabOK P tab) (hP : P.follows .mixedOrders = true) {f : FuncId} {fn : Func} {c : Code} {args : List AV} {G G' : List ABlk} {res : AV} (hf : P.funcs[f]? = some fn) (hb : fn.body = some c) {nt : Nat} (hn : fn.ntmps = nt) (hle : Nat.ble args.length nt = true)
    (h : awp P tab G.length nt c (retA tab G.length fn.results.toList res G') (entry args G)) : AC P f args G res G' := by
  intro C w vals hC hw0 hnt hlen hR
  have hle' := Nat.le_of_ble_eq_true hle
  refine calls_of_wp hf hb (Code.wp_mono (fun e a' w' hq => ?_) (awp_ok hT hP c h { C with nt := nt } { tmps := vals ++ Array.replicate (fn.ntmps - vals.size) undef, defers := [] } w hC rfl ?_))
  · obtain ⟨σ', hK, hR'⟩ := hq
    have fin : resA tab σ' fn.results.toList (fun v => ∃ gs zs bs, Wk G.length ⟨oneE v, σ'.H, σ'.n⟩ (entry [res] G') gs zs bs) → a'.defers = [] ∧ ∃ v, (results fn a'.tmps).run P w' = .ok v w' ∧ ∃ v', Ending.returned v = .returned v' ∧ Rel { C with nt := 1 } (Below' G'.length) (entry [res] G') ⟨#[v'], []⟩ w' := fun hK => by
      obtain ⟨β, F, hB⟩ := hR'
      obtain ⟨v, u, ⟨gs, zs, bs, hw⟩, h2, h3⟩ := resA_ok hT hB hK
      refine ⟨hB.defers, u, h2, u, rfl, ?_⟩
      have hone : RelB { C with nt := 1 } (Below' σ'.n) ⟨oneE v, σ'.H, σ'.n⟩ ⟨#[u], []⟩ w' β F := by
        refine ⟨fun t => ?_, rfl, rfl, hB.live, hB.inj, hB.dom, hB.gr, hB.sub, hB.news, hB.os, hB.tape, hB.output, hB.grow, hB.block, hB.glo⟩
        match t with
        | 0 => exact h3
        | t + 1 => exact .any _
      exact hw.rel (C := { C with nt := 1 }) hC ⟨β, F, hone⟩
    cases e with
    | normal => exact fin hK
    | ret => exact fin hK
    | exit id => exact hK.elim
    | goto l => exact hK.elim
    | panic ch => exact hK.elim
    | outgrown => exact hK.elim
  · obtain ⟨β, F, hB⟩ := hR
    refine ⟨β, F, ⟨fun t => ?_, by simp; omega, rfl, hB.live, hB.inj, hB.dom, hB.gr, hB.sub, hB.news, hB.os, hB.tape, hB.output, hB.grow, hB.block, hB.glo⟩⟩
    have h1 := hB.env t
    by_cases ht : t < args.length
    · have : (vals ++ Array.replicate (fn.ntmps - vals.size) undef).getD t undef = vals.getD t undef := by
        simp only [Array.getD_eq_getD_getElem?]
        rw [Array.getElem?_append_left (by omega)]
      rw [this]
      exact h1
    · simp only [entry]
      rw [List.getElem?_eq_none (by omega)]
      exact .any _
end Go.Proofs.Ytkajegjghfbgaaa.Ax

/- Helpers of the abstract walk. Nothing of the dump is used here. -/
namespace Go.Proofs.Ytkajegjghfbgaaa.Ax
open Go.RowKit
set_option linter.unusedVariables false
set_option linter.unusedSimpArgs false

theorem wrap64 {n : Int} (h1 : -9223372036854775808 ≤ n) (h2 : n ≤ 9223372036854775807) : IntKind.i64.wrap n = n := by rw [IntKind.wrap_i64]; omega

theorem wrapE {n m : Int} (h : n = m) (h1 : -9223372036854775808 ≤ m) (h2 : m ≤ 9223372036854775807) : IntKind.i64.wrap n = m := by subst h; exact wrap64 h1 h2

/-- all slices in it have lengths that can be numbers -/
inductive Bnd : AV → Prop where
  | any : Bnd .any
  | sc (v : AV) : (∀ sz xs, v ≠ .lst sz xs) → (∀ c, v ≠ .iptr c) → (∀ c, v ≠ .agg c) → (∀ c, v ≠ .tup c) → Bnd v
  | iptr (c : List AV) : (∀ u ∈ c, Bnd u) → Bnd (.iptr c)
  | lst (sz : Nat) (xs : List (List AV)) : xs.length ≤ 9223372036854775807 → (∀ c ∈ xs, ∀ u ∈ c, Bnd u) → Bnd (.lst sz xs)
  | agg (c : List AV) : (∀ u ∈ c, Bnd u) → Bnd (.agg c)
  | tup (c : List AV) : (∀ u ∈ c, Bnd u) → Bnd (.tup c)

theorem RV.bnd {w : World} {F : Nat → Prop} {β : Nat → Option Hdr} {x : AV} {v : Value} (h : RV w F β x v) : Bnd x := by
  induction h with
  | any => exact .any
  | iptr c b o vs h1 h2 h3 _ ih => exact .iptr c (fun u hu => by obtain ⟨j, hj⟩ := List.getElem?_of_mem hu; exact ih j u hj)
  | lst sz xs a cap vs h1 h2 h3 h4 h5 h6 _ ih =>
    exact .lst sz xs (by simp only [maxLen] at h2; omega) (fun c hc u hu => by
      obtain ⟨k, hk⟩ := List.getElem?_of_mem hc
      obtain ⟨j, hj⟩ := List.getElem?_of_mem hu
      exact ih k c j u hk hj)
  | agg c cs h1 _ ih =>
    exact .agg c (fun u hu => by
      obtain ⟨j, hj⟩ := List.getElem?_of_mem hu
      have : j < cs.size := by rw [← h1]; exact (List.getElem?_eq_some_iff.1 hj).1
      exact ih j u _ hj (Array.getElem?_eq_getElem this))
  | tup c cs h1 _ ih =>
    exact .tup c (fun u hu => by
      obtain ⟨j, hj⟩ := List.getElem?_of_mem hu
      have : j < cs.size := by rw [← h1]; exact (List.getElem?_eq_some_iff.1 hj).1
      exact ih j u _ hj (Array.getElem?_eq_getElem this))
  | _ => exact .sc _ (by simp) (by simp) (by simp) (by simp)

theorem Bnd.len {sz : Nat} {xs : List (List AV)} (h : Bnd (.lst sz xs)) : xs.length ≤ 9223372036854775807 := by
  cases h with
  | sc _ h1 => exact absurd rfl (h1 sz xs)
  | lst _ _ h1 _ => exact h1

theorem Bnd.elem {sz : Nat} {xs : List (List AV)} (h : Bnd (.lst sz xs)) : ∀ c ∈ xs, ∀ u ∈ c, Bnd u := by
  cases h with
  | sc _ h1 => exact absurd rfl (h1 sz xs)
  | lst _ _ _ h2 => exact h2

theorem Bnd.cell {c : List AV} (h : Bnd (.agg c)) : ∀ u ∈ c, Bnd u := by
  cases h with
  | sc _ _ _ h1 => exact absurd rfl (h1 c)
  | agg _ h2 => exact h2

/-- the lengths in the arguments may be taken to be numbers -/
theorem ac_bnd {P : Program} {f : FuncId} {args : List AV} {G G' : List ABlk} {res : AV} (h : (∀ v ∈ args, Bnd v) → AC P f args G res G') : AC P f args G res G' := by
  intro C w vals h1 h2 h3 h4 hR
  have hR' := hR
  obtain ⟨β, F, hB⟩ := hR'
  refine h (fun v hv => ?_) C w vals h1 h2 h3 h4 hR
  obtain ⟨t, ht⟩ := List.getElem?_of_mem hv
  have := (hB.env t).bnd
  simp only [entry, ht, Option.getD_some] at this
  exact this

/-- a contract without granted blocks, as a call in a world: what was there before stays as it is -/
theorem AC.calls {P : Program} {f : FuncId} {args : List AV} {res : AV} (h : AC P f args [] res []) {w : World} {vals : Array Value} (hl : vals.size = args.length) (hv : ∀ (t : Nat) (u : AV) (v : Value), args[t]? = some u → vals[t]? = some v → RV w (fun b => b < w.heap.size) noB u v) (hgl : GloR w (fun b => b < w.heap.size)) :
    Calls P f vals w fun e w' => ∃ v F, e = .returned v ∧ RV w' F noB res v ∧ Below w.heap.size w w' := by
  refine Calls.mono (h ⟨w, [], fun b => b < w.heap.size, vals.size⟩ w vals rfl rfl rfl hl ⟨noB, fun b => b < w.heap.size, ⟨fun t => ?_, rfl, rfl, fun id k e => by simp [entry] at e, fun id id' k k' g g' b e => by simp [entry] at e, fun id g e => (by cases e), fun i g e => by simp at e, fun b hb => hb, fun b hb => ⟨hb, .inl hb⟩, rfl, rfl, rfl, Nat.le_refl _, fun b _ _ => rfl, hgl⟩⟩) (fun e w' he => ?_)
  · simp only [entry]
    cases hu : args[t]? with
    | none => exact .any _
    | some u =>
      have ht : t < vals.size := by rw [hl]; exact (List.getElem?_eq_some_iff.1 hu).1
      have := hv t u _ hu (Array.getElem?_eq_getElem ht)
      simpa [Array.getD_eq_getD_getElem?, ht] using this
  · obtain ⟨v, rfl, β, F, hB⟩ := he
    have h0 := hB.env 0
    have hβ : ∀ id g, β id = some g → noB id = some g := fun id g e => by have : id < 0 := hB.dom id g e; omega
    exact ⟨v, F, rfl, RV.mono h0 (fun _ x => x) (fun _ _ => rfl) hβ, hB.os, hB.tape, hB.output, hB.grow, fun b hb => hB.block b hb (fun h hm => by simp at hm)⟩

/-- slots, one by one -/
def eL : List (Nat × AV) → Nat → AV
  | [], _ => .any
  | (t, v) :: r, u => match Nat.beq u t with
    | true => v
    | false => eL r u

def hL : List (Nat × ABlk) → Nat → Option ABlk
  | [], _ => none
  | (t, v) :: r, u => match Nat.beq u t with
    | true => some v
    | false => hL r u

def allE {α : Type} (p : α → Prop) : List α → Prop
  | [] => True
  | x :: l => p x ∧ allE p l

theorem allE_mem {α : Type} {p : α → Prop} : ∀ {l : List α}, allE p l → ∀ x ∈ l, p x
  | y :: l, h, x, hx => by
    rcases List.mem_cons.1 hx with rfl | hx
    · exact h.1
    · exact allE_mem h.2 x hx

theorem eL_cases : ∀ (l : List (Nat × AV)) (t : Nat), eL l t = .any ∨ ∃ p ∈ l, p.1 = t ∧ eL l t = p.2
  | [], t => .inl rfl
  | (u, v) :: l, t => by
    simp only [eL]
    split
    · rename_i e; exact .inr ⟨(u, v), List.mem_cons_self .., (Nat.eq_of_beq_eq_true e).symm, rfl⟩
    · rcases eL_cases l t with h | ⟨p, h1, h2, h3⟩
      · exact .inl h
      · exact .inr ⟨p, List.mem_cons_of_mem _ h1, h2, h3⟩

theorem hL_cases : ∀ (l : List (Nat × ABlk)) (t : Nat) (b : ABlk), hL l t = some b → (t, b) ∈ l
  | [], t, b, h => by simp [hL] at h
  | (u, v) :: l, t, b, h => by
    simp only [hL] at h
    split at h
    · rename_i e
      have := Nat.eq_of_beq_eq_true e
      subst this
      cases h
      exact List.mem_cons_self ..
    · exact List.mem_cons_of_mem _ (hL_cases l t b h)

/-- a block in other names -/
def BlkA (H : Nat → Option ABlk) (gs zs bs : List Nat) (k : Nat) (b' : ABlk) : Prop := match b' with
  | .dead => False
  | .obj q' => ∃ id q, gs[k]? = some id ∧ H id = some (.obj q) ∧ ∀ o, q o → q' o
  | .box c' => ∃ id c, gs[k]? = some id ∧ H id = some (.box c) ∧ c.length = c'.length ∧ ∀ (j : Nat) (u u' : AV), c[j]? = some u → c'[j]? = some u' → ArgR H gs zs bs u u'
  | .row sz xs' => (∃ id xs, gs[k]? = some id ∧ H id = some (.row sz xs) ∧ xs.length = xs'.length ∧ ∀ (i : Nat) (c c' : List AV), xs[i]? = some c → xs'[i]? = some c' → c.length = c'.length ∧ (∀ u ∈ c', u.one = true) ∧ ∀ (j : Nat) (u u' : AV), c[j]? = some u → c'[j]? = some u' → ArgR H gs zs bs u u') ∨ (k ∈ zs ∧ xs' = [])

def nodupB : List Nat → Bool
  | [] => true
  | x :: l => !l.contains x && nodupB l

theorem nodupB_ok : ∀ {l : List Nat}, nodupB l = true → ∀ (i j id : Nat), l[i]? = some id → l[j]? = some id → i = j
  | x :: l, h, i, j, id, hi, hj => by
    simp only [nodupB, Bool.and_eq_true, Bool.not_eq_true'] at h
    have hx : ∀ k, l[k]? = some x → False := fun k hk => by
      have := List.mem_of_getElem? hk
      rw [← List.contains_iff_mem, h.1] at this
      cases this
    match i, j with
    | 0, 0 => rfl
    | 0, j + 1 =>
      simp at hi hj
      subst hi
      exact (hx j hj).elim
    | i + 1, 0 =>
      simp at hi hj
      subst hj
      exact (hx i hi).elim
    | i + 1, j + 1 => rw [nodupB_ok h.2 i j id (by simpa using hi) (by simpa using hj)]

/-- the ids whose names are still told -/
def keepA (al : Nat → Bool) : Nat → List Nat → List Nat
  | _, [] => []
  | k, id :: l => match al k with
    | true => id :: keepA al (k + 1) l
    | false => keepA al (k + 1) l

theorem keepA_mem {al : Nat → Bool} : ∀ {l : List Nat} {k j id : Nat}, l[j]? = some id → al (k + j) = true → id ∈ keepA al k l
  | x :: l, k, 0, id, h, ha => by
    simp at h
    subst h
    have ha : al k = true := ha
    simp only [keepA, ha]
    exact List.mem_cons_self ..
  | x :: l, k, j + 1, id, h, ha => by
    have := keepA_mem (k := k + 1) (show l[j]? = some id by simpa using h) (by rw [show k + 1 + j = k + (j + 1) by omega]; exact ha)
    simp only [keepA]
    split
    · exact List.mem_cons_of_mem _ this
    · exact this

theorem keepA_nd {al : Nat → Bool} : ∀ {l : List Nat} {k : Nat}, nodupB (keepA al k l) = true → ∀ (i j id : Nat), l[i]? = some id → l[j]? = some id → al (k + i) = true → al (k + j) = true → i = j
  | x :: l, k, h, i, j, id, hi, hj, ai, aj => by
    have hr : nodupB (keepA al (k + 1) l) = true := by
      simp only [keepA] at h
      split at h
      · simp only [nodupB, Bool.and_eq_true] at h; exact h.2
      · exact h
    have hx : ∀ q, al k = true → l[q]? = some x → al (k + 1 + q) = true → False := fun q a0 hq aq => by
      simp only [keepA, a0, nodupB, Bool.and_eq_true, Bool.not_eq_true'] at h
      have := keepA_mem (k := k + 1) hq aq
      rw [← List.contains_iff_mem, h.1] at this
      cases this
    match i, j with
    | 0, 0 => rfl
    | 0, j + 1 =>
      simp at hi hj
      subst hi
      exact (hx j ai hj (by rw [show k + 1 + j = k + (j + 1) by omega]; exact aj)).elim
    | i + 1, 0 =>
      simp at hi hj
      subst hj
      exact (hx i aj hi (by rw [show k + 1 + i = k + (i + 1) by omega]; exact ai)).elim
    | i + 1, j + 1 => rw [keepA_nd hr i j id (by simpa using hi) (by simpa using hj) (by rw [show k + 1 + i = k + (i + 1) by omega]; exact ai) (by rw [show k + 1 + j = k + (j + 1) by omega]; exact aj)]

def aliveG (G : List ABlk) (k : Nat) : Bool := match G[k]? with
  | some .dead => false
  | some (.box _) => true
  | some (.row _ _) => true
  | some (.obj _) => true
  | none => false

def aliveL : List (Nat × ABlk) → Nat → Bool
  | [], _ => false
  | (i, _) :: l, k => match Nat.beq i k with
    | true => true
    | false => aliveL l k

theorem aliveL_mem : ∀ {l : List (Nat × ABlk)} {k : Nat} {b : ABlk}, (k, b) ∈ l → aliveL l k = true
  | (i, b') :: l, k, b, h => by
    simp only [aliveL]
    split
    · rfl
    · rename_i e
      rcases List.mem_cons.1 h with h | h
      · cases h; rw [Nat.beq_refl] at e; cases e
      · exact aliveL_mem h

/-- the names fit -/
def namesB (g sn n : Nat) (al : Nat → Bool) (gs zs bs : List Nat) : Bool :=
  (List.range g).all (fun i => match gs[i]? with | some j => Nat.beq i j | none => false) && nodupB (keepA al 0 gs) && (keepA al 0 gs).all (fun id => !bs.contains id) && zs.all (fun k => (match gs[k]? with | some id => Nat.ble sn id | none => true) && Nat.blt k n) && Nat.ble gs.length n

/-- a block at the end of a function: what was given up is not told -/
def BlkD (H : Nat → Option ABlk) (gs zs bs : List Nat) (k : Nat) (b' : ABlk) : Prop := match b' with
  | .dead => True
  | .obj q => BlkA H gs zs bs k (.obj q)
  | .box c => BlkA H gs zs bs k (.box c)
  | .row sz xs => BlkA H gs zs bs k (.row sz xs)

theorem blkA_wk {H : Nat → Option ABlk} {gs zs bs : List Nat} {k : Nat} {b' : ABlk} (h1 : BlkA H gs zs bs k b') : (∃ id b, gs[k]? = some id ∧ H id = some b ∧
      ((∃ c c', b = .box c ∧ b' = .box c' ∧ c.length = c'.length ∧ ∀ (j : Nat) (u u' : AV), c[j]? = some u → c'[j]? = some u' → ArgR H gs zs bs u u') ∨
      (∃ sz xs xs', b = .row sz xs ∧ b' = .row sz xs' ∧ xs.length = xs'.length ∧ ∀ (i : Nat) (c c' : List AV), xs[i]? = some c → xs'[i]? = some c' → c.length = c'.length ∧ (∀ u ∈ c', u.one = true) ∧ ∀ (j : Nat) (u u' : AV), c[j]? = some u → c'[j]? = some u' → ArgR H gs zs bs u u') ∨ ∃ q q', b = .obj q ∧ b' = .obj q' ∧ ∀ o, q o → q' o)) ∨ (k ∈ zs ∧ ∃ sz, b' = .row sz []) := by
  cases b' with
  | dead => exact h1.elim
  | obj q' =>
    obtain ⟨id, q, q1, q2, q3⟩ := h1
    exact .inl ⟨id, _, q1, q2, .inr (.inr ⟨q, q', rfl, rfl, q3⟩)⟩
  | box c' =>
    obtain ⟨id, c, q1, q2, q3, q4⟩ := h1
    exact .inl ⟨id, _, q1, q2, .inl ⟨c, c', rfl, rfl, q3, q4⟩⟩
  | row sz xs =>
    rcases h1 with ⟨id, ys, q1, q2, q3, q4⟩ | ⟨q1, q2⟩
    · exact .inl ⟨id, _, q1, q2, .inr (.inl ⟨sz, ys, xs, rfl, rfl, q3, q4⟩)⟩
    · exact .inr ⟨q1, sz, by rw [q2]⟩

theorem wk_mk {g : Nat} {σ : ASt} {l : List (Nat × AV)} {hl : List (Nat × ABlk)} {n : Nat} (gs zs bs : List Nat) (hn : namesB g σ.n n (aliveL hl) gs zs bs = true) (he : allE (fun p => ArgR σ.H gs zs bs (σ.env p.1) p.2) l) (hb : allE (fun p => BlkA σ.H gs zs bs p.1 p.2) hl) : Wk g σ ⟨eL l, hL hl, n⟩ gs zs bs := by
  unfold namesB at hn
  simp only [Bool.and_eq_true, List.all_eq_true, List.mem_range] at hn
  obtain ⟨⟨⟨⟨n1, n2⟩, n3⟩, n4⟩, n5⟩ := hn
  have al : ∀ (k : Nat) (b : ABlk), hL hl k = some b → aliveL hl (0 + k) = true := fun k b e => by rw [Nat.zero_add]; exact aliveL_mem (hL_cases hl k b e)
  refine ⟨fun t => ?_, fun k b' hk => ?_, fun i hi => ?_, fun i j id b b' hi hj e1 e2 => keepA_nd n2 i j id hi hj (al i b e1) (al j b' e2), fun k id b hid e1 => ?_, fun k hk => ?_, fun k hk id hid => ?_, Nat.le_of_ble_eq_true n5⟩
  · show ArgR σ.H gs zs bs (σ.env t) (eL l t)
    rcases eL_cases l t with h | ⟨p, h1, h2, h3⟩
    · rw [h]; exact .any _
    · rw [h3, ← h2]; exact allE_mem he p h1
  · exact blkA_wk (allE_mem hb _ (hL_cases hl k b' hk))
  · have := n1 i hi
    split at this
    · rename_i j e
      rw [e, Nat.eq_of_beq_eq_true this]
    · cases this
  · have := n3 id (keepA_mem hid (al k b e1))
    intro hc
    rw [← List.contains_iff_mem] at hc
    rw [hc] at this
    cases this
  · exact Nat.blt_eq.mp (n4 k hk).2
  · have := (n4 k hk).1
    rw [hid] at this
    exact Nat.le_of_ble_eq_true this

/-- a function ends, its result a value that names no block; no block was granted -/
theorem ret_ni {v res : AV} {H : Nat → Option ABlk} {n : Nat} (hv : v.ni = true) (h : v = res) : ∃ gs zs bs, Wk 0 ⟨oneE v, H, n⟩ (entry [res] []) gs zs bs := by
  subst h
  refine ⟨[], [], [], fun t => ?_, fun k b' hk => by simp [entry] at hk, fun i hi => by omega, fun i j id b b' h => by simp at h, fun k id b h => by simp at h, fun k h => by simp at h, fun k h => by simp at h, Nat.le_refl _⟩
  match t with
  | 0 => exact .ni _ hv
  | t + 1 => exact .any _

/-- a function ends, its result read from now on; no block was granted -/
theorem ret_bs {v res : AV} {H : Nat → Option ABlk} {n : Nat} (bs : List Nat) (h : ArgR H [] [] bs v res) : ∃ gs zs bs, Wk 0 ⟨oneE v, H, n⟩ (entry [res] []) gs zs bs := by
  refine ⟨[], [], bs, fun t => ?_, fun k b' hk => by simp [entry] at hk, fun i hi => by omega, fun i j id b b' h => by simp at h, fun k id b h => by simp at h, fun k h => by simp at h, fun k h => by simp at h, Nat.le_refl _⟩
  match t with
  | 0 => exact h
  | t + 1 => exact .any _

theorem argE {H : Nat → Option ABlk} {gs zs bs : List Nat} {x y : AV} (h : x = y) (hy : y.ni = true) : ArgR H gs zs bs x y := by
  subst h
  exact .ni _ hy

theorem argP {H : Nat → Option ABlk} {gs zs bs : List Nat} {x : AV} {id j k : Nat} (h : x = .ptr id j) (hk : gs[k]? = some id) : ArgR H gs zs bs x (.ptr k j) := by
  subst h
  exact .ptr id j k hk

theorem argF {H : Nat → Option ABlk} {gs zs bs : List Nat} {x : AV} {f : FuncId} {id j k : Nat} (h : x = .fn f [.ptr id j]) (hk : gs[k]? = some id) : ArgR H gs zs bs x (.fn f [.ptr k j]) := by
  subst h
  refine .fn f _ _ rfl (fun i u u' hu hu' => ?_)
  match i, hu, hu' with
  | 0, hu, hu' => cases hu; cases hu'; exact .ptr id j k hk
  | i + 1, hu, _ => cases hu

/-- a pointer to an owned block that is only read from now on -/
theorem argIB {H : Nat → Option ABlk} {gs zs bs : List Nat} {x : AV} (id : Nat) (c : List AV) (h : x = .ptr id 0) (hm : id ∈ bs) (hH : H id = some (.box c)) (h1 : c.all AV.one = true) (h2 : AV.niL c = true) : ArgR H gs zs bs x (.iptr c) := by
  subst h
  exact .ibox id 0 c hm hH h1 h2

theorem blk_ni {H : Nat → Option ABlk} {gs zs bs : List Nat} {k id : Nat} {c : List AV} (h1 : gs[k]? = some id) (h2 : H id = some (.box c)) (h3 : AV.niL c = true) : BlkA H gs zs bs k (.box c) :=
  ⟨id, c, h1, h2, rfl, fun j u u' hu hu' => by rw [hu] at hu'; cases hu'; exact .ni _ (niL_mem h3 (List.mem_of_getElem? hu))⟩

/-- a row whose elements name no block, under another name -/
theorem blk_row {H : Nat → Option ABlk} {gs zs bs : List Nat} {k id sz : Nat} {xs : List (List AV)} (h1 : gs[k]? = some id) (h2 : H id = some (.row sz xs)) (h3 : ∀ c ∈ xs, AV.niL c = true ∧ c.all AV.one = true) : BlkA H gs zs bs k (.row sz xs) := by
  refine .inl ⟨id, xs, h1, h2, rfl, fun i c c' hc hc' => ?_⟩
  rw [hc] at hc'
  cases hc'
  obtain ⟨q1, q2⟩ := h3 c (List.mem_of_getElem? hc)
  refine ⟨rfl, fun u hu => by rw [List.all_eq_true] at q2; exact q2 u hu, fun j u u' hu hu' => ?_⟩
  rw [hu] at hu'
  cases hu'
  exact .ni _ (niL_mem q1 (List.mem_of_getElem? hu))

def idx : Nat → List ABlk → List (Nat × ABlk)
  | _, [] => []
  | k, b :: l => (k, b) :: idx (k + 1) l

theorem idx_mem : ∀ {l : List ABlk} {k j : Nat} {b : ABlk}, l[j]? = some b → (k + j, b) ∈ idx k l
  | b' :: l, k, 0, b, h => by simp at h; subst h; simp [idx]
  | b' :: l, k, j + 1, b, h => by
    have := idx_mem (k := k + 1) (show l[j]? = some b by simpa using h)
    rw [show k + (j + 1) = k + 1 + j by omega]
    exact List.mem_cons_of_mem _ this

/-- a function ends, its result and the blocks that go to the caller told in new names -/
theorem ret_gz {g : Nat} {v res : AV} {H : Nat → Option ABlk} {n : Nat} {G' : List ABlk} (gs zs bs : List Nat) (hn : namesB g n G'.length (aliveG G') gs zs bs = true) (hv : ArgR H gs zs bs v res) (hb : allE (fun p => BlkD H gs zs bs p.1 p.2) (idx 0 G')) : ∃ gs zs bs, Wk g ⟨oneE v, H, n⟩ (entry [res] G') gs zs bs := by
  unfold namesB at hn
  simp only [Bool.and_eq_true, List.all_eq_true, List.mem_range] at hn
  obtain ⟨⟨⟨⟨n1, n2⟩, n3⟩, n4⟩, n5⟩ := hn
  have al : ∀ (k : Nat) (b : ABlk), (entry [res] G').H k = some b → aliveG G' (0 + k) = true := fun k b e => by
    obtain ⟨e1, e2⟩ := entry_H e
    rw [Nat.zero_add]
    unfold aliveG
    rw [e1]
    cases b with
    | dead => cases e2
    | box c => rfl
    | row sz xs => rfl
    | obj q => rfl
  refine ⟨gs, zs, bs, fun t => ?_, fun k b' hk => ?_, fun i hi => ?_, fun i j id b b' hi hj e1 e2 => keepA_nd n2 i j id hi hj (al i b e1) (al j b' e2), fun k id b hid e1 => ?_, fun k hk => ?_, fun k hk id hid => ?_, Nat.le_of_ble_eq_true n5⟩
  · match t with
    | 0 => exact hv
    | t + 1 => exact .any _
  · obtain ⟨hk', hlv⟩ := entry_H hk
    have h1 := allE_mem hb (k, b') (by have := idx_mem (k := 0) hk'; rwa [Nat.zero_add] at this)
    refine blkA_wk ?_
    cases b' with
    | dead => cases hlv
    | box c => exact h1
    | row sz xs => exact h1
    | obj q => exact h1
  · have := n1 i hi
    split at this
    · rename_i j e
      rw [e, Nat.eq_of_beq_eq_true this]
    · cases this
  · have := n3 id (keepA_mem hid (al k b e1))
    intro hc
    rw [← List.contains_iff_mem] at hc
    rw [hc] at this
    cases this
  · exact Nat.blt_eq.mp (n4 k hk).2
  · have := (n4 k hk).1
    rw [hid] at this
    exact Nat.le_of_ble_eq_true this

theorem ret_gzE {g : Nat} {v res : AV} {H : Nat → Option ABlk} {n : Nat} {G' : List ABlk} (res0 : AV) (G0 : List ABlk) (e1 : res = res0) (e2 : G' = G0) (gs zs bs : List Nat) (hn : namesB g n G0.length (aliveG G0) gs zs bs = true) (hv : ArgR H gs zs bs v res0) (hb : allE (fun p => BlkD H gs zs bs p.1 p.2) (idx 0 G0)) : ∃ gs zs bs, Wk g ⟨oneE v, H, n⟩ (entry [res] G') gs zs bs := by
  subst e1
  subst e2
  exact ret_gz gs zs bs hn hv hb

theorem ret_g {g : Nat} {v res : AV} {H : Nat → Option ABlk} {n : Nat} {G' : List ABlk} (gs bs : List Nat) (hn : namesB g n G'.length (aliveG G') gs [] bs = true) (hv : ArgR H gs [] bs v res) (hb : allE (fun p => BlkD H gs [] bs p.1 p.2) (idx 0 G')) : ∃ gs zs bs, Wk g ⟨oneE v, H, n⟩ (entry [res] G') gs zs bs :=
  ret_gz gs [] bs hn hv hb

/-- a function ends with a row of its own; or with nil -/
theorem ret_row {v : AV} {H : Nat → Option ABlk} {n id sz : Nat} {xs ys : List (List AV)} (hv : v = .osl id) (hH : H id = some (.row sz xs)) (hxy : xs = ys) (hni : ∀ c ∈ xs, AV.niL c = true ∧ c.all AV.one = true) : ∃ gs zs bs, Wk 0 ⟨oneE v, H, n⟩ (entry [.osl 0] [.row sz ys]) gs zs bs := by
  subst hv
  subst hxy
  exact ret_gz [id] [] [] rfl (.oslg id 0 rfl) ⟨blk_row rfl hH hni, trivial⟩

theorem ret_nil {v : AV} {H : Nat → Option ABlk} {n sz : Nat} {ys : List (List AV)} (hv : v = .nils) (hy : ys = []) : ∃ gs zs bs, Wk 0 ⟨oneE v, H, n⟩ (entry [.osl 0] [.row sz ys]) gs zs bs := by
  subst hv
  subst hy
  exact ret_gz [] [0] [] rfl (.nilz 0 (by simp)) ⟨.inr ⟨by simp, rfl⟩, trivial⟩

/-- two rows, element by element -/
def CellsA (H : Nat → Option ABlk) (gs zs bs : List Nat) (c c' : List AV) : Prop := c.length = c'.length ∧ (∀ u ∈ c', u.one = true) ∧ ∀ (j : Nat) (u u' : AV), c[j]? = some u → c'[j]? = some u' → ArgR H gs zs bs u u'
def RowsA (H : Nat → Option ABlk) (gs zs bs : List Nat) (xs xs' : List (List AV)) : Prop := xs.length = xs'.length ∧ ∀ (i : Nat) (c c' : List AV), xs[i]? = some c → xs'[i]? = some c' → CellsA H gs zs bs c c'

theorem RowsA.ni {H : Nat → Option ABlk} {gs zs bs : List Nat} {xs : List (List AV)} (h3 : ∀ c ∈ xs, AV.niL c = true ∧ c.all AV.one = true) : RowsA H gs zs bs xs xs := by
  refine ⟨rfl, fun i c c' hc hc' => ?_⟩
  rw [hc] at hc'
  cases hc'
  obtain ⟨q1, q2⟩ := h3 c (List.mem_of_getElem? hc)
  refine ⟨rfl, fun u hu => by rw [List.all_eq_true] at q2; exact q2 u hu, fun j u u' hu hu' => ?_⟩
  rw [hu] at hu'
  cases hu'
  exact .ni _ (niL_mem q1 (List.mem_of_getElem? hu))

theorem RowsA.nil {H : Nat → Option ABlk} {gs zs bs : List Nat} : RowsA H gs zs bs [] [] := ⟨rfl, fun i c c' h => by simp at h⟩
theorem RowsA.cons {H : Nat → Option ABlk} {gs zs bs : List Nat} {xs xs' : List (List AV)} {c c' : List AV} (hc : CellsA H gs zs bs c c') (h : RowsA H gs zs bs xs xs') : RowsA H gs zs bs (c :: xs) (c' :: xs') := by
  refine ⟨by simp [h.1], fun i d d' hd hd' => ?_⟩
  cases i with
  | zero => cases hd; cases hd'; exact hc
  | succ i => exact h.2 i d d' (by simpa using hd) (by simpa using hd')
theorem RowsA.app {H : Nat → Option ABlk} {gs zs bs : List Nat} {xs xs' : List (List AV)} {c c' : List AV} (h : RowsA H gs zs bs xs xs') (hc : CellsA H gs zs bs c c') : RowsA H gs zs bs (xs ++ [c]) (xs' ++ [c']) := by
  obtain ⟨h1, h2⟩ := h
  refine ⟨by simp [h1], fun i d d' hd hd' => ?_⟩
  by_cases hi : i < xs.length
  · rw [List.getElem?_append_left hi] at hd
    rw [List.getElem?_append_left (by omega)] at hd'
    exact h2 i d d' hd hd'
  · rw [List.getElem?_append_right (by omega)] at hd
    rw [List.getElem?_append_right (by omega)] at hd'
    have e : i - xs.length = 0 := by have := (List.getElem?_eq_some_iff.1 hd).1; simp at this; omega
    rw [e] at hd
    rw [← h1, e] at hd'
    simp at hd hd'
    subst hd
    subst hd'
    exact hc

theorem blk_rows {H : Nat → Option ABlk} {gs zs bs : List Nat} {k id sz : Nat} {xs xs' : List (List AV)} (h1 : gs[k]? = some id) (h2 : H id = some (.row sz xs)) (h : RowsA H gs zs bs xs xs') : BlkA H gs zs bs k (.row sz xs') := .inl ⟨id, xs, h1, h2, h.1, h.2⟩

theorem RowsA.set {H : Nat → Option ABlk} {gs zs bs : List Nat} {xs xs' : List (List AV)} {c c' : List AV} (n : Nat) (h : RowsA H gs zs bs xs xs') (hc : CellsA H gs zs bs c c') : RowsA H gs zs bs (xs.set n c) (xs'.set n c') := by
  obtain ⟨h1, h2⟩ := h
  refine ⟨by simp [h1], fun i d d' hd hd' => ?_⟩
  rw [List.getElem?_set] at hd hd'
  split at hd
  · rename_i e
    rw [if_pos e] at hd'
    split at hd
    · cases hd
      split at hd'
      · cases hd'; exact hc
      · cases hd'
    · cases hd
  · rename_i e
    rw [if_neg e] at hd'
    exact h2 i d d' hd hd'

theorem RowsA.rep {H : Nat → Option ABlk} {gs zs bs : List Nat} {c c' : List AV} (n : Nat) (hc : CellsA H gs zs bs c c') : RowsA H gs zs bs (List.replicate n c) (List.replicate n c') := by
  refine ⟨by simp, fun i d d' hd hd' => ?_⟩
  rw [List.getElem?_replicate] at hd hd'
  split at hd
  · cases hd
    rw [if_pos (by assumption)] at hd'
    cases hd'
    exact hc
  · cases hd

theorem wkS {g : Nat} {σ σ1 σ2 : ASt} {gs zs bs : List Nat} (h : σ2 = σ1) (hw : Wk g σ σ1 gs zs bs) : Wk g σ σ2 gs zs bs := h ▸ hw

theorem blk_rowsE {H : Nat → Option ABlk} {gs zs bs : List Nat} {k id sz : Nat} {xs xs' ys : List (List AV)} (h1 : gs[k]? = some id) (h2 : H id = some (.row sz xs)) (h : RowsA H gs zs bs xs xs') (e : xs' = ys) : BlkA H gs zs bs k (.row sz ys) := by
  subst e
  exact blk_rows h1 h2 h

/-- a struct of two cells -/
theorem agg2 {H : Nat → Option ABlk} {gs zs bs : List Nat} {a b a' b' : AV} (ha : ArgR H gs zs bs a a') (hb : ArgR H gs zs bs b b') : ArgR H gs zs bs (.agg [a, b]) (.agg [a', b']) := by
  refine .agg _ _ rfl (fun j u u' hu hu' => ?_)
  match j, hu, hu' with
  | 0, hu, hu' => cases hu; cases hu'; exact ha
  | 1, hu, hu' => cases hu; cases hu'; exact hb
  | j + 2, hu, _ => simp at hu

/-- a function ends with a struct whose second cell is a row of its own -/
theorem ret_agg2 {v a : AV} {H : Nat → Option ABlk} {n id sz : Nat} {xs ys : List (List AV)} (hv : v = .agg [a, .osl id]) (ha : a.ni = true) (hH : H id = some (.row sz xs)) (hxy : xs = ys) (hni : ∀ c ∈ xs, AV.niL c = true ∧ c.all AV.one = true) : ∃ gs zs bs, Wk 0 ⟨oneE v, H, n⟩ (entry [.agg [a, .osl 0]] [.row sz ys]) gs zs bs := by
  subst hv
  subst hxy
  exact ret_gz [id] [] [] rfl (agg2 (.ni _ ha) (.oslg id 0 rfl)) ⟨blk_row rfl hH hni, trivial⟩

theorem cells1 {H : Nat → Option ABlk} {gs zs bs : List Nat} {u u' : AV} (h : ArgR H gs zs bs u u') (h1 : u'.one = true) : CellsA H gs zs bs [u] [u'] := by
  refine ⟨rfl, fun x hx => by simp at hx; subst hx; exact h1, fun j x x' hx hx' => ?_⟩
  match j, hx, hx' with
  | 0, hx, hx' => simp at hx hx'; subst hx; subst hx'; exact h
  | j + 1, hx, _ => simp at hx

/-- a function ends that was granted one block -/
theorem ret_g1 {v res : AV} {H : Nat → Option ABlk} {n : Nat} {c c' : List AV} (hv : v.ni = true) (hres : v = res) (hH : H 0 = some (.box c)) (hc : c = c') (hni : AV.niL c = true) : ∃ gs zs bs, Wk 1 ⟨oneE v, H, n⟩ (entry [res] [.box c']) gs zs bs := by
  subst hres
  subst hc
  exact ret_g [0] [] rfl (.ni _ hv) ⟨blk_ni (id := 0) rfl hH hni, trivial⟩

/-- a function ends with the address of a new block -/
theorem ret_new {H : Nat → Option ABlk} {n id : Nat} {v : AV} {c c' : List AV} (hv : v = .ptr id 0) (hH : H id = some (.box c)) (hc : c = c') (hni : AV.niL c = true) : ∃ gs zs bs, Wk 0 ⟨oneE v, H, n⟩ (entry [.ptr 0 0] [.box c']) gs zs bs := by
  subst hv
  subst hc
  exact ret_g [id] [] rfl (.ptr id 0 0 rfl) ⟨blk_ni (id := id) rfl hH hni, trivial⟩

/-- a box of two cells -/
theorem box2 {H : Nat → Option ABlk} {gs zs bs : List Nat} {k id : Nat} {a b a' b' : AV} (h1 : gs[k]? = some id) (h2 : H id = some (.box [a, b])) (ha : ArgR H gs zs bs a a') (hb : ArgR H gs zs bs b b') : BlkA H gs zs bs k (.box [a', b']) := by
  refine ⟨id, _, h1, h2, rfl, fun j u u' hu hu' => ?_⟩
  match j, hu, hu' with
  | 0, hu, hu' => cases hu; cases hu'; exact ha
  | 1, hu, hu' => cases hu; cases hu'; exact hb
  | j + 2, hu, _ => simp at hu

theorem zipE {H : Nat → Option ABlk} {gs zs bs : List Nat} {c c' : List AV} (h : allE (fun p => ArgR H gs zs bs p.1 p.2) (c.zip c')) : ∀ (j : Nat) (u u' : AV), c[j]? = some u → c'[j]? = some u' → ArgR H gs zs bs u u' := fun j u u' hu hu' =>
  allE_mem h (u, u') (List.mem_of_getElem? (i := j) (by rw [List.getElem?_zip_eq_some]; exact ⟨hu, hu'⟩))

theorem aggL {H : Nat → Option ABlk} {gs zs bs : List Nat} {c c' : List AV} (hl : c.length = c'.length) (h : allE (fun p => ArgR H gs zs bs p.1 p.2) (c.zip c')) : ArgR H gs zs bs (.agg c) (.agg c') := .agg c c' hl (zipE h)

theorem tupL {H : Nat → Option ABlk} {gs zs bs : List Nat} {c c' : List AV} (hl : c.length = c'.length) (h : allE (fun p => ArgR H gs zs bs p.1 p.2) (c.zip c')) : ArgR H gs zs bs (.tup c) (.tup c') := .tup c c' hl (zipE h)

theorem boxL {H : Nat → Option ABlk} {gs zs bs : List Nat} {k id : Nat} {c c' : List AV} (h1 : gs[k]? = some id) (h2 : H id = some (.box c)) (hl : c.length = c'.length) (h : allE (fun p => ArgR H gs zs bs p.1 p.2) (c.zip c')) : BlkA H gs zs bs k (.box c') := ⟨id, c, h1, h2, hl, zipE h⟩

theorem cellsL {H : Nat → Option ABlk} {gs zs bs : List Nat} {c c' : List AV} (hl : c.length = c'.length) (h1 : c'.all AV.one = true) (h : allE (fun p => ArgR H gs zs bs p.1 p.2) (c.zip c')) : CellsA H gs zs bs c c' := ⟨hl, fun u hu => by rw [List.all_eq_true] at h1; exact h1 u hu, zipE h⟩

/-- a nil slice where a row of its own is told -/
theorem blk_nil {H : Nat → Option ABlk} {gs zs bs : List Nat} {k sz : Nat} {xs : List (List AV)} (h : k ∈ zs) (hx : xs = []) : BlkA H gs zs bs k (.row sz xs) := .inr ⟨h, hx⟩
end Go.Proofs.Ytkajegjghfbgaaa.Ax
