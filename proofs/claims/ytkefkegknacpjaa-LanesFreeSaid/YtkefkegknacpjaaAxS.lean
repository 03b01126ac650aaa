/- Abstract operations: lengths, least and greatest, composite values. Nothing of the dump is used here. -/
import Derived.Test.YtkefkegknacpjaaAxR
namespace Go.Proofs.Ytkefkegknacpjaa.Ax
open Go.RowKit
set_option linter.unusedVariables false
set_option linter.unusedSimpArgs false

theorem gives_len {P : Program} {tab : Tab} (hT : TabOK P tab) {o : Oper} {env : Nat → AV} {H : Nat → Option ABlk} {x : Operand} {t : TypeId} {ti : TI} {n : Nat} {ids : List Nat} (ho : o.op = .call { callee := .builtin .len, args := #[x], argTypes := #[t] }) (ht : tab t = some ti)
    (h : (∃ s, ti.d = .str ∧ ev env x = .str s ∧ n = s.size ∧ ids = []) ∨ (∃ e sz eb ez, ti.d = .slc e sz eb ez ∧ ((∃ sz' xs, ev env x = .lst sz' xs ∧ n = xs.length ∧ ids = []) ∨ (ev env x = .nils ∧ n = 0 ∧ ids = []) ∨ (∃ id sz' xs, ev env x = .osl id ∧ H id = some (.row sz' xs) ∧ n = xs.length ∧ ids = [id]) ∨ (∃ id sz' lo hi mx, ev env x = .sub id sz' lo hi mx ∧ n = hi - lo ∧ ids = []))) ∨ (∃ sz g, ti.d = .arr n sz g ∧ ids = [])) : Gives P o env H (.int .i64 n) ids := by
  intro w F β a hx hK
  have hv := hx x (by simp [ho, Op.operands, Call.operands])
  obtain ⟨ii, dd, z, g1, g2, _, _, _, _, g3⟩ := ty_parts (hT t ti ht)
  refine ⟨goInt n, ?_, .int _ _⟩
  generalize hvx : a.eval x = vx at hv
  have hlen : (Builtin.len_ #[t] o.type #[vx]).run P w = .ok (goInt n) w := by
    rcases h with ⟨s, hd, he, rfl, rfl⟩ | ⟨e, sz, eb, ez, hd, h⟩ | ⟨sz, g, hd, rfl⟩
    · rw [hd] at g3
      have hdd : dd = .string := by
        cases dd <;> simp only [tdOf] at g3 <;> first | rfl | ((repeat' split at g3) <;> cases g3)
      subst hdd
      rw [he] at hv
      cases hv
      simp [Builtin.len_, run_underlying g2]
    · rw [hd] at g3
      obtain ⟨i, zv, rfl, g4, rfl, _, _, _⟩ := td_slc g3.symm
      rcases h with ⟨sz', xs, he, rfl, rfl⟩ | ⟨he, rfl, rfl⟩ | ⟨id, sz', xs, he, hH, rfl, rfl⟩ | ⟨id, sz', lo, hi, mx, he, rfl, rfl⟩ <;> rw [he] at hv
      · cases hv; simp [Builtin.len_, run_underlying g2]
      · cases hv; simp [Builtin.len_, run_underlying g2]
      · obtain ⟨g, e1, k1, _⟩ := hK id (by simp) _ hH
        cases hv with
        | osl _ g' e2 =>
          rw [e1] at e2
          cases e2
          simp [Builtin.len_, run_underlying g2, k1]
      · cases hv; simp [Builtin.len_, run_underlying g2]
    · rw [hd] at g3
      obtain ⟨e, i', d', rfl, _, _, _, _⟩ := td_arr g3.symm
      simp [Builtin.len_, run_underlying g2]
  simp [execOp, ho, resolve, invoke, builtin, hvx, hlen]

theorem gives_min {P : Program} {o : Oper} {env : Nat → AV} {H : Nat → Option ABlk} {x y : Operand} {ts : Array TypeId} {k k' : IntKind} {m n : Int} (ho : o.op = .call { callee := .builtin .min, args := #[x, y], argTypes := ts }) (h1 : ev env x = .int k m) (h2 : ev env y = .int k' n) : Gives P o env H (.int k (if n < m then n else m)) [] := by
  intro w F β a hx _
  have v1 := hx x (by simp [ho, Op.operands, Call.operands])
  have v2 := hx y (by simp [ho, Op.operands, Call.operands])
  rw [h1] at v1
  rw [h2] at v2
  generalize hvx : a.eval x = vx at v1
  generalize hvy : a.eval y = vy at v2
  cases v1
  cases v2
  exact ⟨.int k (if n < m then n else m), by simp [execOp, ho, resolve, invoke, builtin, hvx, hvy, Builtin.min_, Builtin.min2], .int _ _⟩

theorem gives_max {P : Program} {o : Oper} {env : Nat → AV} {H : Nat → Option ABlk} {x y : Operand} {ts : Array TypeId} {k k' : IntKind} {m n : Int} (ho : o.op = .call { callee := .builtin .max, args := #[x, y], argTypes := ts }) (h1 : ev env x = .int k m) (h2 : ev env y = .int k' n) : Gives P o env H (.int k (if m < n then n else m)) [] := by
  intro w F β a hx _
  have v1 := hx x (by simp [ho, Op.operands, Call.operands])
  have v2 := hx y (by simp [ho, Op.operands, Call.operands])
  rw [h1] at v1
  rw [h2] at v2
  generalize hvx : a.eval x = vx at v1
  generalize hvy : a.eval y = vy at v2
  cases v1
  cases v2
  exact ⟨.int k (if m < n then n else m), by simp [execOp, ho, resolve, invoke, builtin, hvx, hvy, Builtin.max_, Builtin.max2], .int _ _⟩

theorem set_list : ∀ (l : List Value) (k off : Nat) (cs : Array Value), ((l.zipIdx k).foldl (fun cs x => cs.setIfInBounds (off + x.2) x.1) cs).size = cs.size ∧
    ∀ p, ((l.zipIdx k).foldl (fun cs x => cs.setIfInBounds (off + x.2) x.1) cs)[p]? = if off + k ≤ p ∧ p < off + k + l.length ∧ p < cs.size then l[p - (off + k)]? else cs[p]?
  | [], k, off, cs => ⟨rfl, fun p => by simp; intro h1 h2; omega⟩
  | v :: l, k, off, cs => by
    obtain ⟨h1, h2⟩ := set_list l (k + 1) off (cs.setIfInBounds (off + k) v)
    simp only [List.zipIdx_cons, List.foldl_cons]
    refine ⟨by rw [h1]; simp, fun p => ?_⟩
    rw [h2]
    simp only [Array.size_setIfInBounds, List.length_cons]
    by_cases hp : p = off + k
    · subst hp
      rw [if_neg (by omega)]
      by_cases hlt : off + k < cs.size
      · rw [if_pos (by omega)]; simp [hlt]
      · rw [if_neg (by omega)]; simp [Array.getElem?_eq_none (Nat.not_lt.1 hlt), hlt]
    · by_cases hc : off + (k + 1) ≤ p ∧ p < off + (k + 1) + l.length ∧ p < cs.size
      · rw [if_pos hc, if_pos (by omega), show p - (off + k) = (p - (off + (k + 1))) + 1 by omega]
        simp
      · rw [if_neg hc, if_neg (by omega), Array.getElem?_setIfInBounds_ne (by omega)]

theorem fill_step (cs : Array Value) (v : Value) (off : Nat) (h : off + v.cells.size ≤ cs.size) : ∃ cs', (v.cells.zipIdx.foldl (fun cs (x : Value × Nat) => cs.setIfInBounds (off + x.2) x.1) cs) = cs' ∧ cs'.size = cs.size ∧ ∀ p, cs'[p]? = if off ≤ p ∧ p < off + v.cells.size then v.cells[p - off]? else cs[p]? := by
  refine ⟨_, rfl, ?_⟩
  rw [← Array.foldl_toList, Array.toList_zipIdx]
  obtain ⟨h1, h2⟩ := set_list v.cells.toList 0 off cs
  refine ⟨h1, fun p => ?_⟩
  rw [h2]
  simp only [Nat.add_zero, Array.length_toList, Array.getElem?_toList]
  by_cases hc : off ≤ p ∧ p < off + v.cells.size
  · rw [if_pos hc, if_pos (by omega)]
  · rw [if_neg hc, if_neg (by omega)]

/-- parts put into places -/
def fillA (place : List (Nat × Nat)) (c : List AV) : List (Nat × AV) → Option (List AV)
  | [] => some c
  | (i, x) :: r => match place[i]? with
    | some (off, size) => match x.okc && Nat.beq x.cells.length size && Nat.ble (off + size) c.length with
      | true => fillA place (spliceA c off x.cells) r
      | false => none
    | none => none

theorem fill_ok {w : World} {F : Nat → Prop} {β : Nat → Option Hdr} {pl : Nat → Option (Nat × Nat)} {place : List (Nat × Nat)} (hp : ∀ i p, place[i]? = some p → pl i = some p) : ∀ (l : List (Nat × AV)) (m : List (Nat × Value)) (c c' : List AV) (cs : Array Value), fillA place c l = some c' → RVs w F β c cs →
    l.length = m.length → (∀ (k : Nat) (i : Nat) (x : AV), l[k]? = some (i, x) → ∃ v, m[k]? = some (i, v) ∧ RV w F β x v) → ∃ cs', Instr.fill pl cs m = some cs' ∧ RVs w F β c' cs'
  | [], [], c, c', cs, h, hr, _, _ => by
    simp only [fillA] at h
    cases h
    exact ⟨cs, rfl, hr⟩
  | (i, x) :: l, [], c, c', cs, h, hr, hlen, _ => by simp at hlen
  | [], q :: m, c, c', cs, h, hr, hlen, _ => by simp at hlen
  | (i, x) :: l, q :: m, c, c', cs, h, hr, hlen, hv => by
    obtain ⟨v, hq, hx⟩ := hv 0 i x rfl
    simp at hq
    subst hq
    simp only [fillA] at h
    split at h
    · rename_i off size hpl
      split at h
      · rename_i hc
        simp only [Bool.and_eq_true] at hc
        obtain ⟨⟨c1, c2⟩, c3⟩ := hc
        have c2 := Nat.eq_of_beq_eq_true c2
        have c3 := Nat.le_of_ble_eq_true c3
        obtain ⟨r1, r2⟩ := hx.cells c1
        obtain ⟨cs2, e1, e2, e3⟩ := fill_step cs v off (by rw [← r1, c2, ← hr.1]; exact c3)
        have hr2 : RVs w F β (spliceA c off x.cells) cs2 := by
          refine ⟨by rw [splice_len (by omega), e2]; exact hr.1, fun j u u' hu hu' => ?_⟩
          unfold spliceA at hu
          rw [splice_at (by omega)] at hu
          rw [e3] at hu'
          split at hu
          · rw [if_neg (by omega)] at hu'
            exact hr.2 j u u' hu hu'
          · split at hu
            · rw [if_pos (by omega)] at hu'
              exact r2 _ u u' hu hu'
            · rw [if_neg (by omega)] at hu'
              exact hr.2 j u u' hu hu'
        obtain ⟨cs', h1, h2⟩ := fill_ok hp l m _ c' cs2 h hr2 (by simpa using hlen) (fun k i' x' hk => hv (k + 1) i' x' (by simpa using hk))
        refine ⟨cs', ?_, h2⟩
        simp only [Instr.fill, hp i _ hpl]
        have hne : ¬ (v.cells.size ≠ size || decide (off + v.cells.size > cs.size)) = true := by
          simp only [Bool.or_eq_true, decide_eq_true_eq, not_or]
          refine ⟨by simp; omega, by rw [← r1, ← hr.1]; omega⟩
        rw [if_neg hne]
        rw [← e1] at h1
        exact h1
      · cases h
    · cases h

def structPlaces (fs : List (Nat × Nat × Bool)) : List (Nat × Nat) := fs.map fun f => (f.1, f.2.1)

theorem places_run {P : Program} {w : World} : ∀ {fs : List Field} {r : List (Nat × Nat × Bool)}, fieldsOf P fs = some r → (fs.mapM (m := Sem) fun f => do pure (f.offset, ← sizeOf f.type)).run P w = .ok (structPlaces r) w
  | [], r, h => by
    simp only [fieldsOf] at h
    cases h
    simp [structPlaces]
  | f :: fs, r, h => by
    simp only [fieldsOf] at h
    split at h
    · rename_i i d r' h1 h2 h3
      cases h
      have ih := places_run (w := w) h3
      simp only [List.mapM_cons, Sem.run_bind, run_sizeOf w h1, Result.andThen_ok, Sem.run_pure, ih, structPlaces, List.map_cons]
    · cases h

theorem parts_of {w : World} {F : Nat → Prop} {β : Nat → Option Hdr} {env : Nat → AV} {a : Act} {parts : Array (Nat × Operand)} (hx : ∀ y ∈ (parts.toList.map (·.2)), RV w F β (ev env y) (a.eval y)) : ∀ (k : Nat) (i : Nat) (x : AV), (parts.toList.map fun p => (p.1, ev env p.2))[k]? = some (i, x) → ∃ v, (parts.map fun p => (p.1, a.eval p.2)).toList[k]? = some (i, v) ∧ RV w F β x v := fun k i x h => by
  rw [List.getElem?_map] at h
  cases hk : parts.toList[k]? with
  | none => rw [hk] at h; cases h
  | some p =>
    rw [hk] at h
    cases h
    refine ⟨a.eval p.2, ?_, hx p.2 (List.mem_map.2 ⟨p, List.mem_of_getElem? hk, rfl⟩)⟩
    simp only [Array.getElem?_toList] at hk ⊢
    simp [hk]

theorem gives_build {P : Program} {tab : Tab} (hT : TabOK P tab) {o : Oper} {env : Nat → AV} {H : Nat → Option ABlk} {t : TypeId} {ti : TI} {fs : List (Nat × Nat × Bool)} {parts : Array (Nat × Operand)} {c : List AV} (ho : o.op = .build t parts) (ht : tab t = some ti) (hd : ti.d = .struct fs)
    (hc : fillA (structPlaces fs) ti.zero (parts.toList.map fun p => (p.1, ev env p.2)) = some c) : Gives P o env H (.agg c) [] := by
  intro w F β a hx _
  obtain ⟨ii, dd, z, g1, g2, g5, _, _, g6, g3⟩ := ty_parts (hT t ti ht)
  rw [hd] at g3
  obtain ⟨ff, rfl, h4⟩ := td_struct g3.symm
  have hz : (zeroValue t).run P w = .ok z w := by simp [zeroValue, run_typeInfo w g1, g5]
  have hpl := places_run (P := P) (w := w) h4
  have hpa : (ff.mapM (m := Sem) fun f => do pure (f.offset, ← sizeOf f.type)).run P w = .ok (structPlaces fs).toArray w := by
    rw [Array.mapM_eq_mapM_toList]
    simp only [Sem.run_map, hpl, Result.andThen_ok]
  obtain ⟨cs', e1, e2⟩ := fill_ok (w := w) (F := F) (β := β) (pl := fun i => (structPlaces fs).toArray[i]?) (place := structPlaces fs) (fun i p h => by simpa using h) _ (parts.map fun p => (p.1, a.eval p.2)).toList _ _ z.cells hc (by rw [g6]; exact zero_rvs _ _ _ _) (by simp)
    (parts_of (fun y hy => hx y (by simp [ho, Op.operands] at hy ⊢; exact hy)))
  refine ⟨.agg cs', ?_, .agg _ _ e2.1 e2.2⟩
  simp only [execOp, ho, Instr.build, Sem.run_bind, hz, Result.andThen_ok, run_underlying g2, hpa, e1, Sem.run_pure]
end Go.Proofs.Ytkefkegknacpjaa.Ax
