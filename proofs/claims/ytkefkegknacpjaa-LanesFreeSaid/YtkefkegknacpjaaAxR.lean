/- Abstract operations: slices of slices and strings, lengths, composite values, struct equality as steps. Nothing of the dump is used here. -/
import Derived.Test.YtkefkegknacpjaaAxQ
namespace Go.Proofs.Ytkefkegknacpjaa.Ax
open Go.RowKit
set_option linter.unusedVariables false
set_option linter.unusedSimpArgs false

theorem gives_eqS {P : Program} {o : Oper} {env : Nat → AV} {H : Nat → Option ABlk} {op : BinOp} {x y : Operand} {t t' : TypeId} {c e : List AV} {r : Bool} {fs : Array Field} {i : TypeInfo} (ho : o.op = .binOp op t x y t') (hop : op = .eql ∨ op = .neq) (hu : P.underlying t = some (.struct fs)) (hi : P.info? t = some i)
    (he : eqTy P 10 t = true) (hg : P.eqGuardType P.depth t = false) (hc : ev env x = .agg c) (hd : ev env y = .agg e) (hl : c.length = i.size) (hk : kindOf P 10 t c = true) (hr : eqCells c e = some r) : Gives P o env H (.bool (if op = .eql then r else !r)) [] := by
  intro w F β a hx _
  have h1 := hx x (by simp [ho, Op.operands])
  have h2 := hx y (by simp [ho, Op.operands])
  rw [hc] at h1
  rw [hd] at h2
  generalize hvx : a.eval x = vx at h1
  generalize hvy : a.eval y = vy at h2
  cases h1 with
  | agg _ xs k1 k2 =>
    cases h2 with
    | agg _ ys k3 k4 =>
      have hs : Shape P t w F β c (.agg xs) := by unfold Shape; rw [hu]; exact ⟨xs, rfl, k1, k2⟩
      have hs' : Shape P t w F β e (.agg ys) := by unfold Shape; rw [hu]; exact ⟨ys, rfl, k3, k4⟩
      have hrun := equal_run 9990 10 t he w w F β c e _ _ r (fun i' hi' => by rw [hi] at hi'; cases hi'; exact hl) hs hs' hk hr
      simp only [Nat.reduceAdd] at hrun
      have hgu := run_eqGuard_agg (P := P) w op t x y xs ys hg
      rcases hop with rfl | rfl
      · refine ⟨.bool r, ?_, .bool _⟩
        simp only [execOp, ho, hvx, hvy, Sem.run_bind, hgu, Result.andThen_ok, run_eql_struct, hrun, Sem.run_pure]
      · refine ⟨.bool (!r), ?_, .bool _⟩
        simp only [execOp, ho, hvx, hvy, Sem.run_bind, hgu, Result.andThen_ok, run_neq_struct, hrun, Sem.run_pure]

/-- two bools are compared -/
theorem gives_eqBool {P : Program} {tab : Tab} (hT : TabOK P tab) {o : Oper} {env : Nat → AV} {H : Nat → Option ABlk} {op : BinOp} {x y : Operand} {t t' : TypeId} {ti : TI} {a b : Bool} (ho : o.op = .binOp op t x y t') (hop : op = .eql ∨ op = .neq) (ht : tab t = some ti) (hd : ti.d = .bool) (hx0 : bval (ev env x) = some a) (hy0 : bval (ev env y) = some b) : Gives P o env H (.bool (if op = .eql then (a == b) else !(a == b))) [] := by
  intro w F β ac hx _
  have h1 := bval_rv hx0 (hx x (by simp [ho, Op.operands]))
  have h2 := bval_rv hy0 (hx y (by simp [ho, Op.operands]))
  obtain ⟨ii, dd, z, g1, g2, _, _, _, _, h3⟩ := ty_parts (hT t ti ht)
  rw [hd] at h3
  have hdd : dd = .bool := by
    cases dd <;> simp only [tdOf] at h3 <;> first | (cases h3; done) | rfl | ((repeat' split at h3) <;> cases h3)
  subst hdd
  have hrun : (Op.equal t (.bool a) (.bool b)).run P w = .ok (a == b) w := run_equalIn_bool w 9999 t a b g2
  rcases hop with rfl | rfl
  · refine ⟨.bool (a == b), ?_, .bool _⟩
    have hgu : (eqGuard .eql t x y (.bool a) (.bool b)).run P w = .ok () w := rfl
    simp only [execOp, ho, h1, h2, Sem.run_bind, hgu, Result.andThen_ok, binOp, hrun, Sem.run_pure]
  · refine ⟨.bool (!(a == b)), ?_, .bool _⟩
    have hgu : (eqGuard .neq t x y (.bool a) (.bool b)).run P w = .ok () w := rfl
    simp only [execOp, ho, h1, h2, Sem.run_bind, hgu, Result.andThen_ok, binOp, hrun, Sem.run_pure]

/-- a bound of a slice expression -/
def BoundA (env : Nat → AV) (x : Option Operand) (d n : Nat) : Prop := match x with
  | none => n = d
  | some x => ∃ k, ev env x = .int k n

theorem bound_run {P : Program} {w : World} {F : Nat → Prop} {β : Nat → Option Hdr} {v : Value} {k : IntKind} {n y : Nat} (h : RV w F β (.int k n) v) (hn : n ≤ y) (code : BoundsCode) : (Instr.sliceBound v y code).run P w = .ok n w := by
  cases h
  simp [Instr.sliceBound, asIntOf]
  omega

/-- part of a string -/
theorem gives_substr {P : Program} {tab : Tab} (hT : TabOK P tab) {o : Oper} {env : Nat → AV} {H : Nat → Option ABlk} {x : Operand} {t : TypeId} {ti : TI} {lo hi : Option Operand} {s : ByteArray} {l h : Nat} (ho : o.op = .slice t x lo hi none) (ht : tab t = some ti) (hd : ti.d = .str)
    (hx0 : ev env x = .str s) (hl : BoundA env lo 0 l) (hh : BoundA env hi s.size h) (h1 : l ≤ h) (h2 : h ≤ s.size) : Gives P o env H (.str (s.extract l h)) [] := by
  intro w F β a hx _
  have hv := hx x (by simp [ho, Op.operands])
  rw [hx0] at hv
  generalize hvx : a.eval x = vx at hv
  obtain ⟨ii, dd, z, g1, g2, _, _, _, _, g3⟩ := ty_parts (hT t ti ht)
  rw [hd] at g3
  have hdd : dd = .string := by
    cases dd <;> simp only [tdOf] at g3 <;> first | rfl | ((repeat' split at g3) <;> cases g3)
  subst hdd
  cases hv
  have hhi : ∀ v, hi = some v → (Instr.sliceBound (a.eval v) s.size .sliceAlen).run P w = .ok h w := fun v e => by
    subst e
    obtain ⟨k, hk⟩ := hh
    exact bound_run (hk ▸ hx v (by simp [ho, Op.operands])) h2 _
  have hlo : ∀ v, lo = some v → (Instr.sliceBound (a.eval v) h .sliceB).run P w = .ok l w := fun v e => by
    subst e
    obtain ⟨k, hk⟩ := hl
    exact bound_run (hk ▸ hx v (by simp [ho, Op.operands])) h1 _
  refine ⟨.string (s.extract l h), ?_, .str _⟩
  cases hi with
  | none =>
    simp only [BoundA] at hh
    subst hh
    cases lo with
    | none =>
      simp only [BoundA] at hl
      subst hl
      simp [execOp, ho, hvx, Instr.sliceAt, Instr.slice, Instr.sliceBounds, run_underlying g2]
    | some v => simp [execOp, ho, hvx, Instr.sliceAt, Instr.slice, Instr.sliceBounds, run_underlying g2, hlo v rfl]
  | some u =>
    cases lo with
    | none =>
      simp only [BoundA] at hl
      subst hl
      simp [execOp, ho, hvx, Instr.sliceAt, Instr.slice, Instr.sliceBounds, run_underlying g2, hhi u rfl]
    | some v => simp [execOp, ho, hvx, Instr.sliceAt, Instr.slice, Instr.sliceBounds, run_underlying g2, hlo v rfl, hhi u rfl]

/-- the run of a slice expression on a slice -/
theorem slice_run {P : Program} {w : World} {F : Nat → Prop} {β : Nat → Option Hdr} {o : Oper} {env : Nat → AV} {a : Act} {x : Operand} {t e : TypeId} {lo hi mx : Option Operand} {i : TypeInfo} (ho : o.op = .slice t x lo hi mx) (hu : P.underlying t = some (.slice e)) (hi0 : P.info? e = some i) {ad : Option Addr} {len cap : Nat} (hvx : a.eval x = .slice ad len cap)
    (hx : ∀ y ∈ o.op.operands, RV w F β (ev env y) (a.eval y)) {l h m : Nat} (hl : BoundA env lo 0 l) (hh : BoundA env hi len h) (hm : BoundA env mx cap m) (h1 : l ≤ h) (h2 : h ≤ m) (h3 : m ≤ cap) (h4 : mx.isSome = true → hi.isSome = true) :
    (execOp a.eval o).run P w = .ok (.value (.slice (if m = l then ad else ad.map (·.add (l * i.size))) (h - l) (m - l))) w := by
  have hmr : ∀ v, mx = some v → (Instr.sliceBound (a.eval v) cap .slice3Acap).run P w = .ok m w := fun v e => by
    subst e
    obtain ⟨k, hk⟩ := hm
    exact bound_run (hk ▸ hx v (by simp [ho, Op.operands])) h3 _
  have hhi : ∀ v code, hi = some v → (Instr.sliceBound (a.eval v) m code).run P w = .ok h w := fun v code e => by
    subst e
    obtain ⟨k, hk⟩ := hh
    exact bound_run (hk ▸ hx v (by simp [ho, Op.operands])) h2 _
  have hlo : ∀ v code, lo = some v → (Instr.sliceBound (a.eval v) h code).run P w = .ok l w := fun v code e => by
    subst e
    obtain ⟨k, hk⟩ := hl
    exact bound_run (hk ▸ hx v (by simp [ho, Op.operands])) h1 _
  cases mx with
  | none =>
    simp only [BoundA] at hm
    subst hm
    cases hi with
    | none =>
      simp only [BoundA] at hh
      subst hh
      cases lo with
      | none =>
        simp only [BoundA] at hl
        subst hl
        simp [execOp, ho, hvx, Instr.sliceAt, Instr.slice, Instr.sliceBounds, run_underlying hu, run_sizeOf w hi0]
      | some v => simp [execOp, ho, hvx, Instr.sliceAt, Instr.slice, Instr.sliceBounds, run_underlying hu, run_sizeOf w hi0, hlo v _ rfl]
    | some u =>
      cases lo with
      | none =>
        simp only [BoundA] at hl
        subst hl
        simp [execOp, ho, hvx, Instr.sliceAt, Instr.slice, Instr.sliceBounds, run_underlying hu, run_sizeOf w hi0, hhi u _ rfl]
      | some v => simp [execOp, ho, hvx, Instr.sliceAt, Instr.slice, Instr.sliceBounds, run_underlying hu, run_sizeOf w hi0, hlo v _ rfl, hhi u _ rfl]
  | some q =>
    cases hi with
    | none => simp at h4
    | some u =>
      cases lo with
      | none =>
        simp only [BoundA] at hl
        subst hl
        simp [execOp, ho, hvx, Instr.sliceAt, Instr.slice, Instr.sliceBounds, run_underlying hu, run_sizeOf w hi0, hmr q rfl, hhi u _ rfl]
      | some v => simp [execOp, ho, hvx, Instr.sliceAt, Instr.slice, Instr.sliceBounds, run_underlying hu, run_sizeOf w hi0, hmr q rfl, hlo v _ rfl, hhi u _ rfl]

/-- part of a slice that is only read -/
theorem gives_sliceL {P : Program} {tab : Tab} (hT : TabOK P tab) {o : Oper} {env : Nat → AV} {H : Nat → Option ABlk} {x : Operand} {t e : TypeId} {ti : TI} {lo hi : Option Operand} {sz eb : Nat} {ez : List AV} {xs : List (List AV)} {l h : Nat} (ho : o.op = .slice t x lo hi none) (ht : tab t = some ti) (hd : ti.d = .slc e sz eb ez)
    (hx0 : ev env x = .lst sz xs ∨ (ev env x = .nils ∧ xs = [])) (hl : BoundA env lo 0 l) (hh : BoundA env hi xs.length h) (h1 : l ≤ h) (h2 : h ≤ xs.length) : Gives P o env H (.lst sz ((xs.drop l).take (h - l))) [] := by
  intro w F β a hx _
  have hv := hx x (by simp [ho, Op.operands])
  obtain ⟨ii, dd, z, g1, g2, _, _, _, _, g3⟩ := ty_parts (hT t ti ht)
  rw [hd] at g3
  obtain ⟨i, zv, rfl, g4, rfl, _, _, _⟩ := td_slc g3.symm
  have hlen : ((xs.drop l).take (h - l)).length = h - l := by simp; omega
  have hv' : RV w F β (.lst i.size xs) (a.eval x) := by
    rcases hx0 with hx0 | ⟨hx0, rfl⟩
    · rw [hx0] at hv; exact hv
    · rw [hx0] at hv
      generalize a.eval x = vx at hv
      cases hv
      exact .lst i.size [] none 0 (fun _ _ => undef) (Nat.le_refl _) (by simp [maxLen]) (fun _ => rfl) (fun ad e => by cases e) (fun k c e => by simp at e) (fun ad k c j u e => by cases e) (fun k c j u e => by simp at e)
  generalize hvx : a.eval x = vx at hv'
  cases hv' with
  | lst _ _ ad cap vs k1 k2 k3 k4 k5 k6 k7 =>
    have hrun := slice_run (P := P) ho g2 g4 hvx hx hl hh (show BoundA env none cap cap from rfl) h1 (by omega) (Nat.le_refl _) (by simp)
    have el : ∀ (k : Nat) (c : List AV), ((xs.drop l).take (h - l))[k]? = some c → k < h - l ∧ xs[l + k]? = some c := fun k c hk => by
      rw [List.getElem?_take, List.getElem?_drop] at hk
      split at hk
      · exact ⟨‹_›, hk⟩
      · cases hk
    refine ⟨_, hrun, ?_⟩
    by_cases hcl : cap = l
    · have h0 : h - l = 0 := by omega
      rw [if_pos hcl, h0]
      have hnil : (xs.drop l).take 0 = [] := by simp
      refine .lstN i.size _ ad 0 _ (fun _ _ => undef) (by simp) (Nat.zero_le _) (by omega) (fun e => by have := k3 e; omega) (fun _ _ h => by omega) (fun k c e => by rw [hnil] at e; simp at e) (fun ad k c j u _ e => by rw [hnil] at e; simp at e) (fun k c j u e => by rw [hnil] at e; simp at e)
    · rw [if_neg hcl]
      cases ad with
      | none => have := k3 rfl; omega
      | some ad =>
        obtain ⟨b, off, sp⟩ := ad
        refine .lstN i.size _ _ _ _ (fun k j => vs (l + k) j) hlen (by omega) (by omega) (fun e => by cases e) (fun ad e h0 => ?_) (fun k c e => k5 _ c (el k c e).2) (fun ad k c j u e hk hj => ?_) (fun k c j u hk hj => k7 _ c j u (el k c hk).2 hj)
        · simp only [Option.map_some, Option.some.injEq] at e
          obtain ⟨q1, q2⟩ := k4 _ rfl (by omega)
          simp only at q1 q2
          rw [add_none q1] at e
          subst e
          exact ⟨rfl, q2⟩
        · simp only [Option.map_some, Option.some.injEq] at e
          obtain ⟨hkn, hk'⟩ := el k c hk
          obtain ⟨q1, q2⟩ := k4 _ rfl (by omega)
          simp only at q1 q2
          rw [add_none q1] at e
          subst e
          have := k6 _ _ c j u rfl hk' hj
          simp only at this ⊢
          rw [show off + l * i.size + k * i.size + j = off + (l + k) * i.size + j by rw [Nat.add_mul]; omega]
          exact this

/-- part of a slice that the call owns -/
theorem gives_sliceO {P : Program} {tab : Tab} (hT : TabOK P tab) {o : Oper} {env : Nat → AV} {H : Nat → Option ABlk} {x : Operand} {t e : TypeId} {ti : TI} {lo hi mx : Option Operand} {sz eb id : Nat} {ez : List AV} {xs : List (List AV)} {l h m : Nat} (ho : o.op = .slice t x lo hi mx) (ht : tab t = some ti) (hd : ti.d = .slc e sz eb ez)
    (hx0 : ev env x = .osl id) (hH : H id = some (.row sz xs)) (hl : BoundA env lo 0 l) (hh : BoundA env hi xs.length h) (hm : ∀ q, mx = some q → ∃ k, ev env q = .int k m) (h1 : l ≤ h) (h2 : h ≤ xs.length) (h3 : mx.isSome = true → h ≤ m ∧ m ≤ xs.length) (h4 : mx.isSome = true → hi.isSome = true) :
    Gives P o env H (.sub id sz l h (mx.map fun _ => m)) [id] := by
  intro w F β a hx hK
  have hv := hx x (by simp [ho, Op.operands])
  rw [hx0] at hv
  obtain ⟨ii, dd, z, g1, g2, _, _, _, _, g3⟩ := ty_parts (hT t ti ht)
  rw [hd] at g3
  obtain ⟨i, zv, rfl, g4, rfl, _, _, _⟩ := td_slc g3.symm
  obtain ⟨g, e1, k1, k2, k3, k4, k5, k6⟩ := hK id (by simp) _ hH
  generalize hvx : a.eval x = vx at hv
  cases hv with
  | osl _ g' e2 =>
    rw [e1] at e2
    cases e2
    have hh' : BoundA env hi g.len h := by
      cases hi with
      | none => simp only [BoundA] at hh ⊢; omega
      | some v => exact hh
    obtain ⟨m', hm', hmc, hle1, hle2⟩ : ∃ m', BoundA env mx g.cap m' ∧ m' = (mx.map fun _ => m).getD g.cap ∧ h ≤ m' ∧ m' ≤ g.cap := by
      cases mx with
      | none => exact ⟨g.cap, rfl, rfl, by omega, Nat.le_refl _⟩
      | some q =>
        obtain ⟨q1, q2⟩ := h3 rfl
        exact ⟨m, hm q rfl, rfl, q1, by omega⟩
    have hrun := slice_run (P := P) ho g2 g4 hvx hx hl hh' hm' h1 hle1 hle2 h4
    refine ⟨_, hrun, ?_⟩
    have := RV.sub (w := w) (F := F) (β := β) id i.size l h (mx.map fun _ => m) g e1
    rw [← hmc] at this
    have ead : (if m' = l then ownBase g.blk 0 else Option.map (fun x => Addr.add x (l * i.size)) (ownBase g.blk 0)) = ownBase g.blk (if m' = l then 0 else l * i.size) := by
      split
      · rfl
      · unfold ownBase
        cases g.blk with
        | none => rfl
        | some b => simp [Addr.add_lit]
    rw [ead]
    exact this
end Go.Proofs.Ytkefkegknacpjaa.Ax
