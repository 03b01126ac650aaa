/- Abstract operations: one operation in the walk; boxes, rows and stores. Nothing of the dump is used here. -/
import Derived.Test.YtkefkegknacpjaaAxE
namespace Go.Proofs.Ytkefkegknacpjaa.Ax
open Go.RowKit
set_option linter.unusedVariables false
set_option linter.unusedSimpArgs false

/-- what an operation does: its value, the blocks that it writes, those that it reads, the ids used behind it -/
structure Eff where
  v : AV
  wr : List (Nat × Option ABlk)
  rd : List Nat
  n : Nat

def wrH (H : Nat → Option ABlk) : List (Nat × Option ABlk) → Nat → Option ABlk
  | [] => H
  | (i, k) :: r => wrH (setH H i k) r

def ASt.app (σ : ASt) (o : Oper) (e : Eff) : ASt := ⟨putE σ.env o.dst e.v, wrH σ.H e.wr, e.n⟩

/-- what stands for the one stands for the other -/
def Imp (x y : AV) : Prop := ∀ w F β v, RV w F β x v → RV w F β y v

theorem Imp.refl (x : AV) : Imp x x := fun _ _ _ _ h => h
theorem Imp.trans {x y z : AV} (h : Imp x y) (k : Imp y z) : Imp x z := fun w F β v e => k w F β v (h w F β v e)

def OpOK (P : Program) (g : Nat) (o : Oper) (σ : ASt) (e : Eff) : Prop :=
  σ.n ≤ e.n ∧ ∀ (C : Ctx) (I : Nat → Prop) (σ2 : ASt) (a : Act) (w : World) (K : Act → World → Prop) (Q : Exit → Act → World → Prop), C.γ.length = g → (∀ x ∈ o.op.operands, Imp (ev σ2.env x) (ev σ.env x)) →
    (∀ id ∈ e.rd ++ e.wr.map (·.1), σ2.H id = σ.H id) → (∀ id, σ.n ≤ id → id < e.n → ¬ I id) → (∀ d, o.dst = some d → d < C.nt) → Rel C I σ2 a w →
    (∀ a' w', Rel C (fun id => I id ∨ (σ.n ≤ id ∧ id < e.n)) (σ2.app o e) a' w' → K a' w') → o.wp P a w K Q

theorem RelB.ev {C : Ctx} {I : Nat → Prop} {σ : ASt} {a : Act} {w : World} {β : Nat → Option Hdr} {F : Nat → Prop} (h : RelB C I σ a w β F) (x : Operand) : RV w F β (ev σ.env x) (a.eval x) := by
  cases x with
  | tmp t => exact h.env t
  | const v => exact .const w F β v
  | global g => exact (h.glo g).up
  | func f => exact .fn f [] #[] rfl (fun j u v hu => by simp at hu)

theorem RelB.fin {C : Ctx} {I I' : Nat → Prop} {σ σ' : ASt} {a : Act} {w : World} {β : Nat → Option Hdr} {F : Nat → Prop} (h : RelB C I σ a w β F) (h1 : σ'.env = σ.env) (h2 : σ'.H = σ.H) (hI : ∀ i, I i → I' i) : RelB C I' σ' a w β F :=
  { h with env := fun t => by rw [h1]; exact h.env t, live := fun id k e => h.live id k (by rw [← h2]; exact e), inj := fun i1 i2 k1 k2 g1 g2 i e1 e2 => h.inj i1 i2 k1 k2 g1 g2 i (by rw [← h2]; exact e1) (by rw [← h2]; exact e2), dom := fun id g e => hI _ (h.dom id g e) }

theorem ok_gives {P : Program} {g : Nat} {o : Oper} {σ : ASt} {v : AV} {ids : List Nat} (h : Gives P o σ.env σ.H v ids) : OpOK P g o σ ⟨v, [], ids, σ.n⟩ := by
  refine ⟨Nat.le_refl _, fun C I σ2 a w K Q hC hx hH hI hd hR hK => ?_⟩
  obtain ⟨β, F, hR⟩ := hR
  obtain ⟨u, h1, h2⟩ := h w F β a (fun x hm => hx x hm _ _ _ _ (hR.ev x)) (fun id hid k hk => by
    obtain ⟨hh, e1, e2, _⟩ := hR.live id k (by rw [hH id (by simpa using hid)]; exact hk)
    exact ⟨hh, e1, e2⟩)
  unfold Oper.wp
  rw [h1]
  exact hK _ _ ⟨β, F, (hR.put o.dst v u hd h2).fin rfl rfl (fun i hi => Or.inl hi)⟩

/-- a step that makes or changes a block, and gives a value -/
theorem upon_value {P : Program} {o : Oper} {a : Act} {w w' : World} {K : Act → World → Prop} {Q : Exit → Act → World → Prop} {u : Value} (h : (execOp a.eval o).run P w = .ok (.value u) w') (hk : K (a.put o.dst u) w') : o.wp P a w K Q := by
  unfold Oper.wp
  rw [h]
  exact hk

theorem upon_skip {P : Program} {o : Oper} {a : Act} {w w' : World} {K : Act → World → Prop} {Q : Exit → Act → World → Prop} (h : (execOp a.eval o).run P w = .ok .skip w') (hk : K (a.put o.dst undef) w') : o.wp P a w K Q := by
  unfold Oper.wp
  rw [h]
  exact hk

theorem run_newRow' (P : Program) (w : World) (t : TypeId) (cs : Array Value) : (newRow t cs).run P w = .ok ⟨w.heap.size, 0, none⟩ (w.alloc (.cells cs t)) := by
  simp only [newRow, newObj, Sem.run_bind]
  rfl

theorem same_alloc (w : World) (o : Obj) : Same w (w.alloc o) none :=
  ⟨rfl, rfl, rfl, by simp, fun i hi _ => Below.heap_alloc _ _ _ hi⟩

/-- is the value told, cell by cell? -/
def AV.okc : AV → Bool
  | .any | .tup _ | .val _ => false
  | _ => true

theorem RV.cells {w : World} {F : Nat → Prop} {β : Nat → Option Hdr} {x : AV} {v : Value} (h : RV w F β x v) (hx : x.okc = true) : RVs w F β x.cells v.cells := by
  have one : ∀ {x : AV} {v : Value}, RV w F β x v → RVs w F β [x] #[v] := fun {x v} h => ⟨rfl, fun j u u' hu hu' => by
    match j, hu, hu' with
    | 0, hu, hu' => simp at hu hu'; subst hu; subst hu'; exact h
    | j + 1, hu, _ => simp at hu⟩
  have h0 := h
  cases h <;> first
    | exact one h0
    | (rename_i h1 h2; exact ⟨h1, h2⟩)
    | cases hx

theorem one_new {w : World} {F : Nat → Prop} {β : Nat → Option Hdr} (cs : Array Value) (t : TypeId) (c : List AV) (h : RVs (w.alloc (.cells cs t)) F β c cs) : BlkR (w.alloc (.cells cs t)) F β ⟨some w.heap.size, 0, 0⟩ (.box c) :=
  ⟨_, cs, t, rfl, heap_alloc_new _ _, h⟩

theorem RVs.news {C : Ctx} {I : Nat → Prop} {σ : ASt} {a : Act} {w : World} {β : Nat → Option Hdr} {F : Nat → Prop} (hR : RelB C I σ a w β F) {n : Nat} (hn : ¬ I n) (g : Hdr) (o : Obj) {c : List AV} {cs : Array Value} (h : RVs w F β c cs) : RVs (w.alloc o) F (setB β n g) c cs :=
  h.mono (fun _ x => x) (fun b hb => Below.heap_alloc _ _ _ (hR.news b hb).1) (setB_le g (hR.fresh hn))

theorem setB_same (β : Nat → Option Hdr) (n : Nat) (g : Hdr) : setB β n g n = some g := by simp [setB]

theorem one_id {n id : Nat} {I : Nat → Prop} : (I id ∨ id = n) → I id ∨ (n ≤ id ∧ id < n + 1) := fun h => h.imp (fun x => x) (fun e => by omega)

theorem ok_box {P : Program} {g : Nat} {o : Oper} {σ : ASt} {t : TypeId} {x : Operand} (ho : o.op = .box t x) (hx : (ev σ.env x).okc = true) : OpOK P g o σ ⟨.ptr σ.n 0, [(σ.n, some (.box (ev σ.env x).cells))], [], σ.n + 1⟩ := by
  refine ⟨Nat.le_succ _, fun C I σ2 a w K Q hC hxs hH hI hd hR hK => ?_⟩
  obtain ⟨β, F, hR⟩ := hR
  have hn : ¬ I σ.n := hI σ.n (Nat.le_refl _) (Nat.lt_succ_self _)
  have hv := (hxs x (by simp [ho, Op.operands]) _ _ _ _ (hR.ev x)).cells hx
  refine upon_value (u := .pointer (some ⟨w.heap.size, 0, none⟩)) (w' := w.alloc (.cells (a.eval x).cells t)) (by simp [execOp, ho, Instr.box, newVar, run_newRow']) (hK _ _ ?_)
  have h2 := hR.new hn (same_alloc w (.cells (a.eval x).cells t)) ⟨some w.heap.size, 0, 0⟩ (fun i e => by cases e; simp) (.box (ev σ.env x).cells) (one_new _ _ _ (hv.news hR hn _ _))
  exact ⟨_, F, (h2.put o.dst (.ptr σ.n 0) _ hd (.ptr σ.n 0 w.heap.size _ (setB_same _ _ _) rfl)).fin rfl rfl (fun i hi => one_id hi)⟩

theorem zero_rvs (w : World) (F : Nat → Prop) (β : Nat → Option Hdr) (z : Value) : RVs w F β (z.cells.toList.map avc) z.cells := by
  refine ⟨by simp, fun j u v hu hv => ?_⟩
  rw [List.getElem?_map, Array.getElem?_toList, hv] at hu
  cases hu
  exact .const w F β v

theorem ok_alloc {P : Program} {tab : Tab} (hT : TabOK P tab) {g : Nat} {o : Oper} {σ : ASt} {t : TypeId} {ti : TI} (ho : o.op = .alloc t) (ht : tab t = some ti) : OpOK P g o σ ⟨.ptr σ.n 0, [(σ.n, some (.box ti.zero))], [], σ.n + 1⟩ := by
  refine ⟨Nat.le_succ _, fun C I σ2 a w K Q hC hxs hH hI hd hR hK => ?_⟩
  obtain ⟨β, F, hR⟩ := hR
  have hn : ¬ I σ.n := hI σ.n (Nat.le_refl _) (Nat.lt_succ_self _)
  obtain ⟨i, d, z, h1, _, h3, _, _, h4, _⟩ := ty_parts (hT t ti ht)
  have hz : (zeroValue t).run P w = .ok z w := by simp [zeroValue, run_typeInfo w h1, h3]
  refine upon_value (u := .pointer (some ⟨w.heap.size, 0, none⟩)) (w' := w.alloc (.cells z.cells t)) (by simp [execOp, ho, Instr.alloc, hz, newVar, run_newRow']) (hK _ _ ?_)
  rw [h4]
  have h2 := hR.new hn (same_alloc w (.cells z.cells t)) ⟨some w.heap.size, 0, 0⟩ (fun i e => by cases e; simp) (.box (z.cells.toList.map avc)) (one_new _ _ _ (zero_rvs _ _ _ _))
  exact ⟨_, F, (h2.put o.dst (.ptr σ.n 0) _ hd (.ptr σ.n 0 w.heap.size _ (setB_same _ _ _) rfl)).fin rfl rfl (fun i hi => one_id hi)⟩
end Go.Proofs.Ytkefkegknacpjaa.Ax
