/- Abstract operations: numbers, comparisons, addresses, slices. Nothing of the dump is used here. -/
import Derived.Test.YtkefkegknacpjaaAxB
namespace Go.Proofs.Ytkefkegknacpjaa.Ax
open Go.RowKit
set_option linter.unusedVariables false
set_option linter.unusedSimpArgs false

theorem gives_not {P : Program} {o : Oper} {env : Nat → AV} {H : Nat → Option ABlk} {x : Operand} {t : TypeId} {v : AV} (ho : o.op = .unOp .not t x)
    (h : (ev env x = .tru ∧ v = .fls) ∨ (ev env x = .fls ∧ v = .tru) ∨ ∃ b, ev env x = .bool b ∧ v = .bool (!b)) : Gives P o env H v [] := by
  intro w F β a hx _
  have hc := hx x (by simp [ho, Op.operands])
  rcases h with ⟨h, rfl⟩ | ⟨h, rfl⟩ | ⟨b, h, rfl⟩ <;> rw [h] at hc <;> generalize hv : a.eval x = vx at hc <;> cases hc
  · exact ⟨.bool false, by simp [execOp, ho, hv, Op.unary], .fls⟩
  · exact ⟨.bool true, by simp [execOp, ho, hv, Op.unary], .tru⟩
  · exact ⟨.bool (!b), by simp [execOp, ho, hv, Op.unary], .bool _⟩

theorem gives_neg {P : Program} {o : Oper} {env : Nat → AV} {H : Nat → Option ABlk} {x : Operand} {t : TypeId} {k : IntKind} {n : Int} (ho : o.op = .unOp .neg t x) (h : ev env x = .int k n) : Gives P o env H (.int k (k.wrap (0 - n))) [] := by
  intro w F β a hx _
  have hc := hx x (by simp [ho, Op.operands])
  rw [h] at hc
  generalize hv : a.eval x = vx at hc
  cases hc
  exact ⟨.int k (k.wrap (0 - n)), by simp [execOp, ho, hv, Op.unary, Op.intArith], .int _ _⟩

/-- an operation on two numbers of one kind -/
def arithA (op : BinOp) (k : IntKind) (a b : Int) (K : AV → Prop) : Prop := match op with
  | .add => ∃ z, k.wrap (a + b) = z ∧ K (.int k z)
  | .sub => ∃ z, k.wrap (a - b) = z ∧ K (.int k z)
  | .mul => ∃ z, k.wrap (a * b) = z ∧ K (.int k z)
  | .quo => b ≠ 0 ∧ ∃ z, k.wrap (a.tdiv b) = z ∧ K (.int k z)
  | .rem => b ≠ 0 ∧ ∃ z, a.tmod b = z ∧ K (.int k z)
  | .and | .or | .xor | .andNot => ∃ z, (Op.intBits op k a b : Sem Value) = Sem.pure (.int k z) ∧ K (.int k z)
  | .eql => K (.bool (a == b))
  | .neq => K (.bool (a != b))
  | .lss => K (.bool (decide (a < b)))
  | .leq => K (.bool (decide (a ≤ b)))
  | .gtr => K (.bool (decide (b < a)))
  | .geq => K (.bool (decide (b ≤ a)))
  | _ => False

theorem arith_ok {P : Program} {op : BinOp} {k : IntKind} {a b : Int} {K : AV → Prop} (h : arithA op k a b K) (t : TypeId) (w : World) : ∃ v u, K v ∧ (binOp op t (.int k a) (.int k b)).run P w = .ok u w ∧ ∀ F β, RV w F β v u := by
  cases op <;> simp only [arithA] at h
  case add => obtain ⟨z, rfl, hk⟩ := h; exact ⟨_, .int k (k.wrap (a + b)), hk, by simp [binOp, Op.intArith], fun _ _ => .int _ _⟩
  case sub => obtain ⟨z, rfl, hk⟩ := h; exact ⟨_, .int k (k.wrap (a - b)), hk, by simp [binOp, Op.intArith], fun _ _ => .int _ _⟩
  case mul => obtain ⟨z, rfl, hk⟩ := h; exact ⟨_, .int k (k.wrap (a * b)), hk, by simp [binOp, Op.intArith], fun _ _ => .int _ _⟩
  case quo => obtain ⟨hb, z, rfl, hk⟩ := h; exact ⟨_, .int k (k.wrap (a.tdiv b)), hk, by simp [binOp, Op.intDiv, hb], fun _ _ => .int _ _⟩
  case rem => obtain ⟨hb, z, rfl, hk⟩ := h; exact ⟨_, .int k (a.tmod b), hk, by simp [binOp, Op.intDiv, hb], fun _ _ => .int _ _⟩
  case eql => exact ⟨_, .bool (a == b), h, by simp [binOp, Op.intCmp], fun _ _ => .bool _⟩
  case neq => exact ⟨_, .bool (a != b), h, by simp [binOp, Op.intCmp], fun _ _ => .bool _⟩
  case lss => exact ⟨_, .bool (decide (a < b)), h, by simp [binOp, Op.intCmp], fun _ _ => .bool _⟩
  case leq => exact ⟨_, .bool (decide (a ≤ b)), h, by simp [binOp, Op.intCmp], fun _ _ => .bool _⟩
  case gtr => exact ⟨_, .bool (decide (b < a)), h, by simp [binOp, Op.intCmp], fun _ _ => .bool _⟩
  case geq => exact ⟨_, .bool (decide (b ≤ a)), h, by simp [binOp, Op.intCmp], fun _ _ => .bool _⟩
  case and => obtain ⟨z, hz, hk⟩ := h; exact ⟨_, .int k z, hk, by simp [binOp, hz], fun _ _ => .int _ _⟩
  case or => obtain ⟨z, hz, hk⟩ := h; exact ⟨_, .int k z, hk, by simp [binOp, hz], fun _ _ => .int _ _⟩
  case xor => obtain ⟨z, hz, hk⟩ := h; exact ⟨_, .int k z, hk, by simp [binOp, hz], fun _ _ => .int _ _⟩
  case andNot => obtain ⟨z, hz, hk⟩ := h; exact ⟨_, .int k z, hk, by simp [binOp, hz], fun _ _ => .int _ _⟩
  all_goals exact h.elim

/-- a shift by a number; eql and others on two numbers; two strings; two bools -/
def kIx : IntKind → Nat
  | .i8 => 0
  | .i16 => 1
  | .i32 => 2
  | .i64 => 3
  | .u8 => 4
  | .u16 => 5
  | .u32 => 6
  | .u64 => 7

theorem kIx_inj {k k' : IntKind} (h : Nat.beq (kIx k) (kIx k') = true) : k = k' := by
  have := Nat.eq_of_beq_eq_true h
  cases k <;> cases k' <;> first | rfl | (simp [kIx] at this)

def bval : AV → Option Bool
  | .tru => some true
  | .fls => some false
  | .bool b => some b
  | _ => none

def binA (op : BinOp) (x y : AV) (K : AV → Prop) : Prop := match op, x, y with
  | .shl, .int k a, .int yk b => ∃ z, (Op.shift .shl k a yk b : Sem Value) = Sem.pure (.int k z) ∧ K (.int k z)
  | .shr, .int k a, .int yk b => ∃ z, (Op.shift .shr k a yk b : Sem Value) = Sem.pure (.int k z) ∧ K (.int k z)
  | op, .int k a, .int k' b => match Nat.beq (kIx k) (kIx k') with
    | true => arithA op k a b K
    | false => False
  | .add, .str a, .str b => (((a.size + b.size : Nat) : Int) ≤ IntKind.i64.max) ∧ K (.str (a ++ b))
  | .eql, .str a, .str b => K (.bool (a.toList == b.toList))
  | .neq, .str a, .str b => K (.bool (!(a.toList == b.toList)))
  | .lss, .str a, .str b => K (.bool (Op.bytesLess a.toList b.toList))
  | .gtr, .str a, .str b => K (.bool (!(Op.bytesLess a.toList b.toList || a.toList == b.toList)))
  | .leq, .str a, .str b => K (.bool (Op.bytesLess a.toList b.toList || a.toList == b.toList))
  | .geq, .str a, .str b => K (.bool (!(Op.bytesLess a.toList b.toList)))
  | _, _, _ => False

theorem bval_rv {x : AV} {b : Bool} (h : bval x = some b) {w : World} {F : Nat → Prop} {β : Nat → Option Hdr} {u : Value} (hu : RV w F β x u) : u = .bool b := by
  cases hu <;> simp only [bval, Option.some.injEq, reduceCtorEq] at h <;> rw [← h]

theorem bin_ok {P : Program} {op : BinOp} {x y : AV} {K : AV → Prop} (h : binA op x y K) (t : TypeId) (w : World) (F : Nat → Prop) (β : Nat → Option Hdr) {u v : Value} (hu : RV w F β x u) (hv : RV w F β y v) :
    ∃ r z, K r ∧ (binOp op t u v).run P w = .ok z w ∧ (∀ F β, RV w F β r z) ∧ (∀ c, u ≠ .agg c) ∧ u ≠ .nilIface := by
  unfold binA at h
  split at h
  · cases hu; cases hv
    obtain ⟨z, hz, hk⟩ := h
    exact ⟨_, .int _ z, hk, by simp only [binOp, hz]; simp, fun _ _ => .int _ _, by simp, by simp⟩
  · cases hu; cases hv
    obtain ⟨z, hz, hk⟩ := h
    exact ⟨_, .int _ z, hk, by simp only [binOp, hz]; simp, fun _ _ => .int _ _, by simp, by simp⟩
  · cases hu; cases hv
    split at h
    · rename_i e
      obtain rfl := kIx_inj e
      obtain ⟨r, z, h1, h2, h3⟩ := arith_ok (P := P) h t w
      exact ⟨r, z, h1, h2, h3, by simp, by simp⟩
    · exact h.elim
  · cases hu; cases hv
    rename_i a b
    have hlt : ¬ (IntKind.i64.max < ((a.size + b.size : Nat) : Int)) := by have := h.1; omega
    exact ⟨_, .string (a ++ b), h.2, by simp only [binOp, Op.stringOp, hlt]; simp, fun _ _ => .str _, by simp, by simp⟩
  · cases hu; cases hv; rename_i a b; exact ⟨_, .bool (a.toList == b.toList), h, by simp [binOp, Op.stringOp], fun _ _ => .bool _, by simp, by simp⟩
  · cases hu; cases hv; rename_i a b; exact ⟨_, .bool (!(a.toList == b.toList)), h, by simp [binOp, Op.stringOp], fun _ _ => .bool _, by simp, by simp⟩
  · cases hu; cases hv; rename_i a b; exact ⟨_, .bool (Op.bytesLess a.toList b.toList), h, by simp [binOp, Op.stringOp], fun _ _ => .bool _, by simp, by simp⟩
  · cases hu; cases hv; rename_i a b; exact ⟨_, .bool (!(Op.bytesLess a.toList b.toList || a.toList == b.toList)), h, by simp only [binOp, Op.stringOp]; simp, fun _ _ => .bool _, by simp, by simp⟩
  · cases hu; cases hv; rename_i a b; exact ⟨_, .bool (Op.bytesLess a.toList b.toList || a.toList == b.toList), h, by simp only [binOp, Op.stringOp]; simp, fun _ _ => .bool _, by simp, by simp⟩
  · cases hu; cases hv; rename_i a b; exact ⟨_, .bool (!(Op.bytesLess a.toList b.toList)), h, by simp only [binOp, Op.stringOp]; simp, fun _ _ => .bool _, by simp, by simp⟩
  · exact h.elim

theorem arith_pick {op : BinOp} {k : IntKind} {a b : Int} {K : AV → Prop} (h : arithA op k a b K) : ∃ v, K v ∧ arithA op k a b (fun r => r = v) := by
  cases op <;> simp only [arithA] at h ⊢ <;> first
    | exact h.elim
    | (obtain ⟨z, hz, hk⟩ := h; exact ⟨_, hk, z, hz, rfl⟩)
    | (obtain ⟨hb, z, hz, hk⟩ := h; exact ⟨_, hk, hb, z, hz, rfl⟩)
    | exact ⟨_, h, rfl⟩

theorem gives_bin {P : Program} {o : Oper} {env : Nat → AV} {H : Nat → Option ABlk} {op : BinOp} {x y : Operand} {t t' : TypeId} {K : AV → Prop} (ho : o.op = .binOp op t x y t') (h : binA op (ev env x) (ev env y) K) : ∃ v, K v ∧ Gives P o env H v [] := by
  obtain ⟨v, hv⟩ : ∃ v, K v ∧ binA op (ev env x) (ev env y) (fun r => r = v) := by
    unfold binA at h ⊢
    split at h
    · obtain ⟨z, hz, hk⟩ := h; exact ⟨_, hk, z, hz, rfl⟩
    · obtain ⟨z, hz, hk⟩ := h; exact ⟨_, hk, z, hz, rfl⟩
    · split at h
      · obtain ⟨v, h1, h2⟩ := arith_pick h
        exact ⟨v, h1, h2⟩
      · exact h.elim
    · exact ⟨_, h.2, h.1, rfl⟩
    all_goals first
      | exact ⟨_, h, rfl⟩
      | exact h.elim
  refine ⟨v, hv.1, fun w F β a hx _ => ?_⟩
  have h1 := hx x (by simp [ho, Op.operands])
  have h2 := hx y (by simp [ho, Op.operands])
  obtain ⟨r, z, rfl, hr, hz, h3, h4⟩ := bin_ok (P := P) hv.2 t w F β h1 h2
  refine ⟨z, ?_, hz F β⟩
  have hg : (eqGuard op t x y (a.eval x) (a.eval y)).run P w = .ok () w := by
    generalize a.eval x = u at h3 h4
    generalize a.eval y = v
    cases op <;> simp only [eqGuard, Bool.not_true, Bool.not_false, if_true, Bool.false_eq_true, if_false] <;> first
      | rfl
      | (cases u <;> first
          | rfl
          | exact absurd rfl h4
          | exact absurd rfl (h3 _))
  simp [execOp, ho, hg, hr]

/-- the address of a field -/
theorem gives_fieldAddr {P : Program} {tab : Tab} (hT : TabOK P tab) {o : Oper} {env : Nat → AV} {H : Nat → Option ABlk} {x : Operand} {t : TypeId} {i : Nat} {ti : TI} {fs : List (Nat × Nat × Bool)} {off n : Nat} {g : Bool} {v : AV}
    (ho : o.op = .fieldAddr t x i) (ht : tab t = some ti) (hd : ti.d = .struct fs) (hf : fs[i]? = some (off, n + 1, g))
    (hv : (∃ id j, ev env x = .ptr id j ∧ v = .ptr id (j + off)) ∨ (∃ id sz k j, ev env x = .eptr id sz k j ∧ v = .eptr id sz k (j + off)) ∨ (∃ c, ev env x = .iptr c ∧ v = .iptr (c.drop off))) : Gives P o env H v [] := by
  intro w F β a hx _
  have hcx := hx x (by simp [ho, Op.operands])
  obtain ⟨ii, dd, z, h1, h2, _, _, _, _, h3⟩ := ty_parts (hT t ti ht)
  rw [hd] at h3
  obtain ⟨ff, rfl, h4⟩ := td_struct h3.symm
  obtain ⟨f, i', d', g1, rfl, g2, g2', g3, rfl⟩ := (fields_at h4).2 i off (n + 1) g hf
  have g1' : ff[i]? = some f := by simpa using g1
  have hex : ∀ b o', a.eval x = .pointer (some ⟨b, o', none⟩) → (execOp a.eval o).run P w = .ok (.value (.pointer (some ⟨b, o' + f.offset, none⟩))) w := fun b o' e => by
    have : (⟨b, o', none⟩ : Addr).add f.offset = ⟨b, o' + f.offset, none⟩ := Addr.add_lit _ _ _
    simp [execOp, ho, e, Instr.fieldAt, run_underlying h2, g1', Instr.sureAddr, fieldPlace, run_sizeOf w g2, g2', this]
  rcases hv with ⟨id, j, he, rfl⟩ | ⟨id, sz, k, j, he, rfl⟩ | ⟨c, he, rfl⟩ <;> rw [he] at hcx <;> generalize hvx : a.eval x = vx at hcx
  · cases hcx with
    | ptr _ _ b hh e1 e2 => exact ⟨_, hex b j hvx, .ptr id _ b hh e1 e2⟩
  · cases hcx with
    | eptr _ _ _ _ b hh e1 e2 =>
      refine ⟨_, hex b _ hvx, ?_⟩
      rw [Nat.add_assoc]
      exact .eptr id sz k _ b hh e1 e2
  · cases hcx with
    | iptr _ b o' vs e1 e2 e3 e4 =>
      refine ⟨_, hex b _ hvx, .iptr _ b _ (fun j => vs (f.offset + j)) e1 (fun j u hu => ?_) (fun j u hu => ?_) (fun j u hu => ?_)⟩ <;> rw [List.getElem?_drop] at hu
      · rw [Nat.add_assoc]; exact e2 _ u hu
      · exact e3 _ u hu
      · exact e4 _ u hu

theorem gives_nilCheck {P : Program} {o : Oper} {env : Nat → AV} {H : Nat → Option ABlk} {x : Operand} (ho : o.op = .nilCheck x)
    (hv : (∃ id j, ev env x = .ptr id j) ∨ (∃ id sz k j, ev env x = .eptr id sz k j) ∨ (∃ c, ev env x = .iptr c)) : Gives P o env H (ev env x) [] := by
  intro w F β a hx _
  have hcx := hx x (by simp [ho, Op.operands])
  refine ⟨a.eval x, ?_, hcx⟩
  rcases hv with ⟨id, j, he⟩ | ⟨id, sz, k, j, he⟩ | ⟨c, he⟩ <;> rw [he] at hcx <;> generalize hvx : a.eval x = vx at hcx <;> cases hcx <;> simp [execOp, ho, hvx]

theorem gives_makeFunc {P : Program} {o : Oper} {env : Nat → AV} {H : Nat → Option ABlk} {f : FuncId} {cap : Array Operand} (ho : o.op = .makeFunc (.func f) #[] cap) : Gives P o env H (.fn f (cap.toList.map (ev env))) [] := by
  intro w F β a hx _
  refine ⟨.func (.func f) #[] (cap.map a.eval), by simp [execOp, ho, Instr.makeFunc], .fn f _ _ (by simp) fun j u v hu hv => ?_⟩
  rw [List.getElem?_map, Array.getElem?_toList] at hu
  rw [Array.getElem?_map] at hv
  cases hc : cap[j]? with
  | none => rw [hc] at hu; cases hu
  | some y =>
    rw [hc] at hu hv
    cases hu; cases hv
    exact hx y (by simp [ho, Op.operands]; exact Array.mem_of_getElem? hc)

theorem gives_convInt {P : Program} {tab : Tab} (hT : TabOK P tab) {o : Oper} {env : Nat → AV} {H : Nat → Option ABlk} {x : Operand} {s t : TypeId} {ti tj : TI} {k k' : IntKind} {n : Int} (ho : o.op = .convert s t x) (hs : tab s = some tj) (ht : tab t = some ti)
    (hd : ti.d = .int k) (hx0 : ev env x = .int k' n) : Gives P o env H (.int k (k.wrap n)) [] := by
  intro w F β a hx _
  have hcx := hx x (by simp [ho, Op.operands])
  rw [hx0] at hcx
  generalize hvx : a.eval x = vx at hcx
  obtain ⟨ii, dd, z, h1, h2, _, _, _, _, h3⟩ := ty_parts (hT t ti ht)
  obtain ⟨ij, dj, zj, j1, j2, _⟩ := ty_parts (hT s tj hs)
  rw [hd] at h3
  have hdd : dd = .int k := by
    cases dd <;> simp only [tdOf] at h3 <;> first | (cases h3; rfl) | ((repeat' split at h3) <;> cases h3)
  subst hdd
  cases hcx
  exact ⟨.int k (k.wrap n), by simp [execOp, ho, hvx, convert, run_underlying j2, run_underlying h2, Conv.intToInt], .int _ _⟩
end Go.Proofs.Ytkefkegknacpjaa.Ax
