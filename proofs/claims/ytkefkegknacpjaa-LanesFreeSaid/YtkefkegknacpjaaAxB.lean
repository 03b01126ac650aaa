/- Abstract operations: what is known of types; the operations that leave the world as it is. Nothing of the dump is used here. -/
import Derived.Test.YtkefkegknacpjaaAxA
namespace Go.Proofs.Ytkefkegknacpjaa.Ax
open Go.RowKit
set_option linter.unusedVariables false
set_option linter.unusedSimpArgs false

/-- what a type is, as far as the abstract operations ask -/
inductive TD where
  | struct (fs : List (Nat × Nat × Bool))
  | arr (n esz : Nat) (agg : Bool)
  | slc (e : TypeId) (esz ebytes : Nat) (ezero : List AV)
  | int (k : IntKind)
  | str
  | bool
  | other

/-- kinds of cells that can be compared -/
inductive CK where
  | int
  | str
  | bool

structure TI where
  agg : Bool
  size : Nat
  zero : List AV
  d : TD
  eqk : Option (List CK)

def tileB (P : Program) (rec : TypeId → Bool) : List Field → Nat → Nat → Bool
  | [], off, n => off == n
  | f :: fs, off, n => match P.info? f.type with
    | some i => f.name != "_" && f.offset == off && rec f.type && tileB P rec fs (off + i.size) n
    | none => false

def eqTy (P : Program) : Nat → TypeId → Bool
  | 0, _ => false
  | d + 1, t => match P.underlying t, P.info? t with
    | some (.int _), some i => i.size == 1
    | some .string, some i => i.size == 1
    | some .bool, some i => i.size == 1
    | some (.struct fs), some i => !P.stoodInHeld t && tileB P (eqTy P d) fs.toList 0 i.size
    | _, _ => false

def kindsF (P : Program) (rec : TypeId → Option (List CK)) : List Field → Option (List CK)
  | [] => some []
  | f :: fs => match P.info? f.type, rec f.type, kindsF P rec fs with
    | some i, some k, some r => if k.length = i.size then some (k ++ r) else none
    | _, _, _ => none

def eqKinds (P : Program) : Nat → TypeId → Option (List CK)
  | 0, _ => none
  | d + 1, t => match P.underlying t with
    | some (.int _) => some [.int]
    | some .string => some [.str]
    | some .bool => some [.bool]
    | some (.struct fs) => kindsF P (eqKinds P d) fs.toList
    | _ => none

def eqkOf (P : Program) (t : TypeId) : Option (List CK) := match P.underlying t with
  | some (.struct _) => if eqTy P 10 t && !P.eqGuardType P.depth t then eqKinds P 10 t else none
  | _ => none

def aggD : TypeDesc → Bool
  | .struct _ | .array _ _ => true
  | _ => false

def fieldsOf (P : Program) : List Field → Option (List (Nat × Nat × Bool))
  | [] => some []
  | f :: fs => match P.info? f.type, P.underlying f.type, fieldsOf P fs with
    | some i, some d, some r => some ((f.offset, i.size, aggD d) :: r)
    | _, _, _ => none

def tdOf (P : Program) : TypeDesc → TD
  | .struct fs => match fieldsOf P fs.toList with
    | some r => .struct r
    | none => .other
  | .array n e => match P.info? e, P.underlying e with
    | some i, some d => .arr n i.size (aggD d)
    | _, _ => .other
  | .slice e => match P.info? e with
    | some i => match i.zero with
      | some z => .slc e i.size i.bytes (z.cells.toList.map avc)
      | none => .other
    | none => .other
  | .int k => .int k
  | .string => .str
  | .bool => .bool
  | _ => .other

def tyInfo (P : Program) (t : TypeId) : Option TI := match P.info? t, P.underlying t with
  | some i, some d => match i.zero with
    | some z => some ⟨aggD d, i.size, z.cells.toList.map avc, tdOf P d, eqkOf P t⟩
    | none => none
  | _, _ => none

abbrev Tab := TypeId → Option TI
def TabOK (P : Program) (tab : Tab) : Prop := ∀ t ti, tab t = some ti → tyInfo P t = some ti

theorem ty_parts {P : Program} {t : TypeId} {ti : TI} (h : tyInfo P t = some ti) : ∃ i d z, P.info? t = some i ∧ P.underlying t = some d ∧ i.zero = some z ∧ ti.agg = aggD d ∧ ti.size = i.size ∧ ti.zero = z.cells.toList.map avc ∧ ti.d = tdOf P d := by
  unfold tyInfo at h
  split at h
  · rename_i i d h1 h2
    split at h
    · rename_i z hz
      cases h
      exact ⟨i, d, z, h1, h2, hz, rfl, rfl, rfl, rfl⟩
    · cases h
  · cases h

theorem td_struct {P : Program} {d : TypeDesc} {r : List (Nat × Nat × Bool)} (h : tdOf P d = .struct r) : ∃ fs, d = .struct fs ∧ fieldsOf P fs.toList = some r := by
  cases d <;> simp only [tdOf] at h
  case struct fs =>
    split at h
    · rename_i r' e; cases h; exact ⟨fs, rfl, e⟩
    · cases h
  all_goals (first | (repeat' split at h) <;> cases h)

theorem td_arr {P : Program} {d : TypeDesc} {n s : Nat} {g : Bool} (h : tdOf P d = .arr n s g) : ∃ e i d', d = .array n e ∧ P.info? e = some i ∧ i.size = s ∧ P.underlying e = some d' ∧ aggD d' = g := by
  cases d <;> simp only [tdOf] at h
  case array n' e =>
    split at h
    · rename_i i d' hi hd; cases h; exact ⟨e, i, d', rfl, hi, rfl, hd, rfl⟩
    · cases h
  all_goals (first | (repeat' split at h) <;> cases h)

theorem td_slc {P : Program} {d : TypeDesc} {e : TypeId} {s b : Nat} {z : List AV} (h : tdOf P d = .slc e s b z) : ∃ i v, d = .slice e ∧ P.info? e = some i ∧ i.size = s ∧ i.bytes = b ∧ i.zero = some v ∧ z = v.cells.toList.map avc := by
  cases d <;> simp only [tdOf] at h
  case slice e' =>
    split at h
    · rename_i i hi
      split at h
      · rename_i v hv; cases h; exact ⟨i, v, rfl, hi, rfl, rfl, hv, rfl⟩
      · cases h
    · cases h
  all_goals (first | (repeat' split at h) <;> cases h)

theorem fields_at {P : Program} : ∀ {fs : List Field} {r : List (Nat × Nat × Bool)}, fieldsOf P fs = some r → r.length = fs.length ∧ ∀ (k : Nat) (o s : Nat) (g : Bool), r[k]? = some (o, s, g) → ∃ f i d, fs[k]? = some f ∧ f.offset = o ∧ P.info? f.type = some i ∧ i.size = s ∧ P.underlying f.type = some d ∧ aggD d = g
  | [], r, h => by
    simp only [fieldsOf] at h
    cases h
    exact ⟨rfl, fun k o s g hk => by simp at hk⟩
  | f :: fs, r, h => by
    simp only [fieldsOf] at h
    split at h
    · rename_i i d r' h1 h2 h3
      cases h
      obtain ⟨e1, e2⟩ := fields_at h3
      refine ⟨by simp [e1], fun k o s g hk => ?_⟩
      cases k with
      | zero =>
        simp at hk
        obtain ⟨rfl, rfl, rfl⟩ := hk
        exact ⟨f, i, d, rfl, rfl, h1, rfl, h2, rfl⟩
      | succ k =>
        obtain ⟨f', i', d', g1, g2⟩ := e2 k o s g (by simpa using hk)
        exact ⟨f', i', d', by simpa using g1, g2⟩
    · cases h

section runs
variable {P : Program} (w : World)
theorem run_typeInfo {t : TypeId} {i : TypeInfo} (h : P.info? t = some i) : (typeInfo t).run P w = .ok i w := by simp [typeInfo, program, Sem.run, h]
theorem run_sizeOf {t : TypeId} {i : TypeInfo} (h : P.info? t = some i) : (sizeOf t).run P w = .ok i.size w := by simp [sizeOf, run_typeInfo w h]
theorem run_isAgg {t : TypeId} {d : TypeDesc} (h : P.underlying t = some d) : (isAgg t).run P w = .ok (aggD d) w := by
  simp only [isAgg, Sem.run_bind, run_underlying h, Result.andThen_ok]
  cases d <;> rfl
theorem run_part {t : TypeId} {i : TypeInfo} {d : TypeDesc} (h : P.info? t = some i) (hd : P.underlying t = some d) (cs : Array Value) (off : Nat) :
    (part t cs off).run P w = if aggD d then .ok (.agg (cs.extract off (off + i.size))) w else (match cs[off]? with | some v => .ok v w | none => (stuck "part: no such cell" : Sem Value).run P w) := by
  simp only [part, Sem.run_bind, run_isAgg w hd, Result.andThen_ok]
  cases aggD d
  · simp only [Bool.false_eq_true, if_false]
    cases cs[off]? <;> rfl
  · simp only [if_true, Sem.run_bind, run_sizeOf w h, Result.andThen_ok, Sem.run_pure]
end runs

/-- an operand, abstractly -/
def ev (env : Nat → AV) : Operand → AV
  | .tmp t => env t
  | .const v => avc v
  | .global g => glo g
  | .func f => .fn f []

/-- the blocks with these ids are as they are said to be -/
def Known (H : Nat → Option ABlk) (ids : List Nat) (w : World) (F : Nat → Prop) (β : Nat → Option Hdr) : Prop :=
  ∀ id ∈ ids, ∀ k, H id = some k → ∃ h, β id = some h ∧ BlkR w F β h k

/-- the operation gives a value and leaves the world as it is -/
def Gives (P : Program) (o : Oper) (env : Nat → AV) (H : Nat → Option ABlk) (v : AV) (ids : List Nat) : Prop :=
  ∀ (w : World) (F : Nat → Prop) (β : Nat → Option Hdr) (a : Act), (∀ x ∈ o.op.operands, RV w F β (ev env x) (a.eval x)) → Known H ids w F β →
    ∃ u, (execOp a.eval o).run P w = .ok (.value u) w ∧ RV w F β v u

/-- cells that are cut out -/
theorem RVs.extract {w : World} {F : Nat → Prop} {β : Nat → Option Hdr} {c : List AV} {cs : Array Value} (h : RVs w F β c cs) (o n : Nat) (hn : o + n ≤ c.length) : RVs w F β ((c.drop o).take n) (cs.extract o (o + n)) := by
  obtain ⟨h1, h2⟩ := h
  refine ⟨by simp; omega, fun j u v hu hv => ?_⟩
  rw [List.getElem?_take, List.getElem?_drop] at hu
  split at hu
  · rename_i hj
    refine h2 (o + j) u v hu ?_
    rw [Array.getElem?_extract] at hv
    split at hv
    · exact hv
    · cases hv
  · cases hu

theorem RVs.at {w : World} {F : Nat → Prop} {β : Nat → Option Hdr} {c : List AV} {cs : Array Value} (h : RVs w F β c cs) {o : Nat} {u : AV} (hu : c[o]? = some u) : ∃ v, cs[o]? = some v ∧ RV w F β u v := by
  have ho := (List.getElem?_eq_some_iff.1 hu).1
  have : o < cs.size := by rw [← h.1]; exact ho
  exact ⟨cs[o], Array.getElem?_eq_getElem this, h.2 o u _ hu (Array.getElem?_eq_getElem this)⟩

/-- one part of a composite value -/
def partA (c : List AV) (o n : Nat) (g : Bool) (K : AV → Prop) : Prop := match g with
  | true => match Nat.ble (o + n) c.length with
    | true => K (.agg ((c.drop o).take n))
    | false => False
  | false => match c.drop o with
    | u :: _ => K u
    | [] => False

theorem partA_ok {c : List AV} {o n : Nat} {g : Bool} {K : AV → Prop} (h : partA c o n g K) : ∃ v, K v ∧ ((g = true ∧ o + n ≤ c.length ∧ v = .agg ((c.drop o).take n)) ∨ (g = false ∧ c[o]? = some v)) := by
  unfold partA at h
  cases g with
  | true =>
    simp only at h
    split at h
    · rename_i e; exact ⟨_, h, .inl ⟨rfl, Nat.le_of_ble_eq_true e, rfl⟩⟩
    · exact h.elim
  | false =>
    simp only at h
    split at h
    · rename_i u r e
      refine ⟨u, h, .inr ⟨rfl, ?_⟩⟩
      have := congrArg (fun l => l[0]?) e
      simpa using this
    · exact h.elim

theorem gives_move {P : Program} {o : Oper} {env : Nat → AV} {H : Nat → Option ABlk} {x : Operand} (ho : o.op = .move x ∨ o.op = .assign x) : Gives P o env H (ev env x) [] := by
  intro w F β a hx _
  rcases ho with ho | ho <;> exact ⟨a.eval x, by simp [execOp, ho], hx x (by simp [ho, Op.operands])⟩

theorem gives_pick {P : Program} {o : Oper} {env : Nat → AV} {H : Nat → Option ABlk} {c x y : Operand} {v : AV} (ho : o.op = .pick c x y) (h : (ev env c = .tru ∧ v = ev env x) ∨ (ev env c = .fls ∧ v = ev env y)) : Gives P o env H v [] := by
  intro w F β a hx _
  have hc := hx c (by simp [ho, Op.operands])
  rcases h with ⟨h1, rfl⟩ | ⟨h1, rfl⟩
  · rw [h1] at hc
    generalize hv : a.eval c = vc at hc
    cases hc
    exact ⟨a.eval x, by simp [execOp, ho, hv, asBool], hx x (by simp [ho, Op.operands])⟩
  · rw [h1] at hc
    generalize hv : a.eval c = vc at hc
    cases hc
    exact ⟨a.eval y, by simp [execOp, ho, hv, asBool], hx y (by simp [ho, Op.operands])⟩

theorem gives_extract {P : Program} {o : Oper} {env : Nat → AV} {H : Nat → Option ABlk} {x : Operand} {i : Nat} {vs : List AV} {v : AV} (ho : o.op = .extract x i) (h : ev env x = .tup vs) (hv : vs[i]? = some v) : Gives P o env H v [] := by
  intro w F β a hx _
  have hc := hx x (by simp [ho, Op.operands])
  rw [h] at hc
  generalize hvx : a.eval x = vx at hc
  cases hc with
  | tup _ cs h1 h2 =>
    obtain ⟨u, hu, hr⟩ := RVs.at ⟨h1, h2⟩ hv
    exact ⟨u, by simp [execOp, ho, hvx, Instr.extract, hu], hr⟩

theorem gives_field {P : Program} {tab : Tab} (hT : TabOK P tab) {o : Oper} {env : Nat → AV} {H : Nat → Option ABlk} {x : Operand} {t : TypeId} {i : Nat} {ti : TI} {fs : List (Nat × Nat × Bool)} {off n : Nat} {g : Bool} {c : List AV} {v : AV}
    (ho : o.op = .field t x i) (ht : tab t = some ti) (hd : ti.d = .struct fs) (hf : fs[i]? = some (off, n, g)) (hc : ev env x = .agg c) (hv : (g = true ∧ off + n ≤ c.length ∧ v = .agg ((c.drop off).take n)) ∨ (g = false ∧ c[off]? = some v)) : Gives P o env H v [] := by
  intro w F β a hx _
  have hcx := hx x (by simp [ho, Op.operands])
  rw [hc] at hcx
  generalize hvx : a.eval x = vx at hcx
  obtain ⟨ii, dd, z, h1, h2, _, _, _, _, h3⟩ := ty_parts (hT t ti ht)
  rw [hd] at h3
  obtain ⟨ff, rfl, h4⟩ := td_struct h3.symm
  obtain ⟨f, i', d', g1, rfl, g2, rfl, g3, rfl⟩ := (fields_at h4).2 i off n g hf
  have g1' : ff[i]? = some f := by simpa using g1
  cases hcx with
  | agg _ cs k1 k2 =>
    rcases hv with ⟨hg, hle, rfl⟩ | ⟨hg, hu⟩
    · refine ⟨.agg (cs.extract f.offset (f.offset + i'.size)), ?_, ?_⟩
      · simp [execOp, ho, hvx, Instr.field, run_underlying h2, g1', asAgg, run_part w g2 g3, hg]
      · obtain ⟨e1, e2⟩ := RVs.extract ⟨k1, k2⟩ f.offset i'.size hle
        exact .agg _ _ e1 e2
    · obtain ⟨u, hu', hr⟩ := RVs.at ⟨k1, k2⟩ hu
      refine ⟨u, ?_, hr⟩
      simp [execOp, ho, hvx, Instr.field, run_underlying h2, g1', asAgg, run_part w g2 g3, hg, hu']
end Go.Proofs.Ytkefkegknacpjaa.Ax
