/- Maps that the call makes: blocks told by a property of the object. Nothing of the dump is used here. -/
import Derived.Test.YtkajegjghfbgaaaAxZ
import Derived.Maps.OwnSet
import Derived.Maps.Views
import Derived.DeepKeys4
import Derived.Carry
namespace Go.Proofs.Ytkajegjghfbgaaa.Ax
open Go.RowKit Go.Maps
open Go.ChangeMaps (setBlock)
open Go.WideElems (Fit rg)
set_option linter.unusedVariables false
set_option linter.unusedSimpArgs false

theorem ok_makeMap {P : Program} {g : Nat} {o : Oper} {σ : ASt} {t : TypeId} (ho : o.op = .makeMap t none) (q : Obj → Prop) (hq : q (.map #[] 0)) : OpOK P g o σ ⟨.mp σ.n, [(σ.n, some (.obj q))], [], σ.n + 1⟩ := by
  refine ⟨Nat.le_succ _, fun C I σ2 a w K Q hC hxs hH hI hd hR hK => ?_⟩
  obtain ⟨β, F, hR⟩ := hR
  have hn : ¬ I σ.n := hI σ.n (Nat.le_refl _) (Nat.lt_succ_self _)
  refine upon_value (u := .map (some w.heap.size)) (w' := w.alloc (.map #[] 0)) ?_ (hK _ _ ?_)
  · simp [execOp, ho, run_makeMap]
  have h2 := hR.new hn (same_alloc w (.map #[] 0)) ⟨some w.heap.size, 0, 0⟩ (fun i e => by cases e; simp) (.obj q) ⟨_, _, rfl, heap_alloc_new _ _, hq⟩
  exact ⟨_, F, (h2.put o.dst (.mp σ.n) _ hd (.mp σ.n w.heap.size _ (setB_same _ _ _) rfl)).fin rfl rfl (fun i hi => one_id hi)⟩

theorem sb_same {w : World} {b : Nat} {ob : Obj} (hb : w.heap[b]? = some ob) (o : Obj) : (setBlock w b o).heap[b]? = some o := by
  have := (Array.getElem?_eq_some_iff.1 hb).1
  simp [setBlock, this]
theorem sb_other {w : World} {b i : Nat} (h : i ≠ b) (o : Obj) : (setBlock w b o).heap[i]? = w.heap[i]? := by
  simp [setBlock, Array.getElem?_setIfInBounds, h.symm]

theorem same_setBlock (w : World) (b : Nat) (o : Obj) : Same w (setBlock w b o) (some b) :=
  ⟨rfl, rfl, rfl, by simp [setBlock], fun i _ hi => sb_other (fun e => hi (by rw [e])) _⟩

theorem ok_mapUpdate {P : Program} {g : Nat} {o : Oper} {σ : ASt} {t : TypeId} {m kx vx : Operand} {id : Nat} {q : Obj → Prop} (q' : Obj → Prop) (ho : o.op = .mapUpdate t m kx vx) (hm : ev σ.env m = .mp id) (hH : σ.H id = some (.obj q))
    (h : ∀ (w : World) (F : Nat → Prop) (β : Nat → Option Hdr) (kv vv : Value) (b : Nat) (ob : Obj), RV w F β (ev σ.env kx) kv → RV w F β (ev σ.env vx) vv → w.heap[b]? = some ob → q ob → ∃ ob', (Instr.mapUpdate t (.map (some b)) kv vv).run P w = .ok () (setBlock w b ob') ∧ q' ob') :
    OpOK P g o σ ⟨.any, [(id, some (.obj q'))], [], σ.n⟩ := by
  refine ⟨Nat.le_refl _, fun C I σ2 a w K Q hC hxs hH2 hI hd hR hK => ?_⟩
  obtain ⟨β, F, hR⟩ := hR
  have hv := hxs m (by simp [ho, Op.operands]) _ _ _ _ (hR.ev m)
  have hk := hxs kx (by simp [ho, Op.operands]) _ _ _ _ (hR.ev kx)
  have hx := hxs vx (by simp [ho, Op.operands]) _ _ _ _ (hR.ev vx)
  rw [hm] at hv
  have hH' : σ2.H id = some (.obj q) := by rw [hH2 id (by simp)]; exact hH
  obtain ⟨hd', e1, e2, e3⟩ := hR.live id _ hH'
  obtain ⟨b, ob, q1, q2, q3⟩ := e2
  generalize hpv : a.eval m = pv at hv
  cases hv with
  | mp _ b' h' f1 f2 =>
    rw [e1] at f1
    cases f1
    rw [q1] at f2
    cases f2
    obtain ⟨ob', hrun, hq'⟩ := h w F β _ _ b ob hk hx q2 q3
    refine upon_skip (w' := setBlock w b ob') ?_ (hK _ _ ⟨β, F, ?_⟩)
    · simp [execOp, ho, hpv, hrun]
    · exact ((hR.write hH' e1 q1 (same_setBlock w b ob') (.obj q') ⟨b, ob', q1, sb_same q2 _, hq'⟩).put o.dst .any undef hd (.any _)).fin rfl rfl (fun i hi => .inl hi)

theorem gives_lenM {P : Program} {o : Oper} {env : Nat → AV} {H : Nat → Option ABlk} {x : Operand} {t k e : TypeId} {id n : Nat} {q : Obj → Prop} (ho : o.op = .call { callee := .builtin .len, args := #[x], argTypes := #[t] }) (hm : ev env x = .mp id) (hH : H id = some (.obj q))
    (ht : P.underlying t = some (.map k e)) (h : ∀ ob, q ob → ∃ es clock, ob = .map es clock ∧ es.size = n) : Gives P o env H (.int .i64 n) [id] := by
  intro w F β a hx hK
  have hv := hx x (by simp [ho, Op.operands, Call.operands])
  rw [hm] at hv
  obtain ⟨g, e1, b, ob, q1, q2, q3⟩ := hK id (by simp) _ hH
  obtain ⟨es, clock, rfl, hn⟩ := h ob q3
  refine ⟨goInt n, ?_, .int _ _⟩
  generalize hvx : a.eval x = vx at hv
  cases hv with
  | mp _ b' h' f1 f2 =>
    rw [e1] at f1
    cases f1
    rw [q1] at f2
    cases f2
    have hlen : (Builtin.len_ #[t] o.type #[.map (some b)]).run P w = .ok (goInt n) w := by
      simp [Builtin.len_, run_underlying ht, MapKept.run_getObj_map q2, goInt, Result.andThen, hn]
    simp [execOp, ho, resolve, invoke, builtin, hvx, hlen]

/-- a set, as a map to true -/
def MpOK (P : Program) (k e : TypeId) (L : List Lit) (o : Obj) : Prop :=
  ∃ es clock, o = .map es clock ∧ Fit (H := Unit) P k (plainElem P e) es clock ∧ es.size ≤ L.length ∧ setOf (.lit (.bool true)) L = DataW.map ((es.toList.map (rg (H := Unit) P k (plainElem P e))).foldr DataW.insert [])

theorem mpOK_nil (P : Program) (k e : TypeId) : MpOK P k e [] (.map #[] 0) := by
  exact ⟨#[], 0, rfl, ⟨by simp, MapKept.stamped_empty 0, by simp⟩, Nat.le_refl _, rfl⟩

theorem mpOK_put {P : Program} {k t e : TypeId} (K : Keyed P k) (ht : P.underlying t = some (.map k e)) (he : P.underlying e = some .bool) {L : List Lit} (hn : L.length < 1000000) {key : Value} {kl : Lit} (hkey : keyOf P k key = some kl) {w : World} {b : Nat} {ob : Obj} (hb : w.heap[b]? = some ob) (h : MpOK P k e L ob) :
    ∃ ob', (Instr.mapUpdate t (.map (some b)) key (.bool true)).run P w = .ok () (setBlock w b ob') ∧ MpOK P k e (L ++ [kl]) ob' := by
  obtain ⟨es, clock, rfl, F, hs, hD⟩ := h
  have ho : w.ownsMap P k (plainElem P e) b L.length (setOf (.lit (.bool true)) L) := ⟨es, clock, hb, F, hs, hD⟩
  obtain ⟨w', hrun, ho', es0, clock0, es', clock', q1, rfl⟩ := ho.store K ht (by unfold maxLen; omega) hkey (plainElem_bool he true)
  refine ⟨.map es' clock', hrun, ?_⟩
  obtain ⟨es2, clock2, r1, r2, r3, r4⟩ := ho'
  rw [sb_same q1] at r1
  cases r1
  refine ⟨_, _, rfl, r2, by rw [List.length_append]; exact r3, ?_⟩
  rw [← r4]
  unfold setOf
  rw [List.foldl_append]
  rfl

theorem mpOK_size {P : Program} {k e : TypeId} {L : List Lit} (hL : ∀ x ∈ L, WideAt.IsKeyLit x) {o : Obj} (h : MpOK P k e L o) : ∃ es clock, o = .map es clock ∧ es.size = (L.foldl addKey []).length := by
  obtain ⟨es, clock, rfl, F, hs, hD⟩ := h
  refine ⟨es, clock, rfl, ?_⟩
  rw [← size_setOf (H := Unit) (.lit (.bool true)) L hL, hD]
  simp [Maps.size, length_sorted]

theorem key3 {P : Program} {k e : TypeId} {f0 f1 f2 : Field} (hu : P.underlying k = some (.struct #[f0, f1, f2])) (hkt : P.keyType k = true) (hc : P.cellsOf k = 3) (he : P.underlying e = some (.int .i64)) (hi : P.cellsOf e = 1) (h0 : (f0.name != "_") = true) (h1 : (f1.name != "_") = true) (h2 : (f2.name != "_") = true)
    (o0 : f0.offset = 0) (o1 : f1.offset = 1) (o2 : f2.offset = 2) (t0 : f0.type = e) (t1 : f1.type = e) (t2 : f2.type = e) (hs : 0 < P.types.size) {a b c : Int} (ha : (Lit.int .i64 a).wf = true) (hb : (Lit.int .i64 b).wf = true) (hd : (Lit.int .i64 c).wf = true) :
    keyOf P k (.agg #[.int .i64 a, .int .i64 b, .int .i64 c]) = some (.string (keyBytes [.int .i64 a, .int .i64 b, .int .i64 c])) := by
  obtain ⟨m, hm⟩ : ∃ m, P.types.size = m + 1 := ⟨P.types.size - 1, by omega⟩
  have hf : (Value.agg #[.int .i64 a, .int .i64 b, .int .i64 c]).formed P k = true := by simp [Value.formed, hu, hc]
  unfold keyOf
  rw [hu]
  simp only [hkt, hf, Bool.and_self, if_true, hm, Value.cells, Program.keyLits, hu]
  simp [hc, h0, h1, h2, o0, o1, o2, t0, t1, t2, hi, he, ha, hb, hd]

def MpR (P : Program) (k e : TypeId) {α : Type} (kl : α → Lit) (E : List α) : Obj → Prop := MpOK P k e (E.map kl)

/-- a key is put into a set -/
def mpL {α : Type} (wf : α → Bool) (E : List α) (x : α) : Option (List α) := if wf x = true ∧ E.length < 1000000 then some (E ++ [x]) else none
def mpN {α : Type} (kl : α → Lit) (E : List α) : Int := (((E.map kl).foldl addKey []).length : Int)
theorem mpL_some {α : Type} {wf : α → Bool} {E E' : List α} {x : α} (h : mpL wf E x = some E') : wf x = true ∧ E.length < 1000000 ∧ E' = E ++ [x] := by
  unfold mpL at h
  split at h
  · rename_i c; exact ⟨c.1, c.2, (Option.some.inj h).symm⟩
  · cases h
theorem mk_map {P : Program} {g : Nat} {o : Oper} {σ : ASt} {t : TypeId} (ho : o.op = .makeMap t none) {α : Type} (k e : TypeId) (kl : α → Lit) : OpOK P g o σ ⟨.mp σ.n, [(σ.n, some (.obj (MpR P k e kl [])))], [], σ.n + 1⟩ := ok_makeMap ho _ (mpOK_nil P k e)
theorem up_map {P : Program} {g : Nat} {o : Oper} {σ : ASt} {t : TypeId} {m kx vx : Operand} {id : Nat} {α : Type} {k e : TypeId} {kl : α → Lit} {wf : α → Bool} {E E' : List α} {x : α} {enc : α → List AV} {vv : α → Array Value} (K : Keyed P k) (ht : P.underlying t = some (.map k e)) (he : P.underlying e = some .bool)
    (hkey : ∀ x, wf x = true → keyOf P k (.agg (vv x)) = some (kl x)) (henc : ∀ (x : α) (w : World) (F : Nat → Prop) (β : Nat → Option Hdr) (v : Value), RV w F β (.agg (enc x)) v → v = .agg (vv x))
    (ho : o.op = .mapUpdate t m kx vx) (hm : ev σ.env m = .mp id) (hH : σ.H id = some (.obj (MpR P k e kl E))) (hk : ev σ.env kx = .agg (enc x)) (hv : ev σ.env vx = .tru) (h : mpL wf E x = some E') : OpOK P g o σ ⟨.any, [(id, some (.obj (MpR P k e kl E')))], [], σ.n⟩ := by
  obtain ⟨h1, h2, rfl⟩ := mpL_some h
  refine ok_mapUpdate _ ho hm hH fun w F β kv vv' b ob r1 r2 r3 r4 => ?_
  rw [hk] at r1
  rw [hv] at r2
  cases r2
  obtain rfl := henc x w F β kv r1
  obtain ⟨ob', q1, q2⟩ := mpOK_put K ht he (by rw [List.length_map]; exact h2) (hkey x h1) r3 r4
  refine ⟨ob', q1, ?_⟩
  unfold MpR
  rw [List.map_append]
  exact q2
theorem len_map {P : Program} {g : Nat} {o : Oper} {σ : ASt} {x : Operand} {t k e : TypeId} {id : Nat} {α : Type} {kl : α → Lit} {E : List α} (ht : P.underlying t = some (.map k e)) (hkl : ∀ x, WideAt.IsKeyLit (kl x))
    (ho : o.op = .call { callee := .builtin .len, args := #[x], argTypes := #[t] }) (hm : ev σ.env x = .mp id) (hH : σ.H id = some (.obj (MpR P k e kl E))) : OpOK P g o σ ⟨.int .i64 (mpN kl E), [], [id], σ.n⟩ :=
  ok_gives (gives_lenM ho hm hH ht fun ob h => mpOK_size (fun y hy => by obtain ⟨z, _, rfl⟩ := List.mem_map.1 hy; exact hkl z) h)
theorem blkM {H : Nat → Option ABlk} {gs zs bs : List Nat} {k id : Nat} {q : Obj → Prop} (h1 : gs[k]? = some id) (h2 : H id = some (.obj q)) : BlkA H gs zs bs k (.obj q) := ⟨id, q, h1, h2, fun _ h => h⟩
theorem argM {H : Nat → Option ABlk} {gs zs bs : List Nat} {x : AV} {id k : Nat} (h : x = .mp id) (hk : gs[k]? = some id) : ArgR H gs zs bs x (.mp k) := h ▸ .mp id k hk
end Go.Proofs.Ytkajegjghfbgaaa.Ax
