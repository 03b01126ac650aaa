/- Laws for make, append, copy and stores over rows whose elements have several cells, for any program. -/
import Derived.Test.YtmigkmdhenkpmaaRow
import Derived.Laws.CopyOwn
import Derived.Laws.OwnMore
namespace Go.Proofs.Ytmigkmdhenkpmaa
open Go.RowKit

/-- a slice type t whose elements (type e) have sz cells each, told by enc -/
structure RowTy (P : Program) (α : Type) where
  t : TypeId
  e : TypeId
  sz : Nat
  bytes : Nat
  enc : α → Array Value
  zero : α
  hsz : ∀ x, (enc x).size = sz
  pos : 0 < sz
  one : ∀ x, ∀ u ∈ (enc x).toList, u.oneCell' = true
  ht : P.underlying t = some (.slice e)
  info : ∃ i z, P.info? e = some i ∧ i.zero = some z ∧ i.size = sz ∧ i.bytes = bytes ∧ z.cells = enc zero

section
variable {P : Program} {α : Type} (R : RowTy P α)

abbrev RowTy.V (w : World) (v : Value) (l : List α) : Prop := RowV R.sz R.enc w v l
abbrev RowTy.Own (base : Nat) (w : World) (v : Value) (l : List α) : Prop := OwnR R.e R.sz R.enc base w v l
abbrev RowTy.flat (l : List α) : List Value := l.flatMap fun x => (R.enc x).toList

theorem RowTy.one_flat (l : List α) : ∀ u ∈ R.flat l, u.oneCell' = true := by
  intro u hu
  obtain ⟨x, _, hx⟩ := List.mem_flatMap.1 hu
  exact R.one x u hx

theorem flat_split {sz : Nat} {enc : α → Array Value} (hsz : ∀ x, (enc x).size = sz) : ∀ (l : List α) (j : Nat) (u : Value), (l.flatMap fun x => (enc x).toList)[j]? = some u → ∃ k x i, l[k]? = some x ∧ (enc x)[i]? = some u ∧ j = k * sz + i
  | [], j, u, h => by simp at h
  | y :: l, j, u, h => by
    rw [List.flatMap_cons] at h
    rcases Nat.lt_or_ge j sz with hj | hj
    · rw [List.getElem?_append_left (by rw [Array.length_toList, hsz]; exact hj)] at h
      exact ⟨0, y, j, rfl, by simpa using h, by omega⟩
    · rw [List.getElem?_append_right (by rw [Array.length_toList, hsz]; exact hj), Array.length_toList, hsz] at h
      obtain ⟨k, x, i, h1, h2, h3⟩ := flat_split hsz l _ u h
      exact ⟨k + 1, x, i, by simpa using h1, h2, by rw [Nat.succ_mul]; omega⟩

/-- the cells of a row that is read -/
theorem RowTy.cells {w : World} {b o n c : Nat} {l : List α} (h : R.V w (.slice (some ⟨b, o, none⟩) n c) l) : ∀ j u, (R.flat l)[j]? = some u → w.cell? ((⟨b, o, none⟩ : Addr).add j) = some u := by
  intro j u hu
  obtain ⟨k, x, i, h1, h2, rfl⟩ := flat_split R.hsz l j u hu
  obtain ⟨a', cap', hv, _, _, _, hc⟩ := h
  cases hv
  obtain ⟨b', o', e, _, hc⟩ := hc (by have := (List.getElem?_eq_some_iff.1 h1).1; omega)
  cases e
  rw [Addr.add_lit, ← Nat.add_assoc]
  exact hc k x h1 i u h2

/-- append(out, x...) where the call owns out and x is any slice, nil too -/
theorem RowTy.appendV {ops : Array Oper} {rest : List Oper} {o : Oper} {a : Act} {w : World} {Q : Exit → Act → World → Prop} (hgd : o.guard = none) (s x : Operand)
    (ho : o.op = .call { callee := .builtin .append, args := #[s, x], argTypes := #[R.t, R.t] })
    (base : Nat) (v : Value) (l : List α) (xv : Value) (m : List α) (hs : a.eval s = v) (hx : a.eval x = xv)
    (hown : R.Own base w v l) (hm : R.V w xv m) (h63 : l.length + m.length ≤ maxLen) (hb : (l.length + m.length) * R.bytes ≤ 140737488355328) (hbase : base ≤ w.heap.size)
    (h : ∀ v' w', R.Own base w' v' (l ++ m) → w.grownBy w' v.ownBlock → wpList P ops Q rest (a.put o.dst v') w') : wpList P ops Q (o :: rest) a w := by
  obtain ⟨i0, z, hi, hz0, hz1, hz2, hz3⟩ := R.info
  obtain ⟨a', cap', rfl, h1, h2, h4, h5⟩ := hm
  cases a' with
  | some ad =>
    refine wpList_append_own w hgd s x R.t ho base R.e i0 z R.sz R.bytes R.ht hi hz0 hz1 hz2 (by rw [hz3]; exact R.hsz _) R.pos v l.length _ hs hown ad m.length cap' (R.flat m) hx (flat_len R.hsz m) ?_ (R.one_flat m) h63 hb hbase ?_
    · rcases Nat.eq_zero_or_pos m.length with h0 | h0
      · have : m = [] := List.eq_nil_of_length_eq_zero h0
        subst this
        intro j u hj
        simp at hj
      · obtain ⟨b, off, hb, hlt, hc⟩ := h5 h0
        cases hb
        exact R.cells (l := m) (n := m.length) (c := cap') ⟨_, _, rfl, h1, h2, h4, fun _ => ⟨b, off, rfl, hlt, hc⟩⟩
    · intro v' w' hown' hg _
      refine h v' w' ?_ hg
      show World.ownsRow _ _ _ _ _ (l ++ m).length _
      rw [List.length_append, List.flatMap_append]
      exact hown'
  | none =>
    have hc0 := h4 rfl
    subst hc0
    have : m = [] := List.eq_nil_of_length_eq_zero (by omega)
    subst this
    refine wpList_plain hgd fun K hK => ?_
    have hr := run_append_owned_none (P := P) w base R.t o.type R.e i0 R.sz R.ht hi v l.length _ hown
    unfold Oper.wp execOp
    simp only [ho, resolve, invoke, builtin, Sem.run_bind, Sem.run_pure, Result.andThen_ok, List.map_toArray, List.map_cons, List.map_nil, hs, hx, List.length_nil, hr]
    exact hK _ _ (h v w (by simpa using hown) ⟨rfl, rfl, rfl, Nat.le_refl _, fun _ _ _ => rfl⟩)

/-- append(out, x) of one element, boxed in the block that was laid last -/
theorem RowTy.append1 {ops : Array Oper} {rest : List Oper} {o : Oper} {a : Act} {w : World} {Q : Exit → Act → World → Prop} (hgd : o.guard = none) (s x : Operand)
    (ho : o.op = .call { callee := .builtin .append, args := #[s, x], argTypes := #[R.t, R.t] })
    (base : Nat) (v : Value) (l : List α) (y : α) (w0 : World) (hw : w = w0.alloc (.cells (R.enc y) R.e)) (hs : a.eval s = v) (hx : a.eval x = .slice (some ⟨w0.heap.size, 0, none⟩) 1 1)
    (hown : R.Own base w0 v l) (h63 : l.length + 1 ≤ maxLen) (hb : (l.length + 1) * R.bytes ≤ 140737488355328) (hbase : base ≤ w0.heap.size)
    (h : ∀ v' w', R.Own base w' v' (l ++ [y]) → w.grownBy w' v.ownBlock → wpList P ops Q rest (a.put o.dst v') w') : wpList P ops Q (o :: rest) a w := by
  subst hw
  refine R.appendV hgd s x ho base v l _ [y] hs hx (World.ownsRow.alloc hown _) ?_ h63 hb (by simp; omega) h
  refine ⟨_, _, rfl, Nat.le_refl _, by simp [maxLen], (fun h => by cases h), fun _ => ⟨w0.heap.size, 0, rfl, by simp, fun k x hk j u hu => ?_⟩⟩
  match k, hk with
  | 0, hk =>
    simp at hk
    subst hk
    rw [World.cell?_alloc_new]
    simpa using hu
  | k + 1, hk => simp at hk

theorem made_flat (z : Value) (x : α) (hz : z.cells = R.enc x) (n : Nat) : (madeCells z.cells (n * R.sz)).toList = R.flat (List.replicate n x) := by
  have hlen := flat_len R.hsz (List.replicate n x)
  rw [List.length_replicate] at hlen
  apply List.ext_getElem?
  intro j
  rcases Nat.lt_or_ge j (n * R.sz) with hj | hj
  · have hm : j % R.sz < R.sz := Nat.mod_lt _ R.pos
    have hd : j / R.sz < n := Nat.div_lt_of_lt_mul (by rw [Nat.mul_comm]; exact hj)
    have hi : (R.enc x)[j % R.sz]? = some ((R.enc x)[j % R.sz]'(by rw [R.hsz]; exact hm)) := Array.getElem?_eq_getElem _
    have := flat_at R.hsz (List.replicate n x) (j / R.sz) x (by simp [hd]) (j % R.sz) _ hi
    rw [Nat.mul_comm, Nat.div_add_mod] at this
    show _ = (List.flatMap (fun x => (R.enc x).toList) (List.replicate n x))[j]?
    rw [this, hz]
    simp [madeCells, hj, R.hsz, hm]
  · rw [List.getElem?_eq_none (by rw [Array.length_toList, size_madeCells]; exact hj), List.getElem?_eq_none (by rw [hlen]; exact hj)]

/-- make([]T, n) -/
theorem RowTy.make {ops : Array Oper} {rest : List Oper} {o : Oper} {a : Act} {w : World} {Q : Exit → Act → World → Prop} (hgd : o.guard = none) (lo co : Operand)
    (ho : o.op = .makeSlice R.t lo co) (base : Nat) (n : Nat) (hl : a.eval lo = .int .i64 n) (hc : a.eval co = .int .i64 n) (h63 : n ≤ maxLen) (hsz : R.bytes * n ≤ 281474976710656) (hbase : base ≤ w.heap.size)
    (h : ∀ w', R.Own base w' (.slice (some ⟨w.heap.size, 0, none⟩) n n) (List.replicate n R.zero) → w.grownBy w' none → wpList P ops Q rest (a.put o.dst (.slice (some ⟨w.heap.size, 0, none⟩) n n)) w') : wpList P ops Q (o :: rest) a w := by
  obtain ⟨i0, z, hi, hz0, hz1, hz2, hz3⟩ := R.info
  refine wpList_make_full _ hgd lo co R.t ho base R.e i0 z R.sz R.ht hi hz0 hz1 .i64 .i64 _ _ n hl hc rfl rfl (by rw [hz2]; exact hsz) h63 hbase ?_
  intro w' hown hg
  refine h w' ?_ hg
  show World.ownsRow _ _ _ _ _ (List.replicate n R.zero).length _
  rw [List.length_replicate]
  rw [made_flat R z R.zero hz3 n] at hown
  exact hown

theorem run_copy_rowN {P : Program} (w : World) (dT sT ty elem : TypeId) (sz : Nat) (g dLen dCap : Nat) (a : Addr) (sLen sCap : Nat) (cur : Array Value) (t : TypeId) (cs : List Value)
    (hu : P.underlying dT = some (.slice elem)) (hs : (P.info? elem).map (·.size) = some sz)
    (hg : w.heap[g]? = some (.cells cur t (0, 0))) (hn : cs.length = Nat.min sLen dLen * sz)
    (hsrc : ∀ j v, cs[j]? = some v → w.cell? (a.add j) = some v) (hfit : cs.length ≤ cur.size) (h1 : ∀ v ∈ cs, v.oneCell' = true) :
    (Builtin.copy_ #[dT, sT] ty #[.slice (some ⟨g, 0, none⟩) dLen dCap, .slice (some a) sLen sCap]).run P w =
      .ok (goInt (Nat.min sLen dLen)) (w.setRow g (cs ++ cur.toList.drop cs.length).toArray) := by
  have hl := run_loadCells_list (P := P) w a cs hsrc
  have hst := run_storeCells_at P g 0 t cs 0 cur w hg (by simpa using hfit) h1
  cases hq : P.info? elem with
  | none => simp [hq] at hs
  | some i =>
    have hi : i.size = sz := by simpa [hq] using hs
    rw [hn] at hl
    simp [Builtin.copy_, run_underlying hu, Builtin.lenOf, Builtin.firstCells, sizeOf, typeInfo, hq, hi, hl, hst]

/-- copy(dst, src): the whole of a row of the same length -/
theorem RowTy.copy {ops : Array Oper} {rest : List Oper} {o : Oper} {a : Act} {w : World} {Q : Exit → Act → World → Prop} (hgd : o.guard = none) (d s : Operand) (sT : TypeId)
    (ho : o.op = .call { callee := .builtin .copy, args := #[d, s], argTypes := #[R.t, sT] })
    (base g n cap : Nat) (l m : List α) (xv : Value) (hd : a.eval d = .slice (some ⟨g, 0, none⟩) n cap) (hx : a.eval s = xv) (hn : l.length = n)
    (hown : R.Own base w (.slice (some ⟨g, 0, none⟩) n cap) l) (hm : R.V w xv m) (hlm : m.length = n) (hpos : 0 < n)
    (h : ∀ w', R.Own base w' (.slice (some ⟨g, 0, none⟩) n cap) m → w.grownBy w' (some g) → wpList P ops Q rest (a.put o.dst (goInt n)) w') : wpList P ops Q (o :: rest) a w := by
  subst hn
  obtain ⟨i0, z, hi, hz0, hz1, hz2, hz3⟩ := R.info
  obtain ⟨a', cap', rfl, h1, h2, h4, h5⟩ := hm
  obtain ⟨b, off, rfl, hlt, hc⟩ := h5 (by omega)
  obtain ⟨hl0, hown2⟩ := hown
  rcases hown2 with ⟨hv, _⟩ | ⟨g', cap2, cur, hv, hgb, hgg, hnc, hcm, hcs, htake⟩
  · cases hv
  · simp only [Value.slice.injEq, Option.some.injEq, Addr.mk.injEq, and_true, true_and] at hv
    obtain ⟨rfl, rfl⟩ := hv
    have hfl := flat_len R.hsz m
    have hmin : Nat.min m.length l.length = l.length := by rw [hlm]; exact Nat.min_self _
    have hfit : (R.flat m).length ≤ cur.size := by rw [hfl, hcs, hlm]; exact Nat.mul_le_mul_right _ hnc
    refine wpList_plain hgd fun K hK => ?_
    have hrun := run_copy_rowN (P := P) w R.t sT o.type R.e R.sz g l.length cap ⟨b, off, none⟩ m.length cap' cur R.e (R.flat m) R.ht (by rw [hi]; simp [hz1]) hgg (by rw [hfl, hmin, hlm])
      (R.cells (l := m) (n := m.length) (c := cap') ⟨_, _, rfl, h1, h2, h4, fun _ => ⟨b, off, rfl, hlt, hc⟩⟩) hfit (R.one_flat m)
    rw [hmin] at hrun
    unfold Oper.wp
    simp only [execOp, ho, resolve, invoke, builtin, Sem.run_bind, Sem.run_pure, Result.andThen_ok, List.map_toArray, List.map_cons, List.map_nil, hd, hx, hrun]
    refine hK _ _ (h _ ⟨?_, .inr ⟨g, cap, _, ?_, hgb, setRow_heap w g cur _ R.e _ hgg, ?_, hcm, ?_, ?_⟩⟩ ⟨rfl, rfl, rfl, by simp, fun k _ hk => setRow_other w g k _ (fun e => hk (by simp [e]))⟩)
    · exact hfl
    · rw [hlm]
    · rw [hlm]; exact hnc
    · simp only [List.size_toArray, List.length_append, List.length_drop, Array.length_toList]
      omega
    · rw [← hfl]
      exact List.take_left

/-- several stores one behind another -/
def setCells (w : World) (g : Nat) : Nat → List Value → World
  | _, [] => w
  | p, u :: us => setCells (w.setCell ⟨g, p, none⟩ u) g (p + 1) us

def setsFrom (xs : List Value) : Nat → List Value → List Value
  | _, [] => xs
  | p, u :: us => setsFrom (xs.set p u) (p + 1) us

theorem setsFrom_eq : ∀ (us xs : List Value) (p : Nat), p + us.length ≤ xs.length → setsFrom xs p us = xs.take p ++ (us ++ xs.drop (p + us.length))
  | [], xs, p, _ => by simp [setsFrom]
  | u :: us, xs, p, h => by
    simp only [List.length_cons] at h
    rw [setsFrom, setsFrom_eq us (xs.set p u) (p + 1) (by simp; omega)]
    rw [List.take_set, List.drop_set_of_lt (by omega), List.length_cons, show p + 1 + us.length = p + (us.length + 1) by omega]
    have hp : p < xs.length := by omega
    rw [List.take_succ_eq_append_getElem hp, List.set_append_right _ _ (by simp; omega)]
    simp [Nat.min_eq_left (Nat.le_of_lt hp)]

theorem own_sets {base e size g n cap : Nat} : ∀ (us : List Value) (w : World) (p : Nat) (xs : List Value), w.ownsRow base e size (.slice (some ⟨g, 0, none⟩) n cap) n xs →
    (setCells w g p us).ownsRow base e size (.slice (some ⟨g, 0, none⟩) n cap) n (setsFrom xs p us) ∧ w.grownBy (setCells w g p us) (some g)
  | [], w, p, xs, h => ⟨h, ⟨rfl, rfl, rfl, Nat.le_refl _, fun _ _ _ => rfl⟩⟩
  | u :: us, w, p, xs, h => by
    obtain ⟨h1, h2⟩ := h.stored p u
    obtain ⟨h3, h4⟩ := own_sets us _ (p + 1) _ h1
    exact ⟨h3, ⟨h4.os.trans h2.os, h4.tape.trans h2.tape, h4.output.trans h2.output, Nat.le_trans h2.size h4.size, fun i hi hn => (h4.block i (Nat.lt_of_lt_of_le hi h2.size) hn).trans (h2.block i hi hn)⟩⟩

theorem flat_take {sz : Nat} {enc : α → Array Value} (hsz : ∀ x, (enc x).size = sz) : ∀ (l : List α) (k : Nat), (l.flatMap fun x => (enc x).toList).take (k * sz) = (l.take k).flatMap fun x => (enc x).toList
  | [], k => by simp
  | y :: l, 0 => by simp
  | y :: l, k + 1 => by
    rw [List.flatMap_cons, List.take_succ_cons, List.flatMap_cons, List.take_append, Array.length_toList, hsz, List.take_of_length_le (by rw [Array.length_toList, hsz, Nat.succ_mul]; omega), show (k + 1) * sz - sz = k * sz by rw [Nat.succ_mul]; omega, flat_take hsz l k]

theorem flat_drop {sz : Nat} {enc : α → Array Value} (hsz : ∀ x, (enc x).size = sz) : ∀ (l : List α) (k : Nat), (l.flatMap fun x => (enc x).toList).drop (k * sz) = (l.drop k).flatMap fun x => (enc x).toList
  | [], k => by simp
  | y :: l, 0 => by simp
  | y :: l, k + 1 => by
    rw [List.flatMap_cons, List.drop_succ_cons, List.drop_append, Array.length_toList, hsz, List.drop_eq_nil_of_le (by rw [Array.length_toList, hsz, Nat.succ_mul]; omega), show (k + 1) * sz - sz = k * sz by rw [Nat.succ_mul]; omega, flat_drop hsz l k, List.nil_append]

/-- the store of a whole element -/
theorem RowTy.set {base : Nat} {w : World} {g n cap : Nat} {l : List α} (h : R.Own base w (.slice (some ⟨g, 0, none⟩) n cap) l) (hn : n = l.length) (k : Nat) (hk : k < l.length) (x : α) :
    R.Own base (setCells w g (k * R.sz) (R.enc x).toList) (.slice (some ⟨g, 0, none⟩) n cap) (l.set k x) ∧ w.grownBy (setCells w g (k * R.sz) (R.enc x).toList) (some g) := by
  subst hn
  obtain ⟨h1, h2⟩ := own_sets (R.enc x).toList w (k * R.sz) _ h
  refine ⟨?_, h2⟩
  show World.ownsRow _ _ _ _ _ (l.set k x).length _
  rw [List.length_set]
  have hfl := flat_len R.hsz l
  have hxl : (R.enc x).toList.length = R.sz := by rw [Array.length_toList, R.hsz]
  have hle : k * R.sz + R.sz ≤ l.length * R.sz := by rw [← Nat.succ_mul]; exact Nat.mul_le_mul_right _ hk
  rw [setsFrom_eq _ _ _ (by rw [hxl, hfl]; exact hle), hxl, flat_take R.hsz, ← Nat.succ_mul, flat_drop R.hsz] at h1
  rw [List.set_eq_take_append_cons_drop, if_pos hk, List.flatMap_append, List.flatMap_cons]
  exact h1
end
end Go.Proofs.Ytmigkmdhenkpmaa
