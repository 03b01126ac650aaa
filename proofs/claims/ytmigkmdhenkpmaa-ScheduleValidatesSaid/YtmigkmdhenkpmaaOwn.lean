/- Rows of integers that the call owns; laws for append and make over them. -/
import Derived.Test.YtmigkmdhenkpmaaProg
import Derived.Test.YtmigkmdhenkpmaaBase
namespace Go.Proofs.Ytmigkmdhenkpmaa
open Go.RowKit

theorem infoInt : (Try.prog.info? 3).map (fun i => (i.zero, i.size, i.bytes)) = some (some (.int .i64 0), 1, 8) := by kernel_rfl

/-- the integers l lie in a row that the call owns (from block base on) -/
def OwnI (base : Nat) (w : World) (v : Value) (l : List Int) : Prop :=
  w.ownsRow base 3 1 v l.length (l.map (Value.int .i64)) ∧ (∀ n ∈ l, (Lit.int .i64 n).wf = true)

theorem OwnI.ints {base : Nat} {w : World} {v : Value} {l : List Int} (h : OwnI base w v l) : IntsV w v l := by
  obtain ⟨⟨hl, h1⟩, h2⟩ := h
  rcases h1 with ⟨rfl, h0⟩ | ⟨g, cap, cur, rfl, hg, hh, hn, hm, hs, ht⟩
  · obtain rfl : l = [] := List.eq_nil_of_length_eq_zero h0
    exact ⟨none, 0, rfl, Nat.le_refl _, by simp [maxLen], by simp, fun _ => rfl, fun h => by simp at h⟩
  · refine ⟨some ⟨g, 0, none⟩, cap, rfl, hn, hm, h2, (fun h => by cases h), fun _ => ⟨g, 0, rfl, lt_of_block hh, fun k hk => ?_⟩⟩
    have := congrArg (fun x => x[k]?) ht
    simp [hk, Nat.mul_one] at this
    simp [World.cell?, hh, hk, this]

theorem OwnI.below {base base' : Nat} {w : World} {v : Value} {l : List Int} (h : OwnI base w v l) (hb : base' ≤ base) : OwnI base' w v l := by
  obtain ⟨⟨hl, h1⟩, h2⟩ := h
  refine ⟨⟨hl, ?_⟩, h2⟩
  rcases h1 with h1 | ⟨g, cap, cur, rfl, hg, r⟩
  · exact .inl h1
  · exact .inr ⟨g, cap, cur, rfl, by omega, r⟩

theorem ints_news {w : World} {b off : Nat} {l : List Int} (h : ∀ k, k < l.length → w.cell? ⟨b, off + k, none⟩ = some (.int .i64 (l[k]?.getD 0))) :
    ∀ j u, (l.map (Value.int .i64))[j]? = some u → w.cell? ((⟨b, off, none⟩ : Addr).add j) = some u := by
  intro j u hu
  rw [List.getElem?_map] at hu
  rcases Nat.lt_or_ge j l.length with hj | hj
  · rw [Addr.add_lit, h j hj]
    simp [hj] at hu ⊢
    exact hu
  · simp [List.getElem?_eq_none hj] at hu

theorem one_ints (l : List Int) : ∀ u ∈ l.map (Value.int .i64), u.oneCell' = true := by
  intro u hu
  obtain ⟨n, _, rfl⟩ := List.mem_map.1 hu
  rfl

theorem OwnI.nil (base : Nat) (w : World) : OwnI base w (.slice none 0 0) [] := ⟨World.ownsRow_nil _ _ _ _, by simp⟩

theorem OwnI.made (w : World) (base : Nat) (hb : base ≤ w.heap.size) : OwnI base (w.alloc (.cells #[] 3)) (.slice (some ⟨w.heap.size, 0, none⟩) 0 0) [] :=
  ⟨World.ownsRow_made w #[] 0 hb (Nat.zero_le _) rfl, by simp⟩

theorem IntsV.alloc {w : World} {v : Value} {l : List Int} (h : IntsV w v l) (o : Obj) : IntsV (w.alloc o) v l := h.below ((Below.refl _ _).alloc (Nat.le_refl _) _)

/-- append(out, x...) where the call owns out and x is another slice that is not nil -/
theorem wpList_appendI {ops : Array Oper} {rest : List Oper} {o : Oper} {a : Act} {w : World} {Q : Exit → Act → World → Prop} (hgd : o.guard = none) (s x : Operand)
    (ho : o.op = .call { callee := .builtin .append, args := #[s, x], argTypes := #[23, 23] })
    (base : Nat) (v : Value) (l : List Int) (ad : Addr) (n cap : Nat) (m : List Int) (hs : a.eval s = v) (hx : a.eval x = .slice (some ad) n cap)
    (hown : OwnI base w v l) (hm : IntsV w (.slice (some ad) n cap) m) (hsz : (l.length + m.length) * 8 ≤ 140737488355328) (hbase : base ≤ w.heap.size)
    (h : ∀ v' w', OwnI base w' v' (l ++ m) → w.grownBy w' v.ownBlock → wpList Try.prog ops Q rest (a.put o.dst v') w') : wpList Try.prog ops Q (o :: rest) a w := by
  obtain ⟨i0, hi, hz0, hz1, hz2⟩ := info_parts infoInt
  obtain ⟨a', cap', hv, h1, h2, h3, h4, h5⟩ := hm
  cases hv
  refine wpList_append_own w hgd s x 23 ho base 3 i0 (.int .i64 0) 1 8 Try.underlying23 hi hz0 hz1 hz2 rfl (by decide) v l.length _ hs hown.1 ad m.length cap (m.map (Value.int .i64)) hx (by simp) ?_ (one_ints m) (by unfold maxLen; omega) (by omega) hbase ?_
  · rcases Nat.eq_zero_or_pos m.length with h0 | h0
    · have : m = [] := List.eq_nil_of_length_eq_zero h0
      subst this
      intro j u hj
      simp at hj
    · obtain ⟨b, off, hb, _, hc⟩ := h5 h0
      cases hb
      exact ints_news hc
  · intro v' w' hown' hg _
    refine h v' w' ⟨by simpa using hown', fun n hn => ?_⟩ hg
    rcases List.mem_append.1 hn with hn | hn
    · exact hown.2 n hn
    · exact h3 n hn

/-- append(out, x...) where the call owns out and x is any slice, nil too -/
theorem wpList_appendV {ops : Array Oper} {rest : List Oper} {o : Oper} {a : Act} {w : World} {Q : Exit → Act → World → Prop} (hgd : o.guard = none) (s x : Operand)
    (ho : o.op = .call { callee := .builtin .append, args := #[s, x], argTypes := #[23, 23] })
    (base : Nat) (v : Value) (l : List Int) (xv : Value) (m : List Int) (hs : a.eval s = v) (hx : a.eval x = xv)
    (hown : OwnI base w v l) (hm : IntsV w xv m) (hsz : (l.length + m.length) * 8 ≤ 140737488355328) (hbase : base ≤ w.heap.size)
    (h : ∀ v' w', OwnI base w' v' (l ++ m) → w.grownBy w' v.ownBlock → wpList Try.prog ops Q rest (a.put o.dst v') w') : wpList Try.prog ops Q (o :: rest) a w := by
  obtain ⟨a', cap', rfl, h1, h2, h3, h4, h5⟩ := hm
  cases a' with
  | some ad => exact wpList_appendI hgd s x ho base v l ad m.length cap' m hs hx hown ⟨_, _, rfl, h1, h2, h3, h4, h5⟩ hsz hbase h
  | none =>
    have hc0 := h4 rfl
    subst hc0
    have : m = [] := List.eq_nil_of_length_eq_zero (by omega)
    subst this
    obtain ⟨i0, hi, hz0, hz1, hz2⟩ := info_parts infoInt
    refine wpList_plain hgd fun K hK => ?_
    have hr := run_append_owned_none (P := Try.prog) w base 23 o.type 3 i0 1 Try.underlying23 hi v l.length _ hown.1
    unfold Oper.wp execOp
    simp only [ho, resolve, invoke, builtin, Sem.run_bind, Sem.run_pure, Result.andThen_ok, List.map_toArray, List.map_cons, List.map_nil, hs, hx, List.length_nil, hr]
    exact hK _ _ (h v w (by simpa using hown) ⟨rfl, rfl, rfl, Nat.le_refl _, fun _ _ _ => rfl⟩)

/-- append(out, x) of one number, boxed in the block that was laid last -/
theorem wpList_append1I {ops : Array Oper} {rest : List Oper} {o : Oper} {a : Act} {w : World} {Q : Exit → Act → World → Prop} (hgd : o.guard = none) (s x : Operand)
    (ho : o.op = .call { callee := .builtin .append, args := #[s, x], argTypes := #[23, 23] })
    (base : Nat) (v : Value) (l : List Int) (y : Int) (w0 : World) (hw : w = w0.alloc (.cells #[.int .i64 y] 3)) (hs : a.eval s = v) (hx : a.eval x = .slice (some ⟨w0.heap.size, 0, none⟩) 1 1)
    (hown : OwnI base w0 v l) (hy : (Lit.int .i64 y).wf = true) (hsz : (l.length + 1) * 8 ≤ 140737488355328) (hbase : base ≤ w0.heap.size)
    (h : ∀ v' w', OwnI base w' v' (l ++ [y]) → w.grownBy w' v.ownBlock → wpList Try.prog ops Q rest (a.put o.dst v') w') : wpList Try.prog ops Q (o :: rest) a w := by
  subst hw
  obtain ⟨i0, hi, hz0, hz1, hz2⟩ := info_parts infoInt
  refine wpList_append_own _ hgd s x 23 ho base 3 i0 (.int .i64 0) 1 8 Try.underlying23 hi hz0 hz1 hz2 rfl (by decide) v l.length _ hs (hown.1.alloc _) ⟨w0.heap.size, 0, none⟩ 1 1 [.int .i64 y] hx rfl (fun j u hj => ?_) (by simp [Value.oneCell']) (by unfold maxLen; omega) (by omega) (by simp; omega) ?_
  · match j, hj with
    | 0, hj => simp at hj; subst hj; simp [Addr.add]
    | j + 1, hj => simp at hj
  intro v' w' hown' hg _
  refine h v' w' ⟨by simpa using hown', fun n hn => ?_⟩ hg
  rcases List.mem_append.1 hn with hn | hn
  · exact hown.2 n hn
  · obtain rfl : n = y := by simpa using hn
    exact hy

theorem OwnI.zeros {base : Nat} {w : World} {v : Value} {n : Nat} (h : w.ownsRow base 3 1 v n (madeCells (Value.int .i64 0).cells (n * 1)).toList) : OwnI base w v (List.replicate n 0) := by
  refine ⟨?_, fun m hm => by rw [List.eq_of_mem_replicate hm]; decide⟩
  rw [Nat.mul_one, show (Value.int .i64 0).cells = #[Value.int .i64 0] from rfl, toList_madeCells_one] at h
  rw [List.length_replicate, List.map_replicate]
  exact h

/-- make([]int, n) -/
theorem wpList_makeI {ops : Array Oper} {rest : List Oper} {o : Oper} {a : Act} {w : World} {Q : Exit → Act → World → Prop} (hgd : o.guard = none) (lo co : Operand)
    (ho : o.op = .makeSlice 23 lo co) (base : Nat) (n : Nat) (hl : a.eval lo = .int .i64 n) (hc : a.eval co = .int .i64 n) (hsz : n * 8 ≤ 140737488355328) (hbase : base ≤ w.heap.size)
    (h : ∀ w', OwnI base w' (.slice (some ⟨w.heap.size, 0, none⟩) n n) (List.replicate n 0) → w.grownBy w' none → wpList Try.prog ops Q rest (a.put o.dst (.slice (some ⟨w.heap.size, 0, none⟩) n n)) w') : wpList Try.prog ops Q (o :: rest) a w := by
  obtain ⟨i0, hi, hz0, hz1, hz2⟩ := info_parts infoInt
  refine wpList_make_full _ hgd lo co 23 ho base 3 i0 (.int .i64 0) 1 Try.underlying23 hi hz0 hz1 .i64 .i64 _ _ n hl hc rfl rfl (by rw [hz2]; omega) (by unfold maxLen; omega) hbase ?_
  intro w' hown hg
  exact h w' (OwnI.zeros hown) hg

theorem below_made {w w1 : World} {T : TypeId} (hgrow : (w.alloc (.cells #[] T)).grownBy w1 (Value.ownBlock (.slice (some ⟨w.heap.size, 0, none⟩) 0 0))) : Below w.heap.size w w1 :=
  ((Below.refl _ _).alloc (Nat.le_refl _) _).grown hgrow (by simp) (by intro k hk; cases hk; exact Nat.le_refl _)

theorem OwnI.set {base : Nat} {w : World} {g n cap : Nat} {l : List Int} (h : OwnI base w (.slice (some ⟨g, 0, none⟩) n cap) l) (j : Nat) (x : Int) (hx : (Lit.int .i64 x).wf = true) :
    OwnI base (w.setCell ⟨g, j, none⟩ (.int .i64 x)) (.slice (some ⟨g, 0, none⟩) n cap) (l.set j x) := by
  obtain ⟨h1, h2⟩ := h
  have hn : n = l.length := by
    rcases h1.2 with ⟨h, _⟩ | ⟨g', cap', cur, h, _⟩
    · cases h
    · cases h; rfl
  subst hn
  have := (h1.stored j (.int .i64 x)).1
  refine ⟨by rw [List.length_set, List.map_set]; exact this, fun m hm => ?_⟩
  rcases List.mem_or_eq_of_mem_set hm with hm | rfl
  · exact h2 m hm
  · exact hx

/-- a row that is owned: where it lies, and what its cells hold -/
theorem OwnI.open {base : Nat} {w : World} {v : Value} {l : List Int} (h : OwnI base w v l) (h0 : 0 < l.length) : ∃ g cap, v = .slice (some ⟨g, 0, none⟩) l.length cap ∧ base ≤ g ∧ g < w.heap.size ∧
    (∀ j, w.frozen? ⟨g, j, none⟩ = false) ∧ ∀ k, k < l.length → w.cell? ⟨g, k, none⟩ = some (.int .i64 (l[k]?.getD 0)) := by
  obtain ⟨h1, h2⟩ := h
  rcases h1.2 with ⟨_, h⟩ | ⟨g, cap, cur, rfl, hg, hh, r⟩
  · omega
  · refine ⟨g, cap, rfl, hg, lt_of_block hh, fun j => h1.frozenAt j, fun k hk => ?_⟩
    rw [h1.cellAt k (by omega)]
    simp [hk]

theorem below_none {w w1 : World} (hgrow : w.grownBy w1 none) : Below w.heap.size w w1 := (Below.refl _ _).grown hgrow (Nat.le_refl _) (by intro k hk; cases hk)

theorem OwnI.drew {base : Nat} {w : World} {v : Value} {l : List Int} (h : OwnI base w v l) : OwnI base w.drew v l := h
theorem OwnI.draws {base : Nat} {w : World} {v : Value} {l : List Int} (h : OwnI base w v l) (n : Nat) : OwnI base (w.drewN n) v l := h

theorem ints_lit {w : World} {T : TypeId} (cs : Array Value) (l : List Int) (n : Nat) (hn : n = l.length) (hcs : cs.toList = l.map (Value.int .i64)) (hw : ∀ n ∈ l, (Lit.int .i64 n).wf = true) (hl : l.length ≤ maxLen) :
    IntsV (w.alloc (.cells cs T)) (.slice (some ⟨w.heap.size, 0, none⟩) n n) l := by
  subst hn
  refine ⟨_, _, rfl, Nat.le_refl _, hl, hw, (fun h => by cases h), fun _ => ⟨w.heap.size, 0, rfl, by simp, fun k hk => ?_⟩⟩
  rw [World.cell?_alloc_new]
  rw [Nat.zero_add, ← Array.getElem?_toList, hcs]
  simp [hk]

theorem OwnI.other {base : Nat} {w w' : World} {v : Value} {l : List Int} (h : OwnI base w v l) {row : Option Nat} (hg : w.grownBy w' row) (hne : v.ownBlock = none ∨ v.ownBlock ≠ row) : OwnI base w' v l :=
  ⟨h.1.kept hg hne, h.2⟩

theorem small_wf (x : Int) (h1 : -1000000 ≤ x) (h2 : x ≤ 1000000) : (Lit.int .i64 x).wf = true := by
  simp only [Lit.wf, Bool.and_eq_true, decide_eq_true_eq]
  exact ⟨Int.le_trans (by decide) h1, Int.le_trans h2 (by decide)⟩

theorem OwnI.cellF {base : Nat} {w : World} {g n cap : Nat} {l : List Int} (h : OwnI base w (.slice (some ⟨g, 0, none⟩) n cap) l) (k : Nat) (hk : k < l.length) :
    (∃ z, w.cell? ⟨g, k, none⟩ = some (.int .i64 z)) ∧ w.frozen? ⟨g, k, none⟩ = false := by
  obtain ⟨g', cap', hv, _, _, hf, hc⟩ := h.open (by omega)
  cases hv
  exact ⟨⟨_, hc k hk⟩, hf k⟩

theorem OwnI.blkge {base : Nat} {w : World} {g n cap : Nat} {l : List Int} (h : OwnI base w (.slice (some ⟨g, 0, none⟩) n cap) l) : base ≤ g := (h.1.lt g rfl).1

theorem OwnI.blk {base : Nat} {w : World} {g n cap : Nat} {l : List Int} (h : OwnI base w (.slice (some ⟨g, 0, none⟩) n cap) l) : g < w.heap.size := (h.1.lt g rfl).2

theorem own_app {B : Nat} {w0 w w1 : World} {v : Value} {l : List Int} {o : Obj} (hO : OwnI B w v l) (hB : Below B w0 w) (hBs : B ≤ w.heap.size) (hg : (w.alloc o).grownBy w1 v.ownBlock) : Below B w0 w1 :=
  (hB.alloc hBs _).grown hg (by simp; omega) (fun k hk => (hO.1.lt k hk).1)

theorem ints_nil (w : World) : IntsV w (.slice none 0 0) [] := ⟨none, 0, rfl, Nat.le_refl _, by simp [maxLen], by simp, fun _ => rfl, fun h => by simp at h⟩

theorem OwnI.keep {base : Nat} {w w' : World} {v : Value} {l : List Int} (h : OwnI base w v l) (hB : Below w.heap.size w w') : OwnI base w' v l :=
  h.other (row := none) ⟨hB.os, hB.tape, hB.output, hB.size, fun k hk _ => hB.block k hk⟩ (by
    rcases hv : v.ownBlock with _ | g
    · exact .inl rfl
    · exact .inr (by simp))

/-- two owned rows, the one made after the other, lie apart -/
theorem own_apart {B B' : Nat} {w w' : World} {v v' : Value} {l l' : List Int} (h : OwnI B w v l) (h' : OwnI B' w' v' l') (hB : w.heap.size ≤ B') : ∀ b, v'.ownBlock = some b → v.ownBlock ≠ some b := by
  intro b hb hb2
  have h1 := (h.1.lt b hb2).2
  have h2 := (h'.1.lt b hb).1
  omega

theorem own_lit1 (y : Int) (w : World) (hy : (Lit.int .i64 y).wf = true) : OwnI w.heap.size (w.alloc (.cells #[.int .i64 y] 3)) (.slice (some ⟨w.heap.size, 0, none⟩) 1 1) [y] :=
  ⟨World.ownsRow_lit w #[.int .i64 y] 1 (Nat.le_refl _) (by simp [maxLen]) rfl, fun n hn => (List.mem_singleton.1 hn) ▸ hy⟩

theorem IntsV.other {w w' : World} {v : Value} {l : List Int} (h : IntsV w v l) {row : Option Nat} (hg : w.grownBy w' row) (hne : 0 < l.length → ∀ b, v.ownBlock = some b → row ≠ some b) : IntsV w' v l := by
  obtain ⟨a, cap, rfl, h1, h2, h3, h4, h5⟩ := h
  refine ⟨a, cap, rfl, h1, h2, h3, h4, fun hl => ?_⟩
  obtain ⟨b, off, rfl, hlt, hc⟩ := h5 hl
  refine ⟨b, off, rfl, by have := hg.size; omega, fun k hk => ?_⟩
  exact hg.cell (hc k hk) (fun e => hne hl b rfl e.symm)

theorem grownBy_trans {a b c : World} {row : Option Nat} (h : a.grownBy b row) (k : b.grownBy c row) : a.grownBy c row :=
  ⟨k.os.trans h.os, k.tape.trans h.tape, k.output.trans h.output, Nat.le_trans h.size k.size, fun i hi hn => (k.block i (Nat.lt_of_lt_of_le hi h.size) hn).trans (h.block i hi hn)⟩

theorem grownBy_refl (w : World) (row : Option Nat) : w.grownBy w row := ⟨rfl, rfl, rfl, Nat.le_refl _, fun _ _ _ => rfl⟩

theorem grownBy_draws {a b : World} {row : Option Nat} (h : a.grownBy b row) (n : Nat) : a.grownBy (b.drewN n) row := ⟨h.os, h.tape, h.output, h.size, h.block⟩

theorem grownBy_set (w : World) (b j : Nat) (u : Value) : w.grownBy (w.setCell ⟨b, j, none⟩ u) (some b) :=
  ⟨rfl, rfl, rfl, by simp [World.setCell], fun k _ hk => Below.heap_setCell _ _ _ _ (fun e => hk (by rw [e]))⟩

theorem grownBy_below {w w' : World} {row : Option Nat} (h : Below w.heap.size w w') : w.grownBy w' row := ⟨h.os, h.tape, h.output, h.size, fun k hk _ => h.block k hk⟩

theorem below_grown {B : Nat} {a w w' : World} {b : Nat} (h : Below B a w) (hg : w.grownBy w' (some b)) (hB : B ≤ w.heap.size) (hb : B ≤ b) : Below B a w' :=
  h.grown hg hB (by intro k hk; cases hk; exact hb)

theorem IntsV.draws {w : World} {v : Value} {l : List Int} (h : IntsV w v l) (n : Nat) : IntsV (w.drewN n) v l := h

theorem quiet_eq {P : Program} {f : FuncId} {args : Array Value} {w : World} {n : Nat} {v : Value}
    (h : Calls P f args (w.drewN n) fun e w' => e = .returned v ∧ w.drewN n = w') : Calls P f args (w.drewN n) fun e w'' => e = .returned v ∧ ∃ m, w'' = w.drewN m :=
  h.mono fun _ _ ⟨he, hm⟩ => ⟨he, n, hm.symm⟩

end Go.Proofs.Ytmigkmdhenkpmaa
