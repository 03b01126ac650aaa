/- slices.Clone at []int; strip.Push and its reference. -/
import Derived.Test.YtbopbmmalfobiaaStripA
namespace Go.Proofs.Ytbopbmmalfobiaa
open Go.RowKit

theorem infoInt : (Try.prog.info? 3).map (fun i => (i.zero, i.size, i.bytes)) = some (some (.int .i64 0), 1, 8) := by kernel_rfl

/-- the integers l lie in a row that the call owns (from block base on) -/
def OwnI (base : Nat) (w : World) (v : Value) (l : List Int) : Prop :=
  w.ownsRow base 3 1 v l.length (l.map (Value.int .i64)) ∧ (∀ n ∈ l, (Lit.int .i64 n).wf = true)

theorem OwnI.ints {base : Nat} {w : World} {v : Value} {l : List Int} (h : OwnI base w v l) : IntsV w v l := by
  obtain ⟨⟨hl, h1⟩, h2⟩ := h
  rcases h1 with ⟨rfl, h0⟩ | ⟨g, cap, cur, rfl, hg, hh, hn, hm, hs, ht⟩
  · obtain rfl : l = [] := List.eq_nil_of_length_eq_zero h0
    exact ⟨none, 0, rfl, Nat.le_refl _, by simp [maxLen], by simp, fun _ => rfl, fun h => by simp at h⟩
  · refine ⟨some ⟨g, 0, none⟩, cap, rfl, hn, hm, h2, (fun h => by cases h), fun _ => ⟨g, 0, rfl, lt_of_block hh, fun k hk => ?_⟩⟩
    have := congrArg (fun x => x[k]?) ht
    simp [hk, Nat.mul_one] at this
    simp [World.cell?, hh, hk, this]

theorem OwnI.below {base base' : Nat} {w : World} {v : Value} {l : List Int} (h : OwnI base w v l) (hb : base' ≤ base) : OwnI base' w v l := by
  obtain ⟨⟨hl, h1⟩, h2⟩ := h
  refine ⟨⟨hl, ?_⟩, h2⟩
  rcases h1 with h1 | ⟨g, cap, cur, rfl, hg, r⟩
  · exact .inl h1
  · exact .inr ⟨g, cap, cur, rfl, by omega, r⟩

theorem ints_news {w : World} {b off : Nat} {l : List Int} (h : ∀ k, k < l.length → w.cell? ⟨b, off + k, none⟩ = some (.int .i64 (l[k]?.getD 0))) :
    ∀ j u, (l.map (Value.int .i64))[j]? = some u → w.cell? ((⟨b, off, none⟩ : Addr).add j) = some u := by
  intro j u hu
  rw [List.getElem?_map] at hu
  rcases Nat.lt_or_ge j l.length with hj | hj
  · rw [Addr.add_lit, h j hj]
    simp [hj] at hu ⊢
    exact hu
  · simp [List.getElem?_eq_none hj] at hu

theorem one_ints (l : List Int) : ∀ u ∈ l.map (Value.int .i64), u.oneCell' = true := by
  intro u hu
  obtain ⟨n, _, rfl⟩ := List.mem_map.1 hu
  rfl

theorem OwnI.nil (base : Nat) (w : World) : OwnI base w (.slice none 0 0) [] := ⟨World.ownsRow_nil _ _ _ _, by simp⟩

theorem OwnI.made (w : World) (base : Nat) (hb : base ≤ w.heap.size) : OwnI base (w.alloc (.cells #[] 3)) (.slice (some ⟨w.heap.size, 0, none⟩) 0 0) [] :=
  ⟨World.ownsRow_made w #[] 0 hb (Nat.zero_le _) rfl, by simp⟩

theorem IntsV.alloc {w : World} {v : Value} {l : List Int} (h : IntsV w v l) (o : Obj) : IntsV (w.alloc o) v l := h.below ((Below.refl _ _).alloc (Nat.le_refl _) _)

/-- append(out, x...) where the call owns out and x is another slice that is not nil -/
theorem wpList_appendI {ops : Array Oper} {rest : List Oper} {o : Oper} {a : Act} {w : World} {Q : Exit → Act → World → Prop} (hgd : o.guard = none) (s x : Operand)
    (ho : o.op = .call { callee := .builtin .append, args := #[s, x], argTypes := #[22, 22] })
    (base : Nat) (v : Value) (l : List Int) (ad : Addr) (n cap : Nat) (m : List Int) (hs : a.eval s = v) (hx : a.eval x = .slice (some ad) n cap)
    (hown : OwnI base w v l) (hm : IntsV w (.slice (some ad) n cap) m) (hsz : (l.length + m.length) * 8 ≤ 140737488355328) (hbase : base ≤ w.heap.size)
    (h : ∀ v' w', OwnI base w' v' (l ++ m) → w.grownBy w' v.ownBlock → wpList Try.prog ops Q rest (a.put o.dst v') w') : wpList Try.prog ops Q (o :: rest) a w := by
  obtain ⟨i0, hi, hz0, hz1, hz2⟩ := info_parts infoInt
  obtain ⟨a', cap', hv, h1, h2, h3, h4, h5⟩ := hm
  cases hv
  refine wpList_append_own w hgd s x 22 ho base 3 i0 (.int .i64 0) 1 8 Try.underlying22 hi hz0 hz1 hz2 rfl (by decide) v l.length _ hs hown.1 ad m.length cap (m.map (Value.int .i64)) hx (by simp) ?_ (one_ints m) (by unfold maxLen; omega) (by omega) hbase ?_
  · rcases Nat.eq_zero_or_pos m.length with h0 | h0
    · have : m = [] := List.eq_nil_of_length_eq_zero h0
      subst this
      intro j u hj
      simp at hj
    · obtain ⟨b, off, hb, _, hc⟩ := h5 h0
      cases hb
      exact ints_news hc
  · intro v' w' hown' hg _
    refine h v' w' ⟨by simpa using hown', fun n hn => ?_⟩ hg
    rcases List.mem_append.1 hn with hn | hn
    · exact hown.2 n hn
    · exact h3 n hn

/-- append(out, x...) where the call owns out and x is any slice, nil too -/
theorem wpList_appendV {ops : Array Oper} {rest : List Oper} {o : Oper} {a : Act} {w : World} {Q : Exit → Act → World → Prop} (hgd : o.guard = none) (s x : Operand)
    (ho : o.op = .call { callee := .builtin .append, args := #[s, x], argTypes := #[22, 22] })
    (base : Nat) (v : Value) (l : List Int) (xv : Value) (m : List Int) (hs : a.eval s = v) (hx : a.eval x = xv)
    (hown : OwnI base w v l) (hm : IntsV w xv m) (hsz : (l.length + m.length) * 8 ≤ 140737488355328) (hbase : base ≤ w.heap.size)
    (h : ∀ v' w', OwnI base w' v' (l ++ m) → w.grownBy w' v.ownBlock → wpList Try.prog ops Q rest (a.put o.dst v') w') : wpList Try.prog ops Q (o :: rest) a w := by
  obtain ⟨a', cap', rfl, h1, h2, h3, h4, h5⟩ := hm
  cases a' with
  | some ad => exact wpList_appendI hgd s x ho base v l ad m.length cap' m hs hx hown ⟨_, _, rfl, h1, h2, h3, h4, h5⟩ hsz hbase h
  | none =>
    have hc0 := h4 rfl
    subst hc0
    have : m = [] := List.eq_nil_of_length_eq_zero (by omega)
    subst this
    obtain ⟨i0, hi, hz0, hz1, hz2⟩ := info_parts infoInt
    refine wpList_plain hgd fun K hK => ?_
    have hr := run_append_owned_none (P := Try.prog) w base 22 o.type 3 i0 1 Try.underlying22 hi v l.length _ hown.1
    unfold Oper.wp execOp
    simp only [ho, resolve, invoke, builtin, Sem.run_bind, Sem.run_pure, Result.andThen_ok, List.map_toArray, List.map_cons, List.map_nil, hs, hx, List.length_nil, hr]
    exact hK _ _ (h v w (by simpa using hown) ⟨rfl, rfl, rfl, Nat.le_refl _, fun _ _ _ => rfl⟩)

/-- append(out, x) of one number, boxed in the block that was laid last -/
theorem wpList_append1I {ops : Array Oper} {rest : List Oper} {o : Oper} {a : Act} {w : World} {Q : Exit → Act → World → Prop} (hgd : o.guard = none) (s x : Operand)
    (ho : o.op = .call { callee := .builtin .append, args := #[s, x], argTypes := #[22, 22] })
    (base : Nat) (v : Value) (l : List Int) (y : Int) (w0 : World) (hw : w = w0.alloc (.cells #[.int .i64 y] 3)) (hs : a.eval s = v) (hx : a.eval x = .slice (some ⟨w0.heap.size, 0, none⟩) 1 1)
    (hown : OwnI base w0 v l) (hy : (Lit.int .i64 y).wf = true) (hsz : (l.length + 1) * 8 ≤ 140737488355328) (hbase : base ≤ w0.heap.size)
    (h : ∀ v' w', OwnI base w' v' (l ++ [y]) → w.grownBy w' v.ownBlock → wpList Try.prog ops Q rest (a.put o.dst v') w') : wpList Try.prog ops Q (o :: rest) a w := by
  subst hw
  obtain ⟨i0, hi, hz0, hz1, hz2⟩ := info_parts infoInt
  refine wpList_append_own _ hgd s x 22 ho base 3 i0 (.int .i64 0) 1 8 Try.underlying22 hi hz0 hz1 hz2 rfl (by decide) v l.length _ hs (hown.1.alloc _) ⟨w0.heap.size, 0, none⟩ 1 1 [.int .i64 y] hx rfl (fun j u hj => ?_) (by simp [Value.oneCell']) (by unfold maxLen; omega) (by omega) (by simp; omega) ?_
  · match j, hj with
    | 0, hj => simp at hj; subst hj; simp [Addr.add]
    | j + 1, hj => simp at hj
  intro v' w' hown' hg _
  refine h v' w' ⟨by simpa using hown', fun n hn => ?_⟩ hg
  rcases List.mem_append.1 hn with hn | hn
  · exact hown.2 n hn
  · obtain rfl : n = y := by simpa using hn
    exact hy

theorem OwnI.zeros {base : Nat} {w : World} {v : Value} {n : Nat} (h : w.ownsRow base 3 1 v n (madeCells (Value.int .i64 0).cells (n * 1)).toList) : OwnI base w v (List.replicate n 0) := by
  refine ⟨?_, fun m hm => by rw [List.eq_of_mem_replicate hm]; decide⟩
  rw [Nat.mul_one, show (Value.int .i64 0).cells = #[Value.int .i64 0] from rfl, toList_madeCells_one] at h
  rw [List.length_replicate, List.map_replicate]
  exact h

/-- make([]int, n) -/
theorem wpList_makeI {ops : Array Oper} {rest : List Oper} {o : Oper} {a : Act} {w : World} {Q : Exit → Act → World → Prop} (hgd : o.guard = none) (lo co : Operand)
    (ho : o.op = .makeSlice 22 lo co) (base : Nat) (n : Nat) (hl : a.eval lo = .int .i64 n) (hc : a.eval co = .int .i64 n) (hsz : n * 8 ≤ 140737488355328) (hbase : base ≤ w.heap.size)
    (h : ∀ w', OwnI base w' (.slice (some ⟨w.heap.size, 0, none⟩) n n) (List.replicate n 0) → w.grownBy w' none → wpList Try.prog ops Q rest (a.put o.dst (.slice (some ⟨w.heap.size, 0, none⟩) n n)) w') : wpList Try.prog ops Q (o :: rest) a w := by
  obtain ⟨i0, hi, hz0, hz1, hz2⟩ := info_parts infoInt
  refine wpList_make_full _ hgd lo co 22 ho base 3 i0 (.int .i64 0) 1 Try.underlying22 hi hz0 hz1 .i64 .i64 _ _ n hl hc rfl rfl (by rw [hz2]; omega) (by unfold maxLen; omega) hbase ?_
  intro w' hown hg
  exact h w' (OwnI.zeros hown) hg

theorem below_made {w w1 : World} {T : TypeId} (hgrow : (w.alloc (.cells #[] T)).grownBy w1 (Value.ownBlock (.slice (some ⟨w.heap.size, 0, none⟩) 0 0))) : Below w.heap.size w w1 :=
  ((Below.refl _ _).alloc (Nat.le_refl _) _).grown hgrow (by simp) (by intro k hk; cases hk; exact Nat.le_refl _)

theorem Clone_any (v : Value) (l : List Int) (w : World) (hv : IntsV w v l) (hl : l.length * 8 ≤ 140737488355328) :
    Calls Try.prog 26 #[v] w fun e w' => ∃ v', e = .returned v' ∧ OwnI w.heap.size w' v' l ∧ Below w.heap.size w w' := by
  have hq := fun w a n c n' c' => Lib.run_eql_slice_nil (P := Try.prog) w 22 3 a n c n' c' Try.underlying22
  have hv' := hv
  obtain ⟨a, cap, rfl, h1, h2, h3, h4, h5⟩ := hv
  cases a with
  | none =>
    have hc0 := h4 rfl
    subst hc0
    have : l = [] := List.eq_nil_of_length_eq_zero (by omega)
    subst this
    go_enter Try.func26, Try.ntmps26
    go_wp2
    go_ret
    exact ⟨_, rfl, OwnI.nil _ _, Below.refl _ _⟩
  | some ad =>
    clear h5 h4
    go_enter Try.func26, Try.ntmps26
    go_wp2_with (at_builtin; refine wpList_appendI rfl _ _ rfl w.heap.size (.slice (some ⟨w.heap.size, 0, none⟩) 0 0) [] ad l.length cap l rfl rfl (OwnI.made w _ (Nat.le_refl _)) (hv'.alloc _) (by simp; omega) (by simp) ?_; intro v' w1 hown hgrow)
    go_ret
    exact ⟨_, rfl, hown, below_made hgrow⟩

theorem OwnI.set {base : Nat} {w : World} {g n cap : Nat} {l : List Int} (h : OwnI base w (.slice (some ⟨g, 0, none⟩) n cap) l) (j : Nat) (x : Int) (hx : (Lit.int .i64 x).wf = true) :
    OwnI base (w.setCell ⟨g, j, none⟩ (.int .i64 x)) (.slice (some ⟨g, 0, none⟩) n cap) (l.set j x) := by
  obtain ⟨h1, h2⟩ := h
  have hn : n = l.length := by
    rcases h1.2 with ⟨h, _⟩ | ⟨g', cap', cur, h, _⟩
    · cases h
    · cases h; rfl
  subst hn
  have := (h1.stored j (.int .i64 x)).1
  refine ⟨by rw [List.length_set, List.map_set]; exact this, fun m hm => ?_⟩
  rcases List.mem_or_eq_of_mem_set hm with hm | rfl
  · exact h2 m hm
  · exact hx

/-- a row that is owned: where it lies, and what its cells hold -/
theorem OwnI.open {base : Nat} {w : World} {v : Value} {l : List Int} (h : OwnI base w v l) (h0 : 0 < l.length) : ∃ g cap, v = .slice (some ⟨g, 0, none⟩) l.length cap ∧ base ≤ g ∧ g < w.heap.size ∧
    (∀ j, w.frozen? ⟨g, j, none⟩ = false) ∧ ∀ k, k < l.length → w.cell? ⟨g, k, none⟩ = some (.int .i64 (l[k]?.getD 0)) := by
  obtain ⟨h1, h2⟩ := h
  rcases h1.2 with ⟨_, h⟩ | ⟨g, cap, cur, rfl, hg, hh, r⟩
  · omega
  · refine ⟨g, cap, rfl, hg, lt_of_block hh, fun j => h1.frozenAt j, fun k hk => ?_⟩
    rw [h1.cellAt k (by omega)]
    simp [hk]

def pushF (l : List Int) (bag : Int) : Option (List Int) := if l = [] ∨ atF l 0 ≠ 0 ∨ bag = 0 then none else some (l.set 0 bag)

def PushPost (l : List Int) (bag : Int) (w : World) (e : Ending) (w' : World) : Prop :=
  Below w.heap.size w w' ∧ ∃ v ok, e = .returned (.tuple #[v, .bool ok]) ∧ ok = (pushF l bag).isSome ∧ IntsV w' v ((pushF l bag).getD [])

theorem Push_any (v : Value) (l : List Int) (bag : Int) (w : World) (hv : IntsV w v l) (hl : l.length * 8 ≤ 140737488355328) (hb : (Lit.int .i64 bag).wf = true) :
    Calls Try.prog 19 #[v, .int .i64 bag] w (PushPost l bag w) := by
  have CL := Clone_any v l w hv hl
  obtain ⟨a, c, rfl, la, _, ca⟩ := hv.open
  clear hv
  by_cases h0 : l = []
  · subst h0
    simp only [List.length_nil] at *
    go_enter Try.func19, Try.ntmps19
    go_wp2
    go_ret2
    exact ⟨Below.refl _ _, _, _, rfl, rfl, none, 0, rfl, Nat.le_refl _, by simp [maxLen], by simp [pushF], fun _ => rfl, fun h => by simp [pushF] at h⟩
  · have hpos : 0 < l.length := List.length_pos_iff.2 h0
    obtain ⟨b, o, rfl, hbs, cc⟩ := ca hpos
    have d := cc 0 hpos
    have hz : ((l.length : Int) == 0) = false := by simp [h0]
    clear ca cc
    simp only [Nat.add_zero] at d
    have ha : atF l 0 = l[0]?.getD 0 := rfl
    generalize l[0]?.getD 0 = x at *
    have HA := Lib.hid ha
    clear ha
    have H0 := Lib.hid h0
    clear h0
    by_cases hx : x = 0
    · by_cases hbag : bag = 0
      · subst hx
        subst hbag
        go_enter Try.func19, Try.ntmps19
        go_wp2
        go_ret2
        exact ⟨Below.refl _ _, _, _, rfl, by simp [pushF], none, 0, by simp [pushF], by simp [pushF], by simp [maxLen], by simp [pushF], fun _ => rfl, fun h => by simp [pushF] at h⟩
      · subst hx
        have gb : (bag == 0) = false := by simpa using hbag
        have HB := Lib.hid hbag
        clear hbag
        have hp : pushF l bag = some (l.set 0 bag) := by unfold pushF; rw [if_neg]; simp [H0.out, HA.out, HB.out]
        have HP := Lib.hid hp
        clear hp
        go_enter Try.func19, Try.ntmps19
        go_wp2_with (go_at_call 26; refine CL.mono ?_; rintro e w1 ⟨v1, rfl, hown, hB0⟩; obtain ⟨g, cap, rfl, hg1, hg2, hfr, hcell⟩ := hown.open hpos; have hc0 := hcell 0 hpos; have hf0 := hfr 0)
        go_ret2
        have hw := (hown.below (Nat.le_refl _)).set 0 bag hb
        refine ⟨hB0.trans (Below.setCell (Below.refl _ _) (by simpa using hg1) _), _, _, rfl, by rw [HP.out]; rfl, ?_⟩
        rw [HP.out]
        exact hw.ints
    · have gx : (x != 0) = true := by simpa using hx
      have gx2 : (x == 0) = false := by simpa using hx
      have HX := Lib.hid hx
      clear hx
      have hp : pushF l bag = none := by unfold pushF; rw [if_pos]; simp [H0.out, HA.out, HX.out]
      have HP := Lib.hid hp
      clear hp
      go_enter Try.func19, Try.ntmps19
      go_wp2
      go_ret2
      exact ⟨Below.refl _ _, _, _, rfl, by rw [HP.out]; rfl, none, 0, by rw [HP.out]; rfl, by rw [HP.out]; exact Nat.le_refl _, by simp [maxLen], by rw [HP.out]; simp, fun _ => rfl, fun h => by rw [HP.out] at h; simp at h⟩

theorem PushR_any (v : Value) (l : List Int) (bag : Int) (w : World) (hv : IntsV w v l) (hl : l.length * 8 ≤ 140737488355328) (hb : (Lit.int .i64 bag).wf = true) :
    Calls Try.prog 20 #[v, .int .i64 bag] w (PushPost l bag w) := by
  have hv' := hv
  obtain ⟨a, c, rfl, la, _, ca⟩ := hv.open
  clear hv
  by_cases h0 : l = []
  · subst h0
    simp only [List.length_nil] at *
    go_enter Try.func20, Try.ntmps20
    go_wp2
    go_ret2
    exact ⟨Below.refl _ _, _, _, rfl, rfl, none, 0, rfl, Nat.le_refl _, by simp [maxLen], by simp [pushF], fun _ => rfl, fun h => by simp [pushF] at h⟩
  · have hpos : 0 < l.length := List.length_pos_iff.2 h0
    obtain ⟨b, o, rfl, hbs, cc⟩ := ca hpos
    have d := cc 0 hpos
    have hz : ((l.length : Int) == 0) = false := by simp [h0]
    clear ca cc
    simp only [Nat.add_zero] at d
    have ha : atF l 0 = l[0]?.getD 0 := rfl
    generalize l[0]?.getD 0 = x at *
    have HA := Lib.hid ha
    clear ha
    have H0 := Lib.hid h0
    clear h0
    by_cases hx : x = 0
    · by_cases hbag : bag = 0
      · subst hx
        subst hbag
        go_enter Try.func20, Try.ntmps20
        go_wp2
        go_ret2
        exact ⟨Below.refl _ _, _, _, rfl, by simp [pushF], none, 0, by simp [pushF], by simp [pushF], by simp [maxLen], by simp [pushF], fun _ => rfl, fun h => by simp [pushF] at h⟩
      · subst hx
        have gb : (bag == 0) = false := by simpa using hbag
        have HB := Lib.hid hbag
        clear hbag
        have hp : pushF l bag = some (l.set 0 bag) := by unfold pushF; rw [if_neg]; simp [H0.out, HA.out, HB.out]
        have HP := Lib.hid hp
        clear hp
        go_enter Try.func20, Try.ntmps20
        go_wp2_with (at_builtin; refine wpList_appendI rfl _ _ rfl w.heap.size (.slice (some ⟨w.heap.size, 0, none⟩) 0 0) [] ⟨b, o, none⟩ l.length c l rfl rfl (OwnI.made w _ (Nat.le_refl _)) (hv'.alloc _) (by simp; omega) (by simp) ?_; intro v' w1 hown hgrow; have hB0 := below_made hgrow; obtain ⟨g, cap, rfl, hg1, hg2, hfr, hcell⟩ := hown.open hpos; have hc0 := hcell 0 hpos; have hf0 := hfr 0)
        go_ret2
        have hw := (hown.below (Nat.le_refl _)).set 0 bag hb
        refine ⟨hB0.trans (Below.setCell (Below.refl _ _) (by simpa using hg1) _), _, _, rfl, by rw [HP.out]; rfl, ?_⟩
        rw [HP.out]
        exact hw.ints
    · have gx : (x != 0) = true := by simpa using hx
      have gx2 : (x == 0) = false := by simpa using hx
      have HX := Lib.hid hx
      clear hx
      have hp : pushF l bag = none := by unfold pushF; rw [if_pos]; simp [H0.out, HA.out, HX.out]
      have HP := Lib.hid hp
      clear hp
      go_enter Try.func20, Try.ntmps20
      go_wp2
      go_ret2
      exact ⟨Below.refl _ _, _, _, rfl, by rw [HP.out]; rfl, none, 0, by rw [HP.out]; rfl, by rw [HP.out]; exact Nat.le_refl _, by simp [maxLen], by rw [HP.out]; simp, fun _ => rfl, fun h => by rw [HP.out] at h; simp at h⟩

end Go.Proofs.Ytbopbmmalfobiaa
