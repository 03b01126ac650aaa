/- Law ScheduleDeparts returns true for every input. -/
import Derived.Test.YtmigkmdhenkpmaaSpo
import Derived.Test.YtmigkmdhenkpmaaLawScT
import Derived.Deep.RegionHeld3
import Derived.Deep.RegionHeldLaw
import Derived.Deep.AppendLies
namespace Go.Proofs.Ytmigkmdhenkpmaa
open Go.RowKit

theorem held_alloc {w : World} {b o : Nat} {v : Value} {x : Obj} (hb : b < w.heap.size) (e : w.cell? ⟨b, o, none⟩ = some v) : (w.alloc x).cell? ⟨b, o, none⟩ = some v := cell_keep ((Below.refl _ _).alloc (Nat.le_refl _) x) hb e

theorem held_set {w : World} {b o q j : Nat} {u v : Value} (hb : b ≠ q) (e : w.cell? ⟨b, o, none⟩ = some v) : (w.setCell ⟨q, j, none⟩ u).cell? ⟨b, o, none⟩ = some v :=
  (grownBy_set w q j u).cell e (by simp; omega)

theorem flt0_at {w : World} {g : Nat} {t : TypeId} {f : Flt} (h : w.heap[g]? = some (.cells f.cells t (0, 0))) :
    w.cell? ⟨g, 0, none⟩ = some (.string f.car) ∧ w.cell? ⟨g, 1, none⟩ = some (.int .i64 f.num) ∧ w.cell? ⟨g, 2, none⟩ = some (.string f.suf) ∧ w.cell? ⟨g, 3, none⟩ = some (.int .i64 f.day) :=
  ⟨cell_of h rfl, cell_of h rfl, cell_of h rfl, cell_of h rfl⟩

theorem rfl_size (w : World) (g : Nat) (f : Flt) : (setCells w g 0 f.cells.toList).heap.size = w.heap.size := by
  show (setCells w g 0 [_, _, _, _]).heap.size = _
  simp only [setCells, size_set]

/-- a flight lies in block qb, the times in a row of the call's own -/
structure FT (B0 b B1 : Nat) (W wz : World) (r : List Int) (qb : Nat) (tv : Value) (f : Flt) (ts : List Int) : Prop where
  blk : wz.heap[qb]? = some (.cells f.cells 25 (0, 0))
  own : OwnI B1 wz tv ts
  src : SrcR B0 wz b r
  grow : W.grownBy wz (some b)
  ne : tv.ownBlock ≠ some qb
  nb : qb ≠ b
  ge : B1 ≤ qb
  hb : b < W.heap.size
  hw : W.heap.size ≤ B1

theorem FT.one {B0 b B1 : Nat} {W w : World} {r : List Int} (f : Flt) (x y : Int) (hx : wfI x) (hy : wfI y) (hs : SrcR B0 w b r) (hg : W.grownBy w (some b)) (hB : B1 ≤ w.heap.size) (hb : b < W.heap.size) (hw : W.heap.size ≤ B1) :
    FT B0 b B1 W ((w.alloc (.cells #[.int .i64 x, .int .i64 y] 3)).alloc (.cells f.cells 25)) r (w.heap.size + 1) (.slice (some ⟨w.heap.size, 0, none⟩) 2 2) f [x, y] where
  blk := by rw [← size_new w (.cells #[.int .i64 x, .int .i64 y] 3)]; exact heap_alloc_new _ _
  own := ((own_lit2 x y w hx hy).below hB).keep ((Below.refl _ _).alloc (Nat.le_refl _) _)
  src := (hs.below ((Below.refl _ _).alloc (Nat.le_refl _) _)).below ((Below.refl _ _).alloc (Nat.le_refl _) _)
  grow := grownBy_trans hg (grownBy_trans (World.grownBy_alloc _ _ _) (World.grownBy_alloc _ _ _))
  ne := by simp [Value.ownBlock]
  nb := by omega
  ge := by omega
  hb := hb
  hw := hw

theorem FT.two {B0 b B1 : Nat} {W w : World} {r : List Int} (f : Flt) (x y : Int) (hx : wfI x) (hy : wfI y) (hs : SrcR B0 w b r) (hg : W.grownBy w (some b)) (hB : B1 ≤ w.heap.size) (hb : b < W.heap.size) (hw : W.heap.size ≤ B1) :
    FT B0 b B1 W ((w.alloc (.cells f.cells 25)).alloc (.cells #[.int .i64 x, .int .i64 y] 3)) r w.heap.size (.slice (some ⟨w.heap.size + 1, 0, none⟩) 2 2) f [x, y] where
  blk := (((Below.refl _ (w.alloc (.cells f.cells 25))).alloc (Nat.le_refl _) _).block _ (lt_of_block (heap_alloc_new _ _))).trans (heap_alloc_new _ _)
  own := by
    have h := own_lit2 x y (w.alloc (.cells f.cells 25)) hx hy
    have hz := size_new w (.cells f.cells 25)
    have h' := h.below (show B1 ≤ _ by omega)
    rwa [hz] at h'
  src := (hs.below ((Below.refl _ _).alloc (Nat.le_refl _) _)).below ((Below.refl _ _).alloc (Nat.le_refl _) _)
  grow := grownBy_trans hg (grownBy_trans (World.grownBy_alloc _ _ _) (World.grownBy_alloc _ _ _))
  ne := by simp [Value.ownBlock]
  nb := by omega
  ge := hB
  hb := hb
  hw := hw

theorem FT.three {B0 b B1 : Nat} {W w : World} {r : List Int} {qb : Nat} (f : Flt) {g : Flt} (x y : Int) (hx : wfI x) (hy : wfI y) (hk : w.heap[qb]? = some (.cells g.cells 25 (0, 0))) (hs : SrcR B0 w b r) (hg : W.grownBy w (some b)) (hq : B1 ≤ qb) (hb : b < W.heap.size) (hw : W.heap.size ≤ B1) (hge : B0 ≤ B1) :
    FT B0 b B1 W ((setCells w qb 0 f.cells.toList).alloc (.cells #[.int .i64 x, .int .i64 y] 3)) r qb (.slice (some ⟨w.heap.size, 0, none⟩) 2 2) f [x, y] := by
  obtain ⟨h1, h2⟩ := store_all (y := f.cells) hk rfl (by show 0 < 4; omega) rfl
  have hql := lt_of_block hk
  have hz : (setCells w qb 0 f.cells.toList).heap.size = w.heap.size := rfl_size w qb f
  refine ⟨(((Below.refl _ _).alloc (Nat.le_refl _) _).block _ (lt_of_block h1)).trans h1, ?_, (hs.other h2 (fun q hq' => by cases hq'; exact ⟨by omega, by omega⟩)).below ((Below.refl _ _).alloc (Nat.le_refl _) _), grownBy_trans (grownBy_new hg h2 (fun q hq' => by cases hq'; omega)) (World.grownBy_alloc _ _ _), ?_, by omega, hq, hb, hw⟩
  · have h := own_lit2 x y (setCells w qb 0 f.cells.toList) hx hy
    have h' := h.below (show B1 ≤ _ by rw [hz]; omega)
    rwa [hz] at h'
  · simp only [Value.ownBlock, ne_eq, Option.some.injEq]
    omega

section
variable {B0 b B1 : Nat} {W w : World} {r : List Int} (c : ByteArray) (n : Int) (s : ByteArray) (d : Int) (x y : Int)
theorem FT.one' (hx : wfI x) (hy : wfI y) (hs : SrcR B0 w b r) (hg : W.grownBy w (some b)) (hB : B1 ≤ w.heap.size) (hb : b < W.heap.size) (hw : W.heap.size ≤ B1) :
    ∃ qb, Value.pointer (some ⟨w.heap.size + 1, 0, none⟩) = .pointer (some ⟨qb, 0, none⟩) ∧ FT B0 b B1 W ((w.alloc (.cells #[.int .i64 x, .int .i64 y] 3)).alloc (.cells #[.string c, .int .i64 n, .string s, .int .i64 d] 25)) r qb (.slice (some ⟨w.heap.size, 0, none⟩) 2 2) ⟨c, n, s, d⟩ [x, y] :=
  ⟨_, rfl, FT.one ⟨c, n, s, d⟩ x y hx hy hs hg hB hb hw⟩
theorem FT.two' (hx : wfI x) (hy : wfI y) (hs : SrcR B0 w b r) (hg : W.grownBy w (some b)) (hB : B1 ≤ w.heap.size) (hb : b < W.heap.size) (hw : W.heap.size ≤ B1) :
    ∃ qb, Value.pointer (some ⟨w.heap.size, 0, none⟩) = .pointer (some ⟨qb, 0, none⟩) ∧ FT B0 b B1 W ((w.alloc (.cells #[.string c, .int .i64 n, .string s, .int .i64 d] 25)).alloc (.cells #[.int .i64 x, .int .i64 y] 3)) r qb (.slice (some ⟨w.heap.size + 1, 0, none⟩) 2 2) ⟨c, n, s, d⟩ [x, y] :=
  ⟨_, rfl, FT.two ⟨c, n, s, d⟩ x y hx hy hs hg hB hb hw⟩
theorem FT.three' (hx : wfI x) (hy : wfI y) (hs : SrcR B0 w b r) (hg : W.grownBy w (some b)) {q : Nat} {g : Flt} (hk : w.heap[q]? = some (.cells g.cells 25 (0, 0))) (hq : B1 ≤ q) (hb : b < W.heap.size) (hw : W.heap.size ≤ B1) (hge : B0 ≤ B1) :
    ∃ qb, Value.pointer (some ⟨q, 0, none⟩) = .pointer (some ⟨qb, 0, none⟩) ∧ FT B0 b B1 W (((((w.setCell ⟨q, 0, none⟩ (.string c)).setCell ⟨q, 1, none⟩ (.int .i64 n)).setCell ⟨q, 2, none⟩ (.string s)).setCell ⟨q, 3, none⟩ (.int .i64 d)).alloc (.cells #[.int .i64 x, .int .i64 y] 3)) r qb (.slice (some ⟨w.heap.size, 0, none⟩) 2 2) ⟨c, n, s, d⟩ [x, y] :=
  ⟨_, rfl, FT.three ⟨c, n, s, d⟩ x y hx hy hk hs hg hq hb hw hge⟩
end

theorem FT.drew {B0 b B1 : Nat} {W wz : World} {r : List Int} {qb : Nat} {tv : Value} {f : Flt} {ts : List Int} (h : FT B0 b B1 W wz r qb tv f ts) : FT B0 b B1 W wz.drew r qb tv f ts :=
  ⟨h.blk, h.own.drew, h.src.below (below_drewN (Below.refl _ _) 1), grownBy_trans h.grow (grownBy_below (below_drewN (Below.refl _ _) 1)), h.ne, h.nb, h.ge, h.hb, h.hw⟩

theorem FT.setF {B0 b B1 : Nat} {W wz : World} {r : List Int} {qb : Nat} {tv : Value} {f : Flt} {ts : List Int} (h : FT B0 b B1 W wz r qb tv f ts) (hge : B0 ≤ b) (f' : Flt) : FT B0 b B1 W (setCells wz qb 0 f'.cells.toList) r qb tv f' ts := by
  obtain ⟨h1, h2⟩ := store_all (y := f'.cells) h.blk rfl (by show 0 < 4; omega) rfl
  have h3 := h.ge
  have h4 := h.hb
  have h5 := h.hw
  exact ⟨h1, h.own.other h2 (.inr h.ne), h.src.other h2 (fun q hq => by cases hq; exact ⟨by omega, by omega⟩), grownBy_new h.grow h2 (fun q hq => by cases hq; omega), h.ne, h.nb, h.ge, h.hb, h.hw⟩

theorem FT.app {B0 b B1 : Nat} {W wz wA : World} {r : List Int} {qb g n c : Nat} {tv : Value} {f : Flt} {ts ts' : List Int} (h : FT B0 b B1 W wz r qb tv f ts) (hge : B0 ≤ b) {o : Obj} (hO : OwnI B1 wA (.slice (some ⟨g, 0, none⟩) n c) ts') (hg : (wz.alloc o).grownBy wA tv.ownBlock) (hat : tv.ownBlock = some g ∨ g = wz.heap.size + 1) : FT B0 b B1 W wA r qb (.slice (some ⟨g, 0, none⟩) n c) f ts' := by
  have h3 := h.ge
  have h4 := h.hb
  have h5 := h.hw
  have hq := lt_of_block h.blk
  have hgl : ∀ q, tv.ownBlock = some q → B1 ≤ q := fun q hq => (h.own.1.lt q hq).1
  have hAl : Below wz.heap.size wz (wz.alloc o) := (Below.refl _ _).alloc (Nat.le_refl _) _
  have hne := h.ne
  refine ⟨(hg.block qb (by rw [size_new]; omega) (fun e => hne e.symm)).trans ((hAl.block qb hq).trans h.blk), hO, (h.src.below hAl).other hg (fun q hq => by have := hgl q hq; exact ⟨by omega, by omega⟩), grownBy_new (grownBy_trans h.grow (grownBy_below hAl)) hg (fun q hq => by have := hgl q hq; omega), ?_, h.nb, h.ge, h.hb, h.hw⟩
  simp only [Value.ownBlock, ne_eq, Option.some.injEq]
  rintro rfl
  rcases hat with hat | hat
  · exact hne hat
  · omega

/-- append(out, x...) of integers, as a step of a region that draws its order; and where the new row lies -/
theorem step_appendJ {ops : Array Oper} {o : Oper} {a : Act} {w : World} {K : Act → World → Prop} {Q : Exit → Act → World → Prop} {E : Prop} (hgd : o.guard = none) (s x : Operand)
    (ho : o.op = .call { callee := .builtin .append, args := #[s, x], argTypes := #[23, 23] })
    (base : Nat) (v : Value) (l : List Int) (ad : Addr) (n cap : Nat) (m : List Int) (hs : a.eval s = v) (hx : a.eval x = .slice (some ad) n cap)
    (hown : OwnI base w v l) (hm : IntsV w (.slice (some ad) n cap) m) (h0 : 0 < m.length) (hsz : (l.length + m.length) * 8 ≤ 140737488355328) (hbase : base ≤ w.heap.size)
    (h : ∀ g c' w', OwnI base w' (.slice (some ⟨g, 0, none⟩) (l.length + m.length) c') (l ++ m) → w.grownBy w' v.ownBlock → (v.ownBlock = some g ∨ g = w.heap.size) → K (a.put o.dst (.slice (some ⟨g, 0, none⟩) (l.length + m.length) c')) w') : if Region.wanted o (yielded ops a.tmps) = true then Oper.wp Try.prog o a w K Q else E := by
  obtain ⟨i0, hi, hz0, hz1, hz2⟩ := info_parts infoInt
  obtain ⟨a', cap', hv, h1, h2, h3, h4, h5⟩ := hm
  cases hv
  refine step_append_lies w hgd s x 23 ho base 3 i0 (.int .i64 0) 1 8 Try.underlying23 hi hz0 hz1 hz2 rfl (by decide) v l.length _ hs hown.1 ad m.length cap (m.map (Value.int .i64)) hx (by simp) ?_ (one_ints m) h0 (by unfold maxLen; omega) (by omega) hbase _ rfl ?_
  · obtain ⟨b, off, hb, _, hc⟩ := h5 h0
    cases hb
    exact ints_news hc
  · intro g c' w' hown' hg hat _
    refine h g c' w' ⟨by simpa using hown', fun n hn => ?_⟩ hg hat
    rcases List.mem_append.1 hn with hn | hn
    · exact hown.2 n hn
    · exact h3 n hn

set_option maxHeartbeats 4000000 in
set_option maxRecDepth 100000 in
theorem ScheduleDeparts_any (vr u : Value) (raw : List Dep) (l : List Int) (rf : Flt) (now : Int) (w : World) (hr : DepsV w vr raw) (hwf : ∀ x ∈ raw, DepWf x) (hu : IntsV w u l) (hnow : (Lit.int .i64 now).wf = true) :
    Calls Try.prog 9 #[vr, u, .agg rf.cells, .int .i64 now] w fun e w' => e = .returned (.bool true) ∧ Below w.heap.size w w' := by
  obtain ⟨a0, c0, rfl, _⟩ := hu.open
  obtain ⟨ar, cr, rfl, _⟩ := hr.open
  have NW := fun w0 hB => New_any _ l w0 (IntsV.below hu hB)
  obtain ⟨rc, rn, rs, rd⟩ := rf
  simp only [Flt.cells]
  go_enter Try.func9, Try.ntmps9
  go_wp2_with (first
    | (go_at_call 11; refine (NW _ ((Below.refl _ _).alloc (Nat.le_refl _) _)).mono ?_; rintro e w1 ⟨b, rfl, hs1, hB1⟩; have hbw := hs1.lt)
    | (go_at_call 12; refine (Schedule_any _ b 12 _ w1 (by omega) hs1).mono ?_; rintro e w2 ⟨v2, ls, r2, rfl, hO2, hl10, hv0, hs2, hg2⟩; have hB2 := below_grown hB1 hg2 hB1.size hs1.ge; have hV2 : DepsV w2 v2 ls := OwnR.rows DepT.hsz hO2; obtain ⟨a2, c2, rfl, la2, _, _⟩ := hV2.open)
    | (go_at_call 13; refine (few_any _ raw w2 ((hr.below ((Below.refl _ _).alloc (Nat.le_refl _) _)).below hB2)).mono ?_; rintro e w3 ⟨v3, rfl, hf3, n3, rfl⟩; obtain ⟨fs, hfs⟩ : ∃ fs, fs = raw.take 30 := ⟨_, rfl⟩; have hf4 := hf3 w hr; rw [← hfs] at hf4; have HFS := Lib.hid hfs; clear hfs hf3; obtain ⟨a3, c3, rfl, la3, _, _⟩ := hf4.open)
    | (go_at_call 14; refine (Spoilt_any _ b r2 _ ls (w2.drewN n3) (hs2.below (below_drewN (Below.refl _ _) n3)) (RowV.below hV2 (below_drewN (Below.refl _ _) n3)) (by omega) (fun x hx => valid_wf (vErr_all ls none hv0 x hx))).mono ?_; rintro e w4 ⟨v4, xs, r4, rfl, hO4, hl30, hwx, hs4, hg4⟩; have hV4 : DepsV w4 v4 xs := OwnR.rows DepT.hsz hO4; obtain ⟨a4, c4, rfl, la4, _, _⟩ := hV4.open))
  have hBa : Below w.heap.size w (w.alloc (.cells (⟨rc, rn, rs, rd⟩ : Flt).cells 25)) := (Below.refl _ _).alloc (Nat.le_refl _) _
  have hsA := size_new w (.cells (⟨rc, rn, rs, rd⟩ : Flt).cells 25)
  have hc0 : ∀ j u, (⟨rc, rn, rs, rd⟩ : Flt).cells[j]? = some u → (w.alloc (.cells (⟨rc, rn, rs, rd⟩ : Flt).cells 25)).cell? ⟨w.heap.size, j, none⟩ = some u := fun j u hu => cell_of (heap_alloc_new _ _) hu
  have hge := hs1.ge
  have hB2' : Below (w.alloc (.cells (⟨rc, rn, rs, rd⟩ : Flt).cells 25)).heap.size (w.alloc (.cells (⟨rc, rn, rs, rd⟩ : Flt).cells 25)) w2 := hB2
  have hge' : (w.alloc (.cells (⟨rc, rn, rs, rd⟩ : Flt).cells 25)).heap.size ≤ b := hge
  have hs4' : SrcR (w.alloc (.cells (⟨rc, rn, rs, rd⟩ : Flt).cells 25)).heap.size w4 b r4 := hs4
  generalize w.alloc (.cells (⟨rc, rn, rs, rd⟩ : Flt).cells 25) = wa at *
  have hB3 := below_drewN hB2' n3
  have hB4 := below_grown hB3 hg4 hB3.size hge'
  have hBw4 := hBa.trans (hB4.mono hBa.size)
  have hc4 : ∀ j u, (⟨rc, rn, rs, rd⟩ : Flt).cells[j]? = some u → w4.cell? ⟨w.heap.size, j, none⟩ = some u := fun j u hu => cell_keep hB4 (by omega) (hc0 j u hu)
  have hF4 : DepsN b w4 (.slice a3 fs.length c3) fs := (DepsN.old hf4 (hBa.trans (hB3.mono hBa.size)) (by omega)).grown hg4
  have hbw2 : b < w2.heap.size := hs2.lt
  have hG4 : DepsN b w4 (.slice a2 ls.length c2) ls := ((DepsN.own hO2 hbw).below (below_drewN (Below.refl _ _) n3)).grown hg4
  have hH4 : DepsN b w4 (.slice a4 xs.length c4) xs := DepsN.own hO4 hbw2
  have hF30 : fs.length ≤ 30 := by rw [HFS.out, List.length_take]; omega
  have hrb : w.heap.size ≠ b := by omega
  have HWF := Lib.hid (And.intro (show ∀ x ∈ fs, DepWf x from fun x hx => hwf x (List.mem_of_mem_take (HFS.out ▸ hx))) (And.intro (show ∀ x ∈ ls, DepWf x from fun x hx => valid_wf (vErr_all ls none hv0 x hx)) hwx))
  have hB0 : w.heap.size ≤ wa.heap.size := by omega
  generalize hW5 : w4.alloc _ = W5
  obtain ⟨hq, hBW, hsW⟩ := one_box _ _ _ _ hW5
  have HF := Lib.hid (hF4.below hBW)
  have HG := Lib.hid (hG4.below hBW)
  have HH := Lib.hid (hH4.below hBW)
  have hs5 := hs4'.below hBW
  have HB5 := Lib.hid (hBw4.trans (hBW.mono hBw4.size))
  have HC := Lib.hid (fun (j : Nat) (u : Value) (hu : (⟨rc, rn, rs, rd⟩ : Flt).cells[j]? = some u) => cell_keep hBW (by have := hBw4.size; have := hB4.size; omega) (hc4 j u hu))
  have q0 := hq 0 _ rfl
  have q1 := hq 1 _ rfl
  have q2 := hq 2 _ rfl
  simp only [List.getElem_toArray, List.getElem_cons_zero, List.getElem_cons_succ] at q0 q1 q2
  have hnb : w4.heap.size ≠ b := by have := hs4'.lt; omega
  have HQ := Lib.hid (And.intro q0 (And.intro q1 q2))
  clear q0 q1 q2 hq hBW hsW hF4 hG4 hH4 hc4 hc0 hB4 hB3 hBw4 hB2 hB2' hs1 hs2 hs4 hs4' hg2 hg4 hBa hB1 hO2 hO4 hV2 hV4 hf4 hv0 NW hr hu hwx hwf HFS hW5
  generalize w4.heap.size = nb at *
  generalize hrbe : w.heap.size = rb at *
  generalize wa.heap.size = B0 at *
  go_loopw [34] (fun i wr => ∃ (k : Nat) (r : List Int), k ≤ 3 ∧ i = .int .i64 k ∧ SrcR B0 wr b r ∧ W5.grownBy wr (some b)) (fun i _ => 3 - (intOf i).toNat)
  case atStart => exact ⟨0, r4, by omega, rfl, hs5, grownBy_refl _ _⟩
  case round =>
    clear hs5
    obtain ⟨k, r, hk, rfl, hs, hg⟩ := hrel
    by_cases hk3 : k < 3
    · have hkb : decide ((k : Int) < 3) = true := decide_eq_true (by omega)
      obtain ⟨ax, cx, X, hX, hXwf, hX30, hXc⟩ : ∃ ax cx X, DepsN b wr (.slice ax X.length cx) X ∧ (∀ x ∈ X, DepWf x) ∧ X.length ≤ 30 ∧ wr.cell? ⟨nb, k, none⟩ = some (.slice ax X.length cx) := by
        rcases (by omega : k = 0 ∨ k = 1 ∨ k = 2) with rfl | rfl | rfl
        · exact ⟨a3, c3, fs, HF.out.grown hg, HWF.out.1, hF30, hg.cell HQ.out.1 (by simp; exact hnb)⟩
        · exact ⟨a2, c2, ls, HG.out.grown hg, HWF.out.2.1, by omega, hg.cell HQ.out.2.1 (by simp; exact hnb)⟩
        · exact ⟨a4, c4, xs, HH.out.grown hg, HWF.out.2.2, by omega, hg.cell HQ.out.2.2 (by simp; exact hnb)⟩
      have gc := fun j u hu => hg.cell (HC.out j u hu) (by simp; exact hrb)
      have g0 := gc 0 _ rfl
      have g1 := gc 1 _ rfl
      have g2 := gc 2 _ rfl
      have g3 := gc 3 _ rfl
      have hrl : rb < wr.heap.size := World.block_lt_of_cell? wr _ g0
      simp only [Flt.cells, List.getElem_toArray, List.getElem_cons_zero, List.getElem_cons_succ] at g0 g1 g2 g3
      have HX := Lib.hid hX
      have HXwf := Lib.hid hXwf
      have HG' := Lib.hid hg
      clear gc hX hXwf hg HF HG HH
      have HBX := Lib.hid hs.lt
      have HG0 := Lib.hid (And.intro g0 (And.intro g1 (And.intro g2 g3)))
      clear g0 g1 g2 g3
      go_wp2
      generalize hwr : wr = wx at *
      clear hwr
      go_loopw [13] (fun v wq => ∃ (i : Nat) (r' : List Int), i ≤ X.length + 1 ∧ v = .int .i64 i ∧ SrcR B0 wq b r' ∧ wx.grownBy wq (some b)) (fun v _ => X.length + 1 - (intOf v).toNat)
      case atStart => exact ⟨0, r, by omega, rfl, hs, grownBy_refl _ _⟩
      case round =>
        clear hs
        obtain ⟨i, r', hi, rfl, hs, hg⟩ := hrel
        by_cases hi1 : i ≤ X.length
        · have hib : decide ((i : Int) ≤ (X.length : Int)) = true := decide_eq_true (by omega)
          have g0 := hg.cell HG0.out.1 (by simp; exact hrb)
          have g1 := hg.cell HG0.out.2.1 (by simp; exact hrb)
          have g2 := hg.cell HG0.out.2.2.1 (by simp; exact hrb)
          have g3 := hg.cell HG0.out.2.2.2 (by simp; exact hrb)
          have HXi := Lib.hid (HX.out.grown hg)
          have HGi := Lib.hid hg
          have HSi := Lib.hid hs
          have HSd : Hid (SrcR B0 wr.drew b r') := Lib.hid (hs.below (below_drewN (Below.refl _ _) 1))
          have hbr := hs.lt
          have hk0 := heap_alloc_new wr (.cells #[.string ⟨#[]⟩, .int .i64 0, .string ⟨#[]⟩, .int .i64 0] 25)
          have hsk := lt_of_block hk0
          have HK0 := Lib.hid hk0
          have HSK := Lib.hid hsk
          clear hk0 hsk
          have m60 := modF_bd (r'.headD 0) 60 (by omega)
          have QN := Lib.hid (fun w' h' => N_any B0 b r' 60 w' h' (by omega))
          generalize modF (r'.headD 0) 60 = n60 at *
          clear hg hs
          have hrl' : rb < wr.heap.size := World.block_lt_of_cell? wr _ g0
          go_upto_region 9 with (fail)
          have hb1 : b < wx.heap.size := HBX.out
          have hgw : wx.heap.size ≤ wr.heap.size := HGi.out.size
          go_cut [14, 15] from 38 to 107 (fun pp tt wz => ∃ (qb : Nat), pp = .pointer (some ⟨qb, 0, none⟩) ∧ FT B0 b wr.heap.size wx wz r'.tail qb tt ⟨rc, rn, rs, rd⟩ [now, n60])
          case first =>
            have HGD : Hid (wr.grownBy (World.drew wr) (some b)) := Lib.hid (grownBy_below (below_drewN (Below.refl _ _) 1))
            have HGE : Hid (wr.grownBy (World.drew (World.alloc wr (Obj.cells #[Value.string ⟨#[]⟩, Value.int .i64 0, Value.string ⟨#[]⟩, Value.int .i64 0] 25))) (some b)) := Lib.hid (grownBy_trans (World.grownBy_alloc _ _ _) (grownBy_below (below_drewN (Below.refl _ _) 1)))
            have hnow' : wfI now := hnow
            have hn60 : wfI n60 := wfI_of (by omega) (by omega)
            have d0 : (World.drew wr).cell? ⟨rb, 0, none⟩ = some (.string rc) := g0
            have e0 : (World.drew (World.alloc wr (Obj.cells #[Value.string ⟨#[]⟩, Value.int .i64 0, Value.string ⟨#[]⟩, Value.int .i64 0] 25))).cell? ⟨rb, 0, none⟩ = some (.string rc) := held_alloc hrl' g0
            have d1 : (World.drew wr).cell? ⟨rb, 1, none⟩ = some (.int .i64 rn) := g1
            have e1 : (World.drew (World.alloc wr (Obj.cells #[Value.string ⟨#[]⟩, Value.int .i64 0, Value.string ⟨#[]⟩, Value.int .i64 0] 25))).cell? ⟨rb, 1, none⟩ = some (.int .i64 rn) := held_alloc hrl' g1
            have d2 : (World.drew wr).cell? ⟨rb, 2, none⟩ = some (.string rs) := g2
            have e2 : (World.drew (World.alloc wr (Obj.cells #[Value.string ⟨#[]⟩, Value.int .i64 0, Value.string ⟨#[]⟩, Value.int .i64 0] 25))).cell? ⟨rb, 2, none⟩ = some (.string rs) := held_alloc hrl' g2
            have d3 : (World.drew wr).cell? ⟨rb, 3, none⟩ = some (.int .i64 rd) := g3
            have e3 : (World.drew (World.alloc wr (Obj.cells #[Value.string ⟨#[]⟩, Value.int .i64 0, Value.string ⟨#[]⟩, Value.int .i64 0] 25))).cell? ⟨rb, 3, none⟩ = some (.int .i64 rd) := held_alloc hrl' g3
            have HSe : Hid (SrcR B0 (World.drew (World.alloc wr (Obj.cells #[Value.string ⟨#[]⟩, Value.int .i64 0, Value.string ⟨#[]⟩, Value.int .i64 0] 25))) b r') := Lib.hid ((HSi.out.below ((Below.refl _ _).alloc (Nat.le_refl _) _)).below (below_drewN (Below.refl _ _) 1))
            go_region_held3 (fun w' => w'.cell? ⟨rb, 0, none⟩ = some (.string rc) ∧ w'.cell? ⟨rb, 1, none⟩ = some (.int .i64 rn) ∧ w'.cell? ⟨rb, 2, none⟩ = some (.string rs) ∧ w'.cell? ⟨rb, 3, none⟩ = some (.int .i64 rd)) (first | with_reducible exact ⟨d0, d1, d2, d3⟩ | with_reducible exact ⟨e0, e1, e2, e3⟩ | with_reducible exact ⟨y0, y1, y2, y3⟩ | ((try dsimp only); refine ⟨?_, ?_, ?_, ?_⟩ <;> (repeat (first | with_reducible assumption | (with_reducible refine held_set (by omega) ?_) | (with_reducible refine held_alloc (by first | with_reducible assumption | (simp only [size_new, size_set]; omega)) ?_))))) (first
              | (go_at_call 21; refine (QN.out _ (by first | with_reducible exact HSd.out | with_reducible exact HSe.out)).mono ?_; rintro e w7 ⟨rfl, hs7, hg7⟩; have hgx7 : wx.grownBy w7 (some b) := grownBy_trans HGi.out (by first | with_reducible exact grownBy_trans HGD.out hg7 | with_reducible exact grownBy_trans HGE.out hg7); have hwl7 : wr.heap.size ≤ w7.heap.size := Nat.le_trans (by first | with_reducible exact HGD.out.size | with_reducible exact HGE.out.size) hg7.size; have y0 := hg7.cell (show World.cell? _ ⟨rb, 0, none⟩ = some (.string rc) by first | with_reducible exact d0 | with_reducible exact e0) (by simp; exact hrb); have y1 := hg7.cell (show World.cell? _ ⟨rb, 1, none⟩ = some (.int .i64 rn) by first | with_reducible exact d1 | with_reducible exact e1) (by simp; exact hrb); have y2 := hg7.cell (show World.cell? _ ⟨rb, 2, none⟩ = some (.string rs) by first | with_reducible exact d2 | with_reducible exact e2) (by simp; exact hrb); have y3 := hg7.cell (show World.cell? _ ⟨rb, 3, none⟩ = some (.int .i64 rd) by first | with_reducible exact d3 | with_reducible exact e3) (by simp; exact hrb); (first | (guard_hyp hg7 : World.grownBy (World.drew (World.alloc wr (Obj.cells #[Value.string ⟨#[]⟩, Value.int .i64 0, Value.string ⟨#[]⟩, Value.int .i64 0] 25))) w7 (some b); have hk7 : w7.heap[wr.heap.size]? = some (.cells #[.string ⟨#[]⟩, .int .i64 0, .string ⟨#[]⟩, .int .i64 0] 25 (0, 0)) := (hg7.block wr.heap.size HSK.out (by simp; omega)).trans HK0.out; have k0 := cell_of hk7 (i := 0) rfl; have k1 := cell_of hk7 (i := 1) rfl; have k2 := cell_of hk7 (i := 2) rfl; have k3 := cell_of hk7 (i := 3) rfl; have z0 := frozen_of_row _ _ 0 _ _ hk7; have z1 := frozen_of_row _ _ 1 _ _ hk7; have z2 := frozen_of_row _ _ 2 _ _ hk7; have z3 := frozen_of_row _ _ 3 _ _ hk7; have hq7 := lt_of_block hk7) | skip); have hl7 : rb < w7.heap.size := World.block_lt_of_cell? w7 _ y0))
            all_goals go_wp2
            all_goals go_meet
            all_goals first
              | with_reducible exact FT.one' rc rn rs rd now n60 hnow' hn60 hs7 hgx7 hwl7 hb1 hgw
              | with_reducible exact FT.two' rc rn rs rd now n60 hnow' hn60 hs7 hgx7 hwl7 hb1 hgw
              | exact FT.three' rc rn rs rd now n60 hnow' hn60 hs7 hgx7 (g := ⟨⟨#[]⟩, 0, ⟨#[]⟩, 0⟩) hk7 (Nat.le_refl _) hb1 hgw (by omega)
          case rest =>
            obtain ⟨qb, rfl, hF⟩ := hcut
            generalize wr.heap.size = B1 at *
            clear HK0 HSK HSd QN HSi g0 g1 g2 g3 HXi HGi hbr hrl' hgw m60
            obtain ⟨gt, ct, rfl, hgt, -, -⟩ := hF.own.open (by simp)
            have HF := Lib.hid hF
            clear hF
            generalize r'.tail = r8 at *
            go_upto_if 52 with (fail)
            go_cut [15] from 38 to 107 (fun tt wz => ∃ (f : Flt) (ts : List Int), 2 ≤ ts.length ∧ ts.length ≤ 4 ∧ FT B0 b B1 wx wz r8 qb tt f ts)
            case first =>
              by_cases hiX : i < X.length
              · have hiI : decide ((i : Int) < (X.length : Int)) = true := decide_eq_true (by omega)
                have hki : (i : Int) < (X.length : Int) := by omega
                obtain ⟨x, hx, -⟩ := drop_at hiX
                obtain ⟨_, _, e1, _, _, cX⟩ := (HX.out.grown HF.out.grow).1.open
                simp only [Value.slice.injEq] at e1
                obtain ⟨rfl, -, rfl⟩ := e1
                obtain ⟨bx, ox, rfl, hbx, ccX⟩ := cX (by omega)
                have hbxb := HX.out.2 (by omega) bx ox _ _ rfl
                obtain ⟨_, _, e2, _, _, cX2⟩ := HX.out.1.open
                simp only [Value.slice.injEq] at e2
                obtain ⟨rfl, -, rfl⟩ := e2
                obtain ⟨bx', ox', e3, hbxw, -⟩ := cX2 (by omega)
                simp only [Option.some.injEq, Addr.mk.injEq, and_true] at e3
                obtain ⟨rfl, rfl⟩ := e3
                have hwB := HF.out.hw
                have hqB := HF.out.ge
                have hbq : bx ≠ qb := by omega
                have hbg : bx ≠ gt := by omega
                obtain ⟨g0, g1, g2, g3, g4, g5, g6, g7, g8, g9⟩ := dep_at (ccX i x hx)
                obtain ⟨p0, p1, p2, p3⟩ := flt0_at HF.out.blk
                have z0 := frozen_of_row _ _ 0 _ _ HF.out.blk
                have z1 := frozen_of_row _ _ 1 _ _ HF.out.blk
                have z2 := frozen_of_row _ _ 2 _ _ HF.out.blk
                have z3 := frozen_of_row _ _ 3 _ _ HF.out.blk
                have hwx' := HXwf.out x (List.mem_of_getElem? hx)
                have HWX := Lib.hid hwx'
                clear cX cX2 ccX hx hwx'
                obtain ⟨⟨c2, n2, s2, d2⟩, p, op, cl, le, st, sa⟩ := x
                simp only at g0 g1 g2 g3 g4 g5 g6 g7 g8 g9
                go_upto_region 12 with (fail)
                have hS0 := HF.out.setF hge' ⟨c2, n2, s2, d2⟩
                have hgS := (store_all (y := (⟨c2, n2, s2, d2⟩ : Flt).cells) HF.out.blk rfl (by show 0 < 4; omega) rfl).2
                generalize hwS : World.setCell _ _ _ = wS
                have hS : FT B0 b B1 wx wS r8 qb (.slice (some ⟨gt, 0, none⟩) 2 ct) ⟨c2, n2, s2, d2⟩ [now, n60] := by rw [← hwS]; exact hS0
                have hgS' : wc.grownBy wS (some qb) := by rw [← hwS]; exact hgS
                have k6 := hgS'.cell g6 (by simp; exact hbq)
                have hbxS : bx < wS.heap.size := World.block_lt_of_cell? wS _ k6
                have HSS := Lib.hid hS
                clear hS0 hgS hwS hS hgS' g0 g1 g2 g3 g4 g5 g6 g7 g8 g9 p0 p1 p2 p3 z0 z1 z2 z3 HF
                have hwl : ∀ n ∈ [cl, IntKind.i64.wrap (cl - cl.tmod 2)], (Lit.int .i64 n).wf = true := by
                  intro n hn
                  simp only [List.mem_cons, List.not_mem_nil, or_false] at hn
                  rcases hn with rfl | rfl
                  · exact HWX.out.2.2.1
                  · exact wf_wrap _ _
                have HWL := Lib.hid hwl
                have hsd : B1 ≤ wS.heap.size := by have := HSS.out.grow.size; have := lt_of_block HSS.out.blk; omega
                clear hwl
                go_region_held_law (fun w' => w'.cell? ⟨bx, ox + i * 10 + 6, none⟩ = some (.int .i64 cl)) (first | exact k6 | exact held_alloc hbxS k6 | exact z6)
                  (((refine step_appendJ rfl _ _ rfl B1 (.slice (some ⟨gt, 0, none⟩) 2 ct) [now, n60] _ _ _ [cl, IntKind.i64.wrap (cl - cl.tmod 2)] rfl rfl (HSS.out.drew.own.keep ((Below.refl _ _).alloc (Nat.le_refl _) _)) (ints_lit _ _ _ rfl rfl HWL.out (by simp [maxLen])) (by simp) (by simp) (by show B1 ≤ (wS.alloc _).heap.size; rw [size_new]; exact Nat.le_succ_of_le hsd) ?_); intro gA cA wA hOA hgA hat; have z6 := hgA.cell (held_alloc hbxS k6) (by simp [Value.ownBlock]; omega)))
                go_simp
                go_wp2
                go_meet
                case rel => exact ⟨_, _, by simp, by simp, HSS.out.drew.app hge' hOA hgA (hat.imp_right (fun e => e.trans (size_new wS _)))⟩
              · have hiI : decide ((i : Int) < (X.length : Int)) = false := decide_eq_false (by omega)
                go_wp2
                go_meet
                case rel => exact ⟨_, _, by simp, by simp, HF.out⟩
            case rest =>
              obtain ⟨f, ts, ht2, ht4, hF⟩ := hcut
              obtain ⟨gt', ct', rfl, -, hgs, -, hct⟩ := hF.own.open (by omega)
              have HCT := Lib.hid (And.intro hgs hct)
              have hqs := lt_of_block hF.blk
              obtain ⟨p0, p1, p2, p3⟩ := flt0_at hF.blk
              have HP := Lib.hid (And.intro p0 (And.intro p1 (And.intro p2 p3)))
              have HXc := Lib.hid (HX.out.grown hF.grow)
              have HSr := Lib.hid (And.intro hF.src hF.grow)
              have AP := Lib.hid (fun v t w' h => Depart_any v X f t w' h)
              have RP := Lib.hid (fun v t w' h => RDepart_any v X f t w' h)
              obtain ⟨fc, fn, fS, fd⟩ := f
              clear hF hgs hct p0 p1 p2 p3 HF
              go_wp2
              go_loopw [80] (fun v wq => ∃ j : Nat, j ≤ ts.length ∧ v = .int .i64 j ∧ Below wc.heap.size wc wq) (fun v _ => ts.length - (intOf v).toNat)
              case atStart => exact ⟨0, Nat.zero_le _, rfl, Below.refl _ _⟩
              case round =>
                obtain ⟨j, hj, rfl, hBj⟩ := hrel
                by_cases hjt : j < ts.length
                · have hcj := cell_keep hBj HCT.out.1 (HCT.out.2 j hjt)
                  have hji : (j : Int) < (ts.length : Int) := by omega
                  generalize ts[j]?.getD 0 = t at *
                  have x0 := cell_keep hBj hqs HP.out.1
                  have x1 := cell_keep hBj hqs HP.out.2.1
                  have x2 := cell_keep hBj hqs HP.out.2.2.1
                  have x3 := cell_keep hBj hqs HP.out.2.2.2
                  have hqb' := Nat.lt_of_lt_of_le hqs hBj.size
                  have HXj := Lib.hid (HXc.out.below hBj)
                  have HBj := Lib.hid hBj
                  have A1 := Lib.hid (AP.out (.slice ax X.length cx) t)
                  have A2 := Lib.hid (RP.out (.slice ax X.length cx) t)
                  clear hBj
                  obtain ⟨c, L, hcL⟩ : ∃ c L, departF X ⟨fc, fn, fS, fd⟩ t = (c, L) := ⟨_, _, rfl⟩
                  rw [hcL] at A1 A2
                  clear hcL
                  go_wp2_with (first
                    | (go_at_call 33; refine (A1.out _ HXj.out.1).mono ?_; rintro e v8 ⟨v, rfl, hO8, hC8⟩; have w0 := cell_keep hC8 hqb' x0; have w1 := cell_keep hC8 hqb' x1; have w2 := cell_keep hC8 hqb' x2; have w3 := cell_keep hC8 hqb' x3; obtain ⟨a8, c8, rfl, _, _, _⟩ := (OwnR.rows DepT.hsz hO8).open)
                    | (go_at_call 34; refine (A2.out v8 (HXj.out.below hC8).1).mono ?_; rintro e v9 ⟨v', rfl, hO9, hC9⟩; obtain ⟨a9, c9, rfl, _, _, _⟩ := (OwnR.rows DepT.hsz hO9).open)
                    | (go_at_call 24; refine (Same_same _ _ L v9 (RowV.below (OwnR.rows DepT.hsz hO8) hC9) (OwnR.rows DepT.hsz hO9)).mono ?_; rintro e v10 ⟨rfl, n10, rfl⟩))
                  go_roundw
                  case rel => exact ⟨j + 1, by omega, by go_num, below_drewN (HBj.out.trans ((hC8.trans (hC9.mono hC8.size)).mono HBj.out.size)) n10⟩
                  case measure => simp [intOf]; omega
                · obtain rfl : j = ts.length := by omega
                  go_wp2
                  go_roundw
                  case rel => exact ⟨i + 1, r8, by omega, by go_num, HSr.out.1.below hBj, grownBy_trans HSr.out.2 (grownBy_below (row := some b) hBj)⟩
                  case measure => simp [intOf]; omega
        · obtain rfl : i = X.length + 1 := by omega
          have hib : decide (((X.length + 1 : Nat) : Int) ≤ (X.length : Int)) = false := decide_eq_false (by omega)
          go_wp2
          go_roundw
          case rel => exact ⟨k + 1, r', by omega, by go_num, hs, grownBy_trans HG'.out hg⟩
          case measure => simp [intOf]; omega
    · obtain rfl : k = 3 := by omega
      have hkb : decide (((3 : Nat) : Int) < 3) = false := by decide
      have hBr := below_grown HB5.out hg (by rw [← hrbe]; exact HB5.out.size) (by omega)
      go_wp2_with (go_at_call 19; refine (awake_any _).mono ?_; rintro e w6 ⟨rfl, hB6⟩)
      go_ret
      exact ⟨rfl, by rw [hrbe]; exact hBr.trans (hB6.mono (by rw [← hrbe]; exact hBr.size))⟩
end Go.Proofs.Ytmigkmdhenkpmaa
