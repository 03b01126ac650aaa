/- keep.Src.Revision: some revision. -/
import Derived.Test.YtmigkmdhenkpmaaDepW
namespace Go.Proofs.Ytmigkmdhenkpmaa
open Go.RowKit

theorem deps_grown {w w' : World} {v : Value} {l : List Dep} {b : Nat} (h : DepsV w v l) (hg : w.grownBy w' (some b)) (hne : 0 < l.length → ∀ q o n c, v = .slice (some ⟨q, o, none⟩) n c → q ≠ b) : DepsV w' v l := by
  obtain ⟨a, cap, rfl, h1, h2, h4, h5⟩ := h
  refine ⟨a, cap, rfl, h1, h2, h4, fun hl => ?_⟩
  obtain ⟨q, off, rfl, hlt, hc⟩ := h5 hl
  exact ⟨q, off, rfl, by have := hg.size; omega, fun k x hk j u hu => hg.cell (hc k x hk j u hu) (by have := hne hl q off _ _ rfl; simp; omega)⟩

/-- a revision lies in block nd, the result's in block rb -/
structure RSt (B b : Nat) (w0 wi : World) (r : List Int) (nd rb : Nat) (cs : Array Value) (ds : Array Value) : Prop where
  src : SrcR B wi b r
  grow : w0.grownBy wi (some b)
  blk : wi.heap[nd]? = some (.cells cs 39 (0, 0))
  rblk : wi.heap[rb]? = some (.cells ds 39 (0, 0))
  new : w0.heap.size ≤ nd
  rnew : w0.heap.size ≤ rb
  ne : nd ≠ rb
  hb : b < w0.heap.size

theorem RSt.n {B b : Nat} {w0 wi w' : World} {r r' : List Int} {nd rb : Nat} {cs ds : Array Value} (h : RSt B b w0 wi r nd rb cs ds) (hs : SrcR B w' b r') (hg : wi.grownBy w' (some b)) : RSt B b w0 w' r' nd rb cs ds where
  src := hs
  grow := grownBy_trans h.grow hg
  blk := (hg.block nd (lt_of_block h.blk) (by have := h.hb; have := h.new; simp; omega)).trans h.blk
  rblk := (hg.block rb (lt_of_block h.rblk) (by have := h.hb; have := h.rnew; simp; omega)).trans h.rblk
  new := h.new
  rnew := h.rnew
  ne := h.ne
  hb := h.hb

theorem RSt.put {B b : Nat} {w0 wi w' : World} {r : List Int} {nd rb : Nat} {cs cs' ds : Array Value} (h : RSt B b w0 wi r nd rb cs ds) (hk : w'.heap[nd]? = some (.cells cs' 39 (0, 0))) (hg : wi.grownBy w' (some nd)) : RSt B b w0 w' r nd rb cs' ds where
  src := h.src.other hg (fun g hg => by cases hg; have := h.hb; have := h.new; have := h.src.ge; exact ⟨by omega, by omega⟩)
  grow := grownBy_new h.grow hg (fun g hg => by cases hg; exact h.new)
  blk := hk
  rblk := (hg.block rb (lt_of_block h.rblk) (by have := h.ne; simp; omega)).trans h.rblk
  new := h.new
  rnew := h.rnew
  ne := h.ne
  hb := h.hb

theorem RSt.rput {B b : Nat} {w0 wi w' : World} {r : List Int} {nd rb : Nat} {cs ds ds' : Array Value} (h : RSt B b w0 wi r nd rb cs ds) (hk : w'.heap[rb]? = some (.cells ds' 39 (0, 0))) (hg : wi.grownBy w' (some rb)) : RSt B b w0 w' r nd rb cs ds' where
  src := h.src.other hg (fun g hg => by cases hg; have := h.hb; have := h.rnew; have := h.src.ge; exact ⟨by omega, by omega⟩)
  grow := grownBy_new h.grow hg (fun g hg => by cases hg; exact h.rnew)
  blk := (hg.block nd (lt_of_block h.blk) (by have := h.ne; simp; omega)).trans h.blk
  rblk := hk
  new := h.new
  rnew := h.rnew
  ne := h.ne
  hb := h.hb

def setsA (cs : Array Value) : Nat → List Value → Array Value
  | _, [] => cs
  | p, u :: us => setsA (cs.setIfInBounds p u) (p + 1) us

/-- some cells of a block, one behind the other, are written -/
theorem store_from {g : Nat} {t : TypeId} : ∀ (us : List Value) (w3 w4 : World) (cs : Array Value) (p : Nat), w3.heap[g]? = some (.cells cs t (0, 0)) → setCells w3 g p us = w4 → w4.heap[g]? = some (.cells (setsA cs p us) t (0, 0)) ∧ w3.grownBy w4 (some g)
  | [], w3, w4, cs, p, h, hw => by subst hw; exact ⟨h, grownBy_refl _ _⟩
  | u :: us, w3, w4, cs, p, h, hw => by
    obtain ⟨h1, h2⟩ := one_set h rfl rfl (j := p) (u := u)
    obtain ⟨h3, h4⟩ := store_from us _ w4 _ (p + 1) h1 hw
    exact ⟨h3, grownBy_trans h2 h4⟩

theorem RSt.amt {B b : Nat} {w0 wi : World} {r : List Int} {nd rb : Nat} {k m0 : Int} {f : Flt} {ds : Array Value} (h : RSt B b w0 wi r nd rb (⟨k, m0, f⟩ : Rev).cells ds) (m : Int) : RSt B b w0 (wi.setCell ⟨nd, 1, none⟩ (.int .i64 m)) r nd rb (⟨k, m, f⟩ : Rev).cells ds :=
  h.put (store_from [.int .i64 m] wi _ _ 1 h.blk rfl).1 (store_from [.int .i64 m] wi _ _ 1 h.blk rfl).2

theorem rev_at {w : World} {g : Nat} {t : TypeId} {v : Rev} (h : w.heap[g]? = some (.cells v.cells t (0, 0))) :
    w.cell? ⟨g, 0, none⟩ = some (.int .i64 v.kind) ∧ w.cell? ⟨g, 1, none⟩ = some (.int .i64 v.amt) ∧ w.cell? ⟨g, 2, none⟩ = some (.string v.flt.car) ∧ w.cell? ⟨g, 3, none⟩ = some (.int .i64 v.flt.num) ∧ w.cell? ⟨g, 4, none⟩ = some (.string v.flt.suf) ∧ w.cell? ⟨g, 5, none⟩ = some (.int .i64 v.flt.day) :=
  ⟨cell_of h rfl, cell_of h rfl, cell_of h rfl, cell_of h rfl, cell_of h rfl, cell_of h rfl⟩

def RevPost (B b : Nat) (w : World) (e : Ending) (w' : World) : Prop :=
  ∃ f r, e = .returned (.agg (f : Rev).cells) ∧ SrcR B w' b r ∧ w.grownBy w' (some b)

set_option maxHeartbeats 2000000 in
theorem Revision_any (B b : Nat) (r : List Int) (v : Value) (l : List Dep) (w : World) (h : SrcR B w b r) (hv : DepsV w v l) (hne : 0 < l.length → ∀ q o n c, v = .slice (some ⟨q, o, none⟩) n c → q ≠ b) :
    Calls Try.prog 20 #[.pointer (some ⟨b, 0, none⟩), v] w (RevPost B b w) := by
  have hb := h.lt
  have tokA : True := trivial
  have tokB : True := trivial
  have tokC : True := trivial
  obtain ⟨a, c, rfl, la, lc, cA⟩ := hv.open
  have HV := Lib.hid hv
  have HNE := Lib.hid hne
  have HCA := Lib.hid cA
  clear cA hv hne
  go_enter Try.func20, Try.ntmps20
  go_upto_region 2 with (first
      | (go_at_call 21; have m5 := modF_bd (r.headD 0) 5 (by omega); refine (N_any B b r 5 _ (h.below ((Below.refl _ _).alloc (Nat.le_refl _) _)) (by omega)).mono ?_; rintro e w1 ⟨rfl, hs1, hg1⟩; generalize modF (r.headD 0) 5 = x5 at *)
      | (go_at_call 42; refine (Flight_any B b _ w1 hs1).mono ?_; rintro e w2 ⟨f, r2, rfl, hs2, hg2⟩; obtain ⟨c1, n1, s1, d1⟩ := f; simp only [Flt.cells]))
  have hkr := heap_alloc_new w (.cells #[.int .i64 0, .int .i64 0, .string ⟨#[]⟩, .int .i64 0, .string ⟨#[]⟩, .int .i64 0] 39)
  have hg02 := grownBy_trans (World.grownBy_alloc w (.cells #[.int .i64 0, .int .i64 0, .string ⟨#[]⟩, .int .i64 0, .string ⟨#[]⟩, .int .i64 0] 39) (some b)) (grownBy_trans hg1 hg2)
  have hkr2 := ((grownBy_trans hg1 hg2).block _ (lt_of_block hkr) (by simp; omega)).trans hkr
  have hsz := hg02.size
  have hltr := lt_of_block hkr2
  generalize hW : w2.alloc _ = W
  have SW : RSt B b w W r2 w2.heap.size w.heap.size (⟨1 + x5, 0, ⟨c1, n1, s1, d1⟩⟩ : Rev).cells (⟨0, 0, ⟨⟨#[]⟩, 0, ⟨#[]⟩, 0⟩⟩ : Rev).cells := by
    rw [← hW]
    exact ⟨hs2.below ((Below.refl _ _).alloc (Nat.le_refl _) _), grownBy_trans hg02 (World.grownBy_alloc _ _ _), heap_alloc_new _ _, (((Below.refl w2.heap.size w2).alloc (Nat.le_refl _) _).block _ hltr).trans hkr2, hsz, Nat.le_refl _, by omega, hb⟩
  clear hW hkr hg02 hkr2 hg1 hg2 hs1 hs2
  generalize w2.heap.size = nd at *
  have HSW := Lib.hid SW
  clear SW
  go_cut [19] from 6 to 54 (fun v wx => ∃ (bb : Bool) (r' : List Int), v = .bool bb ∧ (bb = true → 0 < l.length) ∧ RSt B b w wx r' nd w.heap.size (⟨1 + x5, 0, ⟨c1, n1, s1, d1⟩⟩ : Rev).cells (⟨0, 0, ⟨⟨#[]⟩, 0, ⟨#[]⟩, 0⟩⟩ : Rev).cells)
  case first =>
    by_cases hl : 0 < l.length
    · have hlb : decide ((0 : Int) < (l.length : Int)) = true := decide_eq_true (by omega)
      go_wp2_with (go_at_call 21; refine (N_any B b r2 8 W HSW.out.src (by omega)).mono ?_; rintro e w3 ⟨rfl, hs3, hg3⟩)
      go_meet
      case rel => exact ⟨_, _, rfl, fun _ => hl, HSW.out.n hs3 hg3⟩
    · have hlb : decide ((0 : Int) < (l.length : Int)) = false := decide_eq_false (by omega)
      go_wp2
      go_meet
      case rel => exact ⟨_, _, rfl, (fun h => by simp at h), HSW.out⟩
  case rest =>
    obtain ⟨bb, r', rfl, hbl, hS⟩ := hcut
    have HS := Lib.hid hS
    have HBL := Lib.hid hbl
    clear HSW hS hbl
    go_upto_if 19 with (fail)
    go_cut [] from 6 to 54 (fun wx => ∃ (f : Flt) (r' : List Int), RSt B b w wx r' nd w.heap.size (⟨1 + x5, 0, f⟩ : Rev).cells (⟨0, 0, ⟨⟨#[]⟩, 0, ⟨#[]⟩, 0⟩⟩ : Rev).cells)
    case first =>
      cases bb with
      | false =>
        go_wp2
        go_meet
        case rel => exact ⟨_, _, HS.out⟩
      | true =>
        have hl := HBL.out rfl
        obtain ⟨b2, o2, rfl, hb2, cc⟩ := HCA.out hl
        have hb2n := HNE.out hl b2 o2 _ _ rfl
        have mk := modF_bd (r'.headD 0) (l.length : Int) (by omega)
        have QN := N_any B b r' (l.length : Int) wc HS.out.src (by omega)
        generalize modF (r'.headD 0) (l.length : Int) = kk at *
        obtain ⟨k, rfl⟩ : ∃ k : Nat, kk = k := ⟨kk.toNat, by omega⟩
        obtain ⟨x, hx, -⟩ := drop_at (show k < l.length by omega)
        have HCC := Lib.hid (cc k x hx)
        obtain ⟨⟨c2, n2, s2, d2⟩, p, op, cl, le, st, sa⟩ := x
        have hki : (k : Int) < (l.length : Int) := mk.2
        have HK := Lib.hid mk
        clear cc hx mk
        go_wp2_with (go_at_call 21; refine QN.mono ?_; rintro e w4 ⟨rfl, hs4, hg4⟩; have S4 := HS.out.n hs4 hg4; obtain ⟨g0, g1, g2, g3, -⟩ := dep_at (w := w4) (fun j u hu => S4.grow.cell (HCC.out j u hu) (by simp; exact hb2n)); have z2 := frozen_of_row _ _ 2 _ _ S4.blk; have z3 := frozen_of_row _ _ 3 _ _ S4.blk; have z4 := frozen_of_row _ _ 4 _ _ S4.blk; have z5 := frozen_of_row _ _ 5 _ _ S4.blk; obtain ⟨y0, y1, y2, y3, y4, y5⟩ := rev_at S4.blk)
        go_meet
        case rel =>
          obtain ⟨hk5, hg5⟩ := store_from [.string c2, .int .i64 n2, .string s2, .int .i64 d2] w4 _ _ 2 S4.blk rfl
          exact ⟨⟨c2, n2, s2, d2⟩, _, S4.put hk5 hg5⟩
    case rest =>
      obtain ⟨f, r2', hS⟩ := hcut
      have HS5 := Lib.hid hS
      obtain ⟨y0, -⟩ := rev_at hS.blk
      clear HS HBL hS HCA HV HNE
      go_upto_block 0 with (fail)
      go_cut [] from 6 to 54 (fun wx => ∃ (m : Int) (r' : List Int), RSt B b w wx r' nd w.heap.size (⟨1 + x5, m, f⟩ : Rev).cells (⟨0, 0, ⟨⟨#[]⟩, 0, ⟨#[]⟩, 0⟩⟩ : Rev).cells)
      case first =>
        go_wp2_with (go_at_call 21; refine (N_any B b r2' _ _ HS5.out.src (by omega)).mono ?_; rintro e w6 ⟨rfl, hs6, hg6⟩; have S6 := HS5.out.n hs6 hg6; obtain ⟨-, y1, -⟩ := rev_at S6.blk; have z1 := frozen_of_row _ _ 1 _ _ S6.blk)
        all_goals go_meet
        all_goals first
          | exact ⟨_, _, HS5.out⟩
          | exact ⟨_, _, S6.amt _⟩
      case rest =>
        obtain ⟨m, r3, hS⟩ := hcut
        have HS6 := Lib.hid hS
        clear hS HS5 y0
        go_upto_if 49 with (go_at_call 21; refine (N_any B b r3 _ _ HS6.out.src (by omega)).mono ?_; rintro e w6 ⟨rfl, hs6, hg6⟩; have HS7 := Lib.hid (HS6.out.n hs6 hg6); generalize modF (r3.headD 0) 12 = x12)
        go_cut [] from 6 to 54 (fun wx => ∃ (m : Int) (r' : List Int), RSt B b w wx r' nd w.heap.size (⟨1 + x5, m, f⟩ : Rev).cells (⟨0, 0, ⟨⟨#[]⟩, 0, ⟨#[]⟩, 0⟩⟩ : Rev).cells)
        case first =>
          go_wp2_with (go_at_call 37; refine (Raw_any B b _ _ HS7.out.src).mono ?_; rintro e w8 ⟨rfl, hs8, hg8⟩; have S8 := HS7.out.n hs8 hg8; obtain ⟨-, y1, -⟩ := rev_at S8.blk; have z1 := frozen_of_row _ _ 1 _ _ S8.blk)
          all_goals go_meet
          all_goals first
            | exact ⟨_, _, HS7.out⟩
            | exact ⟨_, _, S8.amt _⟩
        case rest =>
          obtain ⟨m, r4, hS⟩ := hcut
          obtain ⟨y0, y1, y2, y3, y4, y5⟩ := rev_at hS.blk
          obtain ⟨v0, v1, v2, v3, v4, v5⟩ := rev_at hS.rblk
          have z0 := frozen_of_row _ _ 0 _ _ hS.rblk
          have z1 := frozen_of_row _ _ 1 _ _ hS.rblk
          have z2 := frozen_of_row _ _ 2 _ _ hS.rblk
          have z3 := frozen_of_row _ _ 3 _ _ hS.rblk
          have z4 := frozen_of_row _ _ 4 _ _ hS.rblk
          have z5 := frozen_of_row _ _ 5 _ _ hS.rblk
          have HS8 := Lib.hid hS
          clear hS HS6 HS7
          go_wp2
          generalize hw5 : World.setCell _ _ _ = w5
          obtain ⟨hbk5, hg5⟩ := store_all (y := (⟨1 + x5, m, f⟩ : Rev).cells) HS8.out.rblk rfl (by show 0 < 6; omega) hw5
          have S9 := HS8.out.rput hbk5 hg5
          obtain ⟨y0, y1, y2, y3, y4, y5⟩ := rev_at S9.rblk
          clear hw5
          (try simp only [Exit.inBlock, Exit.then])
          refine bodyPost_ret (v := .agg (⟨1 + x5, m, f⟩ : Rev).cells) ?_ rfl ⟨_, _, rfl, S9.src, S9.grow⟩
          simp [go_sem, results, Try.f20, y0, y1, y2, y3, y4, y5]
          rfl
end Go.Proofs.Ytmigkmdhenkpmaa
