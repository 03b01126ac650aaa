/- keep.Src.Flight: some flight. -/
import Derived.Test.YtmigkmdhenkpmaaDepV
namespace Go.Proofs.Ytmigkmdhenkpmaa
open Go.RowKit

def flS (k : Nat) : ByteArray := if k = 0 then ⟨#[83, 75]⟩ else if k = 1 then ⟨#[66, 65]⟩ else ⟨#[76, 72]⟩

theorem fl_cells (k : Nat) (hk : k < 3) : (#[.string ⟨#[83, 75]⟩, .string ⟨#[66, 65]⟩, .string ⟨#[76, 72]⟩] : Array Value)[k]? = some (.string (flS k)) := by
  match k, hk with
  | 0, _ => rfl
  | 1, _ => rfl
  | 2, _ => rfl

theorem two_heap (w : World) (A : Array Value) (t : TypeId) (o : Obj) : ((w.alloc (.cells A t)).alloc o).heap[w.heap.size]? = some (.cells A t (0, 0)) := by
  have b2 : Below (w.alloc (.cells A t)).heap.size (w.alloc (.cells A t)) ((w.alloc (.cells A t)).alloc o) := (Below.refl _ _).alloc (Nat.le_refl _) _
  exact (b2.block w.heap.size (by rw [size_new]; exact Nat.lt_succ_self _)).trans (heap_alloc_new _ _)

/-- all cells of a block are written -/
theorem store_all {w3 w4 : World} {g : Nat} {cs y : Array Value} {t : TypeId} (hbk : w3.heap[g]? = some (.cells cs t (0, 0))) (hs : cs.size = y.size) (_h0 : 0 < y.size) (hw : setCells w3 g 0 y.toList = w4) : w4.heap[g]? = some (.cells y t (0, 0)) ∧ w3.grownBy w4 (some g) := by
  have h0 : w3.ownsRow g t y.size (.slice (some ⟨g, 0, none⟩) 1 1) 1 cs.toList := ⟨by simp [hs], .inr ⟨g, 1, cs, rfl, Nat.le_refl _, hbk, Nat.le_refl _, by simp [maxLen], by omega, List.take_of_length_le (by rw [Array.length_toList]; omega)⟩⟩
  obtain ⟨h1, h2⟩ := own_sets y.toList w3 0 _ h0
  rw [hw] at h1 h2
  have hy : y.toList.length = y.size := Array.length_toList
  rw [setsFrom_eq _ _ _ (by rw [hy, Array.length_toList]; omega), List.take_zero, List.nil_append, hy, List.drop_eq_nil_of_le (by rw [Array.length_toList]; omega), List.append_nil] at h1
  refine ⟨?_, h2⟩
  rcases h1.2 with ⟨h3, _⟩ | ⟨g', cap, cur, h3, _, h4, _, _, h5, h6⟩
  · cases h3
  · simp only [Value.slice.injEq, Option.some.injEq, Addr.mk.injEq, and_true, true_and] at h3
    obtain ⟨rfl, rfl⟩ := h3
    rw [List.take_of_length_le (by rw [Array.length_toList]; omega)] at h6
    rw [h4, Array.toList_inj.1 h6]

def FlightPost (B b : Nat) (w : World) (e : Ending) (w' : World) : Prop :=
  ∃ f r, e = .returned (.agg (f : Flt).cells) ∧ SrcR B w' b r ∧ w.grownBy w' (some b)

set_option maxHeartbeats 1000000 in
theorem Flight_any (B b : Nat) (r : List Int) (w : World) (h : SrcR B w b r) :
    Calls Try.prog 42 #[.pointer (some ⟨b, 0, none⟩)] w (FlightPost B b w) := by
  have hb := h.lt
  have tokA : True := trivial
  have TX := fun (w1 : World) (h1 : SrcR B w1 b r) hc => Text_any B b r (w.heap.size + 1) 3 flS w1 h1 (by omega) (by omega) hc
  go_enter Try.func42, Try.ntmps42
  go_wp2_with (first
    | (go_at_call 49; refine (TX _ (h.below (two_boxes _ _ _ _ _ _ rfl).2.2.1) (fun k hk => (two_boxes _ _ _ _ _ _ rfl).2.1 k _ (fl_cells k hk))).mono ?_; rintro e w2 ⟨rfl, hs2, hg2⟩; generalize flS _ = s1 at *)
    | (go_at_call 21; have _t := tokA; have m1 := modF_bd (r.tail.headD 0) 3 (by omega); refine (N_any B b r.tail 3 w2 hs2 (by omega)).mono ?_; clear tokA _t; rintro e w3 ⟨rfl, hs3, hg3⟩; generalize modF (r.tail.headD 0) 3 = x1 at *; have m2 := modF_bd (r.tail.tail.headD 0) 3 (by omega))
    | (go_at_call 21; refine (N_any B b r.tail.tail 3 w3 hs3 (by omega)).mono ?_; rintro e w4 ⟨rfl, hs4, hg4⟩; generalize modF (r.tail.tail.headD 0) 3 = x2 at *; have hk0 := two_heap w #[.string ⟨#[]⟩, .int .i64 0, .string ⟨#[]⟩, .int .i64 0] 25 (.cells #[.string ⟨#[83, 75]⟩, .string ⟨#[66, 65]⟩, .string ⟨#[76, 72]⟩] 9); have hk2 := (hg2.block _ (lt_of_block hk0) (by simp; omega)).trans hk0; have hk3 := (hg3.block _ (lt_of_block hk2) (by simp; omega)).trans hk2; have hk4 := (hg4.block _ (lt_of_block hk3) (by simp; omega)).trans hk3; have z0 := cell_of hk4 (i := 0) rfl; have z1 := cell_of hk4 (i := 1) rfl; have z2 := cell_of hk4 (i := 2) rfl; have z3 := cell_of hk4 (i := 3) rfl; have f0 := frozen_of_row _ _ 0 _ _ hk4; have f1 := frozen_of_row _ _ 1 _ _ hk4; have f2 := frozen_of_row _ _ 2 _ _ hk4; have f3 := frozen_of_row _ _ 3 _ _ hk4; have HK := Lib.hid hk4; clear hk0 hk2 hk3 hk4))
  generalize hw5 : World.setCell _ _ _ = w5
  obtain ⟨hbk5, hg5⟩ := store_all (y := (⟨s1, 1 + x1, ⟨#[]⟩, 1 + x2⟩ : Flt).cells) HK.out rfl (by show 0 < 4; omega) hw5
  have y0 := cell_of hbk5 (i := 0) rfl
  have y1 := cell_of hbk5 (i := 1) rfl
  have y2 := cell_of hbk5 (i := 2) rfl
  have y3 := cell_of hbk5 (i := 3) rfl
  have hgw := grownBy_trans (grownBy_trans (grownBy_trans (grownBy_trans (World.grownBy_alloc w (.cells #[.string ⟨#[]⟩, .int .i64 0, .string ⟨#[]⟩, .int .i64 0] 25) (some b)) (World.grownBy_alloc _ (.cells #[.string ⟨#[83, 75]⟩, .string ⟨#[66, 65]⟩, .string ⟨#[76, 72]⟩] 9) (some b))) hg2) hg3) hg4
  have hgF := grownBy_new hgw hg5 (fun q hq => by cases hq; exact Nat.le_refl _)
  have hs5 := hs4.other hg5 (fun q hq => by cases hq; have := h.ge; exact ⟨by omega, by omega⟩)
  clear hw5
  (try simp only [Exit.inBlock, Exit.then])
  refine bodyPost_ret (v := .agg (⟨s1, 1 + x1, ⟨#[]⟩, 1 + x2⟩ : Flt).cells) ?_ rfl ⟨_, _, rfl, hs5, hgF⟩
  simp only [Flt.cells, List.getElem_toArray, List.getElem_cons_zero, List.getElem_cons_succ] at y0 y1 y2 y3
  simp [go_sem, results, Try.f42, y0, y1, y2, y3]
  rfl

theorem More_any (B b : Nat) (r : List Int) (w : World) (h : SrcR B w b r) :
    Calls Try.prog 35 #[.pointer (some ⟨b, 0, none⟩)] w fun e w' => ∃ bb : Bool, e = .returned (.bool bb) ∧ ∃ n, w' = w.drewN n := by
  obtain ⟨a, cap, l, at_, h1, h2, h3, h4, h5, h6, h7⟩ := h
  have c0 := cell_of h1 (i := 0) rfl
  have c1 := cell_of h1 (i := 1) rfl
  simp only [List.getElem_toArray, List.getElem_cons_zero, List.getElem_cons_succ] at c0 c1
  clear h1 h2 h3 h4 h5 h6 h7
  go_enter Try.func35, Try.ntmps35
  go_wp2
  go_quiet (fail)
  go_wp2
  go_ret
  exact ⟨_, rfl, _, rfl⟩
end Go.Proofs.Ytmigkmdhenkpmaa
