/- cmp.Compare, cmp.Or and flight.Compare; the reference's Compare. -/
import Derived.Test.YtmigkmdhenkpmaaDepB
import Derived.StillTailTactics
namespace Go.Proofs.Ytmigkmdhenkpmaa
open Go.RowKit

structure Flt where
  car : ByteArray
  num : Int
  suf : ByteArray
  day : Int
deriving DecidableEq

def Flt.cells (f : Flt) : Array Value := #[.string f.car, .int .i64 f.num, .string f.suf, .int .i64 f.day]

def cmpI (a b : Int) : Int := if a < b then -1 else if b < a then 1 else 0
def cmpS (a b : ByteArray) : Int := if Op.bytesLess a.toList b.toList then -1 else if Op.bytesLess b.toList a.toList then 1 else 0
def orI (a b : Int) : Int := if a = 0 then b else a
def cmpF (f g : Flt) : Int := orI (cmpS f.car g.car) (orI (cmpI f.num g.num) (orI (cmpS f.suf g.suf) (cmpI f.day g.day)))

theorem less_flip : ∀ (x y : List UInt8), Op.bytesLess x y = false → Op.bytesLess y x = !(x == y)
  | [], [] => by simp [Op.bytesLess]
  | _ :: _, [] => by simp [Op.bytesLess]
  | [], _ :: _ => by simp [Op.bytesLess]
  | a :: x, b :: y => by
    intro h
    have ih := less_flip x y
    simp only [Op.bytesLess, Bool.or_eq_false_iff, Bool.and_eq_false_iff, decide_eq_false_iff_not, beq_eq_false_iff_ne] at h
    obtain ⟨h1, h2⟩ := h
    by_cases e : a = b
    · subst e
      rcases h2 with h2 | h2
      · exact absurd rfl h2
      · simp only [Op.bytesLess]
        rw [ih h2]
        simp [UInt8.lt_irrefl]
    · have hlt : b < a := by
        rcases UInt8.lt_or_lt_of_ne e with h | h
        · exact absurd h h1
        · exact h
      simp [Op.bytesLess, hlt, e]

theorem CmpI_any (a b : Int) (w : World) : Calls Try.prog 55 #[.int .i64 a, .int .i64 b] w fun e w' => e = .returned (.int .i64 (cmpI a b)) ∧ w' = w := by
  by_cases h1 : a < b
  · have hc : cmpI a b = -1 := by unfold cmpI; rw [if_pos h1]
    rw [hc]
    clear hc
    go_enter Try.func55, Try.ntmps55
    go_wp2
    go_ret
    exact ⟨rfl, rfl⟩
  · by_cases h2 : b < a
    · have hc : cmpI a b = 1 := by unfold cmpI; rw [if_neg h1, if_pos h2]
      rw [hc]
      clear hc
      go_enter Try.func55, Try.ntmps55
      go_wp2
      go_ret
      exact ⟨rfl, rfl⟩
    · have hc : cmpI a b = 0 := by unfold cmpI; rw [if_neg h1, if_neg h2]
      rw [hc]
      clear hc
      go_enter Try.func55, Try.ntmps55
      go_wp2
      go_ret
      exact ⟨rfl, rfl⟩

theorem CmpS_any (a b : ByteArray) (w : World) : Calls Try.prog 54 #[.string a, .string b] w fun e w' => e = .returned (.int .i64 (cmpS a b)) ∧ w' = w := by
  obtain ⟨res, hres⟩ : ∃ r, r = cmpS a b := ⟨_, rfl⟩
  have HRES := Lib.hid hres
  rw [← hres]
  clear hres
  go_enter Try.func54, Try.ntmps54
  go_wp2
  · go_ret
    have h : Op.bytesLess a.toList b.toList = true := by assumption
    exact ⟨ret_int (by rw [HRES.out]; unfold cmpS; rw [if_pos h]), rfl⟩
  · go_ret
    have h : Op.bytesLess a.toList b.toList = false := by assumption
    have h' : (!a.toList == b.toList) = true := by assumption
    exact ⟨ret_int (by rw [HRES.out]; unfold cmpS; rw [if_neg (by simp [h]), less_flip _ _ h, if_pos h']), rfl⟩
  · go_ret
    have h : Op.bytesLess a.toList b.toList = false := by assumption
    have h' : (!a.toList == b.toList) = false := by assumption
    exact ⟨ret_int (by rw [HRES.out]; unfold cmpS; rw [if_neg (by simp [h]), less_flip _ _ h, if_neg (by simp [h'])]), rfl⟩

theorem orI_wf {a b : Int} (ha : -1 ≤ a ∧ a ≤ 1) (hb : -1 ≤ b ∧ b ≤ 1) : -1 ≤ orI a b ∧ orI a b ≤ 1 := by
  unfold orI
  split <;> assumption

theorem Or_any (a b c d : Int) (x : Nat) (w : World) (h0 : w.cell? ⟨x, 0, none⟩ = some (.int .i64 a)) (h1 : w.cell? ⟨x, 1, none⟩ = some (.int .i64 b)) (h2 : w.cell? ⟨x, 2, none⟩ = some (.int .i64 c)) (h3 : w.cell? ⟨x, 3, none⟩ = some (.int .i64 d)) :
    Calls Try.prog 53 #[.slice (some ⟨x, 0, none⟩) 4 4] w fun e w' => e = .returned (.int .i64 (orI a (orI b (orI c d)))) ∧ w' = w := by
  obtain ⟨res, hres⟩ : ∃ r, r = orI a (orI b (orI c d)) := ⟨_, rfl⟩
  rw [← hres]
  go_enter Try.func53, Try.ntmps53
  go_wp2
  go_loopw [8] (fun i wr => wr = w ∧ ((i = .int .i64 0 ∧ res = orI a (orI b (orI c d))) ∨ (i = .int .i64 1 ∧ res = orI b (orI c d)) ∨ (i = .int .i64 2 ∧ res = orI c d) ∨ (i = .int .i64 3 ∧ res = d) ∨ (i = .int .i64 4 ∧ res = 0))) (fun i _ => 4 - (intOf i).toNat)
  case atStart => exact ⟨rfl, .inl ⟨rfl, hres⟩⟩
  case round =>
    clear hres
    obtain ⟨rfl, hr⟩ := hrel
    rcases hr with ⟨rfl, hr⟩ | ⟨rfl, hr⟩ | ⟨rfl, hr⟩ | ⟨rfl, hr⟩ | ⟨rfl, hr⟩
    · have HR := Lib.hid hr
      clear hr
      by_cases hx : a = 0
      · have HX := Lib.hid hx
        have hb : (a != 0) = false := by simp [hx]
        clear hx
        go_wp2
        go_roundw
        case rel => exact ⟨trivial, (.inr (.inl ⟨by go_num, by have := HR.out; unfold orI at this; rw [if_pos HX.out] at this; exact this⟩))⟩
        case measure => simp [intOf]
      · have HX := Lib.hid hx
        have hb : (a != 0) = true := by simp [hx]
        clear hx
        go_wp2
        go_ret
        exact ⟨ret_int (by have := HR.out; unfold orI at this; rw [if_neg HX.out] at this; exact this.symm), rfl⟩
    · have HR := Lib.hid hr
      clear hr
      by_cases hx : b = 0
      · have HX := Lib.hid hx
        have hb : (b != 0) = false := by simp [hx]
        clear hx
        go_wp2
        go_roundw
        case rel => exact ⟨trivial, (.inr (.inr (.inl ⟨by go_num, by have := HR.out; unfold orI at this; rw [if_pos HX.out] at this; exact this⟩)))⟩
        case measure => simp [intOf]
      · have HX := Lib.hid hx
        have hb : (b != 0) = true := by simp [hx]
        clear hx
        go_wp2
        go_ret
        exact ⟨ret_int (by have := HR.out; unfold orI at this; rw [if_neg HX.out] at this; exact this.symm), rfl⟩
    · have HR := Lib.hid hr
      clear hr
      by_cases hx : c = 0
      · have HX := Lib.hid hx
        have hb : (c != 0) = false := by simp [hx]
        clear hx
        go_wp2
        go_roundw
        case rel => exact ⟨trivial, (.inr (.inr (.inr (.inl ⟨by go_num, by have := HR.out; unfold orI at this; rw [if_pos HX.out] at this; exact this⟩))))⟩
        case measure => simp [intOf]
      · have HX := Lib.hid hx
        have hb : (c != 0) = true := by simp [hx]
        clear hx
        go_wp2
        go_ret
        exact ⟨ret_int (by have := HR.out; unfold orI at this; rw [if_neg HX.out] at this; exact this.symm), rfl⟩
    · have HR := Lib.hid hr
      clear hr
      by_cases hx : d = 0
      · have HX := Lib.hid hx
        have hb : (d != 0) = false := by simp [hx]
        clear hx
        go_wp2
        go_roundw
        case rel => exact ⟨trivial, (.inr (.inr (.inr (.inr ⟨by go_num, HR.out.trans HX.out⟩))))⟩
        case measure => simp [intOf]
      · have HX := Lib.hid hx
        have hb : (d != 0) = true := by simp [hx]
        clear hx
        go_wp2
        go_ret
        exact ⟨ret_int (HR.out.symm), rfl⟩
    · have HR := Lib.hid hr
      clear hr
      go_wp2
      go_ret
      exact ⟨ret_int HR.out.symm, rfl⟩

theorem size_new (w : World) (o : Obj) : (w.alloc o).heap.size = w.heap.size + 1 := Array.size_push ..

theorem cell_of {w : World} {b i : Nat} {cs : Array Value} {t : TypeId} {v : Value} (h : w.heap[b]? = some (.cells cs t (0, 0))) (hi : cs[i]? = some v) : w.cell? ⟨b, i, none⟩ = some v := by
  simp [World.cell?, h, hi]

theorem two_boxes (w W : World) (A B : Array Value) (t u : TypeId) (hW : (w.alloc (.cells A t)).alloc (.cells B u) = W) :
    (∀ i v, A[i]? = some v → W.cell? ⟨w.heap.size, i, none⟩ = some v) ∧ (∀ i v, B[i]? = some v → W.cell? ⟨w.heap.size + 1, i, none⟩ = some v) ∧ Below w.heap.size w W ∧ W.heap.size = w.heap.size + 2 := by
  subst hW
  have s1 := size_new w (.cells A t)
  have s2 := size_new (w.alloc (.cells A t)) (.cells B u)
  have b1 : Below w.heap.size w (w.alloc (.cells A t)) := (Below.refl _ _).alloc (Nat.le_refl _) _
  have b2 : Below (w.alloc (.cells A t)).heap.size (w.alloc (.cells A t)) ((w.alloc (.cells A t)).alloc (.cells B u)) := (Below.refl _ _).alloc (Nat.le_refl _) _
  refine ⟨fun i v h => ?_, fun i v h => ?_, b1.trans (b2.mono b1.size), by omega⟩
  · exact (b2.cell (p := ⟨w.heap.size, i, none⟩) (by show w.heap.size < _; omega)).trans (cell_of (heap_alloc_new _ _) h)
  · rw [← s1]
    exact cell_of (heap_alloc_new _ _) h

set_option maxHeartbeats 2000000 in
theorem Compare_any (f g : Flt) (w : World) : Calls Try.prog 39 #[.agg f.cells, .agg g.cells] w fun e w' => e = .returned (.int .i64 (cmpF f g)) ∧ Below w.heap.size w w' := by
  unfold cmpF
  have C1 := Lib.hid (CmpS_any f.car g.car)
  have C2 := Lib.hid (CmpI_any f.num g.num)
  have C3 := Lib.hid (CmpS_any f.suf g.suf)
  have C4 := Lib.hid (CmpI_any f.day g.day)
  generalize cmpS f.car g.car = x1 at *
  generalize cmpI f.num g.num = x2 at *
  generalize cmpS f.suf g.suf = x3 at *
  generalize cmpI f.day g.day = x4 at *
  obtain ⟨c1, n1, s1, d1⟩ := f
  obtain ⟨c2, n2, s2, d2⟩ := g
  simp only [Flt.cells]
  go_enter Try.func39, Try.ntmps39
  go_wp2
  generalize hW : (w.alloc _).alloc _ = W
  obtain ⟨hA, hB, hBel, hS⟩ := two_boxes _ _ _ _ _ _ hW
  have k0 := hA 0 _ rfl
  have k1 := hA 1 _ rfl
  have k2 := hA 2 _ rfl
  have k3 := hA 3 _ rfl
  have m0 := hB 0 _ rfl
  have m1 := hB 1 _ rfl
  have m2 := hB 2 _ rfl
  have m3 := hB 3 _ rfl
  have HB := Lib.hid hBel
  clear hA hB hW hBel
  generalize hnb : w.heap.size = nb at *
  have HNB := Lib.hid hnb
  clear hnb
  refine wp_region_still_tail 20 (by kernel_rfl) (by kernel_rfl) ?_
  change wpStill _ _ W.drew _ _ _
  simp only [List.take_succ_cons, List.take_zero, List.drop_succ_cons, List.drop_zero]
  repeat
    refine wpStill_step (fun K hK => ?_)
    go_simp
    first
      | (refine hK _ ?_; clear hK K)
      | (apply Exists.intro
         refine ⟨?_, hK _ ?_⟩
         first
           | with_reducible exact C1.out _
           | with_reducible exact C2.out _
           | with_reducible exact C3.out _
           | with_reducible exact C4.out _
         clear hK K)
  refine wpStill_nil ?_
  change wpList _ _ _ _ _ W.drew
  have HB2 := Lib.hid (HB.out.drew)
  clear k0 k1 k2 k3 m0 m1 m2 m3 HB
  generalize W.drew = W2 at *
  have hsz := HB2.out.size
  go_wp2_with (go_at_call 53; refine (Or_any x1 x2 x3 x4 _ _ (cell_of (heap_alloc_new _ _) rfl) (cell_of (heap_alloc_new _ _) rfl) (cell_of (heap_alloc_new _ _) rfl) (cell_of (heap_alloc_new _ _) rfl)).mono ?_; rintro e w1 ⟨rfl, rfl⟩)
  go_ret
  exact ⟨rfl, by rw [HNB.out]; exact HB2.out.alloc (by have := HNB.out; omega) _⟩

theorem bytes_eq {a b : ByteArray} (h : a.toList = b.toList) : a = b := by
  rw [ByteArray.toList_eq, ByteArray.toList_eq] at h
  obtain ⟨x⟩ := a
  obtain ⟨y⟩ := b
  have : x = y := Array.ext' h
  rw [this]

theorem less_self : ∀ x : List UInt8, Op.bytesLess x x = false
  | [] => by simp [Op.bytesLess]
  | a :: x => by simp [Op.bytesLess, less_self x, UInt8.lt_irrefl]

theorem cmpS_lt {a b : ByteArray} (h : Op.bytesLess a.toList b.toList = true) : cmpS a b = -1 := by unfold cmpS; rw [if_pos h]
theorem cmpS_gt {a b : ByteArray} (h : Op.bytesLess a.toList b.toList = false) (hn : (!a.toList == b.toList) = true) : cmpS a b = 1 := by
  unfold cmpS
  rw [if_neg (by simp [h]), less_flip _ _ h, if_pos hn]
theorem cmpS_eq {a b : ByteArray} (h : a.toList = b.toList) : cmpS a b = 0 := by
  unfold cmpS
  rw [h, less_self]
  rfl
theorem cmpI_lt {a b : Int} (h : a < b) : cmpI a b = -1 := by unfold cmpI; rw [if_pos h]
theorem cmpI_gt {a b : Int} (h : b ≤ a) (hn : ¬ a = b) : cmpI a b = 1 := by unfold cmpI; rw [if_neg (by omega), if_pos (by omega)]
theorem cmpI_self (a : Int) : cmpI a a = 0 := by unfold cmpI; rw [if_neg (by omega), if_neg (by omega)]

theorem RCompare_any (f g : Flt) (w : World) : Calls Try.prog 41 #[.agg f.cells, .agg g.cells] w fun e w' => e = .returned (.int .i64 (cmpF f g)) ∧ Below w.heap.size w w' := by
  obtain ⟨res, hres⟩ : ∃ r, r = cmpF f g := ⟨_, rfl⟩
  have HRES := Lib.hid hres
  rw [← hres]
  clear hres
  obtain ⟨c1, n1, s1, d1⟩ := f
  obtain ⟨c2, n2, s2, d2⟩ := g
  simp only [Flt.cells]
  go_enter Try.func41, Try.ntmps41
  go_wp2
  all_goals go_ret
  all_goals refine ⟨ret_int ?_, (two_boxes _ _ _ _ _ _ rfl).2.2.1⟩
  all_goals rw [HRES.out]
  all_goals clear HRES
  all_goals simp_all [cmpF, orI, cmpS_lt, cmpS_gt, cmpS_eq, cmpI_lt, cmpI_gt, cmpI_self]

end Go.Proofs.Ytmigkmdhenkpmaa
