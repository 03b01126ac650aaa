/- The law's own functions: windows, index; the reference's Bags. -/
import Derived.Test.YtbopbmmalfobiaaStripD
import Derived.Test.YtbopbmmalfobiaaKeepB
namespace Go.Proofs.Ytbopbmmalfobiaa
open Go.RowKit

theorem ints_lit {w : World} {T : TypeId} (cs : Array Value) (l : List Int) (n : Nat) (hn : n = l.length) (hcs : cs.toList = l.map (Value.int .i64)) (hw : ∀ n ∈ l, (Lit.int .i64 n).wf = true) (hl : l.length ≤ maxLen) :
    IntsV (w.alloc (.cells cs T)) (.slice (some ⟨w.heap.size, 0, none⟩) n n) l := by
  subst hn
  refine ⟨_, _, rfl, Nat.le_refl _, hl, hw, (fun h => by cases h), fun _ => ⟨w.heap.size, 0, rfl, by simp, fun k hk => ?_⟩⟩
  rw [World.cell?_alloc_new]
  rw [Nat.zero_add, ← Array.getElem?_toList, hcs]
  simp [hk]

theorem OwnI.other {base : Nat} {w w' : World} {v : Value} {l : List Int} (h : OwnI base w v l) {row : Option Nat} (hg : w.grownBy w' row) (hne : v.ownBlock = none ∨ v.ownBlock ≠ row) : OwnI base w' v l :=
  ⟨h.1.kept hg hne, h.2⟩

/-- windows with different bags, and faults: what the law's windows are good for -/
def WinOK (ws fs : List Int) : Prop :=
  1 ≤ ws.length ∧ ws.length ≤ 8 ∧ fs.length = ws.length ∧ (∀ i, i < ws.length → ws[i]?.getD 0 = 0 ∨ ws[i]?.getD 0 = (i : Int) + 1) ∧ (∀ f ∈ fs, f = 0 ∨ f = 1 ∨ f = 2)

theorem WinOK.zero (n : Nat) (h1 : 1 ≤ n) (h2 : n ≤ 8) : WinOK (List.replicate n 0) (List.replicate n 0) := by
  refine ⟨by simpa, by simpa, by simp, fun i hi => .inl ?_, fun f hf => .inl (List.eq_of_mem_replicate hf)⟩
  simp at hi
  simp [hi]

theorem WinOK.setW {ws fs : List Int} (h : WinOK ws fs) (k : Nat) (hk : k < ws.length) : WinOK (ws.set k ((k : Int) + 1)) fs := by
  obtain ⟨h1, h2, h3, h4, h5⟩ := h
  refine ⟨by simpa, by simpa, by simpa, fun i hi => ?_, h5⟩
  simp only [List.length_set] at hi
  by_cases e : k = i
  · subst e
    exact .inr (by simp [hk])
  · rw [List.getElem?_set_ne e]
    exact h4 i hi

theorem WinOK.setF {ws fs : List Int} (h : WinOK ws fs) (k : Nat) (x : Int) (hx : x = 0 ∨ x = 1 ∨ x = 2) : WinOK ws (fs.set k x) := by
  obtain ⟨h1, h2, h3, h4, h5⟩ := h
  refine ⟨h1, h2, by simpa, h4, fun f hf => ?_⟩
  rcases List.mem_or_eq_of_mem_set hf with hf | rfl
  · exact h5 f hf
  · exact hx

theorem pick5 (y : Int) (h : 0 ≤ y ∧ y < 5) : ([0, 0, 0, 1, 2] : List Int)[y.toNat]?.getD 0 = 0 ∨ ([0, 0, 0, 1, 2] : List Int)[y.toNat]?.getD 0 = 1 ∨ ([0, 0, 0, 1, 2] : List Int)[y.toNat]?.getD 0 = 2 := by
  have : y = 0 ∨ y = 1 ∨ y = 2 ∨ y = 3 ∨ y = 4 := by omega
  rcases this with rfl | rfl | rfl | rfl | rfl <;> decide

theorem small_wf (x : Int) (h1 : -1000000 ≤ x) (h2 : x ≤ 1000000) : (Lit.int .i64 x).wf = true := by
  simp only [Lit.wf, Bool.and_eq_true, decide_eq_true_eq]
  exact ⟨Int.le_trans (by decide) h1, Int.le_trans h2 (by decide)⟩

theorem OwnI.cellF {base : Nat} {w : World} {g n cap : Nat} {l : List Int} (h : OwnI base w (.slice (some ⟨g, 0, none⟩) n cap) l) (k : Nat) (hk : k < l.length) :
    (∃ z, w.cell? ⟨g, k, none⟩ = some (.int .i64 z)) ∧ w.frozen? ⟨g, k, none⟩ = false := by
  obtain ⟨g', cap', hv, _, _, hf, hc⟩ := h.open (by omega)
  cases hv
  exact ⟨⟨_, hc k hk⟩, hf k⟩

theorem OwnI.blkge {base : Nat} {w : World} {g n cap : Nat} {l : List Int} (h : OwnI base w (.slice (some ⟨g, 0, none⟩) n cap) l) : base ≤ g := (h.1.lt g rfl).1

theorem OwnI.blk {base : Nat} {w : World} {g n cap : Nat} {l : List Int} (h : OwnI base w (.slice (some ⟨g, 0, none⟩) n cap) l) : g < w.heap.size := (h.1.lt g rfl).2

theorem pick_arm {B b : Nat} {r : List Int} {w : World} (N : Nat) (hN : N = w.heap.size) (hs : SrcR B w b r) (_hB : B ≤ w.heap.size) :
    Calls Try.prog 24 #[.pointer (some ⟨b, 0, none⟩), .slice (some ⟨N, 0, none⟩) 5 5]
      (w.alloc (.cells #[.int .i64 0, .int .i64 0, .int .i64 0, .int .i64 1, .int .i64 2] 3)) fun e w' => ∃ x, e = .returned (.int .i64 x) ∧ (x = 0 ∨ x = 1 ∨ x = 2) ∧ SrcR B w' b r.tail ∧ w.grownBy w' (some b) := by
  subst hN
  have hlt := hs.lt
  refine (Pick_any B b r _ [0, 0, 0, 1, 2] _ (hs.below ((Below.refl _ _).alloc (Nat.le_refl _) _)) (ints_lit _ _ _ rfl rfl (by decide) (by simp [maxLen])) (by simp) (by simp [Value.ownBlock]; omega)).mono ?_
  rintro e w' ⟨rfl, h1, h2⟩
  have hm := modF_bd (r.headD 0) (([0, 0, 0, 1, 2] : List Int).length) (by simp)
  refine ⟨_, rfl, ?_, h1, grownBy_trans (World.grownBy_alloc _ _ _) h2⟩
  exact pick5 _ (by simpa using hm)

def WinPost (w : World) (e : Ending) (w' : World) : Prop :=
  ∃ v1 v2 ws fs, e = .returned (.tuple #[v1, v2]) ∧ IntsV w' v1 ws ∧ IntsV w' v2 fs ∧ WinOK ws fs ∧ Below w.heap.size w w'

theorem range18 (x : Int) : ∃ n : Nat, (1 : Int) + modF x (8 - 1 + 1) = (n : Int) ∧ 1 ≤ n ∧ n ≤ 8 := by
  have := modF_bd x (8 - 1 + 1) (by omega)
  exact ⟨(1 + modF x (8 - 1 + 1)).toNat, by omega, by omega, by omega⟩

theorem windows_any (v : Value) (l : List Int) (w : World) (hv : IntsV w v l) :
    Calls Try.prog 8 #[v] w (WinPost w) := by
  have NW := New_any v l w hv
  obtain ⟨a, cap, rfl, _, _, _⟩ := hv.open
  clear hv
  have tok1 : True := trivial
  go_enter Try.func8, Try.ntmps8
  go_wp2_with (first
    | (go_at_call 21; refine NW.mono ?_; rintro e w1 ⟨b, rfl, hs, hB⟩; generalize l.take 2000 = r0 at hs; have RG := Range_any w.heap.size b _ 1 8 w1 hs (by omega) (by omega) (by omega); obtain ⟨n, hn, hn1, hn8⟩ := range18 (r0.headD 0); rw [hn] at RG; clear hn)
    | (go_at_call 22; refine RG.mono ?_; rintro e w2 ⟨rfl, hs2, hg2⟩; have hB2 := below_grown hB hg2 hB.size hs.ge; clear RG NW hs hg2)
    | (at_make; have _t := tok1; refine wpList_makeI rfl _ _ rfl w.heap.size n rfl rfl (by omega) hB2.size ?_; clear tok1 _t; intro w3 hown1 hgrow1; have hs3 := hs2.other hgrow1 (by intro k hk; cases hk); have hB3 := hB2.trans ((below_none hgrow1).mono hB2.size))
    | (at_make; refine wpList_makeI rfl _ _ rfl w.heap.size n rfl rfl (by omega) hB3.size ?_; intro w4 hown2 hgrow2))
  have hs4 := hs3.other hgrow2 (by intro k hk; cases hk)
  have hB4 := hB3.trans ((below_none hgrow2).mono hB3.size)
  have hown1' := hown1.other hgrow2 (.inr (by simp [Value.ownBlock]))
  have hge := hs2.ge
  have hlt := hs2.lt
  have hsz := hgrow1.size
  have hz1 := hB2.size
  have hlt1 := hown1.blk
  clear hown1 hs2 hs3 hgrow1 hgrow2 hB2 hB3
  generalize w3.heap.size = g2 at *
  generalize w2.heap.size = g1 at *
  go_loopw [7] (fun i wr => ∃ (k : Nat) (ws fs r : List Int), k ≤ n ∧ i = .int .i64 k ∧ OwnI w.heap.size wr (.slice (some ⟨g1, 0, none⟩) n n) ws ∧ OwnI w.heap.size wr (.slice (some ⟨g2, 0, none⟩) n n) fs ∧ ws.length = n ∧ WinOK ws fs ∧ SrcR w.heap.size wr b r ∧ Below w.heap.size w wr)
    (fun i _ => n - (intOf i).toNat)
  case atStart => exact ⟨0, _, _, _, Nat.zero_le _, rfl, hown1', hown2, by simp, WinOK.zero n hn1 hn8, hs4, hB4⟩
  case round =>
    obtain ⟨k, ws, fs, r, hk, rfl, hO1, hO2, hwl, hok, hs, hBr⟩ := hrel
    have HW := Lib.hid hwl
    clear hwl
    by_cases hkn : k < n
    · have N := N_any w.heap.size b r 2 wr hs (by omega)
      unfold NPost at N
      generalize modF (r.headD 0) 2 = y at *
      generalize r.tail = r1 at *
      have hge1 := hO1.blkge
      have hge2 := hO2.blkge
      by_cases hy : y = 0
      · subst hy
        go_wp2_with (first
          | (go_at_call 23; refine N.mono ?_; rintro e w5 ⟨rfl, hs5, hg5⟩; have hO15 := hO1.other hg5 (.inr (by simp [Value.ownBlock]; omega)); have hO25 := hO2.other hg5 (.inr (by simp [Value.ownBlock]; omega)); have hB5 := below_grown hBr hg5 hBr.size hge; have hO16 := hO15.set k ((k : Int) + 1) (small_wf _ (by omega) (by omega)); have hg6 := grownBy_set w5 g1 k (.int .i64 ((k : Int) + 1)); have hs6 := hs5.other hg6 (by intro k hk; cases hk; omega); have hO26 := hO25.other hg6 (.inr (by simp [Value.ownBlock]; omega)); have hB6 := below_grown hB5 hg6 hB5.size hge1; have hok6 := hok.setW k (by have := HW.out; omega); obtain ⟨⟨z1, c1⟩, f1⟩ := hO15.cellF k (by have := HW.out; omega))
          | (go_at_call 24; refine (pick_arm w5.heap.size (by simp) hs6 hB6.size).mono ?_; rintro e w7 ⟨x, rfl, hx, hs7, hg7⟩; have hO17 := hO16.other hg7 (.inr (by simp [Value.ownBlock]; omega)); have hO27 := hO26.other hg7 (.inr (by simp [Value.ownBlock]; omega)); have hB7 := below_grown hB6 hg7 hB6.size hge; obtain ⟨⟨z2, c2⟩, f2⟩ := hO27.cellF k (by have := HW.out; have := hok.2.2.1; omega)))
        go_roundw
        case rel =>
          exact ⟨k + 1, _, _, _, by omega, rfl, hO17.other (grownBy_set _ g2 k _) (.inr (by simp [Value.ownBlock]; omega)), hO27.set k x (by rcases hx with rfl | rfl | rfl <;> decide), by simp; exact HW.out, hok6.setF k x hx,
            hs7.other (grownBy_set _ g2 k _) (by intro k hk; cases hk; omega), below_grown hB7 (grownBy_set _ g2 k _) hB7.size hge2⟩
        case measure => simp [intOf]; omega
      · have gy : (y == 0) = false := by simpa using hy
        go_wp2_with (first
          | (go_at_call 23; refine N.mono ?_; rintro e w5 ⟨rfl, hs5, hg5⟩; have hO15 := hO1.other hg5 (.inr (by simp [Value.ownBlock]; omega)); have hO25 := hO2.other hg5 (.inr (by simp [Value.ownBlock]; omega)); have hB5 := below_grown hBr hg5 hBr.size hge)
          | (go_at_call 24; refine (pick_arm w5.heap.size (by simp) hs5 hB5.size).mono ?_; rintro e w7 ⟨x, rfl, hx, hs7, hg7⟩; have hO17 := hO15.other hg7 (.inr (by simp [Value.ownBlock]; omega)); have hO27 := hO25.other hg7 (.inr (by simp [Value.ownBlock]; omega)); have hB7 := below_grown hB5 hg7 hB5.size hge; obtain ⟨⟨z2, c2⟩, f2⟩ := hO27.cellF k (by have := HW.out; have := hok.2.2.1; omega)))
        go_roundw
        case rel =>
          exact ⟨k + 1, _, _, _, by omega, rfl, hO17.other (grownBy_set _ g2 k _) (.inr (by simp [Value.ownBlock]; omega)), hO27.set k x (by rcases hx with rfl | rfl | rfl <;> decide), HW.out, hok.setF k x hx,
            hs7.other (grownBy_set _ g2 k _) (by intro k hk; cases hk; omega), below_grown hB7 (grownBy_set _ g2 k _) hB7.size hge2⟩
        case measure => simp [intOf]; omega
    · go_wp2
      go_ret2
      exact ⟨_, _, ws, fs, rfl, hO1.ints, hO2.ints, hok, hBr⟩
end Go.Proofs.Ytbopbmmalfobiaa
