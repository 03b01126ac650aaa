/- strip.Bags: a range over slices.Backward. -/
import Derived.RangeFuncBox
import Derived.RangeFuncNested
import Derived.RangeFuncLeaves
import Derived.Shelf.Abstract
import Derived.OwnWalkIn
import Derived.TacticsInMore
import Derived.LoopNIn
import Derived.LoopIn
import Derived.Maps.AppendAt
import Derived.Test.YtbopbmmalfobiaaStripF
namespace Go.Proofs.Ytbopbmmalfobiaa
open Go.RowKit Go.Shelf
attribute [local go_sem] Oper.semAt_some

/-- what slices.Backward yields in k rounds -/
def backTo (zs : List Int) (k : Nat) : List (Int × Int) := (List.range k).map fun j => (((zs.length - 1 - j : Nat) : Int), zs[zs.length - 1 - j]?.getD 0)
theorem backTo_succ (zs : List Int) (k : Nat) : backTo zs (k + 1) = backTo zs k ++ [(((zs.length - 1 - k : Nat) : Int), zs[zs.length - 1 - k]?.getD 0)] := by simp [backTo, List.range_succ]
theorem backTo_length (zs : List Int) (k : Nat) : (backTo zs k).length = k := by simp [backTo]

/-- what a round keeps: all below n₀, and the box of the iterator's slice -/
def KB (n₀ Bs : Nat) (W W' : World) : Prop := Below n₀ W W' ∧ W'.heap[Bs]? = W.heap[Bs]?
theorem KB.refl (n₀ Bs : Nat) (W : World) : KB n₀ Bs W W := ⟨Below.refl _ _, rfl⟩
theorem KB.t {n₀ Bs : Nat} {A B C : World} (h : KB n₀ Bs A B) (k : KB n₀ Bs B C) : KB n₀ Bs A C := ⟨h.1.trans k.1, k.2.trans h.2⟩
theorem KB.b {n₀ Bs : Nat} {w : World} (hn : n₀ ≤ w.heap.size) (hB : Bs < w.heap.size) (W : World) (l : Nat) (o o' : Obj) (hl : w.heap.size ≤ l) (h : W.heap[l]? = some o) (h1 : o.isCells = false) (h2 : o.isWalk = false) : KB n₀ Bs W (W.putObj l o') :=
  ⟨belowK_b hn W l o o' hl h h1 h2, (belowK_b (n₀ := Bs + 1) (w := w) (by omega) W l o o' hl h h1 h2).block Bs (by omega)⟩

set_option maxRecDepth 100000 in
set_option maxHeartbeats 2000000 in
theorem back1_in (F : Fence) (n : Nat) (h7 : F.fn 32) (hro : F.round = none) (_hn : 1 ≤ n) (l Bs n₀ b off cap : Nat) (zs : List Int) (hreach : zs.length ≤ 4611686018427387904) (hb : b < n₀) (J Jx : List (Int × Int) → World → Prop)
    (hY : ∀ pre x W, J pre W → pre.length < zs.length → YieldAt F (n - 1) Try.prog l #[.int .i64 x.1, .int .i64 x.2] W fun e W' =>
      (e = .returned (.bool true) ∧ J (pre ++ [x]) W' ∧ KB n₀ Bs W W') ∨ (e = .returned (.bool false) ∧ Jx (pre ++ [x]) W'))
    (W : World) (hBs : W.cell? ⟨Bs, 0, none⟩ = some (.slice (some ⟨b, off, none⟩) zs.length cap)) (hc : ∀ j, j < zs.length → W.cell? ⟨b, off + j, none⟩ = some (.int .i64 (zs[j]?.getD 0))) (h0 : J [] W) :
    CallsIn F n Try.prog 32 #[.func (.yield l) #[] #[], .pointer (some ⟨Bs, 0, none⟩)] W fun e W' => (∃ v, e = .returned v) ∧
      ((∃ ys, ys = backTo zs zs.length ∧ J ys W') ∨ (∃ pre, Jx pre W')) := by
  refine callsIn_of_wp Try.func32 rfl h7 ?_ hro
  simp only [Try.ntmps32, List.size_toArray, List.length_cons, List.length_nil, Nat.reduceAdd, Nat.reduceSub, Array.replicate_succ, Array.replicate_zero, List.push_toArray, List.append_toArray, List.nil_append, List.cons_append]
  gi_wp2
  gi_loopw [3] (fun i wr => ∃ k : Nat, k ≤ zs.length ∧ i = .int .i64 ((zs.length : Int) - 1 - k) ∧ J (backTo zs k) wr ∧ KB n₀ Bs W wr)
    (fun i _ => (intOf i + 1).toNat)
  case atStart => exact ⟨0, Nat.zero_le _, by simp, h0, KB.refl _ _ _⟩
  case round =>
    obtain ⟨k, hk, rfl, hJs, hnx⟩ := hrel
    by_cases hlt : k < zs.length
    · have ei : (zs.length : Int) - 1 - k = ((zs.length - 1 - k : Nat) : Int) := by omega
      rw [ei]
      obtain ⟨fn, tmps, assign, body, hy, hR⟩ := hY _ (((zs.length - 1 - k : Nat) : Int), zs[zs.length - 1 - k]?.getD 0) wr hJs (by rw [backTo_length]; exact hlt)
      have hsu := backTo_succ zs k
      have hcx' := (hnx.1.cell (p := ⟨b, off + (zs.length - 1 - k), none⟩) hb).trans (hc (zs.length - 1 - k) (by omega))
      have hbx := (World.cell?_of_block (a := ⟨Bs, 0, none⟩) hnx.2).trans hBs
      have hjl : zs.length - 1 - k < zs.length := by omega
      dsimp only at hy
      rw [← hsu] at hR
      generalize zs[zs.length - 1 - k]?.getD 0 = x at *
      have HS := Lib.hid hsu
      have HE := Lib.hid ei
      clear hsu ei
      generalize hj : zs.length - 1 - k = j at *
      have HJ := Lib.hid hj
      clear hj
      gi_wp2
      refine hR.mono ?_
      rintro e W3 (⟨rfl, hJ3, hk3⟩ | ⟨rfl, hJx3⟩)
      · gi_wp2
        go_roundw
        case rel => exact ⟨k + 1, by omega, by have := HE.out; congr 1; omega, hJ3, hnx.t hk3⟩
        case measure => simp [intOf]
      · gi_wp2
        refine bodyPost_ret (results_none rfl _ _ _) rfl ?_
        exact ⟨⟨_, rfl⟩, .inr ⟨_, hJx3⟩⟩
    · obtain rfl : k = zs.length := by omega
      have ei : (zs.length : Int) - 1 - zs.length = -1 := by omega
      rw [ei]
      clear ei
      gi_wp2
      go_end0
      exact ⟨⟨_, rfl⟩, .inl ⟨_, rfl, hJs⟩⟩

set_option maxRecDepth 100000 in
set_option maxHeartbeats 1000000 in
theorem back1_nil_in (F : Fence) (n : Nat) (h7 : F.fn 32) (hro : F.round = none) (l Bs : Nat) (a : Option Addr) (cap : Nat) (J : List (Int × Int) → World → Prop) (W : World) (hBs : W.cell? ⟨Bs, 0, none⟩ = some (.slice a 0 cap)) (h0 : J [] W) :
    CallsIn F n Try.prog 32 #[.func (.yield l) #[] #[], .pointer (some ⟨Bs, 0, none⟩)] W fun e W' => (∃ v, e = .returned v) ∧ J [] W' := by
  refine callsIn_of_wp Try.func32 rfl h7 ?_ hro
  simp only [Try.ntmps32, List.size_toArray, List.length_cons, List.length_nil, Nat.reduceAdd, Nat.reduceSub, Array.replicate_succ, Array.replicate_zero, List.push_toArray, List.append_toArray, List.nil_append, List.cons_append]
  gi_wp2
  gi_loopw [3] (fun i wr => i = .int .i64 (-1) ∧ J [] wr) (fun _ _ => 0)
  case atStart => exact ⟨rfl, h0⟩
  case round =>
    obtain ⟨rfl, hJs⟩ := hrel
    gi_wp2
    go_end0
    exact ⟨⟨_, rfl⟩, hJs⟩

set_option maxHeartbeats 1000000 in
theorem back_in (F : Fence) (n : Nat) (h5 : F.fn 25) (hro : F.round = none) (a : Option Addr) (len cap : Nat) (w : World) :
    CallsIn F n Try.prog 25 #[.slice a len cap] w fun e w' => e = .returned (.func (.func 32) #[] #[.pointer (some ⟨w.heap.size, 0, none⟩)]) ∧ w' = w.alloc (.cells #[.slice a len cap] 22) := by
  refine callsIn_of_wp Try.func25 rfl h5 ?_ hro
  simp only [Try.ntmps25, List.size_toArray, List.length_cons, List.length_nil, Nat.reduceAdd, Nat.reduceSub, Array.replicate_succ, Array.replicate_zero, List.push_toArray, List.append_toArray, List.nil_append, List.cons_append]
  gi_wp2
  go_ret
  exact ⟨rfl, rfl⟩

theorem backTo_snd (zs : List Int) : (backTo zs zs.length).map (·.2) = zs.reverse := by
  apply List.ext_getElem
  · simp [backTo]
  · intro i h1 h2
    have : i < zs.length := by simpa using h2
    have h3 : zs.length - 1 - i < zs.length := by omega
    simp [backTo, h3]

theorem back_stops (F : Fence) (n : Nat) (h7 : F.fn 32) (hro : F.round = none) (hn : 1 ≤ n) (Bs n₀ : Nat) (v : Value) (zs : List Int) (w : World) (hBs : Bs < w.heap.size) (hreach : zs.length ≤ 4611686018427387904)
    (hc : w.cell? ⟨Bs, 0, none⟩ = some v) (hI : IntsV w v zs) (hlt : 0 < zs.length → ∀ g, v.ownBlock = some g → g < n₀) :
    SeqStopsK F n Try.prog 32 #[.pointer (some ⟨Bs, 0, none⟩)] (fun x : Int × Int => #[Value.int .i64 x.1, Value.int .i64 x.2]) (KB n₀ Bs) (fun ys => ys = backTo zs zs.length) (fun _ => True) zs.length w := fun l J Jx W hW _ _ hY h0 => by
  have hc' := (hW.cell (p := ⟨Bs, 0, none⟩) hBs).trans hc
  obtain ⟨a, cap, rfl, h1, h2, h3, h4, h5⟩ := hI
  rcases Nat.eq_zero_or_pos zs.length with h0' | hpos
  · have : zs = [] := List.eq_nil_of_length_eq_zero h0'
    subst this
    exact (back1_nil_in F n h7 hro l Bs a cap J W hc' h0).mono fun e W' ⟨he, hj⟩ => ⟨he, .inl ⟨_, rfl, hj⟩⟩
  · obtain ⟨b, off, rfl, hb, hcs⟩ := h5 hpos
    refine (back1_in F n h7 hro hn l Bs n₀ b off cap zs hreach (hlt hpos b rfl) J Jx hY W hc' (fun j hj => (hW.cell (p := ⟨b, off + j, none⟩) hb).trans (hcs j hj)) h0).mono ?_
    rintro e W' ⟨he, ⟨ys, rfl, hj⟩ | ⟨pre, hj⟩⟩
    · exact ⟨he, .inl ⟨_, rfl, hj⟩⟩
    · exact ⟨he, .inr ⟨_, trivial, hj⟩⟩

/-- the bags among what has come -/
def gath (pre : List (Int × Int)) : List Int := (pre.map (·.2)).filter (· != 0)
theorem gath_hit (pre : List (Int × Int)) {x : Int × Int} (h : x.2 ≠ 0) : gath (pre ++ [x]) = gath pre ++ [x.2] := by simp [gath, h]
theorem gath_miss (pre : List (Int × Int)) {x : Int × Int} (h : x.2 = 0) : gath (pre ++ [x]) = gath pre := by simp [gath, h]
theorem gath_le (pre : List (Int × Int)) : (gath pre).length ≤ pre.length := Nat.le_trans (List.length_filter_le _ _) (by simp)

set_option maxRecDepth 100000 in
set_option maxHeartbeats 2000000 in
theorem Bags_in (F : Fence) (n : Nat) (h3 : F.fn 9) (h4 : F.fn 25) (h5 : F.fn 32) (hro : F.round = none) (hn : 3 ≤ n) (a : Option Addr) (len cap : Nat) (zs : List Int) (hlen : zs.length ≤ 1000000000) (w : World)
    (hI : IntsV w (.slice a len cap) zs) :
    CallsIn F n Try.prog 9 #[.slice a len cap] w fun e W' => ∃ v, e = .returned v ∧ W'.ownsRow w.heap.size 3 1 v (bagsF zs).length ((bagsF zs).map (Value.int .i64)) ∧ Below w.heap.size w W' := by
  have h1 : 1 ≤ n := by omega
  have hlt : 0 < zs.length → ∀ g, (Value.slice a len cap).ownBlock = some g → g < w.heap.size := by
    intro hl g hg
    obtain ⟨a', cap', hv, _, _, _, h4, h5⟩ := hI
    cases hv
    obtain ⟨b, off, rfl, hb, _⟩ := h5 hl
    cases hg
    exact hb
  obtain ⟨i0, hi, hz0, hz1, hz2⟩ := info_parts infoInt
  refine callsIn_of_wp_marks Try.func9 rfl h3 ?_ hro
  simp only [Try.ntmps9, List.size_toArray, List.length_cons, List.length_nil, Nat.reduceAdd, Nat.reduceSub, Array.replicate_succ, Array.replicate_zero, List.push_toArray, List.append_toArray, List.nil_append, List.cons_append]
  gi_wp2_with (gi_at_call 25; refine (back_in F (n - 1) h4 hro _ _ _ _).mono ?_; rintro e w' ⟨rfl, rfl⟩)
  have bO := Boxed.new w 22 (.slice none 0 0)
  have bN := Boxed.new (w.alloc (.cells #[.slice none 0 0] 22)) 22 (.slice a len cap)
  rw [World.size_alloc] at bN
  have hB0 : Below w.heap.size w ((w.alloc (.cells #[.slice none 0 0] 22)).alloc (.cells #[.slice a len cap] 22)) := ((Below.refl _ w).alloc (Nat.le_refl _) _).alloc (by simp) _
  refine wpIn_rangeFunc_ownG hro h1 (gf := 32) (lb := #[.pointer (some ⟨w.heap.size + 1, 0, none⟩)]) rfl h5 (enters_of Try.func32 (by kernel_rfl) rfl)
    (back_stops F (n - 1) h5 hro (by omega) (w.heap.size + 1) w.heap.size (.slice a len cap) zs _ (by simp) (by omega) bN.cell ((hI.alloc _).alloc _) hlt) KB.t (KB.b (by simp; omega) (by simp)) (Below.refl _ _) (fun _ => rfl)
    (fun pre W => ((∃ v, Boxed W w.heap.size 22 v ∧ W.ownsRow w.heap.size 3 1 v (gath pre).length ((gath pre).map (Value.int .i64)) ∧ (v = .slice none 0 0 ↔ gath pre = [])) ∧ Boxed W (w.heap.size + 1) 22 (.slice a len cap)) ∧ Below w.heap.size w W)
    (fun _ _ _ => False)
    (OwnFrom.and (OwnFrom.and (Own.from (holdsRow_own w.heap.size w.heap.size 22 3 1 (fun pre => (gath pre).length) (fun pre => (gath pre).map (Value.int .i64)) (fun pre v => v = .slice none 0 0 ↔ gath pre = [])) _) (Own.from (boxed_own _ _ _) _)) (ownFrom_below (Nat.le_refl _) (by simp; omega)))
    (fun _ _ _ _ _ hs _ _ => hs)
    ⟨⟨⟨_, bO.alloc _, World.ownsRow_nil _ _ _ _, by simp [gath]⟩, bN⟩, hB0⟩
    (fun x => { tmps := #[.slice a len cap, undef, .slice none 0 0, .pointer (some ⟨w.heap.size, 0, none⟩), undef, .int .i64 x.2, .slice a len cap, .func (.func 32) #[] #[.pointer (some ⟨w.heap.size + 1, 0, none⟩)], .int .i64 x.1, .int .i64 x.2, undef, undef, undef, undef, undef, undef, undef], defers := [] }) ?assign ?body ?done ?stop
  case assign =>
    intro l x W K hK
    gi_wp2
    exact hK
  case body =>
    rintro l pre x W ⟨⟨⟨v, hv, hrow, hnil⟩, hbs⟩, hB⟩ hlt2
    have hc := hv.cell
    have hpl := gath_le pre
    by_cases h0 : x.2 = 0
    · have g0 : (x.2 != 0) = false := by simpa using h0
      have H0 := Lib.hid h0
      clear h0
      gi_wp2
      exact ⟨KeepsFrom.refl _ _, KB.refl _ _ _, ⟨⟨v, hv, by rw [gath_miss pre H0.out]; exact hrow, by rw [gath_miss pre H0.out]; exact hnil⟩, hbs⟩, hB⟩
    · have g0 : (x.2 != 0) = true := by simpa using h0
      have H0 := Lib.hid h0
      clear h0
      gi_wp2_with (gi_at_builtin; refine wpListIn_append_own _ rfl _ _ 22 rfl w.heap.size 3 i0 (.int .i64 0) 1 8 Try.underlying22 hi hz0 hz1 hz2 rfl (by decide) _ _ _ rfl (hrow.alloc _) ⟨W.heap.size, 0, none⟩ 1 1 [.int .i64 x.2] rfl rfl (cell_one_new _ _ _) (by simp [Value.oneCell']) (by unfold maxLen; omega) (by omega) (by have := hB.size; simp; omega) ?_; intro v' w1 hown' hgrow _; obtain ⟨g', cap', rfl⟩ := ownsRow_succ hown'; obtain ⟨hv1, hv2, hr2, hk2, hb2⟩ := hv.appended (by decide) hrow hB.size (Nat.le_refl _) hown' hgrow; have hc1 := hv1.cell; have hf1 := hv1.frozen)
      have hbs2 := ((hbs.alloc (.cells #[.int .i64 x.2] 3)).kept hgrow (hbs.not_row (by decide) hrow)).other (B' := w.heap.size) (by omega) (.slice (some ⟨g', 0, none⟩) ((gath pre).length + 1) cap')
      exact ⟨hk2.from _, ⟨hb2, hbs2.trans hbs.symm⟩, ⟨⟨_, hv2, by rw [gath_hit pre H0.out]; simpa using hr2, by rw [gath_hit pre H0.out]; simp⟩, hbs2⟩, hB.trans hb2⟩
  case done =>
    rintro D ys W hD rfl ⟨⟨⟨v, hv, hrow, hnil⟩, hbs⟩, hB⟩ hK
    have hc := hv.cell
    have hga : gath (backTo zs zs.length) = bagsF zs := by unfold gath bagsF; rw [backTo_snd]
    rw [hga] at hrow
    gi_wp2
    refine ⟨by simp, .inl ⟨_, _, rfl, run_takeDeferred hK, ?_⟩⟩
    exact ⟨_, results_tmp rfl _ _ _, v, rfl, ownsRow_putObj hrow _ hK rfl, hB.trans (belowK_b (w := w) (Nat.le_refl _) W D _ _ (by simp at hD; omega) hK rfl rfl)⟩
  case stop =>
    rintro D c pre W _ _ h _
    exact h.elim

theorem Bags_any (v : Value) (l : List Int) (w : World) (hv : IntsV w v l) (hl : l.length ≤ 1000000000) :
    Calls Try.prog 9 #[v] w (BagsPost l w) := by
  have hwf := hv.wf
  have hv' := hv
  obtain ⟨a, cap, rfl, _⟩ := hv
  refine (callsIn_wide (n := 3)).1 ((Bags_in Fence.wide 3 trivial trivial trivial rfl (by omega) a _ cap l hl w hv').mono ?_)
  rintro e W' ⟨v, rfl, hrow, hB⟩
  exact ⟨v, rfl, ⟨hrow, fun n hn => hwf n (by simp [bagsF] at hn; exact hn.1)⟩, hB⟩
end Go.Proofs.Ytbopbmmalfobiaa
