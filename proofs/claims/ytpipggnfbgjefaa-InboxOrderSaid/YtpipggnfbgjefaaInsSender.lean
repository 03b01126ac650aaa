/- slices.Insert at a slice of structs of several cells: the road where there is room and the place is not the end. UNDER WAY. -/
import Derived.Test.YtpipggnfbgjefaaProg
import Derived.Shelf.RegionOpenPlain
import Derived.WalkKit
import Derived.Lib.Walk
import Derived.Lib.SliceRun
import Derived.Lib.JoinLaws
import Derived.Lib.AppendZeros
import Derived.Lib.Overlaps
import Derived.Laws.Externs
import Derived.Laws.IdiomCopy
import Derived.Shelf.Spec.SlicesInsert
import Derived.Lib.AppendZerosOnto
import Derived.Laws.NewBlocks
import Derived.Test.YtpipggnfbgjefaaInsA
import Derived.Test.YtpipggnfbgjefaaExB
set_option linter.unusedVariables false
set_option linter.unusedSimpArgs false
namespace Go.Proofs.Ytpipggnfbgjefaa.InsSender
open Go.Shelf Go.RowKit Go.Lib

theorem run_copy_cellsN {P : Program} (w : World) (dT sT ty elem : TypeId) (k b o dLen dCap : Nat) (a : Addr) (sLen sCap : Nat) (cs : List Value)
    (hu : P.underlying dT = some (.slice elem)) (hs : (P.info? elem).map (·.size) = some k) (hn : cs.length = Nat.min sLen dLen * k)
    (hsrc : ∀ j v, cs[j]? = some v → w.cell? (a.add j) = some v) (hc : ∀ j, j < cs.length → (w.cell? ⟨b, o + j, none⟩).isSome = true) (hf : ∀ j, j < cs.length → w.frozen? ⟨b, o + j, none⟩ = false) (h1 : ∀ v ∈ cs, v.oneCell' = true) :
    (Builtin.copy_ #[dT, sT] ty #[.slice (some ⟨b, o, none⟩) dLen dCap, .slice (some a) sLen sCap]).run P w = .ok (goInt (Nat.min sLen dLen)) (w.setCells b o cs) := by
  have hl := run_loadCells_list (P := P) w a cs hsrc
  have hst := run_storeCells_cells (P := P) b o cs 0 w (by simpa using hc) (by simpa using hf) h1
  cases hq : P.info? elem with
  | none => simp [hq] at hs
  | some i =>
    have hi : i.size = k := by simpa [hq] using hs
    rw [hn] at hl
    simp [Builtin.copy_, run_underlying hu, Builtin.lenOf, Builtin.firstCells, sizeOf, typeInfo, hq, hi, hl, hst]

theorem infoE : (Try.prog.info? 70).map (·.size) = some 3 := by kernel_rfl

set_option maxHeartbeats 4000000 in
set_option maxRecDepth 100000 in
/-- THERE IS ROOM, i < len(s): in place -/
theorem shift (b n c i vb voff m vc : Nat) (cs vs : List Value) (w : World) (hi : i < n) (hm : 0 < m) (hroom : n + m ≤ c) (hc63 : c ≤ 9223372036854775807) (hvb : vb ≠ b)
    (hcl : cs.length = n * 3) (hvl : vs.length = m * 3)
    (hcs : ∀ j v, cs[j]? = some v → w.cell? ⟨b, j, none⟩ = some v) (hsp : ∀ j, j < (n + m) * 3 → (w.cell? ⟨b, j, none⟩).isSome = true) (hfz : ∀ j, j < (n + m) * 3 → w.frozen? ⟨b, j, none⟩ = false)
    (hvs : ∀ j v, vs[j]? = some v → w.cell? ⟨vb, voff + j, none⟩ = some v) (h1c : ∀ v ∈ cs, v.oneCell' = true) (h1v : ∀ v ∈ vs, v.oneCell' = true)
    (tA tB : TypeId) (kA kB : Nat) (hsa : w.shape? vb = some (tA, kA)) (hsb : w.shape? b = some (tB, kB)) (hkB : kB ≠ 0) (hfa : w.frozen? ⟨vb, voff, none⟩ = false) (hfe : w.frozen? ⟨vb, kA, none⟩ = false) :
    Calls Try.prog 36 #[.slice (some ⟨b, 0, none⟩) n c, .int .i64 i, .slice (some ⟨vb, voff, none⟩) m vc] w fun e w' =>
      e = .returned (.slice (some ⟨b, 0, none⟩) (n + m) c) ∧ w' = (w.drew.setCells b ((i + m) * 3) (cs.drop (i * 3))).setCells b (i * 3) vs := by
  have hz1 : ¬ ((m : Int) = 0) := by omega
  have hz2 : ¬ ((i : Int) = (n : Int)) := by omega
  have hw1 : IntKind.i64.wrap ((i : Int) + (m : Int)) = (i : Int) + (m : Int) := by rw [IntKind.wrap_i64]; omega
  have hb1 : (0 : Int) ≤ (i : Int) + (m : Int) := by omega
  have hin : i ≤ n := by omega
  have htn : ((i : Int) + (m : Int)).toNat = i + m := by omega
  have hb2 : ¬ (c = i + m) := by omega
  have hb3 : (i : Int) ≤ (n : Int) + (m : Int) := by omega
  have hb4 : ¬ (c = i) := by omega
  have hdl : (cs.drop (i * 3)).length = (n - i) * 3 := by rw [List.length_drop, hcl]; omega
  have hcp1 : ∀ ty dc sc, (Builtin.copy_ #[24, 24] ty #[.slice (some ⟨b, (i + m) * 3, none⟩) (n + m - (i + m)) dc, .slice (some ⟨b, i * 3, none⟩) (n + m - i) sc]).run Try.prog w.drew = .ok (goInt ((n - i : Nat) : Int)) (w.drew.setCells b ((i + m) * 3) (cs.drop (i * 3))) := fun ty dc sc => by
    have hmin : Nat.min (n + m - i) (n + m - (i + m)) = n - i := by simp only [Nat.min_def]; split <;> omega
    have := run_copy_cellsN (P := Try.prog) w.drew 24 24 ty 70 3 b ((i + m) * 3) (n + m - (i + m)) dc ⟨b, i * 3, none⟩ (n + m - i) sc (cs.drop (i * 3)) Try.underlying24 infoE (by rw [hdl, hmin])
      (fun j v hj => by rw [Addr.add_lit]; exact hcs (i * 3 + j) v (by rwa [List.getElem?_drop] at hj))
      (fun j hj => hsp _ (by omega)) (fun j hj => hfz _ (by omega)) (fun v hv => h1c v (List.mem_of_mem_drop hv))
    rwa [hmin] at this
  obtain ⟨W1, hW1⟩ : ∃ W1, W1 = w.drew.setCells b ((i + m) * 3) (cs.drop (i * 3)) := ⟨_, rfl⟩
  have hsp1 : ∀ k, k < (n + m) * 3 → (W1.cell? ⟨b, k, none⟩).isSome = true := fun k hk => by
    rw [hW1]
    exact isSome_setCells b (cs.drop (i * 3)) ((i + m) * 3) w.drew (fun j hj => hsp ((i + m) * 3 + j) (by omega)) k (hsp k hk)
  have hcp2 : ∀ (W : World), (∀ x, W.cell? x = W1.cell? x) → (∀ x, W.frozen? x = W1.frozen? x) → ∀ ty dc, (Builtin.copy_ #[24, 24] ty #[.slice (some ⟨b, i * 3, none⟩) (n + m - i) dc, .slice (some ⟨vb, voff, none⟩) m vc]).run Try.prog W = .ok (goInt ((m : Nat) : Int)) (W.setCells b (i * 3) vs) := fun W hWc hWf ty dc => by
    have hmin : Nat.min m (n + m - i) = m := by simp only [Nat.min_def]; split <;> omega
    have := run_copy_cellsN (P := Try.prog) W 24 24 ty 70 3 b (i * 3) (n + m - i) dc ⟨vb, voff, none⟩ m vc vs Try.underlying24 infoE (by rw [hvl, hmin])
      (fun j v hj => by
        rw [Addr.add_lit, hWc, hW1, World.cell?_setCells_out b _ _ _ _ (fun h _ => absurd h hvb)]
        exact hvs j v hj)
      (fun j hj => by rw [hWc]; exact hsp1 _ (by omega)) (fun j hj => by rw [hWf, hW1, World.frozen?_setCells]; exact hfz _ (by omega)) h1v
    rwa [hmin] at this
  rw [← hW1] at hcp1
  have hz : ∀ w : World, (Go.sizeOf 70).run Try.prog w = .ok 3 w := fun w => by kernel_rfl
  have hov : ∀ lb cb, (callFunc 62 #[.slice (some ⟨vb, voff, none⟩) m vc, .slice (some ⟨b, (i + m) * 3, none⟩) lb cb]).run Try.prog w = .ok (.value (.bool false)) w := fun lb cb => by
    rw [run_callFunc_extern Try.func62 (by kernel_rfl) (by kernel_rfl) (by kernel_rfl) (e := Extern.SlicesOverlaps.overlaps #[24, 24] #[4]) (by kernel_rfl),
      Lib.run_overlaps_apart w 24 4 70 Try.underlying24 3 hz ⟨vb, voff, none⟩ ⟨b, (i + m) * 3, none⟩ m vc lb cb hvb tA tB kA kB hsa hsb hkB hfa hfe]
    rfl
  have mixed : Try.prog.follows .mixedOrders = true := by kernel_rfl
  go_enter Try.func36, Try.ntmps36
  go_wp2_with (simp only [hov])
  go_region_law_o (refine step_copy_runI rfl _ _ 24 24 rfl _ _ (by simp [Act.eval, Act.put]) (by simp [Act.eval, Act.put]) (hcp1 _ _ _) ?_)
  go_wp2_with (at_builtin; refine wpList_copy_runI _ rfl _ _ 24 24 rfl _ _ rfl rfl (hcp2 _ (fun _ => rfl) (fun _ => rfl) _ _) ?_)
  go_ret
  first | exact ⟨rfl, rfl⟩ | exact ⟨rfl, by rw [hW1]⟩

theorem infoZ : ∃ i0 z, Try.prog.info? 70 = some i0 ∧ i0.zero = some z ∧ i0.size = 3 ∧ z.cells.size = 3 ∧ i0.bytes ≤ 8388608 := by
  have h : (match Try.prog.info? 70 with
    | some i => match i.zero with
      | some z => i.size == 3 && z.cells.size == 3 && Nat.ble i.bytes 8388608
      | none => false
    | none => false) = true := by kernel_rfl
  split at h
  · rename_i i hi
    split at h
    · rename_i z hz
      simp only [Bool.and_eq_true, beq_iff_eq] at h
      exact ⟨i, z, hi, hz, h.1.1, h.1.2, Nat.le_of_ble_eq_true h.2⟩
    · cases h
  · cases h

theorem sz_zero (z : Value) (h : z.cells.size = 3) (k : Nat) : (Builtin.zeroCells z.cells k).size = k * 3 := by
  simp [Builtin.zeroCells, h]

set_option maxHeartbeats 4000000 in
set_option maxRecDepth 100000 in
/-- i < len(s), NO ROOM: a new row -/
theorem grow (z : Value) (i0 : TypeInfo) (hi0 : Try.prog.info? 70 = some i0) (hz0 : i0.zero = some z) (hzs : i0.size = 3) (hzc : z.cells.size = 3) (b n c i vb voff m vc : Nat) (cs vs : List Value) (w : World) (hi : i < n) (hm : 0 < m) (hnc : n ≤ c) (hroom : c < n + m) (hbig : (n + m) * i0.bytes ≤ 140737488355328) (hbig2 : n + m ≤ 16777216)
    (hcl : cs.length = n * 3) (hvl : vs.length = m * 3)
    (hcs : ∀ j v, cs[j]? = some v → w.cell? ⟨b, j, none⟩ = some v)
    (hvs : ∀ j v, vs[j]? = some v → w.cell? ⟨vb, voff + j, none⟩ = some v) (h1c : ∀ v ∈ cs, v.oneCell' = true) (h1v : ∀ v ∈ vs, v.oneCell' = true) :
    Calls Try.prog 36 #[.slice (some ⟨b, 0, none⟩) n c, .int .i64 i, .slice (some ⟨vb, voff, none⟩) m vc] w fun e w' =>
      e = .returned (.slice (some ⟨w.heap.size, 0, none⟩) (n + m) (grownCap w (n + m) c 70)) ∧
      w' = (((w.alloc (.cells ((cs.take (i * 3)).toArray ++ Builtin.zeroCells z.cells (n + m - i) ++ Builtin.zeroCells z.cells (grownCap w (n + m) c 70 - (n + m))) 70)).drew.setCells w.heap.size (i * 3) vs).drew).setCells w.heap.size ((i + m) * 3) (cs.drop (i * 3)) := by
  have hz1 : ¬ ((m : Int) = 0) := by omega
  have hz2 : ¬ ((i : Int) = (n : Int)) := by omega
  have hz3 : (c : Int) < (n : Int) + (m : Int) := by omega
  have hbw : b < w.heap.size := block_lt_of_cell (hcs 0 _ (List.getElem?_eq_getElem (by omega)))
  have hvw : vb < w.heap.size := block_lt_of_cell (hvs 0 _ (List.getElem?_eq_getElem (by omega)))
  have hkk : (n : Int) + (m : Int) - (i : Int) = ((n + m - i : Nat) : Int) := by omega
  have hik : i + (n + m - i) = n + m := by omega
  have hold : (Builtin.firstCells i0.size i (.slice (some ⟨b, 0, none⟩) i c)).run Try.prog w.drew = .ok (cs.take (i * 3)).toArray w.drew := by
    rw [hzs]
    exact run_firstCells_some w.drew 3 i ⟨b, 0, none⟩ i c (cs.take (i * 3)) (by rw [List.length_take]; omega) (fun j v hj => by
      rw [Addr.add_lit, Nat.zero_add]
      rw [List.getElem?_take] at hj
      split at hj
      · exact hcs j v hj
      · cases hj)
  have hrz : ∀ ty, (Builtin.append_ #[24, 3] ty #[.slice (some ⟨b, 0, none⟩) i c, .int .i64 ((n : Int) + (m : Int) - (i : Int))]).run Try.prog w =
      .ok (.slice (some ⟨w.heap.size, 0, none⟩) (n + m) (grownCap w (n + m) c 70)) (w.drew.alloc (.cells ((cs.take (i * 3)).toArray ++ Builtin.zeroCells z.cells (n + m - i) ++ Builtin.zeroCells z.cells (grownCap w (n + m) c 70 - (n + m))) 70)) := fun ty => by
    have h := Lib.run_append_grow_zeros w 24 3 ty 70 i0 z .i64 .i64 Try.underlying24 Try.underlying3 hi0 hz0 (some ⟨b, 0, none⟩) i c (cs.take (i * 3)) hold (n + m - i) (by omega) (by omega) (by omega) (by omega)
      (Nat.le_trans (Nat.mul_le_mul_right _ (show n + m - i ≤ n + m by omega)) (Nat.le_trans hbig (by decide))) (by rw [hik]; exact growslice_fits hroom hbig)
    rw [hik] at h
    rw [hkk]
    exact h
  obtain ⟨G, hG⟩ : ∃ G, G = grownCap w (n + m) c 70 := ⟨_, rfl⟩
  obtain ⟨ROW, hROW⟩ : ∃ ROW : Array Value, ROW = (cs.take (i * 3)).toArray ++ Builtin.zeroCells z.cells (n + m - i) ++ Builtin.zeroCells z.cells (G - (n + m)) := ⟨_, rfl⟩
  rw [← hG] at hrz ⊢
  rw [← hROW] at hrz ⊢
  have hRl : (n + m) * 3 ≤ ROW.size := by
    rw [hROW]
    simp only [Array.size_append, sz_zero z hzc, List.size_toArray, List.length_take]
    omega
  obtain ⟨W1, hW1⟩ : ∃ W1, W1 = w.drew.alloc (.cells ROW 70) := ⟨_, rfl⟩
  rw [← hW1] at hrz
  have hN : ∀ j, j < (n + m) * 3 → (W1.cell? ⟨w.heap.size, j, none⟩).isSome = true := fun j hj => by
    rw [hW1, World.cell?_alloc_at (w := w.drew) ROW _ w.heap.size j rfl, Array.getElem?_eq_getElem (by omega)]; rfl
  have hNf : ∀ j, W1.frozen? ⟨w.heap.size, j, none⟩ = false := fun j => by rw [hW1]; exact World.frozen?_alloc_at (w := w.drew) ROW _ w.heap.size j rfl
  have hOb : ∀ j v, w.cell? ⟨b, j, none⟩ = some v → W1.cell? ⟨b, j, none⟩ = some v := fun j v h => by rw [hW1, World.cell?_alloc_past (w := w.drew) _ b j hbw]; exact h
  have hOv : ∀ j v, w.cell? ⟨vb, j, none⟩ = some v → W1.cell? ⟨vb, j, none⟩ = some v := fun j v h => by rw [hW1, World.cell?_alloc_past (w := w.drew) _ vb j hvw]; exact h
  have hdl : (cs.drop (i * 3)).length = (n - i) * 3 := by rw [List.length_drop, hcl]; omega
  have hbN : b ≠ w.heap.size := by omega
  have hcpA : ∀ (W : World), (∀ x, W.cell? x = W1.cell? x) → (∀ x, W.frozen? x = W1.frozen? x) → ∀ ty dc, (Builtin.copy_ #[24, 24] ty #[.slice (some ⟨w.heap.size, i * 3, none⟩) (n + m - i) dc, .slice (some ⟨vb, voff, none⟩) m vc]).run Try.prog W = .ok (goInt ((m : Nat) : Int)) (W.setCells w.heap.size (i * 3) vs) := fun W hWc hWf ty dc => by
    have hmin : Nat.min m (n + m - i) = m := by simp only [Nat.min_def]; split <;> omega
    have := run_copy_cellsN (P := Try.prog) W 24 24 ty 70 3 w.heap.size (i * 3) (n + m - i) dc ⟨vb, voff, none⟩ m vc vs Try.underlying24 infoE (by rw [hvl, hmin])
      (fun j v hj => by rw [Addr.add_lit, hWc]; exact hOv _ v (hvs j v hj))
      (fun j hj => by rw [hWc]; exact hN _ (by omega)) (fun j hj => by rw [hWf]; exact hNf _) h1v
    rwa [hmin] at this
  have hcpB : ∀ (W : World), (∀ x, W.cell? x = (W1.setCells w.heap.size (i * 3) vs).cell? x) → (∀ x, W.frozen? x = (W1.setCells w.heap.size (i * 3) vs).frozen? x) → ∀ ty dc sc, (Builtin.copy_ #[24, 24] ty #[.slice (some ⟨w.heap.size, (i + m) * 3, none⟩) (n + m - (i + m)) dc, .slice (some ⟨b, i * 3, none⟩) (n - i) sc]).run Try.prog W = .ok (goInt ((n - i : Nat) : Int)) (W.setCells w.heap.size ((i + m) * 3) (cs.drop (i * 3))) := fun W hWc hWf ty dc sc => by
    have hmin : Nat.min (n - i) (n + m - (i + m)) = n - i := by simp only [Nat.min_def]; split <;> omega
    have := run_copy_cellsN (P := Try.prog) W 24 24 ty 70 3 w.heap.size ((i + m) * 3) (n + m - (i + m)) dc ⟨b, i * 3, none⟩ (n - i) sc (cs.drop (i * 3)) Try.underlying24 infoE (by rw [hdl, hmin])
      (fun j v hj => by
        rw [Addr.add_lit, hWc, World.cell?_setCells_out _ _ _ _ _ (fun h _ => absurd h hbN)]
        exact hOb _ v (hcs (i * 3 + j) v (by rwa [List.getElem?_drop] at hj)))
      (fun j hj => by rw [hWc]; exact isSome_setCells w.heap.size vs (i * 3) W1 (fun t ht => hN _ (by omega)) _ (hN _ (by omega)))
      (fun j hj => by rw [hWf, World.frozen?_setCells]; exact hNf _) (fun v hv => h1c v (List.mem_of_mem_drop hv))
    rwa [hmin] at this
  have hGn : n + m ≤ G := by rw [hG]; exact grownCap_ge w _ _ _
  have hG63 : G ≤ 9223372036854775807 := by
    have := grownCap_le_maxLen w (n + m) c 70 (by unfold maxLen; omega)
    rw [← hG] at this
    unfold maxLen at this
    omega
  have hGi : ¬ (G = i) := by omega
  have hGim : ¬ (G = i + m) := by omega
  have hci : ¬ (c = i) := by omega
  have hc63 : c ≤ 9223372036854775807 := by omega
  subst hW1
  have hE1 : ∀ x, ((w.alloc (.cells ROW 70)).drew).cell? x = (w.drew.alloc (.cells ROW 70)).cell? x := fun x => rfl
  have hE2 : ∀ x, ((w.alloc (.cells ROW 70)).drew).frozen? x = (w.drew.alloc (.cells ROW 70)).frozen? x := fun x => rfl
  have hF1 : ∀ x, (((w.alloc (.cells ROW 70)).drew.setCells w.heap.size (i * 3) vs).drew).cell? x = ((w.drew.alloc (.cells ROW 70)).setCells w.heap.size (i * 3) vs).cell? x := fun x => rfl
  have hF2 : ∀ x, (((w.alloc (.cells ROW 70)).drew.setCells w.heap.size (i * 3) vs).drew).frozen? x = ((w.drew.alloc (.cells ROW 70)).setCells w.heap.size (i * 3) vs).frozen? x := fun x => rfl
  have hw1 : IntKind.i64.wrap ((i : Int) + (m : Int)) = (i : Int) + (m : Int) := by rw [IntKind.wrap_i64]; omega
  have hb1 : (0 : Int) ≤ (i : Int) + (m : Int) := by omega
  have hin : i ≤ n := by omega
  have htn : ((i : Int) + (m : Int)).toNat = i + m := by omega
  have hb3 : (i : Int) ≤ (n : Int) := by omega
  have mixed : Try.prog.follows .mixedOrders = true := by kernel_rfl
  clear hkk hik hold hROW hG hRl
  go_enter Try.func36, Try.ntmps36
  go_wp2_with (first
    | (at_builtin; refine Lib.wpList_append_run _ rfl _ _ _ _ rfl _ _ rfl rfl _ _ (hrz _) ?_)
    | (at_builtin; refine wpList_copy_runI _ rfl _ _ 24 24 rfl _ _ rfl rfl (hcpA _ hE1 hE2 _ _) ?_)
    | (at_builtin; refine wpList_copy_runI _ rfl _ _ 24 24 rfl _ _ rfl rfl (hcpB _ (fun _ => rfl) (fun _ => rfl) _ _ _) ?_))
  go_region_law_o (refine step_copy_runI rfl _ _ 24 24 rfl (.slice (some ⟨w.heap.size, (i + m) * 3, none⟩) (n + m - (i + m)) (G - (i + m))) (.slice (some ⟨b, i * 3, none⟩) (n - i) (c - i)) (by simp [Act.eval, Act.put]) (by simp [Act.eval, Act.put]) (hcpB _ hF1 hF2 24 (G - (i + m)) (c - i)) ?_)
  go_wp2
  go_ret
  exact ⟨rfl, rfl⟩

open Go.Proofs.Ytpipggnfbgjefaa.Ax
set_option maxRecDepth 100000 in
set_option maxHeartbeats 4000000 in
theorem ins_mid (xs ys : List (List AV)) (k : Nat) (hk : k < xs.length) (hy : 0 < ys.length) (hlen : xs.length + ys.length ≤ 16777216) {C : Ctx} {w : World} {vals : Array Value} {β : Nat → Option Hdr} {F : Nat → Prop} (hv : vals.size = 3)
    (hB : RelB C (Below' 2) (entry [.osl 0, .int .i64 (k : Nat), .osl 1] [.row 3 xs, .row 3 ys]) ⟨vals, []⟩ w β F) :
    Calls Try.prog 36 vals w fun e w' => ∃ v, e = .returned v ∧ Rel { C with nt := 1 } (Below' 3) (entry [.osl 2] [.dead, .row 3 ys, .row 3 (xs.take k ++ ys ++ xs.drop k)]) ⟨#[v], []⟩ w' := by
  obtain ⟨v0, v1, v2, rfl⟩ : ∃ v0 v1 v2, vals = #[v0, v1, v2] := ⟨vals[0], vals[1], vals[2], by
    apply Array.ext
    · simpa using hv
    · intro i h1 h2
      have : i < 3 := by omega
      match i, this with
      | 0, _ => rfl
      | 1, _ => rfl
      | 2, _ => rfl⟩
  have q0 : RV w F β (.osl 0) v0 := hB.env 0
  have q1 : RV w F β (.int .i64 (k : Nat)) v1 := hB.env 1
  have q2 : RV w F β (.osl 1) v2 := hB.env 2
  obtain ⟨g, hg, hbg, hlg⟩ := hB.live 0 (.row 3 xs) rfl
  obtain ⟨g1, hg1, hbg1, hlg1⟩ := hB.live 1 (.row 3 ys) rfl
  cases q1
  cases q0 with
  | osl _ h e =>
  rw [hg] at e
  cases e
  cases q2 with
  | osl _ h e =>
  rw [hg1] at e
  cases e
  have hbg0 := hbg
  obtain ⟨p1, p2, p3, p4, p5, p6⟩ := hbg0
  obtain ⟨r1, r2, r3, r4, r5, r6⟩ := hbg1
  obtain ⟨b, hb⟩ : ∃ b, g.blk = some b := by
    cases e : g.blk with
    | none => have := p4 e; omega
    | some b => exact ⟨b, rfl⟩
  obtain ⟨vb, hvb⟩ : ∃ b, g1.blk = some b := by
    cases e : g1.blk with
    | none => have := r4 e; omega
    | some b => exact ⟨b, rfl⟩
  have hne : vb ≠ b := fun e => by
    subst e
    have := hB.inj 0 1 _ _ g g1 vb rfl rfl hg hg1 hb hvb
    omega
  obtain ⟨arr, ty, a1, a2, a3⟩ := row_flat hbg hb (lo := 0) (n := xs.length) (by omega)
  obtain ⟨arr1, ty1, b1, b2, b3⟩ := row_flat (h := ⟨r1, r2, r3, r4, r5, r6⟩) hvb (lo := 0) (n := ys.length) (by omega)
  simp only [List.drop_zero, Nat.zero_mul, List.take_length] at a3 b3
  have a4 : xs.length * 3 ≤ arr.size := Nat.le_trans (Nat.mul_le_mul_right _ p2) a2
  have b4 : ys.length * 3 ≤ arr1.size := Nat.le_trans (Nat.mul_le_mul_right _ r2) b2
  have hcs : ∀ j v, (arr.toList.take (xs.length * 3))[j]? = some v → w.cell? ⟨b, j, none⟩ = some v := fun j v hj => by
    rw [List.getElem?_take] at hj
    split at hj
    · rw [Array.getElem?_toList] at hj; simp [World.cell?, a1, hj]
    · cases hj
  have hvs : ∀ j v, (arr1.toList.take (ys.length * 3))[j]? = some v → w.cell? ⟨vb, 0 + j, none⟩ = some v := fun j v hj => by
    rw [List.getElem?_take] at hj
    split at hj
    · rw [Array.getElem?_toList] at hj; simp [World.cell?, b1, hj]
    · cases hj
  have hcl : (arr.toList.take (xs.length * 3)).length = xs.length * 3 := by
    have e0 : arr.toList.length = arr.size := Array.length_toList
    rw [List.length_take]; omega
  have hvl : (arr1.toList.take (ys.length * 3)).length = ys.length * 3 := by
    have e0 : arr1.toList.length = arr1.size := Array.length_toList
    rw [List.length_take]; omega
  have h1c := a3.one
  have h1v := b3.one
  have hcat := ((a3.take (i := k) (by omega)).append b3).append (a3.drop k)
  have hzl : (xs.take k ++ ys ++ xs.drop k).length = xs.length + ys.length := by simp; omega
  generalize hcsE : arr.toList.take (xs.length * 3) = cs at a3 hcs hcl h1c hcat
  generalize hvsE : arr1.toList.take (ys.length * 3) = vs at b3 hvs hvl h1v hcat
  have hml : maxLen = 9223372036854775807 := rfl
  rw [hb, hvb]
  simp only [ownBase, Option.map_some, p1, r1]
  by_cases hroom : xs.length + ys.length ≤ g.cap
  · have hsz : (xs.length + ys.length) * 3 ≤ arr.size := Nat.le_trans (Nat.mul_le_mul_right _ hroom) a2
    refine (shift b xs.length g.cap k vb 0 ys.length g1.cap cs vs w hk hy hroom (by omega) hne hcl hvl hcs (fun j hj => by
        have : j < arr.size := by omega
        simp [World.cell?, a1, this]) (fun j hj => by simp [World.frozen?, a1]) hvs h1c h1v ty1 ty arr1.size arr.size (by simp [World.shape?, b1]) (by simp [World.shape?, a1]) (by omega) (by simp [World.frozen?, b1]) (by simp [World.frozen?, b1])).mono ?_
    rintro e w' ⟨rfl, rfl⟩
    have hdl : (cs.drop (k * 3)).length = (xs.length - k) * 3 := by rw [List.length_drop, hcl]; omega
    have a1' : w.drew.heap[b]? = some (.cells arr ty (0, 0)) := a1
    have e1 := setCells_row Try.prog w.drew b ((k + ys.length) * 3) arr ty (cs.drop (k * 3)) a1' (by omega) (fun v hv => h1c v (List.mem_of_mem_drop hv))
    rw [e1]
    generalize hA1 : (arr.toList.take ((k + ys.length) * 3) ++ cs.drop (k * 3) ++ arr.toList.drop ((k + ys.length) * 3 + (cs.drop (k * 3)).length)).toArray = A1
    have hA1s : A1.size = arr.size := by
      rw [← hA1]
      simp only [List.size_toArray, List.length_append, List.length_take, List.length_drop, Array.length_toList, hcl]
      omega
    have hh1 : (w.drew.setRow b A1).heap[b]? = some (.cells A1 ty (0, 0)) := setRow_heap w.drew b arr _ ty _ a1'
    have e2 := setCells_row Try.prog (w.drew.setRow b A1) b (k * 3) A1 ty vs hh1 (by omega) h1v
    rw [e2]
    generalize hA2 : (A1.toList.take (k * 3) ++ vs ++ A1.toList.drop (k * 3 + vs.length)).toArray = A2
    have hh2 : ((w.drew.setRow b A1).setRow b A2).heap[b]? = some (.cells A2 ty (0, 0)) := setRow_heap _ b A1 _ ty _ hh1
    -- the cells of the row behind the two copies
    have hlook : ∀ p, p < (cs.take (k * 3) ++ vs ++ cs.drop (k * 3)).length → A2[p]? = (cs.take (k * 3) ++ vs ++ cs.drop (k * 3))[p]? := fun p hp => by
      have hcat := hcat.1
      have eA1 : A1.toList.length = A1.size := Array.length_toList
      have eA0 : arr.toList.length = arr.size := Array.length_toList
      have hct : (cs.take (k * 3)).length = k * 3 := by rw [List.length_take, hcl]; omega
      rw [← hA2, List.getElem?_toArray, List.append_assoc, splice_at (by omega), hvl]
      rw [List.append_assoc]
      by_cases c1 : p < k * 3
      · rw [if_pos c1, List.getElem?_append_left (by omega), ← hA1, Array.getElem?_toList, List.getElem?_toArray, List.append_assoc, splice_at (by omega), if_pos (show p < (k + ys.length) * 3 by omega), List.getElem?_take, if_pos c1, ← hcsE, List.getElem?_take, if_pos (by omega)]
      · rw [if_neg c1, List.getElem?_append_right (by omega), hct]
        by_cases c2 : p < k * 3 + ys.length * 3
        · rw [if_pos c2, List.getElem?_append_left (by omega)]
        · rw [if_neg c2, List.getElem?_append_right (by omega), hvl, ← hA1, Array.getElem?_toList, List.getElem?_toArray, List.append_assoc, splice_at (by omega)]
          rw [List.length_append, List.length_append, hct, hvl, hdl] at hp
          rw [if_neg (by omega), if_pos (by omega)]
          congr 1
          omega
    have hsame : Same w ((w.drew.setRow b A1).setRow b A2) g.blk := by
      rw [hb]
      exact ⟨rfl, rfl, rfl, by simp, fun j hj hn => by
        rw [setRow_other _ b j _ (fun e => hn (by rw [e])), setRow_other _ b j _ (fun e => hn (by rw [e]))]
        rfl⟩
    have hFw : ∀ j, F j → ((w.drew.setRow b A1).setRow b A2).heap[j]? = w.heap[j]? := fun j hj => hsame.block j (hB.news j hj).1 (fun e => (hlg b hb).2.1 (by rw [hb] at e; cases e; exact hj))
    have hn2 : β 2 = none := hB.fresh (fun (e : 2 < 2) => by omega)
    have hfl2 := hcat.mono (F' := F) (w' := (w.drew.setRow b A1).setRow b A2) (β' := setB β 2 ⟨some b, (xs.take k ++ ys ++ xs.drop k).length, g.cap⟩) (fun _ x => x) hFw (setB_le _ hn2)
    have hA2s : A2.size = arr.size := by
      rw [← hA2]
      simp only [List.size_toArray, List.length_append, List.length_take, List.length_drop, Array.length_toList, hvl]
      omega
    have hblk := flat_blk hfl2 hh2 hlook (cap := g.cap) (by rw [hA2s]; exact a2) (by rw [hzl]; exact hroom) (by omega)
    have hr := ins_rel hB hg ⟨some b, (xs.take k ++ ys ++ xs.drop k).length, g.cap⟩ hsame (.inl (by rw [hb])) hblk
    refine ⟨_, rfl, ?_⟩
    have e3 : (Value.slice (some ⟨b, 0, none⟩) (xs.length + ys.length) g.cap) = .slice (ownBase (some b) 0) (xs.take k ++ ys ++ xs.drop k).length g.cap := by rw [hzl]; rfl
    rw [e3]
    exact hr
  · obtain ⟨i0, z, hi0, hz0, hzs, hzc, hby⟩ := infoZ
    have hbig : (xs.length + ys.length) * i0.bytes ≤ 140737488355328 := Nat.le_trans (Nat.mul_le_mul hlen hby) (by decide)
    refine (grow z i0 hi0 hz0 hzs hzc b xs.length g.cap k vb 0 ys.length g1.cap cs vs w hk hy p2 (by omega) hbig hlen hcl hvl hcs hvs h1c h1v).mono ?_
    rintro e w' ⟨rfl, rfl⟩
    have hGn : xs.length + ys.length ≤ grownCap w (xs.length + ys.length) g.cap 70 := grownCap_ge w _ _ _
    have hG63 : grownCap w (xs.length + ys.length) g.cap 70 ≤ maxLen := grownCap_le_maxLen w (xs.length + ys.length) g.cap 70 (by unfold maxLen; omega)
    generalize grownCap w (xs.length + ys.length) g.cap 70 = G at hGn hG63 ⊢
    have hdl : (cs.drop (k * 3)).length = (xs.length - k) * 3 := by rw [List.length_drop, hcl]; omega
    have hct : (cs.take (k * 3)).length = k * 3 := by rw [List.length_take, hcl]; omega
    generalize hR : (cs.take (k * 3)).toArray ++ Builtin.zeroCells z.cells (xs.length + ys.length - k) ++ Builtin.zeroCells z.cells (G - (xs.length + ys.length)) = ROW
    have hRs : ROW.size = G * 3 := by
      rw [← hR]
      simp only [Array.size_append, sz_zero z hzc, List.size_toArray, hct]
      omega
    have hh0 : ((w.alloc (.cells ROW 70)).drew).heap[w.heap.size]? = some (.cells ROW 70 (0, 0)) := heap_alloc_new w (.cells ROW 70)
    rw [setCells_row Try.prog _ w.heap.size (k * 3) ROW 70 vs hh0 (by omega) h1v]
    generalize hA1 : (ROW.toList.take (k * 3) ++ vs ++ ROW.toList.drop (k * 3 + vs.length)).toArray = A1
    have eR : ROW.toList.length = ROW.size := Array.length_toList
    have hA1s : A1.size = G * 3 := by
      rw [← hA1]
      simp only [List.size_toArray, List.length_append, List.length_take, List.length_drop, hvl]
      omega
    have hh1 : ((((w.alloc (.cells ROW 70)).drew).setRow w.heap.size A1).drew).heap[w.heap.size]? = some (.cells A1 70 (0, 0)) := setRow_heap _ w.heap.size ROW _ 70 _ hh0
    rw [setCells_row Try.prog _ w.heap.size ((k + ys.length) * 3) A1 70 (cs.drop (k * 3)) hh1 (by omega) (fun v hv => h1c v (List.mem_of_mem_drop hv))]
    generalize hA2 : (A1.toList.take ((k + ys.length) * 3) ++ cs.drop (k * 3) ++ A1.toList.drop ((k + ys.length) * 3 + (cs.drop (k * 3)).length)).toArray = A2
    have eA1 : A1.toList.length = A1.size := Array.length_toList
    have hA2s : A2.size = G * 3 := by
      rw [← hA2]
      simp only [List.size_toArray, List.length_append, List.length_take, List.length_drop, hdl]
      omega
    have hh2 : (((((w.alloc (.cells ROW 70)).drew).setRow w.heap.size A1).drew).setRow w.heap.size A2).heap[w.heap.size]? = some (.cells A2 70 (0, 0)) := setRow_heap _ w.heap.size A1 _ 70 _ hh1
    have hlook : ∀ p, p < (cs.take (k * 3) ++ vs ++ cs.drop (k * 3)).length → A2[p]? = (cs.take (k * 3) ++ vs ++ cs.drop (k * 3))[p]? := fun p hp => by
      rw [List.length_append, List.length_append, hct, hvl, hdl] at hp
      rw [← hA2, List.getElem?_toArray, List.append_assoc, splice_at (by omega), hdl]
      rw [List.append_assoc]
      by_cases c1 : p < k * 3
      · rw [if_pos (by omega), List.getElem?_append_left (by omega), ← hA1, Array.getElem?_toList, List.getElem?_toArray, List.append_assoc, splice_at (by omega), if_pos c1, ← hR, Array.getElem?_toList, Array.append_assoc, Array.getElem?_append_left (by rw [List.size_toArray]; omega), List.getElem?_toArray]
      · rw [List.getElem?_append_right (by omega), hct]
        by_cases c2 : p < k * 3 + ys.length * 3
        · rw [if_pos (by omega), List.getElem?_append_left (by omega), ← hA1, Array.getElem?_toList, List.getElem?_toArray, List.append_assoc, splice_at (by omega), if_neg c1, if_pos (by omega)]
        · rw [if_neg (by omega), if_pos (by omega), List.getElem?_append_right (by omega), hvl]
          congr 1
          omega
    have hsame : Same w (((((w.alloc (.cells ROW 70)).drew).setRow w.heap.size A1).drew).setRow w.heap.size A2) g.blk := ⟨rfl, rfl, rfl, by simp, fun j hj hn => by
      rw [setRow_other _ w.heap.size j _ (by omega)]
      show (((w.alloc (.cells ROW 70)).drew).setRow w.heap.size A1).heap[j]? = w.heap[j]?
      rw [setRow_other _ w.heap.size j _ (by omega)]
      exact Below.heap_alloc _ _ _ hj⟩
    have hFw : ∀ j, F j → (((((w.alloc (.cells ROW 70)).drew).setRow w.heap.size A1).drew).setRow w.heap.size A2).heap[j]? = w.heap[j]? := fun j hj => hsame.block j (hB.news j hj).1 (fun e => (hlg b hb).2.1 (by rw [hb] at e; cases e; exact hj))
    have hn2 : β 2 = none := hB.fresh (fun (e : 2 < 2) => by omega)
    have hfl2 := hcat.mono (F' := F) (w' := ((((w.alloc (.cells ROW 70)).drew).setRow w.heap.size A1).drew).setRow w.heap.size A2) (β' := setB β 2 ⟨some w.heap.size, (xs.take k ++ ys ++ xs.drop k).length, G⟩) (fun _ x => x) hFw (setB_le _ hn2)
    have hblk := flat_blk hfl2 hh2 hlook (cap := G) (by rw [hA2s]; exact Nat.le_refl _) (by rw [hzl]; exact hGn) hG63
    have hr := ins_rel hB hg ⟨some w.heap.size, (xs.take k ++ ys ++ xs.drop k).length, G⟩ hsame (.inr ⟨w.heap.size, rfl, Nat.le_refl _, by simp⟩) hblk
    refine ⟨_, rfl, ?_⟩
    have e3 : (Value.slice (some ⟨w.heap.size, 0, none⟩) (xs.length + ys.length) G) = .slice (ownBase (some w.heap.size) 0) (xs.take k ++ ys ++ xs.drop k).length G := by rw [hzl]; rfl
    rw [e3]
    exact hr

set_option maxRecDepth 100000 in
set_option maxHeartbeats 4000000 in
/-- at the end: an append, of which the run is known -/
theorem ins_walk_end (base : Option Addr) (n c : Nat) (hnil : base = none → n = 0) (hsp : ∀ a, base = some a → a.spot = none) (hnc : n ≤ c) (hc63 : c ≤ 9223372036854775807) (vb m vc : Nat) (hm : 0 < m) (w w' : World) (u : Value)
    (hrun : (Builtin.append_ #[24, 24] 24 #[.slice base n c, .slice (some ⟨vb, 0, none⟩) m vc]).run Try.prog w = .ok u w') :
    Calls Try.prog 36 #[.slice base n c, .int .i64 n, .slice (some ⟨vb, 0, none⟩) m vc] w fun e w2 => e = .returned u ∧ w2 = w' := by
  have hz1 : ¬ ((m : Int) = 0) := by omega
  go_enter Try.func36, Try.ntmps36
  cases base with
  | none =>
    have h0 := hnil rfl
    subst h0
    go_wp2_with (at_builtin; refine Lib.wpList_append_run _ rfl _ _ _ _ rfl _ _ rfl rfl _ _ hrun ?_)
    go_ret
    exact ⟨rfl, rfl⟩
  | some a =>
    obtain ⟨ab, ao, asp⟩ := a
    have := hsp _ rfl
    simp only at this
    subst this
    go_wp2_with (at_builtin; refine Lib.wpList_append_run _ rfl _ _ _ _ rfl _ _ rfl rfl _ _ hrun ?_)
    all_goals (go_ret; exact ⟨rfl, rfl⟩)

theorem three {vals : Array Value} (hv : vals.size = 3) : ∃ v0 v1 v2, vals = #[v0, v1, v2] := ⟨vals[0], vals[1], vals[2], by
    apply Array.ext
    · simpa using hv
    · intro i h1 h2
      have : i < 3 := by omega
      match i, this with
      | 0, _ => rfl
      | 1, _ => rfl
      | 2, _ => rfl⟩

set_option maxRecDepth 100000 in
theorem ins_end (xs ys : List (List AV)) (hy : 0 < ys.length) (hlen : xs.length + ys.length ≤ 16777216) {C : Ctx} {w : World} {vals : Array Value} {β : Nat → Option Hdr} {F : Nat → Prop} (hv : vals.size = 3) (hC : C.γ.length = 2)
    (hB : RelB C (Below' 2) (entry [.osl 0, .int .i64 (xs.length : Nat), .osl 1] [.row 3 xs, .row 3 ys]) ⟨vals, []⟩ w β F) :
    Calls Try.prog 36 vals w fun e w' => ∃ v, e = .returned v ∧ Rel { C with nt := 1 } (Below' 3) (entry [.osl 2] [.dead, .row 3 ys, .row 3 (xs ++ ys)]) ⟨#[v], []⟩ w' := by
  obtain ⟨v0, v1, v2, rfl⟩ := three hv
  have q0 : RV w F β (.osl 0) v0 := hB.env 0
  have q1 : RV w F β (.int .i64 (xs.length : Nat)) v1 := hB.env 1
  have q2 : RV w F β (.osl 1) v2 := hB.env 2
  obtain ⟨g, hg, hbg, hlg⟩ := hB.live 0 (.row 3 xs) rfl
  obtain ⟨g1, hg1, hbg1, hlg1⟩ := hB.live 1 (.row 3 ys) rfl
  obtain ⟨i0, z, hi0, hz0, hzs, hzc, hby⟩ := infoZ
  have hx := cont_reads (H := (entry [.osl 0, .int .i64 (xs.length : Nat), .osl 1] [.row 3 xs, .row 3 ys]).H) (ys := ys) (sz := 3) (ids := [1]) (.inr (.inr (.inl ⟨1, rfl, rfl, rfl⟩))) (hB.known [1]) q2
  obtain ⟨u, w', β', h1, h2, h3⟩ := append_rel (P := Try.prog) (t := 24) (ty := 24) (e := 70) (n := 2) hB (fun (e : 2 < 2) => by omega) hC (xs := xs) (ys := ys) (sz := 3) (.inr (.inl ⟨0, rfl, rfl, rfl⟩)) q0 hx Try.underlying24 hi0 hz0 hzs hzc
    (Nat.le_trans (Nat.mul_le_mul hlen hby) (by decide)) (by unfold maxLen; omega)
  have hml : maxLen = 9223372036854775807 := rfl
  have hbg0 := hbg
  obtain ⟨p1, p2, p3, p4, p5, p6⟩ := hbg0
  obtain ⟨r1, r2, r3, r4, r5, r6⟩ := hbg1
  cases q1
  cases q0 with
  | osl _ h e =>
  rw [hg] at e
  cases e
  cases q2 with
  | osl _ h e =>
  rw [hg1] at e
  cases e
  obtain ⟨vb, hvb⟩ : ∃ b, g1.blk = some b := by
    cases e : g1.blk with
    | none => have := r4 e; omega
    | some b => exact ⟨b, rfl⟩
  rw [hvb] at h1 ⊢
  have e1 : ownBase (some vb) 0 = some ⟨vb, 0, none⟩ := rfl
  rw [e1] at h1 ⊢
  rw [← p1]
  refine (ins_walk_end (ownBase g.blk 0) g.len g.cap (fun e => ?_) (fun a e => ?_) (by omega) (by omega) vb g1.len g1.cap (by omega) w w' u h1).mono ?_
  · cases hb : g.blk with
    | none => have := p4 hb; omega
    | some b => rw [hb] at e; cases e
  · cases hb : g.blk with
    | none => rw [hb] at e; cases e
    | some b => rw [hb] at e; cases e; rfl
  · rintro e w2 ⟨rfl, rfl⟩
    refine ⟨u, rfl, β', F, ?_⟩
    have hH : wrH (entry [.osl 0, .int .i64 (xs.length : Nat), .osl 1] [.row 3 xs, .row 3 ys]).H ([(0, none)] ++ [(2, some (.row 3 (xs ++ ys)))]) = (entry [.osl 2] [.dead, .row 3 ys, .row 3 (xs ++ ys)]).H := by
      funext id
      match id with
      | 0 => rfl
      | 1 => rfl
      | 2 => rfl
      | n + 3 => rfl
    have q := h2.fin (σ' := ⟨(entry [.osl 0, .int .i64 (xs.length : Nat), .osl 1] [.row 3 xs, .row 3 ys]).env, (entry [.osl 2] [.dead, .row 3 ys, .row 3 (xs ++ ys)]).H, 3⟩) (I' := Below' 3) rfl hH.symm (fun i hi => by
      rcases hi with (hi : i < 2) | rfl
      · exact (show i < 3 by omega)
      · exact (show 2 < 3 by omega))
    refine ⟨fun t => ?_, rfl, rfl, q.live, q.inj, q.dom, q.gr, q.sub, q.news, q.os, q.tape, q.output, q.grow, q.block, q.glo⟩
    match t with
    | 0 => exact h3
    | t + 1 => exact .any _

/-- slices.Insert, as a contract; both rows are given up -/
theorem ins_ac0 (xs ys : List (List AV)) (k : Nat) (hk : k ≤ xs.length) (hy : 0 < ys.length) (hlen : xs.length + ys.length ≤ 16777216) :
    AC Try.prog 36 [.osl 0, .int .i64 (k : Nat), .osl 1] [.row 3 xs, .row 3 ys] (.osl 2) [.dead, .dead, .row 3 (xs.take k ++ ys ++ xs.drop k)] := by
  intro C w vals h1 h2 h3 h4 ⟨β, F, hB⟩
  by_cases hkl : k < xs.length
  · exact (ins_mid xs ys k hkl hy hlen (by simpa using h4) hB).mono fun e w' ⟨v, e1, e2⟩ => ⟨v, e1, rel_dead1 e2⟩
  · obtain rfl : k = xs.length := by omega
    have := ins_end xs ys hy hlen (by simpa using h4) (by simpa using h1) hB
    rw [List.take_length, List.drop_length, List.append_nil]
    exact this.mono fun e w' ⟨v, e1, e2⟩ => ⟨v, e1, rel_dead1 e2⟩

theorem insert_ac {α : Type} (enc : α → List AV) (l y : List α) (i : Int) (r : List α) (hF : Ex.insL l i y = some r) :
    AC Try.prog 36 [.osl 0, .int .i64 i, .osl 1] [.row 3 (l.map enc), .row 3 (y.map enc)] (.osl 2) [.dead, .dead, .row 3 (r.map enc)] := by
  obtain ⟨k, rfl, h1, h2, h3, rfl⟩ := Ex.insL_some hF
  have := ins_ac0 (l.map enc) (y.map enc) k (by simpa using h1) (by simpa using h2) (by simpa using h3)
  simpa only [List.map_append, List.map_take, List.map_drop] using this
end Go.Proofs.Ytpipggnfbgjefaa.InsSender
