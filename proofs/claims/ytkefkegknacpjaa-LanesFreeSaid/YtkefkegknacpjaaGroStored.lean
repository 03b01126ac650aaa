/- slices.Grow at the nil slice, for a slice of structs: a contract. -/
import Derived.Test.YtkefkegknacpjaaProg
import Derived.Shelf.RegionOpenPlain
import Derived.WalkKit
import Derived.Lib.Walk
import Derived.Lib.SliceRun
import Derived.Lib.AppendZeros
import Derived.Test.YtkefkegknacpjaaFoc
set_option linter.unusedVariables false
set_option linter.unusedSimpArgs false
namespace Go.Proofs.Ytkefkegknacpjaa.Gro
open Go.RowKit Go.Lib Go.Proofs.Ytkefkegknacpjaa.Ax

theorem infoZ : ∃ i0 z, Try.prog.info? 39 = some i0 ∧ i0.zero = some z ∧ i0.size = 2 ∧ z.cells.size = 2 ∧ i0.bytes ≤ 8388608 := by
  have h : (match Try.prog.info? 39 with
    | some i => match i.zero with
      | some z => i.size == 2 && z.cells.size == 2 && Nat.ble i.bytes 8388608
      | none => false
    | none => false) = true := by kernel_rfl
  split at h
  · rename_i i hi
    split at h
    · rename_i z hz
      simp only [Bool.and_eq_true, beq_iff_eq] at h
      exact ⟨i, z, hi, hz, h.1.1, h.1.2, Nat.le_of_ble_eq_true h.2⟩
    · cases h
  · cases h

set_option maxHeartbeats 4000000 in
set_option maxRecDepth 100000 in
theorem grow0 (w : World) : Calls Try.prog 55 #[.slice none 0 0, .int .i64 (0 : Nat)] w fun e w' => e = .returned (.slice none 0 0) ∧ w' = w := by
  have h2 : IntKind.i64.wrap ((0 : Int) - 0) = 0 := by decide
  have h3 : IntKind.i64.wrap (((0 : Nat) : Int) - 0) = 0 := by decide
  go_enter Try.func55, Try.ntmps55
  go_wp2
  go_ret
  exact ⟨rfl, rfl⟩

set_option maxHeartbeats 4000000 in
set_option maxRecDepth 100000 in
theorem grow1 (z : Value) (i0 : TypeInfo) (hi0 : Try.prog.info? 39 = some i0) (hz0 : i0.zero = some z) (hzs : i0.size = 2) (hb : i0.bytes ≤ 8388608) (n : Nat) (h0 : 0 < n) (hn : n ≤ 16777216) (w : World) :
    Calls Try.prog 55 #[.slice none 0 0, .int .i64 n] w fun e w' =>
      e = .returned (.slice (some ⟨w.heap.size, 0, none⟩) 0 (grownCap w n 0 39)) ∧ w' = w.drew.alloc (.cells (Builtin.zeroCells z.cells n ++ Builtin.zeroCells z.cells (grownCap w n 0 39 - n)) 39) := by
  have h1 : ¬ ((n : Int) < 0) := by omega
  have h2 : RowKit.wrap64 ((0 : Int) - 0) = 0 := by unfold RowKit.wrap64; omega
  have h3 : RowKit.wrap64 ((n : Int) - 0) = (n : Int) := by unfold RowKit.wrap64; omega
  have h4 : (n : Int) > 0 := by omega
  have hnb : n * i0.bytes ≤ 281474976710656 := by
    have := Nat.mul_le_mul hn hb
    omega
  have hrz : ∀ ty, (Builtin.append_ #[67, 3] ty #[.slice none 0 0, .int .i64 n]).run Try.prog w =
      .ok (.slice (some ⟨w.heap.size, 0, none⟩) n (grownCap w n 0 39)) (w.drew.alloc (.cells (Builtin.zeroCells z.cells n ++ Builtin.zeroCells z.cells (grownCap w n 0 39 - n)) 39)) := fun ty =>
    Lib.run_append_nil_zeros w 67 3 ty 39 i0 z .i64 .i64 Try.underlying67 Try.underlying3 hi0 hz0 n h0 (by omega) (by omega) hnb
  have hGn : n ≤ grownCap w n 0 39 := grownCap_ge w _ _ _
  have hG63 : grownCap w n 0 39 ≤ 9223372036854775807 := by
    have := grownCap_le_maxLen w n 0 39 (by unfold maxLen; omega)
    unfold maxLen at this
    omega
  obtain ⟨G, hG⟩ : ∃ G, G = grownCap w n 0 39 := ⟨_, rfl⟩
  rw [← hG] at hrz hGn hG63 ⊢
  have mixed : Try.prog.follows .mixedOrders = true := by kernel_rfl
  clear hG hnb
  go_enter Try.func55, Try.ntmps55
  go_wp2_with (at_builtin; refine Lib.wpList_append_run _ rfl _ _ _ _ rfl _ _ rfl rfl _ _ (hrz _) ?_)
  all_goals (go_ret; exact ⟨rfl, rfl⟩)

/-- slices.Grow(nil, n) -/
theorem grow_ac0 (n : Nat) (hn : n ≤ 16777216) : AC Try.prog 55 [.nils, .int .i64 n] [] (.osl 0) [.row 2 []] := by
  intro C w vals h1 h2 h3 h4 ⟨β, F, hB⟩
  replace h4 : vals.size = 2 := by simpa using h4
  obtain ⟨v0, v1, rfl⟩ : ∃ v0 v1, vals = #[v0, v1] := ⟨vals[0], vals[1], by
    refine Array.ext (by simpa using h4) (fun i hi _ => ?_)
    match i with
    | 0 => rfl
    | 1 => rfl
    | i + 2 => omega⟩
  have q0 := hB.env 0
  have q1 := hB.env 1
  simp only [entry] at q0 q1
  have e0 : v0 = .slice none 0 0 := by
    have q : RV w F β .nils v0 := q0
    cases q; rfl
  have e1 : v1 = .int .i64 n := by
    have q : RV w F β (.int .i64 n) v1 := q1
    cases q; rfl
  subst e0
  subst e1
  by_cases h0 : n = 0
  · subst h0
    refine (grow0 w).mono ?_
    rintro e w' ⟨rfl, rfl⟩
    refine ⟨_, rfl, ?_⟩
    have hw : Wk C.γ.length (entry [.nils] []) (entry [.osl 0] [.row 2 []]) [] [0] [] := by
      rw [h1]
      refine ⟨fun t => ?_, fun k b' hk => ?_, fun i hi => by simp at hi, fun i j id b b' hi => by simp at hi, fun k id b hi => by simp at hi, fun k hk => ?_, fun k hk id hid => by simp at hid, Nat.zero_le _⟩
      · match t with
        | 0 => exact .nilz 0 (by simp)
        | t + 1 => exact .any _
      · match k with
        | 0 => exact .inr ⟨by simp, 2, by simpa [entry, liveB] using hk.symm⟩
        | k + 1 => simp [entry] at hk
      · simp at hk
        subst hk
        exact Nat.zero_lt_one
    refine hw.rel (C := { C with nt := 1 }) rfl ⟨β, F, ?_⟩
    have hb := hB.fin (σ' := ⟨(entry [.nils, .int .i64 ((0 : Nat) : Int)] []).env, (entry [.nils] []).H, 0⟩) (I' := Below' 0) rfl (by funext id; rfl) (fun i hi => hi)
    refine ⟨fun t => ?_, rfl, rfl, hb.live, hb.inj, hb.dom, hb.gr, hb.sub, hb.news, hb.os, hb.tape, hb.output, hb.grow, hb.block, hb.glo⟩
    match t with
    | 0 => exact .nils
    | t + 1 => exact .any _
  · obtain ⟨i0, z, hi0, hz0, hzs, hzc, hb⟩ := infoZ
    refine (grow1 z i0 hi0 hz0 hzs hb n (by omega) hn w).mono ?_
    rintro e w' ⟨rfl, rfl⟩
    have hGn : n ≤ grownCap w n 0 39 := grownCap_ge w _ _ _
    have hG63 := grownCap_le_maxLen w n 0 39 (by unfold maxLen; omega)
    have hN := hB.new (n := 0) (fun h : 0 < 0 => by omega) (same_grow w _) ⟨some w.heap.size, 0, grownCap w n 0 39⟩ (fun i hi => by cases hi; exact ⟨Nat.le_refl _, by simp⟩) (.row 2 []) (by
      refine ⟨rfl, Nat.zero_le _, hG63, (fun e => by cases e), fun k c hk => by simp at hk, fun b e => ?_⟩
      cases e
      refine ⟨Builtin.zeroCells z.cells n ++ Builtin.zeroCells z.cells (grownCap w n 0 39 - n), 39, heap_alloc_new _ _, ?_, fun k c j u hk => by simp at hk⟩
      simp [Builtin.zeroCells, hzc]
      omega)
    refine ⟨_, rfl, setB β 0 ⟨some w.heap.size, 0, grownCap w n 0 39⟩, F, ?_⟩
    have hH : setH (entry [.nils, .int .i64 (n : Int)] []).H 0 (some (.row 2 [])) = (entry [.osl 0] [.row 2 []]).H := by
      funext id
      match id with
      | 0 => rfl
      | id + 1 => rfl
    have q := hN.fin (σ' := ⟨(entry [.nils, .int .i64 (n : Int)] []).env, (entry [.osl 0] [.row 2 []]).H, 1⟩) (I' := Below' 1) rfl hH.symm (fun i hi => by
      rcases hi with (hi : i < 0) | rfl
      · omega
      · exact (show 0 < 1 by omega))
    refine ⟨fun t => ?_, rfl, rfl, q.live, q.inj, q.dom, q.gr, q.sub, q.news, q.os, q.tape, q.output, q.grow, q.block, q.glo⟩
    match t with
    | 0 => exact .osl 0 _ (setB_same β 0 _)
    | t + 1 => exact .any _

theorem grow_ac {α : Type} (enc : α → List AV) (n : Int) (r : List α) (hF : Ex.growL n = some r) : AC Try.prog 55 [.nils, .int .i64 n] [] (.osl 0) [.row 2 (r.map enc)] := by
  unfold Ex.growL at hF
  split at hF
  · rename_i h
    obtain rfl := Option.some.inj hF
    have := grow_ac0 n.toNat (by omega)
    rwa [show ((n.toNat : Nat) : Int) = n by omega] at this
  · cases hF
end Go.Proofs.Ytkefkegknacpjaa.Gro
