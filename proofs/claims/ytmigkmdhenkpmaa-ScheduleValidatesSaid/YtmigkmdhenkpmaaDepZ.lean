/- Next of the reference. -/
import Derived.Test.YtmigkmdhenkpmaaDepY
namespace Go.Proofs.Ytmigkmdhenkpmaa
open Go.RowKit

theorem RNext_any (v : Value) (l : List Dep) (now : Int) (w : World) (hv : DepsV w v l) :
    Calls Try.prog 30 #[v, .int .i64 now] w fun e w' => e = .returned (.int .i64 (nxt l now l.length)) ∧ Below w.heap.size w w' := by
  obtain ⟨a, c, rfl, la, _, _⟩ := hv.open
  have HV := Lib.hid hv
  clear hv
  go_enter Try.func30, Try.ntmps30
  go_wp2
  go_loopw [5, 6] (fun bst i wr => ∃ k : Nat, k ≤ l.length ∧ i = .int .i64 k ∧ bst = .int .i64 (nxt l now k) ∧ Below w.heap.size w wr) (fun _ i _ => l.length - (intOf i).toNat)
  case atStart => exact ⟨0, Nat.zero_le _, rfl, rfl, Below.refl _ _⟩
  case round =>
    obtain ⟨k, hk, rfl, rfl, hBr⟩ := hrel
    by_cases hlt : k < l.length
    · obtain ⟨x, hx, hd⟩ := drop_at hlt
      have hki : (k : Int) < (l.length : Int) := by omega
      obtain ⟨_, _, hvD, _, _, cD⟩ := (HV.out.below hBr).open
      simp only [Value.slice.injEq] at hvD
      obtain ⟨rfl, -, rfl⟩ := hvD
      obtain ⟨b, o, rfl, hb, cc⟩ := cD (by omega)
      obtain ⟨g0, g1, g2, g3, g4, g5, g6, g7, g8, g9⟩ := dep_at (cc k x hx)
      have hstep : nxt l now (k + 1) = if x.state = 0 ∧ now ≤ x.leaves ∧ (nxt l now k < 0 ∨ x.leaves < leavesAt l (nxt l now k)) then (k : Int) else nxt l now k := by simp only [nxt, hx]
      have HST := Lib.hid hstep
      have HCC := Lib.hid cc
      have HB := Lib.hid hBr
      clear hd cc cD hstep hBr
      obtain ⟨⟨c2, n2, s2, d2⟩, p, op, cl, le, st, sa⟩ := x
      simp only at g0 g1 g2 g3 g4 g5 g6 g7 g8 g9
      have HX := Lib.hid hx
      clear hx
      by_cases hs : sa = 0
      · by_cases hn : now ≤ le
        · have hsb : (sa == 0) = true := by simp [hs]
          have hnb : decide (now ≤ le) = true := decide_eq_true hn
          have HSN := Lib.hid (And.intro hs hn)
          clear hs hn
          rcases nxt_bd l now k (by omega) with hb1 | ⟨j, hj, hb1⟩
          · have HB1 := Lib.hid hb1
            rw [hb1]
            clear hb1
            go_wp2
            go_quiet (fail)
            go_wp2
            go_roundw
            case rel => exact ⟨k + 1, by omega, by go_num, by rw [HST.out, if_pos ⟨HSN.out.1, HSN.out.2, .inl (by rw [HB1.out]; omega)⟩], below_drewN HB.out _⟩
            case measure => simp [intOf]; omega
          · obtain ⟨y, hy, -⟩ := drop_at (l := l) (k := j) (by omega)
            have hly : leavesAt l (j : Int) = y.leaves := by unfold leavesAt; rw [Int.toNat_natCast, hy]
            obtain ⟨-, -, -, -, -, -, -, e7, -⟩ := dep_at (HCC.out j y hy)
            have HB1 := Lib.hid hb1
            have HLY := Lib.hid hly
            have hj2 : (j : Int) < (l.length : Int) := by omega
            have hj0 : decide ((j : Int) < 0) = false := decide_eq_false (by omega)
            rw [hb1]
            clear hb1 hly hy
            generalize y.leaves = ly at *
            by_cases hll : le < ly
            · have hlb : decide (le < ly) = true := decide_eq_true hll
              have HLL := Lib.hid hll
              clear hll
              go_wp2
              go_quiet (fail)
              go_wp2
              go_roundw
              case rel => exact ⟨k + 1, by omega, by go_num, by rw [HST.out, if_pos ⟨HSN.out.1, HSN.out.2, .inr (by rw [HB1.out, HLY.out]; exact HLL.out)⟩], below_drewN HB.out _⟩
              case measure => simp [intOf]; omega
            · have hlb : decide (le < ly) = false := decide_eq_false hll
              have HLL := Lib.hid hll
              clear hll
              go_wp2
              go_quiet (fail)
              go_wp2
              go_roundw
              case rel => exact ⟨k + 1, by omega, by go_num, by rw [HST.out, HB1.out, HLY.out, if_neg (fun h => by have h2 := h.2.2; have := HLL.out; omega)], below_drewN HB.out _⟩
              case measure => simp [intOf]; omega
        · have hsb : (sa == 0) = true := by simp [hs]
          have hnb : decide (now ≤ le) = false := decide_eq_false hn
          have HN := Lib.hid hn
          clear hs hn
          generalize hbest : nxt l now k = best at *
          have HBE := Lib.hid hbest
          clear hbest
          go_wp2
          go_quiet (fail)
          go_wp2
          go_roundw
          case rel => exact ⟨k + 1, by omega, by go_num, by rw [HST.out, if_neg (fun h => by have h2 := h.2.1; have := HN.out; omega)], below_drewN HB.out _⟩
          case measure => simp [intOf]; omega
      · have hsb : (sa == 0) = false := by simp [hs]
        have HS := Lib.hid hs
        clear hs
        generalize hbest : nxt l now k = best at *
        have HBE := Lib.hid hbest
        clear hbest
        go_wp2
        go_quiet (fail)
        go_wp2
        go_roundw
        case rel => exact ⟨k + 1, by omega, by go_num, by rw [HST.out, if_neg (fun h => HS.out h.1)], below_drewN HB.out _⟩
        case measure => simp [intOf]; omega
    · obtain rfl : k = l.length := by omega
      generalize hbest : nxt l now l.length = best at *
      have HBE := Lib.hid hbest
      clear hbest
      go_wp2
      go_ret
      exact ⟨ret_int HBE.out.symm, hBr⟩
end Go.Proofs.Ytmigkmdhenkpmaa
