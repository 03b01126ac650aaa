/- Law StripStops returns true for every input and changes nothing that was there. -/
import Derived.Test.YtbopbmmalfobiaaStripL
import Derived.Test.YtbopbmmalfobiaaStripPS
namespace Go.Proofs.Ytbopbmmalfobiaa
open Go.RowKit

theorem stp_succ (k : Nat) (c : List Int) : stp (k + 1) c = stp k (advance c [] false).1 := rfl

theorem stop_at {ws fin : List Int} {z : Nat} (hl : fin.length = ws.length) (h : (List.range ws.length).all (fun i => decide ((fin[i]?.getD 0 ≠ 0) ↔ z ≤ i)) = true) (i : Nat) (hi : i < fin.length) :
    (fin[i]?.getD 0 != 0) = decide (z ≤ i) := by
  have := List.all_eq_true.1 h i (by simp; omega)
  simp only [decide_eq_true_eq] at this
  rw [Bool.eq_iff_iff]
  simpa using this

theorem StripStops_any (v : Value) (l : List Int) (w : World) (hv : IntsV w v l) :
    Calls Try.prog 5 #[v] w fun e w' => e = .returned (.bool true) ∧ Below w.heap.size w w' := by
  have WN := windows_any v l w hv
  obtain ⟨a, cap, rfl, _⟩ := hv
  go_enter Try.func5, Try.ntmps5
  go_wp2_with (first
    | (go_at_call 8; refine WN.mono ?_; rintro e w1 ⟨v1, v2, ws, fs, rfl, hI1, _, hok, hB1⟩; have hn8 := hok.2.1; have hc0 := cnt0_le ws; obtain ⟨a1, c1, rfl, _⟩ := hI1.open)
    | (go_at_call 15; refine (FreeR_any _ ws _ hI1).mono ?_; rintro e w' ⟨rfl, rfl⟩)
    | (go_at_call 13; refine (BagsR_any _ ws _ hI1 (by omega)).mono ?_; rintro e w2 ⟨v3, rfl, hO3, hB2⟩; have hB02 := hB1.trans (hB2.mono hB1.size)))
  have hdr := hok.all stopOK stop_all
  simp only [stopOK, Bool.and_eq_true, decide_eq_true_eq] at hdr
  obtain ⟨hd1, hd2⟩ := hdr
  have HD1 := Lib.hid hd1
  have HD2 := Lib.hid hd2
  have hI2 := hI1.below hB2
  have hO3' := hO3.below (base' := w.heap.size) hB1.size
  have hz := hO3'.ints
  clear hd1 hd2 hI1 hO3 hB1 hB2 WN
  generalize hzc : cnt0 ws = z at *
  clear hzc
  go_loopw [3, 7] (fun c i wr => ∃ (k : Nat) (cur : List Int), k ≤ 2 * ws.length ∧ i = .int .i64 k ∧ IntsV wr c cur ∧ cur.length = ws.length ∧ stp (2 * ws.length - k) cur = stp (2 * ws.length) ws ∧ Below w2.heap.size w2 wr)
    (fun _ i _ => 2 * ws.length - (intOf i).toNat)
  case atStart => exact ⟨0, ws, Nat.zero_le _, rfl, hI2, rfl, rfl, Below.refl _ _⟩
  case round =>
    obtain ⟨k, cur, hk, rfl, hIc, hcl, hdn, hBr⟩ := hrel
    have HC := Lib.hid hcl
    have HDN := Lib.hid hdn
    clear hcl hdn
    obtain ⟨ac, cc, rfl, _, _, ccell⟩ := hIc.open
    have hc8 : cur.length ≤ 8 := by have := HC.out; omega
    by_cases hkn : k < 2 * ws.length
    · have ht : (k : Int) < 2 * (cur.length : Int) := by have := HC.out; omega
      obtain ⟨x, y, hxy⟩ : ∃ x y, advance cur [] false = (x, y) := ⟨_, _, rfl⟩
      have AD := Advance_any _ (.slice none 0 0) cur [] false wr hIc (ints_nil _) (by omega)
      have hx := advance_length cur [] false
      have hy := advance_closed cur []
      have hs := stp_succ (2 * ws.length - (k + 1)) cur
      rw [show 2 * ws.length - (k + 1) + 1 = 2 * ws.length - k by omega] at hs
      rw [hxy] at AD hx hy hs
      simp only at hx hy hs
      subst hy
      have HX := Lib.hid hx
      have HS := Lib.hid (hs.symm.trans HDN.out)
      have hne : ((x.length : Int) != (cur.length : Int)) = false := by simp [hx]
      clear hx hs hxy ccell
      go_wp2_with (go_at_call 10; refine AD.mono ?_; rintro e w3 ⟨hB3, v4, rfl, hA4⟩; have hI4 := hA4.ints; obtain ⟨a4, c4, rfl, _⟩ := hI4.open)
      go_roundw
      case rel => exact ⟨k + 1, x, by omega, rfl, hI4, HX.out.trans HC.out, HS.out, hBr.trans (hB3.mono hBr.size)⟩
      case measure => simp [intOf]; omega
    · have ht : ¬ ((k : Int) < 2 * (cur.length : Int)) := by have := HC.out; omega
      obtain rfl : k = 2 * ws.length := by omega
      have hfin := HDN.out
      rw [Nat.sub_self, stp] at hfin
      have h1 := HD1.out
      have h2 := HD2.out
      rw [← hfin] at h1 h2
      have hat := stop_at HC.out h1
      have HAT := Lib.hid hat
      have H2 := Lib.hid h2
      have hO3r := hO3'.ints.below hBr
      have hB02' := hB02.trans (hBr.mono hB02.size)
      clear h1 h2 hfin hat HD1 HD2 hz hO3' hI2 hBr HDN
      have hzl : (z : Int) ≤ (cur.length : Int) ∧ (ws.length : Int) = (cur.length : Int) := by have := HC.out; omega
      have HZL := Lib.hid hzl
      clear hzl
      go_wp2
      go_loop [10] (fun i => ∃ j : Nat, j ≤ cur.length ∧ i = .int .i64 j) (fun i => cur.length - (intOf i).toNat)
      case atStart => exact ⟨0, Nat.zero_le _, rfl⟩
      case round =>
        obtain ⟨j, hj, rfl⟩ := hrel
        by_cases hjn : j < cur.length
        · obtain ⟨b, off, rfl, hb, hcell⟩ := ccell (by omega)
          have d := hcell j hjn
          have hx := HAT.out j hjn
          generalize cur[j]?.getD 0 = x at *
          clear hcell ccell
          by_cases hzj : z ≤ j
          · have gx : (x != 0) = true := by rw [hx, decide_eq_true hzj]
            have hge : (cur.length : Int) - ((ws.length : Int) - (z : Int)) ≤ (j : Int) := by have := HZL.out; omega
            clear hx
            go_wp2
            all_goals (first | go_round | trace_state)
            all_goals first
              | (case rel => exact ⟨j + 1, by omega, by go_num⟩)
              | (case measure => simp [intOf]; omega)
          · have gx : (x != 0) = false := by rw [hx, decide_eq_false hzj]
            have hge : ¬ ((cur.length : Int) - ((ws.length : Int) - (z : Int)) ≤ (j : Int)) := by have := HZL.out; omega
            clear hx
            go_wp2
            all_goals (first | go_round | trace_state)
            all_goals first
              | (case rel => exact ⟨j + 1, by omega, by go_num⟩)
              | (case measure => simp [intOf]; omega)
        · go_wp2_with (first
            | (go_at_call 9; refine (Bags_any _ cur wr hIc (by omega)).mono ?_; rintro e w4 ⟨v4, rfl, hO4, hB4⟩)
            | (go_at_call 11; refine (Ints_same _ _ _ (bagsF ws) w4 hO4.ints (hO3r.below hB4) H2.out).mono ?_; rintro e w5 ⟨rfl, hB5⟩)
            | (go_at_call 12; refine (awake_any _).mono ?_; rintro e w6 ⟨rfl, hB6⟩))
          go_ret
          have q4 := hB02'.trans (hB4.mono hB02'.size)
          have q5 := q4.trans (hB5.mono q4.size)
          exact ⟨rfl, q5.trans (hB6.mono q5.size)⟩
end Go.Proofs.Ytbopbmmalfobiaa
