/- the reference's Check. -/
import Derived.Test.YtkefkegknacpjaaLanesI
namespace Go.Proofs.Ytkefkegknacpjaa
open Go.RowKit Go.Maps

def pairOK (due lanes : List Int) (i k : Nat) : Prop := atF lanes k = atF lanes i → atF due k ≤ atF due i

theorem lastI_ge (l : List Int) (x : Int) (n k : Nat) (hk : k < n) (h : atF l k = x) : (k : Int) ≤ lastI l x n := by
  induction n with
  | zero => omega
  | succ n ih =>
    simp only [lastI]
    split
    · omega
    · rename_i e
      have : k ≠ n := fun h2 => e (by rw [← h2]; exact h)
      exact ih (by omega)

theorem ord_of_pairs (due lanes : List Int) (i : Nat) (h : ∀ k, k < i → pairOK due lanes i k) : ordOK due lanes i = true := by
  unfold ordOK
  by_cases h0 : lastI lanes (atF lanes i) i < 0
  · simp [h0]
  · have hb := lastI_bd lanes (atF lanes i) i
    have := h (lastI lanes (atF lanes i) i).toNat (by omega) (lastI_hit _ _ _ (by omega))
    simp [this]

theorem pairs_of_ord (due lanes : List Int) (n : Nat) (h : ∀ i, i < n → ordOK due lanes i = true) : ∀ i, i < n → ∀ k, k < i → pairOK due lanes i k := by
  intro i
  induction i using Nat.strongRecOn with
  | ind i ih =>
    intro hi k hk e
    have ho := h i hi
    unfold ordOK at ho
    have hg := lastI_ge lanes (atF lanes i) i k hk e
    have hb := lastI_bd lanes (atF lanes i) i
    have hh := lastI_hit lanes (atF lanes i) i (by omega)
    simp at ho
    have hL : atF due (lastI lanes (atF lanes i) i).toNat ≤ atF due i := by
      rcases ho with ho | ho
      · omega
      · exact ho
    by_cases hk2 : k = (lastI lanes (atF lanes i) i).toNat
    · rw [hk2]; exact hL
    · have := ih (lastI lanes (atF lanes i) i).toNat (by omega) (by omega) k (by omega) (by rw [hh]; exact e)
      omega

theorem check_ok {due lanes : List Int} (h0 : dueErr due = 0) (h1 : lanes.length = due.length) (h2 : lanes.any (fun x => decide (x < 0)) = false) (h3 : ∀ i, i < due.length → ∀ k, k < i → pairOK due lanes i k) : checkF due lanes = 0 := by
  unfold checkF
  rw [if_neg (by simp [h0]), if_neg (by simp [h1, h2]), if_pos]
  rw [List.all_eq_true]
  intro i hi
  exact ord_of_pairs _ _ _ (h3 i (by have := List.mem_range.1 hi; omega))

theorem check_bad {due lanes : List Int} (h0 : dueErr due = 0) (h1 : lanes.length = due.length) (h2 : lanes.any (fun x => decide (x < 0)) = false) {i k : Nat} (hi : i < due.length) (hk : k < i) (h3 : ¬ pairOK due lanes i k) : checkF due lanes = 9 := by
  unfold checkF
  rw [if_neg (by simp [h0]), if_neg (by simp [h1, h2]), if_neg]
  rw [List.all_eq_true]
  intro h
  exact h3 (pairs_of_ord due lanes due.length (fun j hj => h j (List.mem_range.2 (by omega))) i hi k hk)

theorem check_rng {due lanes : List Int} (h0 : dueErr due = 0) (h1 : lanes.length ≠ due.length ∨ lanes.any (fun x => decide (x < 0)) = true) : checkF due lanes = 1 := by
  unfold checkF
  rw [if_neg (by simp [h0]), if_pos h1]

theorem RCheck_any (v u : Value) (due lanes : List Int) (w : World) (hv : IntsV w v due) (hu : IntsV w u lanes) :
    Calls Try.prog 19 #[v, u] w (CheckPost (checkF due lanes) w) := by
  have Q := valid_any v due w hv
  obtain ⟨a, c, rfl, la, _, ca⟩ := hv.open
  obtain ⟨a', c', rfl, la', _, ca'⟩ := hu.open
  obtain ⟨res, hres⟩ : ∃ r, r = checkF due lanes := ⟨_, rfl⟩
  have HRES := Lib.hid hres
  rw [← hres]
  clear hres
  by_cases h : dueErr due = 0
  · have hl := due_le h
    have H0 := Lib.hid h
    rw [h] at Q
    clear h
    by_cases hln : lanes.length = due.length
    · have HLN := Lib.hid hln
      have HCA := Lib.hid ca
      have HCA' := Lib.hid ca'
      rw [hln]
      clear hln ca ca'
      go_enter Try.func19, Try.ntmps19
      go_wp2_with (go_at_call 36; refine Q.mono ?_; rintro e w5 ⟨rfl, rfl⟩)
      go_loop [6] (fun i => ∃ k : Nat, k ≤ due.length ∧ i = .int .i64 k ∧ ∀ j, j < k → 0 ≤ atF lanes j) (fun i => due.length - (intOf i).toNat)
      case atStart => exact ⟨0, Nat.zero_le _, rfl, fun j hj => by omega⟩
      case round =>
        obtain ⟨k, hk, rfl, hall⟩ := hrel
        have HALL := Lib.hid hall
        clear hall
        by_cases hlt : k < due.length
        · obtain ⟨b', o', rfl, hb', cc'⟩ := HCA'.out (by have := HLN.out; omega)
          have d := cc' k (by have := HLN.out; omega)
          have hx : lanes[k]?.getD 0 = atF lanes k := rfl
          rw [hx] at d
          have hkl : (k : Int) < (due.length : Int) := by omega
          obtain ⟨y, hy⟩ : ∃ y, atF lanes k = y := ⟨_, rfl⟩
          rw [hy] at d
          have HY := Lib.hid hy
          clear cc' hx hy
          by_cases h0 : y < 0
          · go_wp2
            go_ret
            refine ⟨ret_int ?_, Below.refl _ _⟩
            rw [HRES.out, check_rng H0.out (Or.inr (List.any_eq_true.2 ⟨_, atF_mem (k := k) (by have := HLN.out; omega), by rw [HY.out]; simp [h0]⟩))]
          · go_wp2
            go_round
            case rel =>
              refine ⟨k + 1, by omega, by go_num, fun j hj => ?_⟩
              by_cases e : j = k
              · rw [e, HY.out]; omega
              · exact HALL.out j (by omega)
            case measure => simp [intOf]; omega
        · obtain rfl : k = due.length := by omega
          have hneg : lanes.any (fun x => decide (x < 0)) = false := by
            rw [List.any_eq_false]
            intro x hx
            obtain ⟨j, hj, rfl⟩ := List.mem_iff_getElem.1 hx
            have := HALL.out j (by have := HLN.out; omega)
            simp [atF, hj] at this
            simpa using this
          have HNEG := Lib.hid hneg
          clear hneg HALL
          go_wp2
          go_loopw [7] (fun i wr => ∃ k : Nat, k ≤ due.length ∧ i = .int .i64 k ∧ (∀ j, j < k → ∀ q, q < j → pairOK due lanes j q) ∧ Below w.heap.size w wr) (fun i _ => due.length - (intOf i).toNat)
          case atStart => exact ⟨0, Nat.zero_le _, rfl, fun j hj => by omega, Below.refl _ _⟩
          case round =>
            obtain ⟨wo, hwo⟩ : ∃ wo : World, wo = wr := ⟨_, rfl⟩
            obtain ⟨i, hi, rfl, hall, hB⟩ := hrel
            subst hwo
            have HALL := Lib.hid hall
            clear hall
            by_cases hlt : i < due.length
            · go_wp2
              go_loopw [8] (fun j wr => ∃ k : Nat, k ≤ i ∧ j = .int .i64 k ∧ (∀ q, q < k → pairOK due lanes i q) ∧ Below w.heap.size w wr) (fun j _ => i - (intOf j).toNat)
              case atStart => exact ⟨0, Nat.zero_le _, rfl, fun q hq => by omega, hB⟩
              case round =>
                obtain ⟨k, hk, rfl, hpk, hBr⟩ := hrel
                have HPK := Lib.hid hpk
                clear hpk hB
                by_cases hki : k < i
                · obtain ⟨b, o, rfl, hb, cc⟩ := HCA.out (by omega)
                  obtain ⟨b', o', rfl, hb', cc'⟩ := HCA'.out (by have := HLN.out; omega)
                  have d1 : wr.cell? ⟨b, o + k, none⟩ = some (.int .i64 (atF due k)) := (hBr.cell hb).trans (cc k (by omega))
                  have d2 : wr.cell? ⟨b, o + i, none⟩ = some (.int .i64 (atF due i)) := (hBr.cell hb).trans (cc i (by omega))
                  have d3 : wr.cell? ⟨b', o' + k, none⟩ = some (.int .i64 (atF lanes k)) := (hBr.cell hb').trans (cc' k (by have := HLN.out; omega))
                  have d4 : wr.cell? ⟨b', o' + i, none⟩ = some (.int .i64 (atF lanes i)) := (hBr.cell hb').trans (cc' i (by have := HLN.out; omega))
                  have k1 : (k : Int) < (due.length : Int) := by omega
                  have k2 : (i : Int) < (due.length : Int) := by omega
                  have hP : pairOK due lanes i k = (atF lanes k = atF lanes i → atF due k ≤ atF due i) := rfl
                  have HP := Lib.hid hP
                  clear cc cc' hP
                  generalize atF due k = x1 at *
                  generalize atF due i = x2 at *
                  generalize atF lanes k = y1 at *
                  generalize atF lanes i = y2 at *
                  by_cases hy : y1 = y2
                  · have hyb : (y1 == y2) = true := by simp [hy]
                    have HY := Lib.hid hy
                    clear hy
                    by_cases hx : x2 < x1
                    · have hxb : decide (x2 < x1) = true := decide_eq_true hx
                      go_wp2
                      go_quiet (fail)
                      go_wp2
                      go_ret
                      refine ⟨ret_int ?_, below_drewN hBr _⟩
                      rw [HRES.out, check_bad H0.out HLN.out HNEG.out hlt hki (by rw [HP.out]; intro hc; have := hc HY.out; omega)]
                    · have hxb : decide (x2 < x1) = false := decide_eq_false hx
                      go_wp2
                      go_quiet (fail)
                      go_wp2
                      go_roundw
                      case rel =>
                        refine ⟨k + 1, by omega, by go_num, fun q hq => ?_, below_drewN hBr _⟩
                        by_cases e : q = k
                        · rw [e, HP.out]; intro _; omega
                        · exact HPK.out q (by omega)
                      case measure => simp [intOf]; omega
                  · have hyb : (y1 == y2) = false := by simp [hy]
                    have HY := Lib.hid hy
                    clear hy
                    go_wp2
                    go_quiet (fail)
                    go_wp2
                    go_roundw
                    case rel =>
                      refine ⟨k + 1, by omega, by go_num, fun q hq => ?_, below_drewN hBr _⟩
                      by_cases e : q = k
                      · rw [e, HP.out]; intro h; exact absurd h HY.out
                      · exact HPK.out q (by omega)
                    case measure => simp [intOf]; omega
                · obtain rfl : k = i := by omega
                  go_wp2
                  go_roundw
                  case rel =>
                    refine ⟨k + 1, by omega, by go_num, fun j hj => ?_, hBr⟩
                    by_cases e : j = k
                    · rw [e]; exact HPK.out
                    · exact HALL.out j (by omega)
                  case measure => simp [intOf]; omega
            · obtain rfl : i = due.length := by omega
              go_wp2
              go_ret
              refine ⟨ret_int ?_, hB⟩
              rw [HRES.out, check_ok H0.out HLN.out HNEG.out HALL.out]
    · have hle : ((lanes.length : Int) != (due.length : Int)) = true := by simp; omega
      have HLN := Lib.hid hln
      clear hln
      go_enter Try.func19, Try.ntmps19
      go_wp2_with (go_at_call 36; refine Q.mono ?_; rintro e w5 ⟨rfl, rfl⟩)
      go_ret
      refine ⟨ret_int ?_, Below.refl _ _⟩
      rw [HRES.out, check_rng H0.out (Or.inl HLN.out)]
  · have hc : checkF due lanes = dueErr due := by
      unfold checkF
      rw [if_pos h]
    have HR := Lib.hid (HRES.out.trans hc)
    clear hc HRES
    generalize dueErr due = d at *
    have hdd : (d != 0) = true := by simp [h]
    go_enter Try.func19, Try.ntmps19
    go_wp2_with (go_at_call 36; refine Q.mono ?_; rintro e w5 ⟨rfl, rfl⟩)
    go_ret
    exact ⟨ret_int HR.out.symm, Below.refl _ _⟩
end Go.Proofs.Ytkefkegknacpjaa
