/- Contracts of the readers of package strip and of its reference: at, fault, target, Target, Free (twice), the law's index. -/
import Derived.Test.YtbopbmmalfobiaaKeepA
namespace Go.Proofs.Ytbopbmmalfobiaa
open Go.RowKit

def atF (l : List Int) (k : Nat) : Int := l[k]?.getD 0

theorem atF_ge (l : List Int) (k : Nat) (h : l.length ≤ k) : atF l k = 0 := by unfold atF; simp [List.getElem?_eq_none h]

theorem at_any (v : Value) (l : List Int) (k : Nat) (w : World) (hv : IntsV w v l) (hk : k < 9223372036854775807) :
    Calls Try.prog 28 #[v, .int .i64 k] w fun e w' => e = .returned (.int .i64 (atF l k)) ∧ w = w' := by
  obtain ⟨a, c, rfl, la, _, ca⟩ := hv.open
  clear hv
  by_cases hlt : k < l.length
  · obtain ⟨b, o, rfl, hb, cc⟩ := ca (by omega)
    have d := cc k hlt
    clear ca cc
    go_enter Try.func28, Try.ntmps28
    go_wp2
    go_ret
    exact ⟨ret_int (by simp [atF, hlt]), rfl⟩
  · go_enter Try.func28, Try.ntmps28
    go_wp2
    go_ret
    exact ⟨ret_int (by rw [atF_ge _ _ (by omega)]), rfl⟩

theorem fault_any (v : Value) (l : List Int) (k : Nat) (w : World) (hv : IntsV w v l) (hk : k < 9223372036854775807) :
    Calls Try.prog 30 #[v, .int .i64 k] w fun e w' => e = .returned (.int .i64 (atF l k)) ∧ w = w' := by
  obtain ⟨a, c, rfl, la, _, ca⟩ := hv.open
  clear hv
  by_cases hlt : k < l.length
  · obtain ⟨b, o, rfl, hb, cc⟩ := ca (by omega)
    have d := cc k hlt
    clear ca cc
    go_enter Try.func30, Try.ntmps30
    go_wp2
    go_ret
    exact ⟨ret_int (by simp [atF, hlt]), rfl⟩
  · go_enter Try.func30, Try.ntmps30
    go_wp2
    go_ret
    exact ⟨ret_int (by rw [atF_ge _ _ (by omega)]), rfl⟩

/-- where the bag of window k goes, by the fault f; x, y: what the next two windows hold -/
def tgt (n k : Nat) (x y f : Int) : Nat :=
  if f = 1 ∨ x ≠ 0 then k else if f = 2 ∧ k + 2 < n ∧ y = 0 then k + 2 else k + 1

theorem target_any (v : Value) (l : List Int) (k : Nat) (f : Int) (w : World) (hv : IntsV w v l) (hk : k + 1 < l.length) :
    Calls Try.prog 27 #[v, .int .i64 k, .int .i64 f] w fun e w' => e = .returned (.int .i64 (tgt l.length k (atF l (k + 1)) (atF l (k + 2)) f)) ∧ w = w' := by
  obtain ⟨a, c, rfl, la, _, ca⟩ := hv.open
  clear hv
  obtain ⟨b, o, rfl, hb, cc⟩ := ca (by omega)
  have d := cc (k + 1) hk
  have d2 : k + 2 < l.length → w.cell? ⟨b, o + (k + 2), none⟩ = some (.int .i64 (l[k + 2]?.getD 0)) := fun h => cc (k + 2) h
  clear ca cc
  unfold atF
  generalize l[k + 1]?.getD 0 = x at *
  generalize l[k + 2]?.getD 0 = y at *
  by_cases h1 : f = 1
  · subst h1
    go_enter Try.func27, Try.ntmps27
    go_wp2
    go_ret
    exact ⟨ret_int (by simp [tgt, *]), rfl⟩
  · have g1 : (f == 1) = false := by simpa using h1
    by_cases h2 : x = 0
    · subst h2
      by_cases h3 : f = 2
      · subst h3
        by_cases h4 : k + 2 < l.length
        · have d3 := d2 h4
          by_cases h5 : y = 0
          · subst h5
            go_enter Try.func27, Try.ntmps27
            go_wp2
            go_ret
            exact ⟨ret_int (by simp [tgt, *]), rfl⟩
          · have g5 : (y == 0) = false := by simpa using h5
            go_enter Try.func27, Try.ntmps27
            go_wp2
            go_ret
            exact ⟨ret_int (by simp [tgt, *]), rfl⟩
        · go_enter Try.func27, Try.ntmps27
          go_wp2
          go_ret
          exact ⟨ret_int (by simp [tgt, *]), rfl⟩
      · have g3 : (f == 2) = false := by simpa using h3
        go_enter Try.func27, Try.ntmps27
        go_wp2
        go_ret
        exact ⟨ret_int (by simp [tgt, *]), rfl⟩
    · have g2 : (x != 0) = true := by simpa using h2
      go_enter Try.func27, Try.ntmps27
      go_wp2
      go_ret
      exact ⟨ret_int (by simp [tgt, *]), rfl⟩

theorem Target_any (v fv : Value) (l fs : List Int) (k : Nat) (w : World) (hv : IntsV w v l) (hf : IntsV w fv fs) (hk : k + 1 < l.length) :
    Calls Try.prog 29 #[v, fv, .int .i64 k] w fun e w' => e = .returned (.int .i64 (tgt l.length k (atF l (k + 1)) (atF l (k + 2)) (atF fs k))) ∧ w = w' := by
  have FA := fault_any fv fs k w hf
  obtain ⟨a, c, rfl, la, _, ca⟩ := hv.open
  obtain ⟨fa, fc, rfl, _, _, _⟩ := hf.open
  clear hv hf
  obtain ⟨b, o, rfl, hb, cc⟩ := ca (by omega)
  have d := cc (k + 1) hk
  have d2 : k + 2 < l.length → w.cell? ⟨b, o + (k + 2), none⟩ = some (.int .i64 (l[k + 2]?.getD 0)) := fun h => cc (k + 2) h
  clear ca cc
  have FB := FA (by omega)
  clear FA
  generalize atF fs k = f at *
  unfold atF
  generalize l[k + 1]?.getD 0 = x at *
  generalize l[k + 2]?.getD 0 = y at *
  by_cases h1 : f = 1
  · subst h1
    go_enter Try.func29, Try.ntmps29
    go_wp2_with (go_at_call 30; refine FB.mono ?_; rintro e w' ⟨rfl, rfl⟩)
    go_ret
    exact ⟨ret_int (by simp [tgt, *]), rfl⟩
  · have g1 : (f == 1) = false := by simpa using h1
    by_cases h2 : x = 0
    · subst h2
      by_cases h3 : f = 2
      · subst h3
        by_cases h4 : k + 2 < l.length
        · have d3 := d2 h4
          by_cases h5 : y = 0
          · subst h5
            go_enter Try.func29, Try.ntmps29
            go_wp2_with (go_at_call 30; refine FB.mono ?_; rintro e w' ⟨rfl, rfl⟩)
            go_ret
            exact ⟨ret_int (by simp [tgt, *]), rfl⟩
          · have g5 : (y == 0) = false := by simpa using h5
            go_enter Try.func29, Try.ntmps29
            go_wp2_with (go_at_call 30; refine FB.mono ?_; rintro e w' ⟨rfl, rfl⟩)
            go_ret
            exact ⟨ret_int (by simp [tgt, *]), rfl⟩
        · go_enter Try.func29, Try.ntmps29
          go_wp2_with (go_at_call 30; refine FB.mono ?_; rintro e w' ⟨rfl, rfl⟩)
          go_ret
          exact ⟨ret_int (by simp [tgt, *]), rfl⟩
      · have g3 : (f == 2) = false := by simpa using h3
        go_enter Try.func29, Try.ntmps29
        go_wp2_with (go_at_call 30; refine FB.mono ?_; rintro e w' ⟨rfl, rfl⟩)
        go_ret
        exact ⟨ret_int (by simp [tgt, *]), rfl⟩
    · have g2 : (x != 0) = true := by simpa using h2
      go_enter Try.func29, Try.ntmps29
      go_wp2_with (go_at_call 30; refine FB.mono ?_; rintro e w' ⟨rfl, rfl⟩)
      go_ret
      exact ⟨ret_int (by simp [tgt, *]), rfl⟩

def cnt0 (l : List Int) : Nat := (l.filter (· == 0)).length

theorem cnt0_take (l : List Int) (k : Nat) (h : k < l.length) : cnt0 (l.take (k + 1)) = cnt0 (l.take k) + if l[k]?.getD 0 = 0 then 1 else 0 := by
  unfold cnt0
  rw [List.take_succ_eq_append_getElem h, List.filter_append]
  by_cases h0 : l[k] = 0 <;> simp [h, h0]

theorem cnt0_le (l : List Int) : cnt0 l ≤ l.length := List.length_filter_le _ _

theorem Free_any (v : Value) (l : List Int) (w : World) (hv : IntsV w v l) :
    Calls Try.prog 14 #[v] w fun e w' => e = .returned (.int .i64 (cnt0 l : Nat)) ∧ w = w' := by
  obtain ⟨a, c, rfl, la, _, ca⟩ := hv.open
  clear hv
  have h0 := cnt0_le l
  go_enter Try.func14, Try.ntmps14
  go_wp2
  go_loop [3, 8] (fun n i => ∃ k : Nat, k ≤ l.length ∧ i = .int .i64 k ∧ n = .int .i64 (cnt0 (l.take k) : Nat)) (fun n i => l.length - (intOf i).toNat)
  case atStart => exact ⟨0, Nat.zero_le _, rfl, rfl⟩
  case round =>
    obtain ⟨k, hk, rfl, rfl⟩ := hrel
    by_cases hlt : k < l.length
    · obtain ⟨b, o, rfl, hb, cc⟩ := ca (by omega)
      have d := cc k hlt
      have hc := cnt0_take l k hlt
      have hle : cnt0 (l.take k) ≤ k := Nat.le_trans (cnt0_le _) (List.length_take_le _ _)
      clear ca cc
      generalize l[k]?.getD 0 = x at *
      generalize hm : cnt0 (l.take k) = m at *
      have HC := Lib.hid hc
      have HM := Lib.hid hm
      clear hc hm
      go_wp2
      · have hx : x = 0 := by simpa using (‹(x == 0) = true›)
        go_round
        case rel => exact ⟨k + 1, by omega, by go_num, by rw [HC.out, if_pos hx]; go_num⟩
        case measure => simp [intOf]; omega
      · have hx : x ≠ 0 := by simpa using (‹(x == 0) = false›)
        go_round
        case rel => exact ⟨k + 1, by omega, by go_num, by rw [HC.out, if_neg hx]; go_num⟩
        case measure => simp [intOf]; omega
    · go_wp2
      go_ret
      exact ⟨ret_int (by rw [List.take_of_length_le (by omega)]), rfl⟩

theorem FreeR_any (v : Value) (l : List Int) (w : World) (hv : IntsV w v l) :
    Calls Try.prog 15 #[v] w fun e w' => e = .returned (.int .i64 (cnt0 l : Nat)) ∧ w = w' := by
  obtain ⟨a, c, rfl, la, _, ca⟩ := hv.open
  clear hv
  have h0 := cnt0_le l
  go_enter Try.func15, Try.ntmps15
  go_wp2
  go_loop [3, 4] (fun n i => ∃ k : Nat, k ≤ l.length ∧ i = .int .i64 k ∧ n = .int .i64 (cnt0 (l.take k) : Nat)) (fun n i => l.length - (intOf i).toNat)
  case atStart => exact ⟨0, Nat.zero_le _, rfl, rfl⟩
  case round =>
    obtain ⟨k, hk, rfl, rfl⟩ := hrel
    by_cases hlt : k < l.length
    · obtain ⟨b, o, rfl, hb, cc⟩ := ca (by omega)
      have d := cc k hlt
      have hc := cnt0_take l k hlt
      have hle : cnt0 (l.take k) ≤ k := Nat.le_trans (cnt0_le _) (List.length_take_le _ _)
      clear ca cc
      generalize l[k]?.getD 0 = x at *
      generalize hm : cnt0 (l.take k) = m at *
      have HC := Lib.hid hc
      have HM := Lib.hid hm
      clear hc hm
      go_wp2
      · have hx : x = 0 := by simpa using (‹(x == 0) = true›)
        go_round
        case rel => exact ⟨k + 1, by omega, by go_num, by rw [HC.out, if_pos hx]; go_num⟩
        case measure => simp [intOf]; omega
      · have hx : x ≠ 0 := by simpa using (‹(x == 0) = false›)
        go_round
        case rel => exact ⟨k + 1, by omega, by go_num, by rw [HC.out, if_neg hx]; go_num⟩
        case measure => simp [intOf]; omega
    · go_wp2
      go_ret
      exact ⟨ret_int (by rw [List.take_of_length_le (by omega)]), rfl⟩

end Go.Proofs.Ytbopbmmalfobiaa
