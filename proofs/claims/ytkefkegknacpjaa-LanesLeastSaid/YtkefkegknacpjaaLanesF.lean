/- lanes.Check: the map and the walk. -/
import Derived.Test.YtkefkegknacpjaaLanesE
namespace Go.Proofs.Ytkefkegknacpjaa
open Go.RowKit Go.Maps

/-- the last place below n with the number x, or -1 -/
def lastI (l : List Int) (x : Int) : Nat → Int
  | 0 => -1
  | n + 1 => if atF l n = x then (n : Int) else lastI l x n

theorem lastI_bd (l : List Int) (x : Int) (n : Nat) : -1 ≤ lastI l x n ∧ lastI l x n < n := by
  induction n with
  | zero => simp [lastI]
  | succ n ih =>
    simp only [lastI]
    split <;> omega

def mapD (l : List Int) : Nat → DataW Unit
  | 0 => .map []
  | n + 1 => (mapD l n).put (.int .i64 (atF l n)) (.lit (.int .i64 n))

theorem mapD_is (l : List Int) (n : Nat) : IsMap (mapD l n) := by
  induction n with
  | zero => exact isMap_empty
  | succ n ih => exact ih.put _ _

theorem mapD_has (l : List Int) (x : Int) (n : Nat) : Maps.has (mapD l n) (.int .i64 x) = decide (0 ≤ lastI l x n) := by
  induction n with
  | zero => simp [mapD, lastI, Maps.has]
  | succ n ih =>
    simp only [mapD]
    by_cases h : atF l n = x
    · have e : lastI l x (n + 1) = n := by simp [lastI, h]
      rw [e]
      subst h
      rw [has_put_same (mapD_is l n) (by simp [WideAt.IsKeyLit])]
      simp
    · have e : lastI l x (n + 1) = lastI l x n := by simp [lastI, h]
      rw [e, has_put_other (by simp; exact fun e => h e.symm), ih]

theorem mapD_at (l : List Int) (x : Int) (n : Nat) (h0 : 0 ≤ lastI l x n) (z : DataW Unit) : (mapD l n).atKey (.int .i64 x) z = .lit (.int .i64 (lastI l x n)) := by
  induction n with
  | zero => simp [lastI] at h0
  | succ n ih =>
    simp only [mapD, lastI] at h0 ⊢
    by_cases h : atF l n = x
    · subst h
      rw [atKey_put_same (mapD_is l n) (by simp [WideAt.IsKeyLit]), if_pos rfl]
    · rw [if_neg h] at h0
      rw [atKey_put_other (by simp; exact fun e => h e.symm), if_neg h, ih h0]

def ordOK (due lanes : List Int) (i : Nat) : Bool := decide (lastI lanes (atF lanes i) i < 0) || decide (atF due (lastI lanes (atF lanes i) i).toNat ≤ atF due i)
def checkF (due lanes : List Int) : Int :=
  if dueErr due ≠ 0 then dueErr due
  else if lanes.length ≠ due.length ∨ lanes.any (fun x => decide (x < 0)) = true then 1
  else if (List.range lanes.length).all (ordOK due lanes) then 0 else 9

theorem lit_inj {a b : Int} (h : (DataW.lit (.int .i64 a) : DataW Unit) = .lit (.int .i64 b)) : b = a := by
  injection h with h
  injection h with _ h
  exact h.symm

theorem lawI : Keyed Try.prog 3 := int_keyed Try.underlying3
theorem zeroI (w : World) : (zeroValue 3).run Try.prog w = .ok (.int .i64 0) w := by kernel_rfl

def CheckPost (x : Int) (w : World) (e : Ending) (w' : World) : Prop := e = .returned (.int .i64 x) ∧ Below w.heap.size w w'

theorem Check_any (v u : Value) (due lanes : List Int) (w : World) (hv : IntsV w v due) (hu : IntsV w u lanes) :
    Calls Try.prog 18 #[v, u] w (CheckPost (checkF due lanes) w) := by
  have Q := checked_any v due w hv
  have QN := HasNeg_any u lanes w hu
  obtain ⟨a, c, rfl, la, _, ca⟩ := hv.open
  obtain ⟨a', c', rfl, la', _, ca'⟩ := hu.open
  have hmm := @run_makeMap Try.prog
  unfold checkF
  by_cases h : dueErr due = 0
  · have hl := due_le h
    rw [if_neg (by simp [h])]
    rw [h] at Q
    clear h
    by_cases hln : lanes.length = due.length
    · by_cases hneg : lanes.any (fun x => decide (x < 0)) = true
      · rw [if_pos (Or.inr hneg)]
        rw [hln]
        rw [hneg] at QN
        rw [hln] at QN
        clear hln hneg
        go_enter Try.func18, Try.ntmps18
        go_wp2_with (first
          | (go_at_call 34; refine Q.mono ?_; rintro e w5 ⟨rfl, rfl⟩)
          | (go_at_call 40; refine QN.mono ?_; rintro e w5 ⟨rfl, rfl⟩))
        go_ret
        exact ⟨rfl, Below.refl _ _⟩
      · rw [if_neg (by simp [hln, hneg])]
        rw [hln]
        have hneg2 : lanes.any (fun x => decide (x < 0)) = false := by simpa using hneg
        rw [hneg2] at QN
        rw [hln] at QN
        obtain ⟨res, hres⟩ : ∃ r : Int, r = if (List.range due.length).all (ordOK due lanes) then 0 else 9 := ⟨_, rfl⟩
        rw [← hres]
        have HRES := Lib.hid hres
        have HLN := Lib.hid hln
        clear hres
        have h200 : lanes.length ≤ 200 := by omega
        clear hln hneg hneg2
        go_enter Try.func18, Try.ntmps18
        go_wp2_with (first
          | (go_at_call 34; refine Q.mono ?_; rintro e w5 ⟨rfl, rfl⟩)
          | (go_at_call 40; refine QN.mono ?_; rintro e w5 ⟨rfl, rfl⟩))
        go_loopw [28] (fun i wr => ∃ k : Nat, k ≤ due.length ∧ i = .int .i64 k ∧ (∀ j, j < k → ordOK due lanes j = true) ∧ wr.ownsMap Try.prog 3 (plainElem Try.prog 3) w.heap.size k (mapD lanes k) ∧ Below w.heap.size w wr)
          (fun i _ => due.length - (intOf i).toNat)
        case atStart => exact ⟨0, Nat.zero_le _, rfl, fun j hj => by omega, World.ownsMap_made _ _ _ _, (Below.refl _ _).alloc (Nat.le_refl _) _⟩
        case round =>
          obtain ⟨k, hk, rfl, hall, hown, hB⟩ := hrel
          by_cases hlt : k < due.length
          · have hdl : lanes.length = due.length := HLN.out
            obtain ⟨b', o', rfl, hb', cc'⟩ := ca' (by omega)
            obtain ⟨b, o, rfl, hb, cc⟩ := ca (by omega)
            have d1 : wr.cell? ⟨b', o' + k, none⟩ = some (.int .i64 (atF lanes k)) := (hB.cell hb').trans (cc' k (by omega))
            have d2 : wr.cell? ⟨b, o + k, none⟩ = some (.int .i64 (atF due k)) := (hB.cell hb).trans (cc k (by omega))
            have d3 : ∀ j, j < due.length → wr.cell? ⟨b, o + j, none⟩ = some (.int .i64 (atF due j)) := fun j hj => (hB.cell hb).trans (cc j hj)
            have hwx : (Lit.int .i64 (atF lanes k)).wf = true := hu.wf _ (atF_mem (by omega))
            have hLb := lastI_bd lanes (atF lanes k) k
            have hL : ordOK due lanes k = (decide (lastI lanes (atF lanes k) k < 0) || decide (atF due (lastI lanes (atF lanes k) k).toNat ≤ atF due k)) := rfl
            have hH := mapD_has lanes (atF lanes k) k
            have hA := mapD_at lanes (atF lanes k) k
            have hnx : mapD lanes (k + 1) = (mapD lanes k).put (.int .i64 (atF lanes k)) (.lit (.int .i64 k)) := rfl
            have hkd : (k : Int) < (due.length : Int) := by omega
            have hk2 : (k : Int) ≤ 200 := by omega
            have HNX := Lib.hid hnx
            have HL := Lib.hid hL
            have HALL := Lib.hid hall
            clear hall
            clear cc cc' ca ca' hnx hL hdl
            generalize atF lanes k = x at *
            generalize lastI lanes x k = L at *
            generalize atF due k = y at *
            by_cases hL0 : 0 ≤ L
            · obtain ⟨j, rfl⟩ : ∃ j : Nat, L = j := ⟨L.toNat, by omega⟩
              have d4 := d3 j (by omega)
              have hL2 : ordOK due lanes k = decide (atF due j ≤ y) := by rw [HL.out]; simp; omega
              generalize atF due j = z at *
              have HH := Lib.hid (hH.trans (by simp : decide (0 ≤ (j : Int)) = true))
              have hA' := hA hL0 (.lit (.int .i64 0))
              have HA := Lib.hid hA'
              have HL2 := Lib.hid hL2
              have hjd : (j : Int) < (due.length : Int) := by omega
              clear hH hA hA' hL2 d3
              by_cases hz : y < z
              · have hzb : decide (y < z) = true := decide_eq_true hz
                have HOK := Lib.hid (show ordOK due lanes k = false from by rw [HL2.out]; simp; omega)
                go_wp2_with (first
                  | (at_lookup; refine wpList_lookup_own_ok_int _ rfl _ _ 62 rfl 3 3 .i64 lawI Try.underlying62 Try.underlying3 (zeroI _) w.heap.size k _ rfl hown _ _ rfl (keyOf_int_mk Try.underlying3 hwx) ?_; intro c1 hat _; rw [HA.out] at hat; obtain rfl : c1 = (j : Int) := lit_inj hat; rw [HH.out]))
                go_quiet (fail)
                go_wp2
                go_ret
                refine ⟨ret_int ?_, below_drewN hB _⟩
                rw [HRES.out, if_neg]
                rw [List.all_eq_true]
                intro hc
                have := hc k (List.mem_range.2 hlt)
                rw [HOK.out] at this
                cases this
              · have hzb : decide (y < z) = false := decide_eq_false hz
                have HOK := Lib.hid (show ∀ j', j' < k + 1 → ordOK due lanes j' = true from by
                  intro j' hj'
                  by_cases e : j' = k
                  · rw [e, HL2.out]; simp; omega
                  · exact HALL.out j' (by omega))
                go_wp2_with (first
                  | (at_lookup; refine wpList_lookup_own_ok_int _ rfl _ _ 62 rfl 3 3 .i64 lawI Try.underlying62 Try.underlying3 (zeroI _) w.heap.size k _ rfl hown _ _ rfl (keyOf_int_mk Try.underlying3 hwx) ?_; intro c1 hat _; rw [HA.out] at hat; obtain rfl : c1 = (j : Int) := lit_inj hat; rw [HH.out]))
                go_quiet (fail)
                go_wp2_with (first
                  | (at_mapUpdate; refine wpList_mapUpdate_own _ rfl _ _ _ 62 rfl 3 3 lawI Try.underlying62 _ w.heap.size k _ rfl hown (by unfold maxLen; omega) _ _ _ rfl rfl (keyOf_int_mk Try.underlying3 hwx) _ [] (plainElem_int Try.underlying3 (small_wf k (by omega) (by omega))) ?_; intro w1 hown1 hgrow1))
                go_roundw
                case rel => exact ⟨k + 1, by omega, by go_num, HOK.out, by rw [HNX.out]; exact hown1, (below_drewN hB _).grown hgrow1 hB.size (fun g hg => by cases hg; exact Nat.le_refl _)⟩
                case measure => simp [intOf]; omega
            · have HH := Lib.hid (hH.trans (by simp; omega : decide (0 ≤ L) = false))
              have HOK := Lib.hid (show ∀ j', j' < k + 1 → ordOK due lanes j' = true from by
                intro j' hj'
                by_cases e : j' = k
                · rw [e, HL.out]; simp; omega
                · exact HALL.out j' (by omega))
              clear hH hA d3
              go_wp2_with (first
                | (at_lookup; refine wpList_lookup_own_ok_int _ rfl _ _ 62 rfl 3 3 .i64 lawI Try.underlying62 Try.underlying3 (zeroI _) w.heap.size k _ rfl hown _ _ rfl (keyOf_int_mk Try.underlying3 hwx) ?_; intro c1 hat _; rw [HH.out]))
              go_quiet (fail)
              go_wp2_with (first
                | (at_mapUpdate; refine wpList_mapUpdate_own _ rfl _ _ _ 62 rfl 3 3 lawI Try.underlying62 _ w.heap.size k _ rfl hown (by unfold maxLen; omega) _ _ _ rfl rfl (keyOf_int_mk Try.underlying3 hwx) _ [] (plainElem_int Try.underlying3 (small_wf k (by omega) (by omega))) ?_; intro w1 hown1 hgrow1))
              go_roundw
              case rel => exact ⟨k + 1, by omega, by go_num, HOK.out, by rw [HNX.out]; exact hown1, (below_drewN hB _).grown hgrow1 hB.size (fun g hg => by cases hg; exact Nat.le_refl _)⟩
              case measure => simp [intOf]; omega
          · go_wp2
            go_ret
            refine ⟨ret_int ?_, hB⟩
            rw [HRES.out, if_pos]
            rw [List.all_eq_true]
            intro j hj
            exact hall j (by have := List.mem_range.1 hj; omega)
    · rw [if_pos (Or.inl hln)]
      have hle : ((lanes.length : Int) != (due.length : Int)) = true := by simp; omega
      clear hln
      go_enter Try.func18, Try.ntmps18
      go_wp2_with (first
        | (go_at_call 34; refine Q.mono ?_; rintro e w5 ⟨rfl, rfl⟩))
      go_ret
      exact ⟨rfl, Below.refl _ _⟩
  · rw [if_pos h]
    generalize dueErr due = d at *
    have hdd : (d != 0) = true := by simp [h]
    go_enter Try.func18, Try.ntmps18
    go_wp2_with (go_at_call 34; refine Q.mono ?_; rintro e w5 ⟨rfl, rfl⟩)
    go_ret
    exact ⟨rfl, Below.refl _ _⟩
end Go.Proofs.Ytkefkegknacpjaa
