/- lanes.checked and its reference; the closure of lanes.assigned. -/
import Derived.Test.YtkefkegknacpjaaBox
namespace Go.Proofs.Ytkefkegknacpjaa
open Go.RowKit

def atF (l : List Int) (k : Nat) : Int := l[k]?.getD 0
theorem atF_mem {l : List Int} {k : Nat} (h : k < l.length) : atF l k ∈ l := by simp [atF, h]

def okDue (n : Int) : Bool := decide (0 ≤ n) && decide (n ≤ 1048576)
def dueErr (due : List Int) : Int := if 200 < due.length then 2 else if due.all okDue then 0 else 1

/-- one round of the choice of a lane: e k is the due time at the end of lane k -/
def bstep (e : Nat → Int) (n : Int) (best : Int) (k : Nat) : Int := if e k ≤ n ∧ (best < 0 ∨ e best.toNat < e k) then (k : Int) else best
def bestS (e : Nat → Int) (n : Int) : Nat → Int
  | 0 => -1
  | k + 1 => bstep e n (bestS e n k) k

theorem bestS_bd (e : Nat → Int) (n : Int) (k : Nat) : -1 ≤ bestS e n k ∧ bestS e n k < k := by
  induction k with
  | zero => simp [bestS]
  | succ k ih =>
    unfold bestS bstep
    split <;> omega

/-- the due time at the end of lane k -/
def endF (due last : List Int) (k : Nat) : Int := atF due (atF last k).toNat

def BetterPost (b4 : Nat) (x : Int) (w : World) (e : Ending) (w' : World) : Prop := e = .returned (.tuple #[]) ∧ Bx w' b4 (.int .i64 x) ∧ w.grownBy w' (some b4)

theorem better_no {w : World} {b4 : Nat} {x : Int} (h : Bx w b4 (.int .i64 x)) (n : Nat) : BetterPost b4 x w (.returned (.tuple #[])) (w.drewN n) :=
  ⟨rfl, h, grownBy_draws (grownBy_refl _ _) n⟩
theorem better_yes {w : World} {b4 : Nat} {x : Int} (y : Int) (h : Bx w b4 (.int .i64 x)) (n : Nat) : BetterPost b4 y w (.returned (.tuple #[])) ((w.drewN n).setCell ⟨b4, 0, none⟩ (.int .i64 y)) :=
  ⟨rfl, (h.draws n).set _, grownBy_trans (grownBy_draws (grownBy_refl _ _) n) (grownBy_set _ _ _ _)⟩

theorem better_any (k b1 b2 b3 b4 : Nat) (dv lv : Value) (due last : List Int) (n best : Int) (w : World) (h1 : Bx w b1 dv) (h2 : Bx w b2 lv) (h3 : Bx w b3 (.int .i64 n)) (h4 : Bx w b4 (.int .i64 best))
    (hd : IntsV w dv due) (hl : IntsV w lv last) (hk : k < last.length) (hlast : ∀ x ∈ last, 0 ≤ x ∧ x < due.length) (hbest : -1 ≤ best ∧ best < last.length) :
    Calls Try.prog 50 #[.int .i64 k, .pointer (some ⟨b1, 0, none⟩), .pointer (some ⟨b2, 0, none⟩), .pointer (some ⟨b3, 0, none⟩), .pointer (some ⟨b4, 0, none⟩)] w
      (BetterPost b4 (bstep (endF due last) n best k) w) := by
  have q1 := h1.cell
  have q2 := h2.cell
  have q3 := h3.cell
  have q4 := h4.cell
  have f4 := h4.frozen
  have m1 := hlast _ (atF_mem hk)
  obtain ⟨da, dc, rfl, ld, _, dcell⟩ := hd.open
  obtain ⟨la, lc, rfl, ll, _, lcell⟩ := hl.open
  obtain ⟨db, doff, rfl, _, dcc⟩ := dcell (by omega)
  obtain ⟨lb, loff, rfl, _, lcc⟩ := lcell (by omega)
  have c1 : w.cell? ⟨lb, loff + k, none⟩ = some (.int .i64 (atF last k)) := lcc k hk
  have c2 : w.cell? ⟨db, doff + (atF last k).toNat, none⟩ = some (.int .i64 (endF due last k)) := dcc _ (by omega)
  have hb1 : bstep (endF due last) n best k = if endF due last k ≤ n ∧ (best < 0 ∨ endF due last best.toNat < endF due last k) then (k : Int) else best := rfl
  have jj : 0 ≤ best → 0 ≤ atF last best.toNat ∧ atF last best.toNat < due.length ∧ w.cell? ⟨lb, loff + best.toNat, none⟩ = some (.int .i64 (atF last best.toNat)) ∧ w.cell? ⟨db, doff + (atF last best.toNat).toNat, none⟩ = some (.int .i64 (endF due last best.toNat)) := by
    intro h0
    have hbl : best.toNat < last.length := by omega
    have m2 := hlast _ (atF_mem hbl)
    exact ⟨m2.1, m2.2, lcc _ hbl, dcc _ (by omega)⟩
  generalize bstep (endF due last) n best k = r at *
  generalize endF due last k = x at *
  generalize atF last k = i at *
  generalize endF due last best.toNat = y at *
  generalize atF last best.toNat = j at *
  clear dcell lcell dcc lcc hlast h1 h2 h3 hd hl
  by_cases hx : x ≤ n
  · by_cases hb0 : best < 0
    · rw [if_pos ⟨hx, .inl hb0⟩] at hb1
      subst hb1
      go_enter Try.func50, Try.ntmps50
      go_wp2
      go_quiet (fail)
      go_wp2
      go_end0
      exact better_yes _ h4 _
    · obtain ⟨j0, j1, j2, j3⟩ := jj (by omega)
      clear jj
      by_cases hyx : y < x
      · rw [if_pos ⟨hx, .inr hyx⟩] at hb1
        subst hb1
        go_enter Try.func50, Try.ntmps50
        go_wp2
        go_quiet (fail)
        go_wp2
        go_end0
        exact better_yes _ h4 _
      · rw [if_neg (fun h => h.2.elim hb0 hyx)] at hb1
        subst hb1
        go_enter Try.func50, Try.ntmps50
        go_wp2
        go_quiet (fail)
        go_wp2
        go_end0
        exact better_no h4 _
  · rw [if_neg (fun h => hx h.1)] at hb1
    subst hb1
    have hd0 : decide (x ≤ n) = false := decide_eq_false hx
    clear jj
    go_enter Try.func50, Try.ntmps50
    go_wp2
    go_quiet (fail)
    go_wp2
    go_end0
    exact better_no h4 _

theorem all_take (l : List Int) (p : Int → Bool) (k : Nat) (hk : k < l.length) (h : (l.take k).all p = true) : (l.take (k + 1)).all p = p (atF l k) := by
  rw [List.take_succ_eq_append_getElem hk, List.all_append, h]
  simp [atF, hk]

theorem all_false (l : List Int) (p : Int → Bool) (k : Nat) (hk : k < l.length) (h : p (atF l k) = false) : l.all p = false := by
  rw [List.all_eq_false]
  exact ⟨atF l k, atF_mem hk, by simp [h]⟩

theorem checked_any (v : Value) (l : List Int) (w : World) (hv : IntsV w v l) :
    Calls Try.prog 34 #[v] w fun e w' => e = .returned (.int .i64 (dueErr l)) ∧ w = w' := by
  obtain ⟨a, c, rfl, la, _, ca⟩ := hv.open
  clear hv
  by_cases h200 : 200 < l.length
  · have h2 : (200 : Int) < (l.length : Int) := by omega
    go_enter Try.func34, Try.ntmps34
    go_wp2
    go_ret
    exact ⟨ret_int (by rw [dueErr, if_pos h200]), rfl⟩
  · have h2 : ¬ (200 : Int) < (l.length : Int) := by omega
    go_enter Try.func34, Try.ntmps34
    go_wp2
    go_loop [10] (fun i => ∃ k : Nat, k ≤ l.length ∧ i = .int .i64 k ∧ (l.take k).all okDue = true) (fun i => l.length - (intOf i).toNat)
    case atStart => exact ⟨0, Nat.zero_le _, rfl, by simp⟩
    case round =>
      obtain ⟨k, hk, rfl, hall⟩ := hrel
      by_cases hlt : k < l.length
      · obtain ⟨b, o, rfl, hb, cc⟩ := ca (by omega)
        have d : w.cell? ⟨b, o + k, none⟩ = some (.int .i64 (atF l k)) := cc k hlt
        have hn := all_take l okDue k hlt hall
        have hf := all_false l okDue k hlt
        generalize atF l k = x at *
        have HN := Lib.hid hn
        have HF := Lib.hid hf
        clear hn hf cc ca hall
        by_cases h0 : x < 0
        · go_wp2
          go_ret
          exact ⟨ret_int (by rw [dueErr, if_neg h200, HF.out (by simp [okDue]; omega)]; rfl), rfl⟩
        · by_cases h1 : 1048576 < x
          · go_wp2
            go_ret
            exact ⟨ret_int (by rw [dueErr, if_neg h200, HF.out (by simp [okDue]; omega)]; rfl), rfl⟩
          · go_wp2
            go_round
            case rel => exact ⟨k + 1, by omega, by go_num, by rw [HN.out]; simp [okDue]; omega⟩
            case measure => simp [intOf]; omega
      · go_wp2
        go_ret
        refine ⟨ret_int ?_, rfl⟩
        rw [List.take_of_length_le (by omega)] at hall
        rw [dueErr, if_neg h200, hall]
        rfl

theorem valid_any (v : Value) (l : List Int) (w : World) (hv : IntsV w v l) :
    Calls Try.prog 36 #[v] w fun e w' => e = .returned (.int .i64 (dueErr l)) ∧ w = w' := by
  obtain ⟨a, c, rfl, la, _, ca⟩ := hv.open
  clear hv
  by_cases h200 : 200 < l.length
  · have h2 : (200 : Int) < (l.length : Int) := by omega
    go_enter Try.func36, Try.ntmps36
    go_wp2
    go_ret
    exact ⟨ret_int (by rw [dueErr, if_pos h200]), rfl⟩
  · have h2 : ¬ (200 : Int) < (l.length : Int) := by omega
    go_enter Try.func36, Try.ntmps36
    go_wp2
    go_loop [3] (fun i => ∃ k : Nat, k ≤ l.length ∧ i = .int .i64 k ∧ (l.take k).all okDue = true) (fun i => l.length - (intOf i).toNat)
    case atStart => exact ⟨0, Nat.zero_le _, rfl, by simp⟩
    case round =>
      obtain ⟨k, hk, rfl, hall⟩ := hrel
      by_cases hlt : k < l.length
      · obtain ⟨b, o, rfl, hb, cc⟩ := ca (by omega)
        have d : w.cell? ⟨b, o + k, none⟩ = some (.int .i64 (atF l k)) := cc k hlt
        have hn := all_take l okDue k hlt hall
        have hf := all_false l okDue k hlt
        generalize atF l k = x at *
        have HN := Lib.hid hn
        have HF := Lib.hid hf
        clear hn hf cc ca hall
        by_cases h0 : x < 0
        · go_wp2
          go_ret
          exact ⟨ret_int (by rw [dueErr, if_neg h200, HF.out (by simp [okDue]; omega)]; rfl), rfl⟩
        · by_cases h1 : 1048576 < x
          · go_wp2
            go_ret
            exact ⟨ret_int (by rw [dueErr, if_neg h200, HF.out (by simp [okDue]; omega)]; rfl), rfl⟩
          · go_wp2
            go_round
            case rel => exact ⟨k + 1, by omega, by go_num, by rw [HN.out]; simp [okDue]; omega⟩
            case measure => simp [intOf]; omega
      · go_wp2
        go_ret
        refine ⟨ret_int ?_, rfl⟩
        rw [List.take_of_length_le (by omega)] at hall
        rw [dueErr, if_neg h200, hall]
        rfl
end Go.Proofs.Ytkefkegknacpjaa
