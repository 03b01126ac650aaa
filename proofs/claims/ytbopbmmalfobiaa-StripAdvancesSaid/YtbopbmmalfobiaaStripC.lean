/- strip.Advance and its reference. -/
import Derived.Test.YtbopbmmalfobiaaStripB
import Derived.BigRegion
namespace Go.Proofs.Ytbopbmmalfobiaa
open Go.RowKit

/-- one window of strip.Advance -/
def stepS (s fs : List Int) (op : Bool) (k : Nat) (st : List Int × Int) : List Int × Int :=
  if atF s k = 0 then st
  else if k + 1 < s.length then ((st.1.set k (atF st.1 (tgt s.length k (atF s (k + 1)) (atF s (k + 2)) (atF fs k)))).set (tgt s.length k (atF s (k + 1)) (atF s (k + 2)) (atF fs k)) (atF st.1 k), st.2)
  else if op ∧ atF fs k ≠ 1 then (st.1.set k 0, atF s k)
  else st

def advS (s fs : List Int) (op : Bool) : Nat → List Int × Int → List Int × Int
  | 0, st => st
  | k + 1, st => advS s fs op k (stepS s fs op k st)

def advance (s fs : List Int) (op : Bool) : List Int × Int := advS s fs op s.length (s, 0)

theorem tgt_bd (n k : Nat) (x y f : Int) (h : k + 1 < n) : k ≤ tgt n k x y f ∧ tgt n k x y f < n := by
  unfold tgt
  split
  · omega
  · split <;> omega

def AdvPost (r : List Int × Int) (w : World) (e : Ending) (w' : World) : Prop :=
  Below w.heap.size w w' ∧ ∃ v, e = .returned (.tuple #[v, .int .i64 r.2]) ∧ OwnI w.heap.size w' v r.1

theorem OwnI.drew {base : Nat} {w : World} {v : Value} {l : List Int} (h : OwnI base w v l) : OwnI base w.drew v l := h
theorem OwnI.draws {base : Nat} {w : World} {v : Value} {l : List Int} (h : OwnI base w v l) (n : Nat) : OwnI base (w.drewN n) v l := h

theorem adv_close {r : List Int × Int} {o : List Int} {x : Int} {w w' : World} {v : Value} (hr : (o, x) = r) (hB : Below w.heap.size w w') (hI : OwnI w.heap.size w' v o) :
    AdvPost r w (.returned (.tuple #[v, .int .i64 x])) w' := by
  subst hr
  exact ⟨hB, v, rfl, hI⟩

theorem stepS_zero {l fs : List Int} {op : Bool} {k : Nat} {st : List Int × Int} (h : atF l k = 0) : stepS l fs op k st = st := by
  unfold stepS; rw [if_pos h]

theorem Advance_any (v fv : Value) (l fs : List Int) (op : Bool) (w : World) (hv : IntsV w v l) (hf : IntsV w fv fs) (hl : l.length * 8 ≤ 140737488355328) :
    Calls Try.prog 10 #[v, fv, .bool op] w (AdvPost (advance l fs op) w) := by
  have CL := Clone_any v l w hv hl
  have hv' := hv
  obtain ⟨a, c, rfl, la, _, ca⟩ := hv.open
  obtain ⟨fa, fc, hfv, _, _, _⟩ := hf.open
  clear hv
  go_enter Try.func10, Try.ntmps10
  go_wp2_with (go_at_call 26; refine CL.mono ?_; rintro e w1 ⟨v1, rfl, hown, hB⟩)
  go_loopw [9, 10] (fun lv i wr => ∃ (j : Nat) (o : List Int) (x : Int), j ≤ l.length ∧ lv = .int .i64 x ∧ i = .int .i64 ((j : Int) - 1) ∧ OwnI w.heap.size wr v1 o ∧ o.length = l.length ∧ advS l fs op j (o, x) = advance l fs op ∧ Below w.heap.size w wr)
    (fun _ i _ => (intOf i + 1).toNat)
  case atStart => exact ⟨l.length, l, 0, Nat.le_refl _, rfl, rfl, hown, rfl, rfl, hB⟩
  case round =>
    obtain ⟨j, o, x, hj, rfl, rfl, hO, hol, hadv, hBr⟩ := hrel
    have HL := Lib.hid hol
    have HA := Lib.hid hadv
    clear hadv hol
    cases j with
    | zero =>
      have hA := HA.out
      simp only [advS] at hA
      have HA' := Lib.hid hA
      clear hA HA
      have e0 : ((0 : Nat) : Int) - 1 = -1 := rfl
      rw [e0]
      clear e0
      go_wp2
      go_ret2
      exact adv_close HA'.out hBr hO
    | succ k =>
      have hk : k < l.length := by omega
      have hko : k < o.length := by have := HL.out; omega
      obtain ⟨b, off, rfl, hb, cc⟩ := ca (by omega)
      obtain ⟨g, cap, rfl, hg1, hg2, hfr, hcell⟩ := hO.open (by omega)
      have ds := (hBr.cell (p := ⟨b, off + k, none⟩) hb).trans (cc k hk)
      have ek : (((k + 1 : Nat) : Int) - 1) = (k : Int) := by omega
      rw [ek]
      have hz0 : advS l fs op (k + 1) (o, x) = advS l fs op k (stepS l fs op k (o, x)) := rfl
      have HA2 := Lib.hid (hz0.symm.trans HA.out)
      clear hz0 HA
      have hat : atF l k = l[k]?.getD 0 := rfl
      generalize l[k]?.getD 0 = y at *
      have HAT := Lib.hid hat
      clear hat cc
      by_cases hy : y = 0
      · subst hy
        go_wp2
        go_roundw
        case rel => exact ⟨k, o, x, by omega, rfl, rfl, hO, HL.out, by rw [← HA2.out, stepS_zero HAT.out], hBr⟩
        case measure => simp [intOf]
      · have gy : (y == 0) = false := by simpa using hy
        have HY := Lib.hid hy
        clear hy
        have AT := at_any fv fs k wr (hf.below hBr) (by omega)
        by_cases hk1 : k + 1 < l.length
        · have TG := target_any _ l k (atF fs k) wr (hv'.below hBr) hk1
          obtain ⟨st, hst0⟩ : ∃ st, st = stepS l fs op k (o, x) := ⟨_, rfl⟩
          have hst := hst0
          unfold stepS at hst
          rw [if_neg (by rw [HAT.out]; exact HY.out), if_pos hk1] at hst
          rw [← hst0] at HA2
          clear hst0
          have ht := tgt_bd l.length k (atF l (k + 1)) (atF l (k + 2)) (atF fs k) hk1
          generalize tgt l.length k (atF l (k + 1)) (atF l (k + 2)) (atF fs k) = t at *
          have hto : t < o.length := by have := HL.out; omega
          have c1 := hcell k hko
          have c2 := hcell t hto
          have f1 := hfr k
          have f2 := hfr t
          subst hfv
          have hst2 : st = ((o.set k (o[t]?.getD 0)).set t (o[k]?.getD 0), x) := hst
          have HST := Lib.hid hst2
          clear hst hst2 hcell hfr
          have w1' : (Lit.int .i64 (o[t]?.getD 0)).wf = true := hO.2 _ (by simp [hto])
          have w2' : (Lit.int .i64 (o[k]?.getD 0)).wf = true := hO.2 _ (by simp [hko])
          have HW1 := Lib.hid w1'
          have HW2 := Lib.hid w2'
          clear w1' w2'
          by_cases htk : t = k
          · subst htk
            generalize o[t]?.getD 0 = z at *
            go_wp2_with (first | (go_at_call 28; refine AT.mono ?_; rintro e w' ⟨rfl, rfl⟩) | (go_at_call 27; refine TG.mono ?_; rintro e w' ⟨rfl, rfl⟩))
            go_region
            all_goals go_wp2
            all_goals go_roundw
            all_goals first
              | (case rel => exact ⟨t, _, x, by omega, rfl, rfl, ((hO.set t z HW1.out).set t z HW1.out).drew, by simp; exact HL.out, by rw [← HA2.out, HST.out], ((hBr.setCell (p := ⟨g, t, none⟩) hg1 _).setCell (p := ⟨g, t, none⟩) hg1 _).drew⟩)
              | (case measure => simp [intOf])
          · generalize o[t]?.getD 0 = z at *
            generalize o[k]?.getD 0 = z2 at *
            have htk2 : ¬ k = t := fun h => htk h.symm
            go_wp2_with (first | (go_at_call 28; refine AT.mono ?_; rintro e w' ⟨rfl, rfl⟩) | (go_at_call 27; refine TG.mono ?_; rintro e w' ⟨rfl, rfl⟩))
            go_region
            all_goals go_wp2
            all_goals go_roundw
            all_goals first
              | (case rel => exact ⟨k, _, x, by omega, rfl, rfl, ((hO.set k z HW1.out).set t z2 HW2.out).drew, by simp; exact HL.out, by rw [← HA2.out, HST.out], ((hBr.setCell (p := ⟨g, k, none⟩) hg1 _).setCell (p := ⟨g, t, none⟩) hg1 _).drew⟩)
              | (case measure => simp [intOf])
        · have hlast : k + 1 = l.length := by omega
          have HK1 := Lib.hid hlast
          have hlt : ¬ ((k : Int) < (l.length : Int) - 1) := by omega
          clear hlast
          obtain ⟨st, hst0⟩ : ∃ st, st = stepS l fs op k (o, x) := ⟨_, rfl⟩
          have hst := hst0
          unfold stepS at hst
          rw [if_neg (by rw [HAT.out]; exact HY.out), if_neg hk1, HAT.out] at hst
          rw [← hst0] at HA2
          clear hst0
          generalize atF fs k = f at *
          have c1 := hcell k hko
          have f1 := hfr k
          clear hcell hfr
          generalize o[k]?.getD 0 = z at *
          have HST := Lib.hid hst
          clear hst
          subst hfv
          cases op with
          | false =>
            go_wp2_with (go_at_call 28; refine AT.mono ?_; rintro e w' ⟨rfl, rfl⟩)
            go_roundw
            case rel => exact ⟨k, o, x, by omega, rfl, rfl, hO, HL.out, by rw [← HA2.out, HST.out]; simp, hBr⟩
            case measure => simp [intOf]
          | true =>
            by_cases hf1 : f = 1
            · subst hf1
              go_wp2_with (go_at_call 28; refine AT.mono ?_; rintro e w' ⟨rfl, rfl⟩)
              go_roundw
              case rel => exact ⟨k, o, x, by omega, rfl, rfl, hO, HL.out, by rw [← HA2.out, HST.out]; simp, hBr⟩
              case measure => simp [intOf]
            · have gf : (f != 1) = true := by simpa using hf1
              have HF := Lib.hid hf1
              clear hf1
              go_wp2_with (go_at_call 28; refine AT.mono ?_; rintro e w' ⟨rfl, rfl⟩)
              try go_region
              all_goals go_wp2
              all_goals go_roundw
              all_goals first
                | (case rel => exact ⟨k, _, y, by omega, rfl, rfl, (hO.set k 0 (by decide)).drew, by simp; exact HL.out, by rw [← HA2.out, HST.out, if_pos (by simp [HF.out])], (hBr.setCell (p := ⟨g, k, none⟩) hg1 _).drew⟩)
                | (case rel => exact ⟨k, _, y, by omega, rfl, rfl, (hO.set k 0 (by decide)), by simp; exact HL.out, by rw [← HA2.out, HST.out, if_pos (by simp [HF.out])], (hBr.setCell (p := ⟨g, k, none⟩) hg1 _)⟩)
                | (case measure => simp [intOf])
end Go.Proofs.Ytbopbmmalfobiaa
