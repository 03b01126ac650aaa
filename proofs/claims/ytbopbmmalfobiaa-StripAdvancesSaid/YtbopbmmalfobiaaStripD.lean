/- the reference's Advance. -/
import Derived.Test.YtbopbmmalfobiaaStripC
import Derived.Deep.RegionWith
namespace Go.Proofs.Ytbopbmmalfobiaa
open Go.RowKit

/-- one window of the reference's Advance -/
def stepR (s fs : List Int) (op : Bool) (k : Nat) (st : List Int × Int) : List Int × Int :=
  if atF s k = 0 then st
  else if k + 1 < s.length then (st.1.set (tgt s.length k (atF s (k + 1)) (atF s (k + 2)) (atF fs k)) (atF s k), st.2)
  else if op ∧ atF fs k ≠ 1 then (st.1, atF s k)
  else (st.1.set k (atF s k), st.2)

def advR (s fs : List Int) (op : Bool) (k : Nat) (st : List Int × Int) : Nat → List Int × Int
  | 0 => st
  | n + 1 => advR s fs op (k + 1) (stepR s fs op k st) n

def advanceR (s fs : List Int) (op : Bool) : List Int × Int := advR s fs op 0 (List.replicate s.length 0, 0) s.length

theorem stepR_zero {l fs : List Int} {op : Bool} {k : Nat} {st : List Int × Int} (h : atF l k = 0) : stepR l fs op k st = st := by
  unfold stepR; rw [if_pos h]

theorem below_none {w w1 : World} (hgrow : w.grownBy w1 none) : Below w.heap.size w w1 := (Below.refl _ _).grown hgrow (Nat.le_refl _) (by intro k hk; cases hk)

theorem AdvanceR_any (v fv : Value) (l fs : List Int) (op : Bool) (w : World) (hv : IntsV w v l) (hf : IntsV w fv fs) (hl : l.length * 8 ≤ 140737488355328) :
    Calls Try.prog 18 #[v, fv, .bool op] w (AdvPost (advanceR l fs op) w) := by
  have hv' := hv
  have hwf := hv.wf
  obtain ⟨a, c, rfl, la, _, ca⟩ := hv.open
  obtain ⟨fa, fc, hfv, _, _, _⟩ := hf.open
  clear hv
  go_enter Try.func18, Try.ntmps18
  go_wp2_with (at_make; refine wpList_makeI rfl _ _ rfl w.heap.size l.length rfl rfl (by omega) (Nat.le_refl _) ?_; intro w1 hown hgrow; have hB := below_none hgrow)
  generalize Value.slice (some ⟨w.heap.size, 0, none⟩) l.length l.length = v1 at *
  go_loopw [9, 10] (fun lv i wr => ∃ (j : Nat) (o : List Int) (x : Int), j ≤ l.length ∧ lv = .int .i64 x ∧ i = .int .i64 j ∧ OwnI w.heap.size wr v1 o ∧ o.length = l.length ∧ advR l fs op j (o, x) (l.length - j) = advanceR l fs op ∧ Below w.heap.size w wr)
    (fun _ i _ => l.length - (intOf i).toNat)
  case atStart => exact ⟨0, _, 0, Nat.zero_le _, rfl, rfl, hown, by simp, rfl, hB⟩
  case round =>
    obtain ⟨k, o, x, hj, rfl, rfl, hO, hol, hadv, hBr⟩ := hrel
    have HL := Lib.hid hol
    have HA := Lib.hid hadv
    clear hadv hol
    by_cases hk : k < l.length
    · have hko : k < o.length := by have := HL.out; omega
      obtain ⟨b, off, rfl, hb, cc⟩ := ca (by omega)
      obtain ⟨g, cap, rfl, hg1, hg2, hfr, hcell⟩ := hO.open (by omega)
      have ds := (hBr.cell (p := ⟨b, off + k, none⟩) hb).trans (cc k hk)
      have hn : l.length - k = (l.length - (k + 1)) + 1 := by omega
      have hz0 : advR l fs op k (o, x) (l.length - k) = advR l fs op (k + 1) (stepR l fs op k (o, x)) (l.length - (k + 1)) := by rw [hn]; rfl
      have HA2 := Lib.hid (hz0.symm.trans HA.out)
      clear hz0 HA hn
      have hat : atF l k = l[k]?.getD 0 := rfl
      have hy0 : (Lit.int .i64 (l[k]?.getD 0)).wf = true := hwf _ (by simp [hk])
      generalize l[k]?.getD 0 = y at *
      have HAT := Lib.hid hat
      have HYW := Lib.hid hy0
      clear hat cc hy0
      by_cases hy : y = 0
      · subst hy
        go_wp2
        go_roundw
        case rel => exact ⟨k + 1, o, x, by omega, rfl, rfl, hO, HL.out, by rw [← HA2.out, stepR_zero HAT.out], hBr⟩
        case measure => simp [intOf]; omega
      · have gy : (y == 0) = false := by simpa using hy
        have HY := Lib.hid hy
        clear hy
        by_cases hk1 : k + 1 < l.length
        · have TG := Target_any _ fv l fs k wr.drew (hv'.below hBr.drew) (hf.below hBr.drew) hk1
          obtain ⟨st, hst0⟩ : ∃ st, st = stepR l fs op k (o, x) := ⟨_, rfl⟩
          have hst := hst0
          unfold stepR at hst
          rw [if_neg (by rw [HAT.out]; exact HY.out), if_pos hk1, HAT.out] at hst
          rw [← hst0] at HA2
          clear hst0
          have ht := tgt_bd l.length k (atF l (k + 1)) (atF l (k + 2)) (atF fs k) hk1
          generalize tgt l.length k (atF l (k + 1)) (atF l (k + 2)) (atF fs k) = t at *
          have hto : t < o.length := by have := HL.out; omega
          have c2 := hcell t hto
          have f2 := hfr t
          subst hfv
          have HST := Lib.hid hst
          clear hst hcell hfr
          generalize o[t]?.getD 0 = z at *
          go_wp2
          go_region_with (go_at_call 29; refine TG.mono ?_; rintro e w' ⟨rfl, rfl⟩)
          all_goals go_wp2
          all_goals go_roundw
          all_goals first
            | (case rel => exact ⟨k + 1, _, x, by omega, rfl, rfl, (hO.set t y HYW.out).drew, by simp; exact HL.out, by rw [← HA2.out, HST.out], (hBr.setCell (p := ⟨g, t, none⟩) hg1 _).drew⟩)
            | (case measure => simp [intOf]; omega)
        · have hlast : k + 1 = l.length := by omega
          have hlt : ¬ ((k : Int) < (l.length : Int) - 1) := by omega
          clear hlast
          obtain ⟨st, hst0⟩ : ∃ st, st = stepR l fs op k (o, x) := ⟨_, rfl⟩
          have hst := hst0
          unfold stepR at hst
          rw [if_neg (by rw [HAT.out]; exact HY.out), if_neg hk1, HAT.out] at hst
          rw [← hst0] at HA2
          clear hst0
          have FA := fault_any fv fs k wr (hf.below hBr) (by omega)
          generalize atF fs k = f at *
          have c1 := hcell k hko
          have f1 := hfr k
          clear hcell hfr
          generalize o[k]?.getD 0 = z at *
          have HST := Lib.hid hst
          clear hst
          subst hfv
          cases op with
          | false =>
            go_wp2_with (go_at_call 30; refine FA.mono ?_; rintro e w' ⟨rfl, rfl⟩)
            try go_region
            all_goals go_wp2
            all_goals go_roundw
            all_goals first
              | (case rel => exact ⟨k + 1, _, x, by omega, rfl, rfl, (hO.set k y HYW.out), by simp; exact HL.out, by rw [← HA2.out, HST.out]; simp, (hBr.setCell (p := ⟨g, k, none⟩) hg1 _)⟩)
              | (case rel => exact ⟨k + 1, _, x, by omega, rfl, rfl, (hO.set k y HYW.out).drew, by simp; exact HL.out, by rw [← HA2.out, HST.out]; simp, (hBr.setCell (p := ⟨g, k, none⟩) hg1 _).drew⟩)
              | (case measure => simp [intOf]; omega)
          | true =>
            by_cases hf1 : f = 1
            · subst hf1
              go_wp2_with (go_at_call 30; refine FA.mono ?_; rintro e w' ⟨rfl, rfl⟩)
              try go_region
              all_goals go_wp2
              all_goals go_roundw
              all_goals first
                | (case rel => exact ⟨k + 1, _, x, by omega, rfl, rfl, (hO.set k y HYW.out), by simp; exact HL.out, by rw [← HA2.out, HST.out]; simp, (hBr.setCell (p := ⟨g, k, none⟩) hg1 _)⟩)
                | (case rel => exact ⟨k + 1, _, x, by omega, rfl, rfl, (hO.set k y HYW.out).drew, by simp; exact HL.out, by rw [← HA2.out, HST.out]; simp, (hBr.setCell (p := ⟨g, k, none⟩) hg1 _).drew⟩)
                | (case measure => simp [intOf]; omega)
            · have gf : (f != 1) = true := by simpa using hf1
              have HF := Lib.hid hf1
              clear hf1
              go_wp2_with (go_at_call 30; refine FA.mono ?_; rintro e w' ⟨rfl, rfl⟩)
              go_roundw
              case rel => exact ⟨k + 1, _, y, by omega, rfl, rfl, hO, HL.out, by rw [← HA2.out, HST.out, if_pos (by simp [HF.out])], hBr⟩
              case measure => simp [intOf]; omega
    · go_wp2
      go_ret2
      have e0 : l.length - k = 0 := by omega
      have hA := HA.out
      rw [e0] at hA
      exact adv_close hA hBr hO
end Go.Proofs.Ytbopbmmalfobiaa
