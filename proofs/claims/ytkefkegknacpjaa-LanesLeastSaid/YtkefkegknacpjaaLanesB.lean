/- lanes.assigned. -/
import Derived.Test.YtkefkegknacpjaaLanesA
import Derived.Test.YtkefkegknacpjaaOwnF
import Derived.Deep.CutRange
import Derived.Deep.LoopGhost
namespace Go.Proofs.Ytkefkegknacpjaa
open Go.RowKit

/-- last, lanes, before -/
abbrev LSt := List Int × List Int × List Int

def bestA (due : List Int) (i : Nat) (st : LSt) : Int := bestS (endF due st.1) (atF due i) st.1.length
def laneA (due : List Int) (i : Nat) (st : LSt) : Nat := if bestA due i st < 0 then st.1.length else (bestA due i st).toNat
def lastA (due : List Int) (i : Nat) (st : LSt) : List Int := (if bestA due i st < 0 then st.1 ++ [(i : Int)] else st.1).set (laneA due i st) i
def stepA (due : List Int) (i : Nat) (st : LSt) : LSt :=
  (lastA due i st, st.2.1 ++ [(laneA due i st : Int)], st.2.2 ++ [if 0 < laneA due i st then atF (lastA due i st) (laneA due i st - 1) else -1])

def asg (due : List Int) : Nat → LSt
  | 0 => ([], [], [])
  | i + 1 => stepA due i (asg due i)

/-- what holds of the state when i bags are done -/
structure AsgOK (n i : Nat) (st : LSt) : Prop where
  lanes : st.2.1.length = i
  before : st.2.2.length = i
  last : st.1.length ≤ i
  mem : ∀ x ∈ st.1, 0 ≤ x ∧ x < n

theorem laneA_le (due : List Int) (i : Nat) (st : LSt) : laneA due i st ≤ st.1.length := by
  unfold laneA bestA
  have := bestS_bd (endF due st.1) (atF due i) st.1.length
  split <;> omega

theorem asg_ok (due : List Int) (i : Nat) (hi : i ≤ due.length) : AsgOK due.length i (asg due i) := by
  induction i with
  | zero => exact ⟨rfl, rfl, Nat.le_refl _, by simp [asg]⟩
  | succ i ih =>
    obtain ⟨h1, h2, h3, h4⟩ := ih (by omega)
    refine ⟨by simp [asg, stepA, h1], by simp [asg, stepA, h2], ?_, ?_⟩
    · simp only [asg, stepA, lastA, List.length_set]
      split
      · simp; omega
      · omega
    · intro x hx
      simp only [asg, stepA, lastA] at hx
      rcases List.mem_or_eq_of_mem_set hx with hx | rfl
      · split at hx
        · rcases List.mem_append.1 hx with hx | hx
          · exact h4 x hx
          · obtain rfl : x = (i : Int) := by simpa using hx
            omega
        · exact h4 x hx
      · omega

def AsgPost (st : LSt) (w : World) (e : Ending) (w' : World) : Prop :=
  ∃ v2 v3, e = .returned (.tuple #[v2, v3, .int .i64 st.1.length]) ∧ OwnI w.heap.size w' v2 st.2.1 ∧ OwnI w.heap.size w' v3 st.2.2 ∧ Below w.heap.size w w'

theorem blk_of_ints {w : World} {v : Value} {l : List Int} (h : IntsV w v l) (hl : 0 < l.length) : ∀ b, v.ownBlock = some b → b < w.heap.size := by
  intro b hb
  obtain ⟨a', c', rfl, _, _, _, _, h5⟩ := h
  obtain ⟨b', off, rfl, hlt, _⟩ := h5 hl
  cases hb
  exact hlt

theorem OwnI.blkN {base : Nat} {w : World} {v : Value} {l : List Int} (h : OwnI base w v l) : ∀ b, v.ownBlock = some b → b < w.heap.size := fun b hb => (h.1.lt b hb).2

theorem own_cell_at {base : Nat} {w : World} {g n cap : Nat} {l : List Int} (h : OwnI base w (.slice (some ⟨g, 0, none⟩) n cap) l) (k : Nat) (hk : k < l.length) (j : Nat) (hj : j = k) :
    w.cell? ⟨g, j, none⟩ = some (.int .i64 (atF l k)) := by
  subst hj
  obtain ⟨g', cap', hv, _, _, _, hc⟩ := h.open (by omega)
  cases hv
  exact hc j hk

/-- what holds of the slots and the world when k bags are done -/
def AsgRel (w : World) (due : List Int) (k : Nat) (dv x2 x3 lv : Value) (wr : World) : Prop :=
  k ≤ due.length ∧ OwnI w.heap.size wr x2 (asg due k).2.1 ∧ OwnI w.heap.size wr x3 (asg due k).2.2 ∧ OwnI w.heap.size wr lv (asg due k).1 ∧
  Bx wr w.heap.size dv ∧ Bx wr (w.heap.size + 1) lv ∧ Dis x2 x3 ∧ Dis x2 lv ∧ Dis x3 lv ∧
  (∀ b, b = w.heap.size ∨ b = w.heap.size + 1 → x2.ownBlock ≠ some b ∧ x3.ownBlock ≠ some b ∧ lv.ownBlock ≠ some b) ∧ Below w.heap.size w wr

def last1 (due : List Int) (k : Nat) (st : LSt) : List Int := if bestA due k st < 0 then st.1 ++ [(k : Int)] else st.1
theorem lane_lt (due : List Int) (k : Nat) (st : LSt) : laneA due k st < (last1 due k st).length := by
  unfold laneA last1 bestA
  have := bestS_bd (endF due st.1) (atF due k) st.1.length
  split
  · simp
  · omega

/-- what holds where the lane has been chosen -/
def MidRel (w wo : World) (due : List Int) (k : Nat) (dv x2 x3 lv : Value) (wx : World) : Prop :=
  OwnI w.heap.size wx x2 (asg due k).2.1 ∧ OwnI w.heap.size wx x3 (asg due k).2.2 ∧ OwnI w.heap.size wx lv (last1 due k (asg due k)) ∧
  Bx wx w.heap.size dv ∧ Bx wx (w.heap.size + 1) lv ∧ Bx wx (wo.heap.size + 1) (.int .i64 (laneA due k (asg due k) : Nat)) ∧ Dis x2 x3 ∧ Dis x2 lv ∧ Dis x3 lv ∧
  (∀ b, b = w.heap.size ∨ b = w.heap.size + 1 ∨ b = wo.heap.size + 1 → x2.ownBlock ≠ some b ∧ x3.ownBlock ≠ some b ∧ lv.ownBlock ≠ some b) ∧ Below w.heap.size w wx ∧ wo.heap.size + 1 < wx.heap.size

set_option maxHeartbeats 1000000 in
theorem assigned_any (v : Value) (due : List Int) (w : World) (hv : IntsV w v due) (hl : due.length ≤ 200) :
    Calls Try.prog 35 #[v] w (AsgPost (asg due due.length) w) := by
  obtain ⟨a, c, rfl, la, _, dcell⟩ := hv.open
  go_enter Try.func35, Try.ntmps35
  go_wp2
  have hB0 : Below w.heap.size w ((w.alloc (.cells #[.slice a due.length c] 22)).alloc (.cells #[.slice none 0 0] 22)) := ((Below.refl _ _).alloc (Nat.le_refl _) _).alloc (by simp) _
  have b1 : Bx ((w.alloc (.cells #[.slice a due.length c] 22)).alloc (.cells #[.slice none 0 0] 22)) w.heap.size (.slice a due.length c) := (Bx.new w _ _).alloc _
  have b2 : Bx ((w.alloc (.cells #[.slice a due.length c] 22)).alloc (.cells #[.slice none 0 0] 22)) (w.heap.size + 1) (.slice none 0 0) := by
    have := Bx.new (w.alloc (.cells #[.slice a due.length c] 22)) (.slice none 0 0) 22
    simpa using this
  have hmf : ∀ (fn : Fn) (first cap : Array Value) (w : World), (Instr.makeFunc fn first cap).run Try.prog w = .ok (.func fn first cap) w := fun _ _ _ _ => rfl
  go_loopg [2, 3, 13] due.length (fun gk x2 x3 i wr => ∃ (k : Nat) (lv : Value), gk = due.length - k ∧ i = .int .i64 k ∧ AsgRel w due k (.slice a due.length c) x2 x3 lv wr)
  case atStart => exact ⟨0, _, rfl, rfl, Nat.zero_le _, OwnI.nil _ _, OwnI.nil _ _, OwnI.nil _ _, b1, b2, Dis.nil _, Dis.nil _, Dis.nil _, fun _ _ => ⟨by simp [Value.ownBlock], by simp [Value.ownBlock], by simp [Value.ownBlock]⟩, hB0⟩
  case round =>
    obtain ⟨wo, hwo⟩ : ∃ wo : World, wo = wr := ⟨_, rfl⟩
    obtain ⟨k, lv, hgk, rfl, hrel⟩ := hrel
    subst hwo
    obtain ⟨hk, hO2, hO3, hOl, hb1, hb2, d23, d2l, d3l, hne, hBr⟩ := hrel
    have HGK := Lib.hid hgk
    clear hgk hB0 b1 b2
    have q1 := hb1.cell
    have q2 := hb2.cell
    have hz2 := hb2.lt
    obtain ⟨s1, s2, s3, s4⟩ := asg_ok due k hk
    obtain ⟨la1, lc1, rfl, _, _, _⟩ := hOl.ints.open
    by_cases hlt : k < due.length
    · obtain ⟨db, doff, rfl, hdb, dcc⟩ := dcell (by omega)
      have d := (hBr.cell (p := ⟨db, doff + k, none⟩) hdb).trans (dcc k hlt)
      have hx : due[k]?.getD 0 = atF due k := rfl
      rw [hx] at d
      clear dcc hx
      go_upto_region 7 with (fail)
      obtain ⟨W1, hW1⟩ : ∃ W1, (wo.alloc (.cells #[.int .i64 (atF due k)] 3)).alloc (.cells #[.int .i64 (-1)] 3) = W1 := ⟨_, rfl⟩
      have hB1 : Below wo.heap.size wo W1 := by rw [← hW1]; exact ((Below.refl _ _).alloc (Nat.le_refl _) _).alloc (by simp) _
      have hsz1 : W1.heap.size = wo.heap.size + 2 := by rw [← hW1]; simp
      have b3 : Bx W1 wo.heap.size (.int .i64 (atF due k)) := by rw [← hW1]; exact (Bx.new _ _ _).alloc _
      have b4 : Bx W1 (wo.heap.size + 1) (.int .i64 (-1)) := by
        rw [← hW1]
        have := Bx.new (wo.alloc (.cells #[.int .i64 (atF due k)] 3)) (.int .i64 (-1)) 3
        simpa using this
      have hb11 := hb1.keep hB1
      have hb21 := hb2.keep hB1
      have hOl1 := hOl.keep hB1
      have hsz1' : wo.heap.size + 1 < W1.heap.size := by omega
      have HSZ1 := Lib.hid hsz1
      rw [hW1]
      clear hW1 hsz1 d q1 q2
      have q1 := hb11.cell
      have q2 := hb21.cell
      have hla := hOl.blkN
      go_wp2
      go_loopw [10, 21] (fun _ i wr => ∃ j : Nat, j ≤ (asg due k).1.length ∧ i = .int .i64 j ∧ Bx wr (wo.heap.size + 1) (.int .i64 (bestS (endF due (asg due k).1) (atF due k) j)) ∧ W1.grownBy wr (some (wo.heap.size + 1)))
        (fun _ i _ => (asg due k).1.length - (intOf i).toNat)
      case atStart => exact ⟨0, Nat.zero_le _, rfl, b4, grownBy_refl _ _⟩
      case round =>
        obtain ⟨j, hj, rfl, hbj, hgj⟩ := hrel
        by_cases hjl : j < (asg due k).1.length
        · have hbd := bestS_bd (endF due (asg due k).1) (atF due k) j
          have BT := better_any j w.heap.size (w.heap.size + 1) wo.heap.size (wo.heap.size + 1) _ _ due (asg due k).1 (atF due k) (bestS (endF due (asg due k).1) (atF due k) j) wr
            (hb11.other hgj (by simp; omega)) (hb21.other hgj (by simp; omega)) (b3.other hgj (by simp)) hbj ((hv.below (hBr.trans (hB1.mono hBr.size))).other hgj (fun hl b hb => by have := blk_of_ints hv hl b hb; simp; omega)) (hOl1.ints.other hgj (fun hl b hb => by have := hla b hb; simp; omega)) hjl s4 (by omega)
          have hst : bstep (endF due (asg due k).1) (atF due k) (bestS (endF due (asg due k).1) (atF due k) j) j = bestS (endF due (asg due k).1) (atF due k) (j + 1) := rfl
          rw [hst] at BT
          clear hst
          go_wp2_with (go_at_call 50; refine BT.mono ?_; rintro e w5 ⟨rfl, hb5, hg5⟩)
          go_roundw
          case rel => exact ⟨j + 1, by omega, rfl, hb5, grownBy_trans hgj hg5⟩
          case measure => simp [intOf]; omega
        · obtain rfl : j = (asg due k).1.length := by omega
          have hBw := below_grown hB1 hgj (by omega) (by omega)
          have e1 := hb1.keep hBw
          have e2 := hb2.keep hBw
          have o2 := hO2.keep hBw
          have o3 := hO3.keep hBw
          have ol := hOl.keep hBw
          have hBt := hBr.trans (hBw.mono hBr.size)
          have hzz : wo.heap.size + 1 < wr.heap.size := hbj.lt
          have n2 := fun b hb => own_new hO2 (b := b) hb
          have n3 := fun b hb => own_new hO3 (b := b) hb
          have nl := fun b hb => own_new hOl (b := b) hb
          have hbd := bestS_bd (endF due (asg due k).1) (atF due k) (asg due k).1.length
          have hbA : bestA due k (asg due k) = bestS (endF due (asg due k).1) (atF due k) (asg due k).1.length := rfl
          have hlA : laneA due k (asg due k) = if bestA due k (asg due k) < 0 then (asg due k).1.length else (bestA due k (asg due k)).toNat := rfl
          have hl1 : last1 due k (asg due k) = if bestA due k (asg due k) < 0 then (asg due k).1 ++ [(k : Int)] else (asg due k).1 := rfl
          rw [← hbA] at hbj hbd
          clear hBr hBw hB1 hgj hb1 hb2 hO2 hO3 hOl b3 b4 hb11 hb21 hOl1 hla q1 q2 hbA
          have q1 := e1.cell
          have q2 := e2.cell
          have f2 := e2.frozen
          have q4 := hbj.cell
          have f4 := hbj.frozen
          generalize bestA due k (asg due k) = bst at *
          go_upto_if 29 with (fail)
          go_cut [13] from 13 to 57 (fun i wx => i = .int .i64 k ∧ ∃ lv', MidRel w wo due k (.slice (some ⟨db, doff, none⟩) due.length c) u2 u3 lv' wx)
          case first =>
            have HNE := Lib.hid hne
            have HLA := Lib.hid hlA
            have HL1 := Lib.hid hl1
            have HS4 := Lib.hid s4
            have HS3 := Lib.hid (show (asg due k).1.length ≤ 200 by omega)
            have hwk : (Lit.int .i64 (k : Int)).wf = true := small_wf _ (by omega) (by omega)
            have HWK := Lib.hid hwk
            clear hne hlA hl1 s4 s1 s2 hwk s3
            by_cases hb0 : bst < 0
            · have g4 : Bx (wr.setCell ⟨wo.heap.size + 1, 0, none⟩ (.int .i64 (asg due k).1.length)) (wo.heap.size + 1) (.int .i64 (asg due k).1.length) := hbj.set _
              have gg := grownBy_set wr (wo.heap.size + 1) 0 (.int .i64 (asg due k).1.length)
              have gl := ol.other gg (.inr (nl _ (by omega)))
              go_wp2_with (at_builtin; refine wpList_append1F rfl _ _ rfl w.heap.size _ (asg due k).1 k _ wr.heap.size (by simp) rfl rfl rfl gl HWK.out (by have := HS3.out; omega) (by simpa using hBt.size) ?_; intro v' wA hOA hgA hbA; obtain ⟨gA, cA, rfl, _⟩ := hOA.open (by simp); have hb2A := (e2.other gg (by simp; omega)).other hgA (HNE.out _ (.inr rfl)).2.2; have q2A := hb2A.cell; have f2A := hb2A.frozen)
              go_meet
              case rel =>
                have hln : ((asg due k).1 ++ [(k : Int)]).length = (asg due k).1.length + 1 := by simp
                rw [hln] at hOA hbA
                have hgt := grownBy_set wA (w.heap.size + 1) 0 (.slice (some ⟨gA, 0, none⟩) ((asg due k).1.length + 1) cA)
                have hs1 : wr.heap.size ≤ wA.heap.size := by have := hgA.size; simpa using this
                have m2 : Dis (.slice (some ⟨gA, 0, none⟩) ((asg due k).1.length + 1) cA) u2 := (d2l.symm).app hbA o2 (by omega)
                have m3 : Dis (.slice (some ⟨gA, 0, none⟩) ((asg due k).1.length + 1) cA) u3 := (d3l.symm).app hbA o3 (by omega)
                have x2 := (o2.other gg (.inr (n2 _ (by omega)))).other hgA (d2l.symm).ne
                have x3 := (o3.other gg (.inr (n3 _ (by omega)))).other hgA (d3l.symm).ne
                have gA1 : gA ≠ w.heap.size := by have := own_ne (HNE.out _ (.inl rfl)).2.2 hbA (by omega); simpa [Value.ownBlock] using this
                have gA2 : gA ≠ w.heap.size + 1 := by have := own_ne (HNE.out _ (.inr rfl)).2.2 hbA (by omega); simpa [Value.ownBlock] using this
                have gA3 : gA ≠ wo.heap.size + 1 := by have := own_ne (nl (wo.heap.size + 1) (by omega)) hbA (by omega); simpa [Value.ownBlock] using this
                refine ⟨rfl, _, x2.other hgt (.inr (HNE.out _ (.inr rfl)).1), x3.other hgt (.inr (HNE.out _ (.inr rfl)).2.1), ?_, ((e1.other gg (by simp; omega)).other hgA (HNE.out _ (.inl rfl)).2.2).other hgt (by simp), hb2A.set _, ?_, d23, m2.symm, m3.symm, ?_, ?_, ?_⟩
                · rw [HL1.out, if_pos hb0]
                  exact hOA.other hgt (.inr (by simp [Value.ownBlock]; omega))
                · rw [HLA.out, if_pos hb0]
                  exact (g4.other hgA (nl _ (by omega))).other hgt (by simp; omega)
                · intro b hb
                  rcases hb with hb | hb | hb
                  · exact ⟨(HNE.out b (.inl hb)).1, (HNE.out b (.inl hb)).2.1, by simp [Value.ownBlock]; omega⟩
                  · exact ⟨(HNE.out b (.inr hb)).1, (HNE.out b (.inr hb)).2.1, by simp [Value.ownBlock]; omega⟩
                  · exact ⟨n2 b (by omega), n3 b (by omega), by simp [Value.ownBlock]; omega⟩
                · exact below_grown (Below.grown (below_grown hBt gg hBt.size (by omega)) hgA (by simpa using hBt.size) (fun g hg => (ol.1.lt g hg).1)) hgt (by have := hBt.size; omega) (by omega)
                · show wo.heap.size + 1 < (wA.setCell _ _).heap.size
                  simp
                  omega
            · go_wp2
              go_meet
              case rel =>
                refine ⟨rfl, _, o2, o3, ?_, e1, e2, ?_, d23, d2l, d3l, ?_, hBt, hzz⟩
                · rw [HL1.out, if_neg (by omega)]; exact ol
                · rw [HLA.out, if_neg (by omega)]
                  have : ((bst.toNat : Nat) : Int) = bst := by omega
                  rw [this]; exact hbj
                · intro b hb
                  rcases hb with hb | hb | hb
                  · exact HNE.out b (.inl hb)
                  · exact HNE.out b (.inr hb)
                  · exact ⟨n2 b (by omega), n3 b (by omega), nl b (by omega)⟩
          case rest =>
            obtain ⟨rfl, lv', m2, m3, ml, mb1, mb2, mb4, dd23, dd2l, dd3l, mne, mB, mz⟩ := hcut
            have hBl := lane_lt due k (asg due k)
            have hB200 : laneA due k (asg due k) ≤ 200 := by have := laneA_le due k (asg due k); omega
            have hlA2 : (last1 due k (asg due k)).set (laneA due k (asg due k)) (k : Int) = lastA due k (asg due k) := rfl
            have hnx : asg due (k + 1) = stepA due k (asg due k) := rfl
            have HNX := Lib.hid hnx
            have HLA2 := Lib.hid hlA2
            have hwk : (Lit.int .i64 (k : Int)).wf = true := small_wf _ (by omega) (by omega)
            have HWK := Lib.hid hwk
            have hwB : (Lit.int .i64 ((laneA due k (asg due k) : Nat) : Int)).wf = true := small_wf _ (by omega) (by omega)
            have HWB := Lib.hid hwB
            have HS1 := Lib.hid s1
            have HS2 := Lib.hid s2
            have HS200 := Lib.hid (show (asg due k).2.1.length ≤ 200 ∧ (asg due k).2.2.length ≤ 200 by omega)
            have hst1 : (asg due k).2.1 ++ [((laneA due k (asg due k) : Nat) : Int)] = (stepA due k (asg due k)).2.1 := rfl
            have hst2 : (asg due k).2.2 ++ [if 0 < laneA due k (asg due k) then atF (lastA due k (asg due k)) (laneA due k (asg due k) - 1) else -1] = (stepA due k (asg due k)).2.2 := rfl
            have hst3 : lastA due k (asg due k) = (stepA due k (asg due k)).1 := rfl
            have HT1 := Lib.hid hst1
            have HT2 := Lib.hid hst2
            have HT3 := Lib.hid hst3
            clear hnx hlA2 hwk hwB hlA hl1 e1 e2 o2 o3 ol q1 q2 f2 q4 f4 hbj hbd n2 n3 nl d2l d3l hne s1 s2 s3 s4 hBt hst1 hst2 hst3 dcell
            obtain ⟨gL, cL, rfl, hgb, hgl, hfr, hcell⟩ := ml.open (by omega)
            have cB := hcell _ hBl
            have fB := hfr (laneA due k (asg due k))
            generalize (last1 due k (asg due k))[laneA due k (asg due k)]?.getD 0 = zB at *
            have q2 := mb2.cell
            have q4 := mb4.cell
            have ml' := ml.set (laneA due k (asg due k)) (k : Int) HWK.out
            rw [HLA2.out] at ml'
            have hln : (lastA due k (asg due k)).length = (last1 due k (asg due k)).length := by rw [← HLA2.out]; simp
            have HLN := Lib.hid hln
            clear hln hcell hfr
            have gg := grownBy_set wc gL (laneA due k (asg due k)) (.int .i64 (k : Int))
            have gN : gL ≠ w.heap.size ∧ gL ≠ w.heap.size + 1 ∧ gL ≠ wo.heap.size + 1 := ⟨fun e => (mne _ (.inl rfl)).2.2 (by rw [e]; rfl), fun e => (mne _ (.inr (.inl rfl))).2.2 (by rw [e]; rfl), fun e => (mne _ (.inr (.inr rfl))).2.2 (by rw [e]; rfl)⟩
            have r2 := m2.other gg (.inr (fun e => dd2l gL e rfl))
            have r3 := m3.other gg (.inr (fun e => dd3l gL e rfl))
            have rb1 := mb1.other gg (by simp; omega)
            have rb2 := mb2.other gg (by simp; omega)
            have rb4 := mb4.other gg (by simp; omega)
            have rB := below_grown mB gg mB.size hgb
            have q4' := rb4.cell
            have HMN := Lib.hid mne
            clear mne
            have hln3 : ((asg due k).2.2 ++ [(-1:Int)]).length = (asg due k).2.2.length + 1 := by simp
            have HLN3 := Lib.hid hln3
            have hk3 : (k : Int) < ((asg due k).2.2.length : Int) + 1 := by have := HS2.out; omega
            clear hln3
            have tok1 : True := trivial
            by_cases hB0 : 0 < laneA due k (asg due k)
            · have hB0' : (0 : Int) < ((laneA due k (asg due k) : Nat) : Int) := by omega
              have hlenN : (laneA due k (asg due k) - 1) < (lastA due k (asg due k)).length := by have := HLN.out; omega
              have hwy : (Lit.int .i64 (atF (lastA due k (asg due k)) (laneA due k (asg due k) - 1))).wf = true := ml'.2 _ (atF_mem hlenN)
              have HWY := Lib.hid hwy
              have hidx : ((laneA due k (asg due k) : Nat) : Int) - 1 = ((laneA due k (asg due k) - 1 : Nat) : Int) := by omega
              have HIX := Lib.hid hidx
              clear hwy hidx
              go_wp2_with (first
                | (at_builtin; have _t := tok1; refine wpList_append1F rfl _ _ rfl w.heap.size _ (asg due k).2.1 (laneA due k (asg due k) : Nat) _ wc.heap.size (by simp) rfl rfl rfl r2 HWB.out (by have := HS200.out; omega) rB.size ?_; clear tok1 _t; intro v2' w16 hO16 hg16 hb16; have t3 := r3.other hg16 (dd23.symm.symm).ne; have tl := ml'.other hg16 (.inr (fun e => dd2l.symm gL rfl e.symm)); have tb1 := rb1.other hg16 (HMN.out _ (.inl rfl)).1; have tb2 := rb2.other hg16 (HMN.out _ (.inr (.inl rfl))).1; have tb4 := rb4.other hg16 (HMN.out _ (.inr (.inr rfl))).1; have tB := rB.grown hg16 rB.size (fun g hg => (r2.1.lt g hg).1))
                | (at_builtin; refine wpList_append1F rfl _ _ rfl w.heap.size _ (asg due k).2.2 (-1) w16 w16.heap.size rfl rfl rfl rfl t3 (by decide) (by have := HS200.out; omega) tB.size ?_; intro v3' w17 hO17 hg17 hb17; have p2 := hO16.other hg17 (dd23.app hb16 r3 (by simp)).symm.ne; have pl := tl.other hg17 (.inr (fun e => dd3l.symm gL rfl e.symm)); have pb1 := tb1.other hg17 (HMN.out _ (.inl rfl)).2.1; have pb2 := tb2.other hg17 (HMN.out _ (.inr (.inl rfl))).2.1; have pb4 := tb4.other hg17 (HMN.out _ (.inr (.inr rfl))).2.1; have pB := tB.grown hg17 tB.size (fun g hg => (t3.1.lt g hg).1); have q47 := pb4.cell; have q27 := pb2.cell; obtain ⟨g3, c3, rfl, _, hg3l, hf3, hcell3⟩ := hO17.open (by simp); have f3k := hf3 k; have c3k := hcell3 k (by have := HS2.out; simp; omega); have cL17 := own_cell_at pl (laneA due k (asg due k) - 1) hlenN (laneA due k (asg due k) - 1) rfl; generalize ((asg due k).2.2 ++ [-1])[k]?.getD 0 = z3 at *; clear hf3 hcell3; have hln3 := HLN3.out; rw [hln3] at hO17 hb17; clear hln3))
              have hT2 := HT2.out
              rw [if_pos hB0] at hT2
              have hgs := grownBy_set w17 g3 k (.int .i64 (atF (lastA due k (asg due k)) (laneA due k (asg due k) - 1)))
              go_roundg (due.length - (k + 1))
              case measure => have := HGK.out; omega
              case rel =>
                have hsz16 : wc.heap.size ≤ w16.heap.size := by have := hg16.size; have := gg.size; omega
                have dd23' : Dis v2' u3 := dd23.app hb16 r3 (by simp)
                have D23 : Dis v2' (.slice (some ⟨g3, 0, none⟩) ((asg due k).2.2.length + 1) c3) := (dd23'.symm.app hb17 hO16 (by omega)).symm
                have D3L : Dis (.slice (some ⟨g3, 0, none⟩) ((asg due k).2.2.length + 1) c3) (.slice (some ⟨gL, 0, none⟩) (last1 due k (asg due k)).length cL) := dd3l.app hb17 tl (by omega)
                have hset := hO17.set k _ HWY.out
                have hsl : ((asg due k).2.2 ++ [-1]).set k (atF (lastA due k (asg due k)) (laneA due k (asg due k) - 1)) = (stepA due k (asg due k)).2.2 := by
                  rw [← hT2, List.set_append_right _ _ (by have := HS2.out; omega), HS2.out, Nat.sub_self]
                  rfl
                rw [hsl] at hset
                have g3n : ∀ b, b = w.heap.size ∨ b = w.heap.size + 1 → g3 ≠ b := fun b hb e => own_ne (HMN.out b (by omega)).2.1 hb17 (by have := hg16.size; have := gg.size; omega) (by rw [← e]; rfl)
                refine ⟨k + 1, _, rfl, rfl, by omega, ?_, ?_, ?_, pb1.other hgs (by simpa using g3n _ (.inl rfl)), pb2.other hgs (by simpa using g3n _ (.inr rfl)), ?_, ?_, ?_, ?_, below_grown pB hgs pB.size (hO17.1.lt g3 rfl).1⟩
                · rw [HNX.out, ← HT1.out]; exact p2.other hgs (.inr (fun e => D23 g3 e rfl))
                · rw [HNX.out]; exact hset
                · rw [HNX.out, ← HT3.out]; exact pl.other hgs (.inr (fun e => D3L.symm g3 e rfl))
                · exact D23
                · exact (dd2l.symm.symm).app hb16 ml' (by simp)
                · exact D3L
                · intro b hb
                  have hb' : b = w.heap.size ∨ b = w.heap.size + 1 ∨ b = wo.heap.size + 1 := by omega
                  have hbw : b < wc.heap.size := by rcases hb with rfl | rfl <;> omega
                  refine ⟨own_ne (HMN.out b hb').1 hb16 (by omega), own_ne (HMN.out b hb').2.1 hb17 (by omega), (HMN.out b hb').2.2⟩
            · have hB0' : ¬ (0 : Int) < ((laneA due k (asg due k) : Nat) : Int) := by omega
              go_wp2_with (first
                | (at_builtin; have _t := tok1; refine wpList_append1F rfl _ _ rfl w.heap.size _ (asg due k).2.1 (laneA due k (asg due k) : Nat) _ wc.heap.size (by simp) rfl rfl rfl r2 HWB.out (by have := HS200.out; omega) rB.size ?_; clear tok1 _t; intro v2' w16 hO16 hg16 hb16; have t3 := r3.other hg16 (dd23.symm.symm).ne; have tl := ml'.other hg16 (.inr (fun e => dd2l.symm gL rfl e.symm)); have tb1 := rb1.other hg16 (HMN.out _ (.inl rfl)).1; have tb2 := rb2.other hg16 (HMN.out _ (.inr (.inl rfl))).1; have tb4 := rb4.other hg16 (HMN.out _ (.inr (.inr rfl))).1; have tB := rB.grown hg16 rB.size (fun g hg => (r2.1.lt g hg).1))
                | (at_builtin; refine wpList_append1F rfl _ _ rfl w.heap.size _ (asg due k).2.2 (-1) w16 w16.heap.size rfl rfl rfl rfl t3 (by decide) (by have := HS200.out; omega) tB.size ?_; intro v3' w17 hO17 hg17 hb17; have p2 := hO16.other hg17 (dd23.app hb16 r3 (by simp)).symm.ne; have pl := tl.other hg17 (.inr (fun e => dd3l.symm gL rfl e.symm)); have pb1 := tb1.other hg17 (HMN.out _ (.inl rfl)).2.1; have pb2 := tb2.other hg17 (HMN.out _ (.inr (.inl rfl))).2.1; have pb4 := tb4.other hg17 (HMN.out _ (.inr (.inr rfl))).2.1; have pB := tB.grown hg17 tB.size (fun g hg => (t3.1.lt g hg).1); have q47 := pb4.cell; have q27 := pb2.cell; obtain ⟨g3, c3, rfl, _, hg3l, hf3, hcell3⟩ := hO17.open (by simp); have f3k := hf3 k; have c3k := hcell3 k (by have := HS2.out; simp; omega);  generalize ((asg due k).2.2 ++ [-1])[k]?.getD 0 = z3 at *; clear hf3 hcell3; have hln3 := HLN3.out; rw [hln3] at hO17 hb17; clear hln3))
              have hT2 := HT2.out
              rw [if_neg hB0] at hT2
              go_roundg (due.length - (k + 1))
              case measure => have := HGK.out; omega
              case rel =>
                have hsz16 : wc.heap.size ≤ w16.heap.size := by have := hg16.size; have := gg.size; omega
                have dd23' : Dis v2' u3 := dd23.app hb16 r3 (by simp)
                have D23 : Dis v2' (.slice (some ⟨g3, 0, none⟩) ((asg due k).2.2.length + 1) c3) := (dd23'.symm.app hb17 hO16 (by omega)).symm
                have D3L : Dis (.slice (some ⟨g3, 0, none⟩) ((asg due k).2.2.length + 1) c3) (.slice (some ⟨gL, 0, none⟩) (last1 due k (asg due k)).length cL) := dd3l.app hb17 tl (by omega)
                refine ⟨k + 1, _, rfl, rfl, by omega, ?_, ?_, ?_, pb1, pb2, ?_, ?_, ?_, ?_, pB⟩
                · rw [HNX.out, ← HT1.out]; exact p2
                · rw [HNX.out, ← hT2]; exact hO17
                · rw [HNX.out, ← HT3.out]; exact pl
                · exact D23
                · exact (dd2l.symm.symm).app hb16 ml' (by simp)
                · exact D3L
                · intro b hb
                  have hb' : b = w.heap.size ∨ b = w.heap.size + 1 ∨ b = wo.heap.size + 1 := by omega
                  have hbw : b < wc.heap.size := by rcases hb with rfl | rfl <;> omega
                  refine ⟨own_ne (HMN.out b hb').1 hb16 (by omega), own_ne (HMN.out b hb').2.1 hb17 (by omega), (HMN.out b hb').2.2⟩
    · have hkd : k = due.length := by omega
      have HK := Lib.hid hkd
      clear hkd
      go_wp2
      go_quiet (fail)
      go_wp2
      go_ret3
      rw [← HK.out]
      exact ⟨_, _, rfl, hO2.draws _, hO3.draws _, below_drewN hBr _⟩
end Go.Proofs.Ytkefkegknacpjaa
