/- Law ScheduleDelays returns true for every input. -/
import Derived.Test.YtmigkmdhenkpmaaDepV
namespace Go.Proofs.Ytmigkmdhenkpmaa
open Go.RowKit

def late (d : Dep) (m : Int) : Dep := { d with closes := d.closes + m, leaves := d.leaves + m }

theorem late_valid {d : Dep} {m : Int} (h : validD d = true) (hm : 0 ≤ m) (hl : d.leaves + m ≤ 1048576) : validD (late d m) = true := by
  have e : validD (late d m) = (validF d.flt && letsF d.port 3 3 && decide (0 ≤ d.opens) && decide (d.opens < d.closes + m) && decide (d.closes + m ≤ d.leaves + m) && decide (d.leaves + m ≤ 1048576) && decide (0 ≤ d.stand) && decide (d.stand ≤ 99) && decide (0 ≤ d.state) && decide (d.state ≤ 2)) := rfl
  rw [e]
  unfold validD at h
  simp only [Bool.and_eq_true, decide_eq_true_eq] at h ⊢
  obtain ⟨⟨⟨⟨⟨⟨⟨⟨⟨a1, a2⟩, a3⟩, a4⟩, a5⟩, a6⟩, a7⟩, a8⟩, a9⟩, a10⟩ := h
  exact ⟨⟨⟨⟨⟨⟨⟨⟨⟨a1, a2⟩, a3⟩, by omega⟩, by omega⟩, hl⟩, a7⟩, a8⟩, a9⟩, a10⟩

theorem delay_at {l : List Dep} {k : Nat} {d : Dep} (hv : valE l = 0) (hd : l[k]? = some d) (hs : d.state = 0) (m now : Int) (hm : 1 ≤ m ∧ m ≤ 2000) (hl : d.leaves ≤ 5000) :
    applyF l ⟨1, m, d.flt⟩ now = (0, l.set k (late d m)) := by
  rw [apply_at hv hd 1 m now (by omega)]
  unfold applyAt
  rw [hd]
  have h1 := late_valid (valE_all hv d (List.mem_of_getElem? hd)) (by omega : 0 ≤ m) (by omega)
  have ha : amtF ⟨1, m, d.flt⟩ = true := by simp [amtF, inI]; omega
  have hr : revis d ⟨1, m, d.flt⟩ = late d m := rfl
  simp only [hs, ha, hr, h1, wantS]
  simp

theorem late_set {l : List Dep} {k : Nat} {d : Dep} (hv : valE l = 0) (hd : l[k]? = some d) (m : Int) (hm : 1 ≤ m ∧ m ≤ 2000) (hl : d.leaves ≤ 5000) : valE (l.set k (late d m)) = 0 ∧ (l.set k (late d m))[k]? = some (late d m) := by
  have hk : k < l.length := (List.getElem?_eq_some_iff.1 hd).1
  have hlen := valE_le hv
  exact ⟨valE_of (vErr_set l none k d _ (vErr_of hv) hd (late_valid (valE_all hv d (List.mem_of_getElem? hd)) (by omega) (by omega)) rfl) (by simpa using hlen), by simp [hk]⟩

/-- two delays are one by their sum -/
theorem delays {l : List Dep} {k : Nat} {d : Dep} (hv : valE l = 0) (hd : l[k]? = some d) (hs : d.state = 0) (a b now : Int) (ha : 1 ≤ a ∧ a ≤ 1000) (hb : 1 ≤ b ∧ b ≤ 1000) (hl : d.leaves ≤ 100) :
    applyF l ⟨1, a, d.flt⟩ now = (0, l.set k (late d a)) ∧ applyF (l.set k (late d a)) ⟨1, b, d.flt⟩ now = (0, l.set k (late d (a + b))) ∧ applyF l ⟨1, a + b, d.flt⟩ now = (0, l.set k (late d (a + b))) := by
  refine ⟨delay_at hv hd hs a now (by omega) (by omega), ?_, delay_at hv hd hs (a + b) now (by omega) (by omega)⟩
  obtain ⟨h1, h2⟩ := late_set hv hd a (by omega) (by omega)
  have := delay_at h1 h2 (by exact hs) b now (by omega) (by show d.leaves + a ≤ 5000; omega)
  rw [show (late d a).flt = d.flt from rfl] at this
  rw [this, List.set_set]
  congr 2
  simp only [late]
  congr 1
  · omega
  · omega

set_option maxHeartbeats 4000000 in
set_option maxRecDepth 100000 in
theorem ScheduleDelays_any (u : Value) (l : List Int) (now : Int) (w : World) (hu : IntsV w u l) :
    Calls Try.prog 5 #[u, .int .i64 now] w fun e w' => e = .returned (.bool true) ∧ Below w.heap.size w w' := by
  have NW := New_any u l w hu
  have tokA : True := trivial
  have tokB : True := trivial
  obtain ⟨a0, c0, rfl, _⟩ := hu.open
  have FX := Lib.hid (fun w => Flights_any 26 (by omega) w)
  have hf : (FL (26 : Int).toNat).cells = #[.string ⟨#[83, 75]⟩, .int .i64 3, .string ⟨#[]⟩, .int .i64 3] := by rfl
  rw [hf] at FX
  clear hf
  go_enter Try.func5, Try.ntmps5
  go_upto_if 29 with (first
    | (go_at_call 11; refine NW.mono ?_; rintro e w1 ⟨b, rfl, hs1, hB1⟩; have hbw := hs1.lt)
    | (go_at_call 12; refine (Schedule_any w.heap.size b 10 _ w1 (by omega) hs1).mono ?_; rintro e w2 ⟨v2, ls, r2, rfl, hO2, hl10, hv0, hs2, hg2⟩; have hB2 := below_grown hB1 hg2 hB1.size hs1.ge)
    | (go_at_call 25; refine (FX.out w2).mono ?_; rintro e w3 ⟨rfl, hB3⟩; have hs3 := hs2.below hB3; have hO3 : DepT.Own w1.heap.size w3 v2 ls := World.ownsRow.kept hO2 (grownBy_below (row := none) hB3) (by cases hvo : v2.ownBlock with | none => exact .inl rfl | some g => exact .inr (by simp)); have hB13 := hB2.trans (hB3.mono hB2.size))
    | (go_at_call 21; have _t := tokA; have m9 := modF_bd (r2.headD 0) 9 (by omega); refine (N_any w.heap.size b r2 9 w3 hs3 (by omega)).mono ?_; clear tokA _t; rintro e w4 ⟨rfl, hs4, hg4⟩; generalize modF (r2.headD 0) 9 = n9 at *; have hO4 : DepT.Own w1.heap.size w4 v2 ls := World.ownsRow.kept hO3 hg4 (.inr (fun e => (by have := (World.ownsRow.lt hO3 b e).1; omega))); have hB4 := below_grown hB13 hg4 hB13.size hs1.ge)
    | (at_builtin; refine DepT.append1 rfl _ _ rfl w1.heap.size _ ls ⟨⟨⟨#[83, 75]⟩, 3, ⟨#[]⟩, 3⟩, ⟨#[67, 80, 72]⟩, 0, 5, 5 + n9, 0, 0⟩ w4 rfl rfl rfl hO4 (by unfold maxLen; omega) (by show (ls.length + 1) * 104 ≤ _; omega) (Nat.le_trans hg2.size (Nat.le_trans hB3.size hg4.size)) ?_; intro v5 w5 hO5 hg5)
    | (go_at_call 16; refine (RValidate_any _ _ w5 (OwnR.rows DepT.hsz hO5)).mono ?_; rintro e w6 ⟨rfl, hB6⟩))
  have hgW : (w4.alloc (.cells (DepT.enc ⟨⟨⟨#[83, 75]⟩, 3, ⟨#[]⟩, 3⟩, ⟨#[67, 80, 72]⟩, 0, 5, 5 + n9, 0, 0⟩) DepT.e)).grownBy w5 v2.ownBlock := hg5
  have hB45 : Below w4.heap.size w4 (w4.alloc (.cells (DepT.enc ⟨⟨⟨#[83, 75]⟩, 3, ⟨#[]⟩, 3⟩, ⟨#[67, 80, 72]⟩, 0, 5, 5 + n9, 0, 0⟩) DepT.e)) := (Below.refl _ _).alloc (Nat.le_refl _) _
  have hgt : ∀ q, v2.ownBlock = some q → w1.heap.size ≤ q := fun q hq => (World.ownsRow.lt hO4 q hq).1
  have hs5 : SrcR w.heap.size w5 b r2.tail := (hs4.below hB45).other hgW (fun q hq => by have := hgt q hq; have := hs1.ge; exact ⟨by omega, by omega⟩)
  have hB5 : Below w.heap.size w w5 := (hB4.trans (hB45.mono hB4.size)).grown hgW (by have := hB4.size; rw [size_new]; omega) (fun q hq => by have := hgt q hq; have := hB1.size; omega)
  have hs6 := hs5.below hB6
  have hB06 := hB5.trans (hB6.mono hB5.size)
  have hw16 : w1.heap.size ≤ w5.heap.size := Nat.le_trans hg2.size (Nat.le_trans hB3.size (Nat.le_trans hg4.size (Nat.le_trans hB45.size hgW.size)))
  obtain ⟨X, hX⟩ : ∃ X, X = ls ++ [(⟨⟨⟨#[83, 75]⟩, 3, ⟨#[]⟩, 3⟩, ⟨#[67, 80, 72]⟩, 0, 5, 5 + n9, 0, 0⟩ : Dep)] := ⟨_, rfl⟩
  rw [← hX] at hO5
  rw [← hX]
  have hXl : X.length = ls.length + 1 := by rw [hX]; simp
  have hd : X[ls.length]? = some ⟨⟨⟨#[83, 75]⟩, 3, ⟨#[]⟩, 3⟩, ⟨#[67, 80, 72]⟩, 0, 5, 5 + n9, 0, 0⟩ := by rw [hX]; simp
  clear hX hgW hB45 hgt hs5 hs4 hs3 hs2 hs1 hg2 hg4 hg5 hO2 hO3 hO4 hB1 hB2 hB3 hB4 hB13 hB5 NW FX
  by_cases hv : valE X = 0
  · rw [hv]
    obtain ⟨g, cap, rfl, hgb⟩ := own_shape hO5 (by omega)
    obtain ⟨y, hy, hyc, -⟩ := own_dep hO5 ls.length (by omega)
    obtain rfl : (⟨⟨⟨#[83, 75]⟩, 3, ⟨#[]⟩, 3⟩, ⟨#[67, 80, 72]⟩, 0, 5, 5 + n9, 0, 0⟩ : Dep) = y := by rw [hd] at hy; exact Option.some.inj hy
    have hg5 := (World.ownsRow.lt hO5 g rfl).2
    obtain ⟨f0, f1, f2, f3, -⟩ := dep_at (dep_keep hB6 hg5 hyc)
    have hO6 : DepT.Own w1.heap.size w6 (.slice (some ⟨g, 0, none⟩) X.length cap) X := World.ownsRow.kept hO5 (grownBy_below (row := none) hB6) (.inr (by simp [Value.ownBlock]))
    have hki : (ls.length : Int) < (X.length : Int) := by omega
    have hkx : (X.length : Int) - 1 = (ls.length : Int) := by omega
    generalize hK : ls.length = K at *
    clear hO5 hB6 hyc hy
    rw [hXl] at hO6 ⊢
    have m1 := modF_bd (r2.tail.headD 0) 1000 (by omega)
    have Q1 := fun h' => N_any w.heap.size b r2.tail 1000 (w6.alloc (.cells #[.string ⟨#[83, 75]⟩, .int .i64 3, .string ⟨#[]⟩, .int .i64 3] 25)) h' (by omega)
    generalize modF (r2.tail.headD 0) 1000 = x1 at *
    have HV := Lib.hid hv
    have HXL := Lib.hid hXl
    have HD := Lib.hid hd
    clear hv hXl hd hkx
    go_upto_region 7 with (first
      | (go_at_call 21; have _t := tokB; refine (Q1 (hs6.below ((Below.refl _ _).alloc (Nat.le_refl _) _))).mono ?_; clear tokB _t; rintro e w7 ⟨rfl, hs7, hg7⟩; have m2 := modF_bd (r2.tail.tail.headD 0) 1000 (by omega))
      | (go_at_call 21; refine (N_any w.heap.size b r2.tail.tail 1000 w7 hs7 (by omega)).mono ?_; rintro e w8 ⟨rfl, hs8, hg8⟩; generalize modF (r2.tail.tail.headD 0) 1000 = x2 at *))
    have hbn : b < w6.heap.size := hs6.lt
    have hgne : g ≠ b := by omega
    have hO7 : DepT.Own w1.heap.size w7 (.slice (some ⟨g, 0, none⟩) (K + 1) cap) X := World.ownsRow.kept (World.ownsRow.alloc hO6 _) hg7 (.inr (by simp [Value.ownBlock, hgne]))
    have hO8 : DepT.Own w1.heap.size w8 (.slice (some ⟨g, 0, none⟩) (K + 1) cap) X := World.ownsRow.kept hO7 hg8 (.inr (by simp [Value.ownBlock, hgne]))
    have hcell : ∀ i v, (#[.string ⟨#[83, 75]⟩, .int .i64 3, .string ⟨#[]⟩, .int .i64 3] : Array Value)[i]? = some v → w8.cell? ⟨w6.heap.size, i, none⟩ = some v := fun i v hi => hg8.cell (hg7.cell (cell_of (heap_alloc_new w6 _) hi) (by simp; omega)) (by simp; omega)
    have hBa := box_more hB06 (.cells #[.string ⟨#[83, 75]⟩, .int .i64 3, .string ⟨#[]⟩, .int .i64 3] 25) hB06.size
    have hB7 := below_grown hBa hg7 hBa.size hs6.ge
    have hB8 := below_grown hB7 hg8 hB7.size hs6.ge
    have hlt8 : w6.heap.size < w8.heap.size := by have h1 := hg7.size; have h2 := hg8.size; rw [size_new] at h1; omega
    have DL := delays HV.out HD.out rfl (1 + x1) (1 + x2) now (by omega) (by omega) (by show 5 + n9 ≤ 100; omega)
    obtain ⟨DL1, DL2, DL3⟩ := DL
    obtain ⟨Y1, hY1⟩ : ∃ Y, Y = X.set K (late ⟨⟨⟨#[83, 75]⟩, 3, ⟨#[]⟩, 3⟩, ⟨#[67, 80, 72]⟩, 0, 5, 5 + n9, 0, 0⟩ (1 + x1)) := ⟨_, rfl⟩
    obtain ⟨Y2, hY2⟩ : ∃ Y, Y = X.set K (late ⟨⟨⟨#[83, 75]⟩, 3, ⟨#[]⟩, 3⟩, ⟨#[67, 80, 72]⟩, 0, 5, 5 + n9, 0, 0⟩ (1 + x1 + (1 + x2))) := ⟨_, rfl⟩
    rw [← hY1] at DL1 DL2
    rw [← hY2] at DL2 DL3
    have hl1 : Y1.length = K + 1 := by rw [hY1, List.length_set]; exact HXL.out
    have hl2 : Y2.length = K + 1 := by rw [hY2, List.length_set]; exact HXL.out
    clear hY1 hY2
    have A1 : Hid (Calls Try.prog 22 #[.slice (some ⟨g, 0, none⟩) (K + 1) cap, .agg (⟨1, 1 + x1, ⟨⟨#[83, 75]⟩, 3, ⟨#[]⟩, 3⟩⟩ : Rev).cells, .int .i64 now] w8 (SlcRet (0, Y1) w8)) := by
      have h := Apply_any _ X ⟨1, 1 + x1, ⟨⟨#[83, 75]⟩, 3, ⟨#[]⟩, 3⟩⟩ now w8 (OwnR.rows DepT.hsz hO8)
      rw [show applyF X ⟨1, 1 + x1, ⟨⟨#[83, 75]⟩, 3, ⟨#[]⟩, 3⟩⟩ now = (0, Y1) from DL1] at h
      exact h
    have HB8 := Lib.hid hB8
    have HO8 := Lib.hid hO8
    have q0 := hcell 0 _ rfl
    have q1 := hcell 1 _ rfl
    have q2 := hcell 2 _ rfl
    have q3 := hcell 3 _ rfl
    simp only [List.getElem_toArray, List.getElem_cons_zero, List.getElem_cons_succ] at q0 q1 q2 q3
    clear hO6 hO7 hO8 hB8 hB7 hBa hg7 hg8 hs6 hs7 hs8 hB06 hcell f0 f1 f2 f3 Q1
    generalize w6.heap.size = nf at *
    go_upto_region 8 with (go_at_call 22; refine A1.out.mono ?_; rintro e w9 ⟨v9, rfl, hO9, hB9⟩)
    have hO9' : DepT.Own w8.heap.size w9 v9 Y1 := hO9
    obtain ⟨g9, cap9, hv9, -⟩ := own_shape hO9' (by omega)
    rw [hl1] at hv9
    subst hv9
    have A2 : Hid (Calls Try.prog 22 #[.slice (some ⟨g9, 0, none⟩) (K + 1) cap9, .agg (⟨1, 1 + x2, ⟨⟨#[83, 75]⟩, 3, ⟨#[]⟩, 3⟩⟩ : Rev).cells, .int .i64 now] w9 (SlcRet (0, Y2) w9)) := by
      have h := Apply_any _ Y1 ⟨1, 1 + x2, ⟨⟨#[83, 75]⟩, 3, ⟨#[]⟩, 3⟩⟩ now w9 (OwnR.rows DepT.hsz hO9')
      rw [show applyF Y1 ⟨1, 1 + x2, ⟨⟨#[83, 75]⟩, 3, ⟨#[]⟩, 3⟩⟩ now = (0, Y2) from DL2] at h
      exact h
    have u0 := cell_keep hB9 hlt8 q0
    have u1 := cell_keep hB9 hlt8 q1
    have u2 := cell_keep hB9 hlt8 q2
    have u3 := cell_keep hB9 hlt8 q3
    have hlt9 := Nat.lt_of_lt_of_le hlt8 hB9.size
    clear A1 hO9 hO9' q0 q1 q2 q3
    go_upto_region 9 with (go_at_call 22; refine A2.out.mono ?_; rintro e w10 ⟨v10, rfl, hO10, hB10⟩)
    have hO10' : DepT.Own w9.heap.size w10 v10 Y2 := hO10
    obtain ⟨g10, cap10, hv10, -⟩ := own_shape hO10' (by omega)
    rw [hl2] at hv10
    subst hv10
    have hB810 := hB9.trans (hB10.mono hB9.size)
    have hX10 : DepsV w10 (.slice (some ⟨g, 0, none⟩) (K + 1) cap) X := RowV.below (OwnR.rows DepT.hsz HO8.out) hB810
    have A3 : Hid (Calls Try.prog 22 #[.slice (some ⟨g, 0, none⟩) (K + 1) cap, .agg (⟨1, 1 + x1 + (1 + x2), ⟨⟨#[83, 75]⟩, 3, ⟨#[]⟩, 3⟩⟩ : Rev).cells, .int .i64 now] w10 (SlcRet (0, Y2) w10)) := by
      have h := Apply_any _ X ⟨1, 1 + x1 + (1 + x2), ⟨⟨#[83, 75]⟩, 3, ⟨#[]⟩, 3⟩⟩ now w10 hX10
      rw [show applyF X ⟨1, 1 + x1 + (1 + x2), ⟨⟨#[83, 75]⟩, 3, ⟨#[]⟩, 3⟩⟩ now = (0, Y2) from DL3] at h
      exact h
    have t0 := cell_keep hB10 hlt9 u0
    have t1 := cell_keep hB10 hlt9 u1
    have t2 := cell_keep hB10 hlt9 u2
    have t3 := cell_keep hB10 hlt9 u3
    have HZ := Lib.hid (OwnR.rows DepT.hsz hO10')
    clear A2 hO10 hO10' u0 u1 u2 u3 hX10
    go_upto_region 10 with (go_at_call 22; refine A3.out.mono ?_; rintro e w11 ⟨v11, rfl, hO11, hB11⟩)
    have hO11' : DepT.Own w10.heap.size w11 v11 Y2 := hO11
    obtain ⟨g11, cap11, hv11, -⟩ := own_shape hO11' (by omega)
    rw [hl2] at hv11
    subst hv11
    have SM := Lib.hid (Same_same _ _ Y2 w11 (RowV.below HZ.out hB11) (OwnR.rows DepT.hsz hO11'))
    have HBF := Lib.hid (HB8.out.trans ((hB810.trans (hB11.mono hB810.size)).mono HB8.out.size))
    clear A3 hO11 hO11' t0 t1 t2 t3 DL1 DL2 DL3
    go_wp2_with (first
      | (go_at_call 24; refine SM.out.mono ?_; rintro e w12 ⟨rfl, n12, rfl⟩)
      | (go_at_call 19; refine (awake_any _).mono ?_; rintro e w13 ⟨rfl, hB13⟩))
    go_ret
    exact ⟨rfl, (below_drewN HBF.out _).trans (hB13.mono HBF.out.size)⟩
  · have hne : (valE X != 0) = true := by simp [hv]
    go_wp2_with (go_at_call 19; refine (awake_any _).mono ?_; rintro e w9 ⟨rfl, hB9⟩)
    go_ret
    exact ⟨rfl, hB06.trans (hB9.mono hB06.size)⟩
end Go.Proofs.Ytmigkmdhenkpmaa
