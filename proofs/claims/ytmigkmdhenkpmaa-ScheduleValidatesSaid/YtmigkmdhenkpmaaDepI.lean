/- Depart of the program. -/
import Derived.Test.YtmigkmdhenkpmaaDepH
namespace Go.Proofs.Ytmigkmdhenkpmaa
open Go.RowKit

/-- a schedule and an error are returned; the schedule lies in new memory -/
def SlcRet (r : Int × List Dep) (w : World) (e : Ending) (w' : World) : Prop :=
  ∃ v', e = .returned (.tuple #[v', .int .i64 r.1]) ∧ DepT.Own w.heap.size w' v' r.2 ∧ Below w.heap.size w w'

theorem slc_err {w w' : World} {n : Int} {v : Value} {r : Int × List Dep} (hr : r = (n, [])) (hv : v = .tuple #[.slice none 0 0, .int .i64 n]) (hB : Below w.heap.size w w') : SlcRet r w (.returned v) w' := by
  subst hr
  subst hv
  exact ⟨_, rfl, OwnR.nil _ _ _ _ _, hB⟩

theorem slc_ok {w w' : World} {v v3 : Value} {base : Nat} {r : Int × List Dep} {l : List Dep} (hr : r = (0, l)) (hv : v = .tuple #[v3, .int .i64 0]) (hO : DepT.Own base w' v3 l) (hb : w.heap.size ≤ base) (hB : Below w.heap.size w w') : SlcRet r w (.returned v) w' := by
  subst hr
  subst hv
  exact ⟨_, rfl, OwnR.below hO hb, hB⟩

theorem findD_spec (f : Flt) : ∀ (l : List Dep) (i : Nat), findD f l i = -1 ∨ ∃ k d, findD f l i = ((i + k : Nat) : Int) ∧ l[k]? = some d ∧ d.flt = f
  | [], i => .inl rfl
  | d :: l, i => by
    by_cases h : d.flt = f
    · exact .inr ⟨0, d, by rw [findD, if_pos h]; rfl, rfl, h⟩
    · rcases findD_spec f l (i + 1) with h1 | ⟨k, x, h1, h2, h3⟩
      · exact .inl (by rw [findD, if_neg h]; exact h1)
      · exact .inr ⟨k + 1, x, by rw [findD, if_neg h, h1, show i + 1 + k = i + (k + 1) by omega], by simpa using h2, h3⟩

def departAt (l : List Dep) (k : Nat) (now : Int) : Int × List Dep :=
  match l[k]? with
  | none => (6, [])
  | some d => if d.state = 0 ∧ d.closes ≤ now then (0, l.set k { d with state := 2 }) else (7, [])

def departF (l : List Dep) (f : Flt) (now : Int) : Int × List Dep :=
  if valE l = 0 then (if findD f l 0 < 0 then (6, []) else departAt l (findD f l 0).toNat now) else (valE l, [])

theorem valE_le {l : List Dep} (h : valE l = 0) : l.length ≤ 24 := by
  unfold valE at h
  split at h <;> omega

theorem dep_keep {B : Nat} {w w' : World} {b o : Nat} {d : Dep} (h : Below B w w') (hb : b < B) (hc : ∀ j u, d.cells[j]? = some u → w.cell? ⟨b, o + j, none⟩ = some u) : ∀ j u, d.cells[j]? = some u → w'.cell? ⟨b, o + j, none⟩ = some u :=
  fun j u hu => cell_keep h hb (hc j u hu)

theorem Depart_any (v : Value) (l : List Dep) (f : Flt) (now : Int) (w : World) (hv : DepsV w v l) :
    Calls Try.prog 33 #[v, .agg f.cells, .int .i64 now] w (SlcRet (departF l f now) w) := by
  obtain ⟨a, c, rfl, la, _, cA⟩ := hv.open
  obtain ⟨res, hres⟩ : ∃ r, r = departF l f now := ⟨_, rfl⟩
  have HV := Lib.hid hv
  have HCA := Lib.hid cA
  rw [← hres]
  unfold departF at hres
  have HRES := Lib.hid hres
  have VL := Lib.hid (fun w h => Validate_any (.slice a l.length c) l w h)
  have FL := Lib.hid (fun w h => Find_any (.slice a l.length c) l f w h)
  clear hv cA hres
  generalize hve : valE l = ve at *
  have HVE := Lib.hid hve
  clear hve
  by_cases h0 : ve = 0
  · subst h0
    have h24 := valE_le HVE.out
    rcases findD_spec f l 0 with hf | ⟨k, x, hf, hx, hxf⟩
    · have HF := Lib.hid hf
      rw [hf] at FL
      clear hf
      obtain ⟨c1, n1, s1, d1⟩ := f
      simp only [Flt.cells]
      go_enter Try.func33, Try.ntmps33
      go_wp2_with (first
        | (go_at_call 15; refine (VL.out _ (HV.out.below (one_box _ _ _ _ rfl).2.1)).mono ?_; rintro e w1 ⟨rfl, hB1⟩; obtain ⟨hB, hq⟩ := box_then hB1; have q0 := hq 0 _ rfl; have q1 := hq 1 _ rfl; have q2 := hq 2 _ rfl; have q3 := hq 3 _ rfl; have HB := Lib.hid hB; clear hB1 hq hB)
        | (go_at_call 17; refine (FL.out _ (HV.out.below HB.out)).mono ?_; rintro e w2 ⟨rfl, hB2⟩; have HB2 := Lib.hid (HB.out.trans (hB2.mono HB.out.size)); clear hB2))
      go_ret2
      refine slc_err ?_ rfl HB2.out
      rw [HRES.out, HF.out]
      rfl
    · rw [Nat.zero_add] at hf
      have HF := Lib.hid hf
      rw [hf] at FL
      clear hf
      have hkl : k < l.length := (List.getElem?_eq_some_iff.1 hx).1
      have hki : (k : Int) < (l.length : Int) := by omega
      obtain ⟨b, o, rfl, hb, cc⟩ := HCA.out (by omega)
      have HC := Lib.hid (cc k x hx)
      have HX := Lib.hid hx
      clear cc hx hxf
      have WL := Lib.hid (fun d w h => with_any (.slice (some ⟨b, o, none⟩) l.length c) l k d w h hkl h24)
      obtain ⟨c1, n1, s1, d1⟩ := f
      obtain ⟨⟨c2, n2, s2, d2⟩, p, op, cl, le, st, sa⟩ := x
      simp only [Flt.cells]
      have hres1 : res = if sa = 0 ∧ cl ≤ now then (0, l.set k ⟨⟨c2, n2, s2, d2⟩, p, op, cl, le, st, 2⟩) else (7, []) := by
        rw [HRES.out, if_pos rfl, HF.out, if_neg (by omega), Int.toNat_natCast, departAt, HX.out]
      have HR1 := Lib.hid hres1
      clear hres1
      by_cases hs : sa = 0
      · subst hs
        by_cases hn : cl ≤ now
        · have hnb : decide (now < cl) = false := decide_eq_false (by omega)
          have HN := Lib.hid hn
          clear hn
          go_enter Try.func33, Try.ntmps33
          go_wp2_with (first
            | (go_at_call 15; refine (VL.out _ (HV.out.below (one_box _ _ _ _ rfl).2.1)).mono ?_; rintro e w1 ⟨rfl, hB1⟩; obtain ⟨hB, hq⟩ := box_then hB1; have q0 := hq 0 _ rfl; have q1 := hq 1 _ rfl; have q2 := hq 2 _ rfl; have q3 := hq 3 _ rfl; have HB := Lib.hid hB; clear hB1 hq hB)
            | (go_at_call 17; refine (FL.out _ (HV.out.below HB.out)).mono ?_; rintro e w2 ⟨rfl, hB2⟩; have HB2 := Lib.hid (HB.out.trans (hB2.mono HB.out.size)); clear hB2; obtain ⟨g0, g1, g2, g3, g4, g5, g6, g7, g8, g9⟩ := dep_at (dep_keep HB2.out hb HC.out))
            | (go_at_call 46; refine (WL.out ⟨⟨c2, n2, s2, d2⟩, p, op, cl, le, st, 2⟩ _ (HV.out.below (box_more HB2.out _ HB2.out.size))).mono ?_; rintro e w3 ⟨v3, rfl, hO3, hB3⟩; obtain ⟨hB4, -⟩ := box_then hB3))
          go_ret2
          exact slc_ok (HR1.out.trans (if_pos (by have := HN.out; simp; omega))) rfl hO3 (by have := HB2.out.size; rw [size_new]; omega) (HB2.out.trans (hB4.mono HB2.out.size))
        · have hnb : decide (now < cl) = true := decide_eq_true (by omega)
          have HN := Lib.hid hn
          clear hn
          go_enter Try.func33, Try.ntmps33
          go_wp2_with (first
            | (go_at_call 15; refine (VL.out _ (HV.out.below (one_box _ _ _ _ rfl).2.1)).mono ?_; rintro e w1 ⟨rfl, hB1⟩; obtain ⟨hB, hq⟩ := box_then hB1; have q0 := hq 0 _ rfl; have q1 := hq 1 _ rfl; have q2 := hq 2 _ rfl; have q3 := hq 3 _ rfl; have HB := Lib.hid hB; clear hB1 hq hB)
            | (go_at_call 17; refine (FL.out _ (HV.out.below HB.out)).mono ?_; rintro e w2 ⟨rfl, hB2⟩; have HB2 := Lib.hid (HB.out.trans (hB2.mono HB.out.size)); clear hB2; obtain ⟨g0, g1, g2, g3, g4, g5, g6, g7, g8, g9⟩ := dep_at (dep_keep HB2.out hb HC.out)))
          go_ret2
          refine slc_err ?_ rfl (box_more HB2.out _ HB2.out.size)
          rw [HR1.out, if_neg (fun h => by have := HN.out; omega)]
      · have hsb : (sa != 0) = true := by simp [hs]
        have HS := Lib.hid hs
        clear hs
        go_enter Try.func33, Try.ntmps33
        go_wp2_with (first
          | (go_at_call 15; refine (VL.out _ (HV.out.below (one_box _ _ _ _ rfl).2.1)).mono ?_; rintro e w1 ⟨rfl, hB1⟩; obtain ⟨hB, hq⟩ := box_then hB1; have q0 := hq 0 _ rfl; have q1 := hq 1 _ rfl; have q2 := hq 2 _ rfl; have q3 := hq 3 _ rfl; have HB := Lib.hid hB; clear hB1 hq hB)
          | (go_at_call 17; refine (FL.out _ (HV.out.below HB.out)).mono ?_; rintro e w2 ⟨rfl, hB2⟩; have HB2 := Lib.hid (HB.out.trans (hB2.mono HB.out.size)); clear hB2; obtain ⟨g0, g1, g2, g3, g4, g5, g6, g7, g8, g9⟩ := dep_at (dep_keep HB2.out hb HC.out)))
        go_ret2
        refine slc_err ?_ rfl (box_more HB2.out _ HB2.out.size)
        rw [HR1.out, if_neg (fun h => HS.out h.1)]
  · have hne : (ve != 0) = true := by simp [h0]
    have H0 := Lib.hid h0
    clear h0
    obtain ⟨c1, n1, s1, d1⟩ := f
    simp only [Flt.cells]
    go_enter Try.func33, Try.ntmps33
    go_wp2_with (go_at_call 15; refine (VL.out _ (HV.out.below (one_box _ _ _ _ rfl).2.1)).mono ?_; rintro e w1 ⟨rfl, hB1⟩; obtain ⟨hB, hq⟩ := box_then hB1)
    go_ret2
    refine slc_err ?_ rfl hB
    rw [HRES.out, if_neg H0.out]
end Go.Proofs.Ytmigkmdhenkpmaa
