/- Law ScheduleTimes returns true for every input. -/
import Derived.Test.YtmigkmdhenkpmaaDepFew
import Derived.Test.YtmigkmdhenkpmaaDepZ
import Derived.Test.YtmigkmdhenkpmaaDepX
import Derived.Test.YtmigkmdhenkpmaaDepFl
import Derived.Test.YtmigkmdhenkpmaaDepN2
import Derived.Deep.RegionHeldLaw
import Derived.Deep.AppendLies
import Derived.Deep.RegionHeld3
namespace Go.Proofs.Ytmigkmdhenkpmaa
open Go.RowKit

theorem cell_alloc {w : World} {b o : Nat} {v : Value} {x : Obj} (hb : b < w.heap.size) (e : w.cell? ⟨b, o, none⟩ = some v) : (w.alloc x).cell? ⟨b, o, none⟩ = some v := cell_keep ((Below.refl _ _).alloc (Nat.le_refl _) x) hb e

theorem own_lit2 (x y : Int) (w : World) (hx : (Lit.int .i64 x).wf = true) (hy : (Lit.int .i64 y).wf = true) : OwnI w.heap.size (w.alloc (.cells #[.int .i64 x, .int .i64 y] 3)) (.slice (some ⟨w.heap.size, 0, none⟩) 2 2) [x, y] :=
  ⟨World.ownsRow_lit w #[.int .i64 x, .int .i64 y] 2 (Nat.le_refl _) (by simp [maxLen]) rfl, fun n hn => by
    rcases List.mem_cons.1 hn with rfl | hn
    · exact hx
    · exact (List.mem_singleton.1 hn) ▸ hy⟩

/-- append(out, x...) of integers, as a step of a region that draws its order -/
theorem step_appendI {ops : Array Oper} {o : Oper} {a : Act} {w : World} {K : Act → World → Prop} {Q : Exit → Act → World → Prop} {E : Prop} (hgd : o.guard = none) (s x : Operand)
    (ho : o.op = .call { callee := .builtin .append, args := #[s, x], argTypes := #[23, 23] })
    (base : Nat) (v : Value) (l : List Int) (ad : Addr) (n cap : Nat) (m : List Int) (hs : a.eval s = v) (hx : a.eval x = .slice (some ad) n cap)
    (hown : OwnI base w v l) (hm : IntsV w (.slice (some ad) n cap) m) (h0 : 0 < m.length) (hsz : (l.length + m.length) * 8 ≤ 140737488355328) (hbase : base ≤ w.heap.size)
    (h : ∀ g c' w', OwnI base w' (.slice (some ⟨g, 0, none⟩) (l.length + m.length) c') (l ++ m) → w.grownBy w' v.ownBlock → K (a.put o.dst (.slice (some ⟨g, 0, none⟩) (l.length + m.length) c')) w') : if Region.wanted o (yielded ops a.tmps) = true then Oper.wp Try.prog o a w K Q else E := by
  obtain ⟨i0, hi, hz0, hz1, hz2⟩ := info_parts infoInt
  obtain ⟨a', cap', hv, h1, h2, h3, h4, h5⟩ := hm
  cases hv
  refine step_append_lies w hgd s x 23 ho base 3 i0 (.int .i64 0) 1 8 Try.underlying23 hi hz0 hz1 hz2 rfl (by decide) v l.length _ hs hown.1 ad m.length cap (m.map (Value.int .i64)) hx (by simp) ?_ (one_ints m) h0 (by unfold maxLen; omega) (by omega) hbase _ rfl ?_
  · obtain ⟨b, off, hb, _, hc⟩ := h5 h0
    cases hb
    exact ints_news hc
  · intro g c' w' hown' hg _ _
    refine h g c' w' ⟨by simpa using hown', fun n hn => ?_⟩ hg
    rcases List.mem_append.1 hn with hn | hn
    · exact hown.2 n hn
    · exact h3 n hn

set_option maxHeartbeats 4000000 in
set_option maxRecDepth 100000 in
theorem ScheduleTimes_any (vr u : Value) (raw : List Dep) (l : List Int) (now : Int) (w : World) (hr : DepsV w vr raw) (hwf : ∀ x ∈ raw, DepWf x) (hu : IntsV w u l) (hnow : (Lit.int .i64 now).wf = true) :
    Calls Try.prog 8 #[vr, u, .int .i64 now] w fun e w' => e = .returned (.bool true) ∧ Below w.heap.size w w' := by
  have NW := New_any u l w hu
  obtain ⟨a0, c0, rfl, _⟩ := hu.open
  obtain ⟨ar, cr, rfl, _⟩ := hr.open
  go_enter Try.func8, Try.ntmps8
  go_wp2_with (first
    | (go_at_call 11; refine NW.mono ?_; rintro e w1 ⟨b, rfl, hs1, hB1⟩; have hbw := hs1.lt)
    | (go_at_call 12; refine (Schedule_any w.heap.size b 12 _ w1 (by omega) hs1).mono ?_; rintro e w2 ⟨v2, ls, r2, rfl, hO2, hl10, hv0, hs2, hg2⟩; have hB2 := below_grown hB1 hg2 hB1.size hs1.ge; have hV2 : DepsV w2 v2 ls := OwnR.rows DepT.hsz hO2; obtain ⟨a2, c2, rfl, la2, _, _⟩ := hV2.open)
    | (go_at_call 13; refine (few_any _ raw w2 (hr.below hB2)).mono ?_; rintro e w3 ⟨v3, rfl, hf3, n3, rfl⟩; obtain ⟨fs, hfs⟩ : ∃ fs, fs = raw.take 30 := ⟨_, rfl⟩; have hf4 := hf3 w hr; rw [← hfs] at hf4; have HFS := Lib.hid hfs; clear hfs hf3; obtain ⟨a3, c3, rfl, la3, _, _⟩ := hf4.open))
  have hF3 : DepsN b (w2.drewN n3) (.slice a3 fs.length c3) fs := DepsN.old hf4 (below_drewN hB2 n3) hs1.ge
  have hG3 : DepsN b (w2.drewN n3) (.slice a2 ls.length c2) ls := (DepsN.own hO2 hbw).below (below_drewN (Below.refl _ _) n3)
  have hs3 := hs2.below (below_drewN (Below.refl _ _) n3)
  have hB3 := below_drewN hB2 n3
  have hwF : ∀ x ∈ fs, DepWf x := fun x hx => hwf x (List.mem_of_mem_take (HFS.out ▸ hx))
  have hwG : ∀ x ∈ ls, DepWf x := fun x hx => valid_wf (vErr_all ls none hv0 x hx)
  have hF30 : fs.length ≤ 30 := by rw [HFS.out, List.length_take]; omega
  have hsz3 : (w2.drewN n3).heap.size = w2.heap.size := rfl
  generalize w2.drewN n3 = w3 at *
  generalize hW4 : w3.alloc _ = W4
  obtain ⟨hq, hBW, hsW⟩ := one_box _ _ _ _ hW4
  have HF : Hid (DepsN b W4 (.slice a3 fs.length c3) fs ∧ ∀ x ∈ fs, DepWf x) := Lib.hid ⟨hF3.below hBW, hwF⟩
  have HG : Hid (DepsN b W4 (.slice a2 ls.length c2) ls ∧ ∀ x ∈ ls, DepWf x) := Lib.hid ⟨hG3.below hBW, hwG⟩
  have hs4 := hs3.below hBW
  have HB4 := Lib.hid (hB3.trans (hBW.mono hB3.size))
  have q0 := hq 0 _ rfl
  have q1 := hq 1 _ rfl
  simp only [List.getElem_toArray, List.getElem_cons_zero, List.getElem_cons_succ] at q0 q1
  have hltW : w3.heap.size < W4.heap.size := by omega
  have hnb : w3.heap.size ≠ b := by have := hs3.lt; omega
  have hge := hs1.ge
  rw [hsz3] at q0 q1 hltW hnb
  clear hq hBW hsW hF3 hG3 hs3 hs2 hs1 hg2 hB1 hB2 hB3 hwF hwG hO2 hf4 hv0 HFS NW hr hwf hu hW4
  clear hsz3 hV2
  generalize w2.heap.size = nb at *
  have HQ := Lib.hid (And.intro q0 q1)
  clear q0 q1
  go_loopw [25] (fun i wr => ∃ (k : Nat) (r : List Int), k ≤ 2 ∧ i = .int .i64 k ∧ SrcR w.heap.size wr b r ∧ W4.grownBy wr (some b)) (fun i _ => 2 - (intOf i).toNat)
  case atStart => exact ⟨0, r2, by omega, rfl, hs4, grownBy_refl _ _⟩
  case round =>
    clear hs4
    obtain ⟨k, r, hk, rfl, hs, hg⟩ := hrel
    have hB := below_grown HB4.out hg HB4.out.size hge
    by_cases hk2 : k < 2
    · have hkb : decide ((k : Int) < 2) = true := decide_eq_true (by omega)
      obtain ⟨ax, cx, X, hX, hXwf, hX30, hXc⟩ : ∃ ax cx X, DepsN b wr (.slice ax X.length cx) X ∧ (∀ x ∈ X, DepWf x) ∧ X.length ≤ 30 ∧ wr.cell? ⟨nb, k, none⟩ = some (.slice ax X.length cx) := by
        rcases (by omega : k = 0 ∨ k = 1) with rfl | rfl
        · exact ⟨a3, c3, fs, HF.out.1.grown hg, HF.out.2, hF30, hg.cell HQ.out.1 (by simp; exact hnb)⟩
        · exact ⟨a2, c2, ls, HG.out.1.grown hg, HG.out.2, by omega, hg.cell HQ.out.2 (by simp; exact hnb)⟩
      have m80 := modF_bd (r.headD 0) 80 (by omega)
      have QN := N_any _ b r 80 wr hs (by omega)
      generalize modF (r.headD 0) 80 = n80 at *
      go_wp2_with (go_at_call 21; refine QN.mono ?_; rintro e w6 ⟨rfl, hs6, hg6⟩)
      have hown := own_lit2 now n80 w6 hnow (small_wf _ (by omega) (by omega))
      have hg6' := grownBy_trans hg hg6
      have HX6 := hX.grown hg6
      generalize hW7 : w6.alloc _ = W7
      rw [hW7] at hown
      obtain ⟨-, hBW7, hsW7⟩ := one_box _ _ _ _ hW7
      have HX := Lib.hid HX6
      have HXwf := Lib.hid hXwf
      have HG6 := Lib.hid hg6'
      have HS6 := Lib.hid hs6
      clear hW7 hg6' HX6 hXwf hX hg hg6 hs6 hs QN hB HF HG HQ hXc hkb
      go_loopw [11, 35] (fun o i wq => ∃ (q : Nat) (ts : List Int), q ≤ X.length ∧ i = .int .i64 q ∧ OwnI w6.heap.size wq o ts ∧ 2 ≤ ts.length ∧ ts.length ≤ 2 + 3 * q ∧ Below w6.heap.size w6 wq) (fun _ i _ => X.length - (intOf i).toNat)
      case atStart => exact ⟨0, _, Nat.zero_le _, rfl, hown, by simp, by simp, hBW7⟩
      case round =>
        obtain ⟨q, ts, hq, rfl, hO, ht2, ht3, hBq⟩ := hrel
        clear hown hBW7 hsW7
        obtain ⟨g, cap, rfl, hgb, hgs, _, hct⟩ := hO.open (by omega)
        have HCT := Lib.hid (And.intro hgs hct)
        clear hct hgs
        by_cases hqX : q < X.length
        · obtain ⟨x, hx, -⟩ := drop_at hqX
          have hqi : (q : Int) < (X.length : Int) := by omega
          obtain ⟨_, _, e1, _, _, cX⟩ := HX.out.1.open
          simp only [Value.slice.injEq] at e1
          obtain ⟨rfl, -, rfl⟩ := e1
          obtain ⟨bx, ox, rfl, hbx6, ccX⟩ := cX (by omega)
          obtain ⟨g0, g1, g2, g3, g4, g5, g6, g7, g8, g9⟩ := dep_at (dep_keep hBq hbx6 (ccX q x hx))
          have hbx := Nat.lt_of_lt_of_le hbx6 hBq.size
          have hwx := HXwf.out x (List.mem_of_getElem? hx)
          have HO := Lib.hid hO
          have HBq := Lib.hid hBq
          clear cX ccX hx hO hBq
          obtain ⟨⟨c2, n2, s2, d2⟩, p, op, cl, le, st, sa⟩ := x
          have hw3 : wfI op ∧ wfI cl ∧ wfI le := ⟨hwx.2.1, hwx.2.2.1, hwx.2.2.2.1⟩
          simp only at g0 g1 g2 g3 g4 g5 g6 g7 g8 g9
          clear hwx g0 g1 g2 g3 g4 g8 g9
          go_wp2
          have HOd := Lib.hid (HO.out.drew)
          have HBd := Lib.hid (HBq.out.drew)
          have hwl : ∀ n ∈ [op, cl, le], (Lit.int .i64 n).wf = true := by
            intro n hn
            simp only [List.mem_cons, List.not_mem_nil, or_false] at hn
            rcases hn with rfl | rfl | rfl
            · exact hw3.1
            · exact hw3.2.1
            · exact hw3.2.2
          have HWL := Lib.hid hwl
          have hgx : g ≠ bx := by omega
          have hsd : w6.heap.size ≤ wr.drew.heap.size := HBd.out.size
          clear HO HBq hw3 HCT hwl
          go_region_held_law (fun w' => w'.cell? ⟨bx, ox + q * 10 + 5, none⟩ = some (.int .i64 op) ∧ w'.cell? ⟨bx, ox + q * 10 + 6, none⟩ = some (.int .i64 cl) ∧ w'.cell? ⟨bx, ox + q * 10 + 7, none⟩ = some (.int .i64 le)) (first | exact ⟨g5, g6, g7⟩ | exact ⟨cell_alloc hbx g5, cell_alloc hbx g6, cell_alloc hbx g7⟩ | exact ⟨z5, z6, z7⟩)
            ((refine step_appendI rfl _ _ rfl w6.heap.size (.slice (some ⟨g, 0, none⟩) ts.length cap) ts _ _ _ [op, cl, le] rfl rfl (HOd.out.keep ((Below.refl _ _).alloc (Nat.le_refl _) _)) (ints_lit _ _ _ rfl rfl HWL.out (by simp [maxLen])) (by simp) (by simp; omega) (by show w6.heap.size ≤ (wr.alloc _).heap.size; rw [size_new]; exact Nat.le_succ_of_le hsd) ?_; intro gA cA wA hOA hgA; have z5 := hgA.cell (cell_alloc hbx g5) (by simp [Value.ownBlock]; omega); have z6 := hgA.cell (cell_alloc hbx g6) (by simp [Value.ownBlock]; omega); have z7 := hgA.cell (cell_alloc hbx g7) (by simp [Value.ownBlock]; omega)))
          go_wp2
          go_roundw
          case rel => exact ⟨q + 1, _, by omega, by go_num, hOA, by simp only [List.length_append, List.length_cons, List.length_nil]; omega, by simp only [List.length_append, List.length_cons, List.length_nil]; omega, own_app HOd.out HBd.out hsd hgA⟩
          case measure => simp [intOf]; omega
        · obtain rfl : q = X.length := by omega
          have hts := hO.ints
          have hsX := HX.out.below hBq
          have hsq := HS6.out.below hBq
          have hgq := grownBy_trans HG6.out (grownBy_below (row := some b) hBq)
          have hBX := below_grown HB4.out hgq HB4.out.size hge
          have htl : ts.length ≤ 92 := by omega
          clear hO hBq HS6 HX HG6 hgb
          have HTS := Lib.hid HCT.out
          have HX := Lib.hid hsX
          have HSQ := Lib.hid (And.intro hsq (And.intro hgq hBX))
          clear HCT hts hsX hsq hgq hBX
          generalize hwr : wr = wt at *
          clear hwr
          go_wp2
          go_loopw [59] (fun i wq => ∃ j : Nat, j ≤ ts.length ∧ i = .int .i64 j ∧ Below wt.heap.size wt wq) (fun i _ => ts.length - (intOf i).toNat)
          case atStart => exact ⟨0, Nat.zero_le _, rfl, Below.refl _ _⟩
          case round =>
            obtain ⟨j, hj, rfl, hBj⟩ := hrel
            by_cases hjt : j < ts.length
            · have hcj := cell_keep hBj HTS.out.1 (HTS.out.2 j hjt)
              have hji : (j : Int) < (ts.length : Int) := by omega
              generalize ts[j]?.getD 0 = t at *
              have HXj := Lib.hid (HX.out.below hBj)
              have HBj := Lib.hid hBj
              clear hBj
              have NX := Lib.hid (Next_any _ X t wr HXj.out.1)
              have RX := Lib.hid (fun w' h' => RNext_any (.slice ax X.length cx) X t w' h')
              generalize nxt X t X.length = nx at *
              go_wp2_with (first
                | (go_at_call 29; refine NX.out.mono ?_; rintro e w8 ⟨rfl, hB8⟩)
                | (go_at_call 30; refine (RX.out w8 (HXj.out.below hB8).1).mono ?_; rintro e w9 ⟨rfl, hB9⟩))
              have HX9 := Lib.hid ((HXj.out.below hB8).below hB9)
              have HB9 := Lib.hid (HBj.out.trans ((hB8.trans (hB9.mono hB8.size)).mono HBj.out.size))
              clear NX RX hB8 hB9 HXj HBj hcj
              go_loopw [72] (fun i wq => ∃ m : Nat, m ≤ X.length ∧ i = .int .i64 m ∧ Below w9.heap.size w9 wq) (fun i _ => X.length - (intOf i).toNat)
              case atStart => exact ⟨0, Nat.zero_le _, rfl, Below.refl _ _⟩
              case round =>
                obtain ⟨m, hm, rfl, hBm⟩ := hrel
                by_cases hmX : m < X.length
                · obtain ⟨x, hx, -⟩ := drop_at hmX
                  have hmi : (m : Int) < (X.length : Int) := by omega
                  obtain ⟨_, _, e1, _, _, cX⟩ := (HX9.out.below hBm).1.open
                  simp only [Value.slice.injEq] at e1
                  obtain ⟨rfl, -, rfl⟩ := e1
                  obtain ⟨bx, ox, rfl, hbx, ccX⟩ := cX (by omega)
                  obtain ⟨g0, g1, g2, g3, g4, g5, g6, g7, g8, g9⟩ := dep_at (ccX m x hx)
                  have IO := Lib.hid (IsOpen_any x t)
                  have RO := Lib.hid (RIsOpen_any x t)
                  have IC := Lib.hid (IsClosed_any x t)
                  have RC := Lib.hid (RIsClosed_any x t)
                  generalize opF x t = b1 at *
                  generalize clF x t = b2 at *
                  have HBm := Lib.hid hBm
                  clear cX ccX hx hBm
                  obtain ⟨⟨c2, n2, s2, d2⟩, p, op, cl, le, st, sa⟩ := x
                  simp only at g0 g1 g2 g3 g4 g5 g6 g7 g8 g9
                  go_wp2
                  go_region_held3 (fun w' => w'.cell? ⟨bx, ox + m * 10, none⟩ = some (.string c2) ∧ w'.cell? ⟨bx, ox + m * 10 + 1, none⟩ = some (.int .i64 n2) ∧ w'.cell? ⟨bx, ox + m * 10 + 2, none⟩ = some (.string s2) ∧ w'.cell? ⟨bx, ox + m * 10 + 3, none⟩ = some (.int .i64 d2) ∧ w'.cell? ⟨bx, ox + m * 10 + 4, none⟩ = some (.string p) ∧ w'.cell? ⟨bx, ox + m * 10 + 5, none⟩ = some (.int .i64 op) ∧ w'.cell? ⟨bx, ox + m * 10 + 6, none⟩ = some (.int .i64 cl) ∧ w'.cell? ⟨bx, ox + m * 10 + 7, none⟩ = some (.int .i64 le) ∧ w'.cell? ⟨bx, ox + m * 10 + 8, none⟩ = some (.int .i64 st) ∧ w'.cell? ⟨bx, ox + m * 10 + 9, none⟩ = some (.int .i64 sa)) (first | exact ⟨g0, g1, g2, g3, g4, g5, g6, g7, g8, g9⟩ | exact ⟨y0, y1, y2, y3, y4, y5, y6, y7, y8, y9⟩ | exact ⟨z0, z1, z2, z3, z4, z5, z6, z7, z8, z9⟩ | exact ⟨u0, u1, u2, u3, u4, u5, u6, u7, u8, u9⟩ | exact ⟨v0, v1, v2, v3, v4, v5, v6, v7, v8, v9⟩) (first
                    | (go_at_call 28; refine (IO.out _).mono ?_; rintro e v1 ⟨rfl, hC1⟩; have l1 := Nat.lt_of_lt_of_le hbx hC1.size; have y0 := cell_keep hC1 hbx g0; have y1 := cell_keep hC1 hbx g1; have y2 := cell_keep hC1 hbx g2; have y3 := cell_keep hC1 hbx g3; have y4 := cell_keep hC1 hbx g4; have y5 := cell_keep hC1 hbx g5; have y6 := cell_keep hC1 hbx g6; have y7 := cell_keep hC1 hbx g7; have y8 := cell_keep hC1 hbx g8; have y9 := cell_keep hC1 hbx g9)
                    | (go_at_call 31; refine (RO.out _).mono ?_; rintro e v2 ⟨rfl, hC2⟩; have l2 := Nat.lt_of_lt_of_le l1 hC2.size; have z0 := cell_keep hC2 l1 y0; have z1 := cell_keep hC2 l1 y1; have z2 := cell_keep hC2 l1 y2; have z3 := cell_keep hC2 l1 y3; have z4 := cell_keep hC2 l1 y4; have z5 := cell_keep hC2 l1 y5; have z6 := cell_keep hC2 l1 y6; have z7 := cell_keep hC2 l1 y7; have z8 := cell_keep hC2 l1 y8; have z9 := cell_keep hC2 l1 y9)
                    | (go_at_call 26; refine (IC.out _).mono ?_; rintro e v3 ⟨rfl, hC3⟩; have l3 := Nat.lt_of_lt_of_le l2 hC3.size; have u0 := cell_keep hC3 l2 z0; have u1 := cell_keep hC3 l2 z1; have u2 := cell_keep hC3 l2 z2; have u3 := cell_keep hC3 l2 z3; have u4 := cell_keep hC3 l2 z4; have u5 := cell_keep hC3 l2 z5; have u6 := cell_keep hC3 l2 z6; have u7 := cell_keep hC3 l2 z7; have u8 := cell_keep hC3 l2 z8; have u9 := cell_keep hC3 l2 z9)
                    | (go_at_call 32; refine (RC.out _).mono ?_; rintro e v4 ⟨rfl, hC4⟩; have v0 := cell_keep hC4 l3 u0; have v1 := cell_keep hC4 l3 u1; have v2 := cell_keep hC4 l3 u2; have v3 := cell_keep hC4 l3 u3; have v4 := cell_keep hC4 l3 u4; have v5 := cell_keep hC4 l3 u5; have v6 := cell_keep hC4 l3 u6; have v7 := cell_keep hC4 l3 u7; have v8 := cell_keep hC4 l3 u8; have v9 := cell_keep hC4 l3 u9))
                  go_wp2
                  go_roundw
                  case rel => exact ⟨m + 1, by omega, by go_num, (below_drewN HBm.out 1).trans ((hC1.trans ((hC2.trans ((hC3.trans (hC4.mono hC3.size)).mono hC2.size)).mono hC1.size)).mono HBm.out.size)⟩
                  case measure => simp [intOf]; omega
                · obtain rfl : m = X.length := by omega
                  go_wp2
                  go_roundw
                  case rel => exact ⟨j + 1, by omega, by go_num, HB9.out.trans (hBm.mono HB9.out.size)⟩
                  case measure => simp [intOf]; omega
            · obtain rfl : j = ts.length := by omega
              go_wp2
              go_roundw
              case rel => exact ⟨k + 1, r.tail, by omega, by go_num, HSQ.out.1.below hBj, grownBy_trans HSQ.out.2.1 (grownBy_below (row := some b) hBj)⟩
              case measure => simp [intOf]; omega
    · obtain rfl : k = 2 := by omega
      have hkb : decide (((2 : Nat) : Int) < 2) = false := by decide
      go_wp2_with (go_at_call 19; refine (awake_any _).mono ?_; rintro e w6 ⟨rfl, hB6⟩)
      go_ret
      exact ⟨rfl, hB.trans (hB6.mono hB.size)⟩
end Go.Proofs.Ytmigkmdhenkpmaa
