/- Law LanesAssigns returns true for every input. -/
import Derived.Test.YtkefkegknacpjaaLanesK
namespace Go.Proofs.Ytkefkegknacpjaa
open Go.RowKit Go.Maps

set_option maxHeartbeats 1000000 in
set_option maxRecDepth 100000 in
theorem LanesAssigns_any (v u x : Value) (raw l given : List Int) (w : World) (hv : IntsV w v raw) (hu : IntsV w u l) (hx : IntsV w x given) :
    Calls Try.prog 3 #[v, u, x] w fun e w' => e = .returned (.bool true) ∧ Below w.heap.size w w' := by
  have TM := times_any u l w hu
  obtain ⟨a, c, rfl, la, _, _⟩ := hv.open
  obtain ⟨a', c', rfl, la', _, _⟩ := hu.open
  obtain ⟨a2, c2, rfl, la2, _, _⟩ := hx.open
  by_cases hr : 210 < raw.length ∨ 210 < given.length
  · have hlong : ∀ (b : Bool), (if 210 < raw.length then true else b) = true ∨ 210 < given.length := fun b => by
      by_cases h : 210 < raw.length
      · left; rw [if_pos h]
      · right; omega
    clear hlong
    by_cases h1 : 210 < raw.length
    · have h1' : (210 : Int) < (raw.length : Int) := by omega
      clear hr
      go_enter Try.func3, Try.ntmps3
      go_wp2_with (go_at_call 9; refine (awake_any _).mono ?_; rintro e w6 ⟨rfl, hB6⟩)
      go_ret
      exact ⟨rfl, hB6⟩
    · have h1' : ¬ (210 : Int) < (raw.length : Int) := by omega
      have h2' : (210 : Int) < (given.length : Int) := by omega
      clear hr
      go_enter Try.func3, Try.ntmps3
      go_wp2_with (go_at_call 9; refine (awake_any _).mono ?_; rintro e w6 ⟨rfl, hB6⟩)
      go_ret
      exact ⟨rfl, hB6⟩
  · have h1' : ¬ (210 : Int) < (raw.length : Int) := by omega
    have h2' : ¬ (210 : Int) < (given.length : Int) := by omega
    have h210 : raw.length ≤ 210 := by omega
    clear hr
    go_enter Try.func3, Try.ntmps3
    go_wp2_with (go_at_call 10; refine TM.mono ?_; rintro e w1 ⟨v1, out, rfl, hO, ho1, ho2, hB1⟩; obtain ⟨a1, c1, rfl, _, _, _⟩ := hO.ints.open)
    have hO' := hO.ints.alloc (.cells #[.slice a raw.length c, .slice a1 out.length c1] 22)
    have hv' := (hv.below hB1).alloc (.cells #[.slice a raw.length c, .slice a1 out.length c1] 22)
    have hx' := (hx.below hB1).alloc (.cells #[.slice a raw.length c, .slice a1 out.length c1] 22)
    have hB2 := hB1.alloc hB1.size (.cells #[.slice a raw.length c, .slice a1 out.length c1] 22)
    have e0 : (w1.alloc (.cells #[.slice a raw.length c, .slice a1 out.length c1] 22)).cell? ⟨w1.heap.size, 0, none⟩ = some (.slice a raw.length c) := by unfold World.cell?; rw [heap_alloc_new]; rfl
    have e1 : (w1.alloc (.cells #[.slice a raw.length c, .slice a1 out.length c1] 22)).cell? ⟨w1.heap.size, 1, none⟩ = some (.slice a1 out.length c1) := by unfold World.cell?; rw [heap_alloc_new]; rfl
    have hlt1 : w1.heap.size < (w1.alloc (.cells #[.slice a raw.length c, .slice a1 out.length c1] 22)).heap.size := by simp
    have two : ∀ wr, Below (w1.alloc (.cells #[.slice a raw.length c, .slice a1 out.length c1] 22)).heap.size (w1.alloc (.cells #[.slice a raw.length c, .slice a1 out.length c1] 22)) wr → ∀ k, k < 2 → ∃ ad n cap due, n = due.length ∧ due.length ≤ 210 ∧ IntsV wr (.slice ad n cap) due ∧ wr.cell? ⟨w1.heap.size, k, none⟩ = some (.slice ad n cap) := by
      intro wr hB k hk
      match k, hk with
      | 0, _ => exact ⟨_, _, _, raw, rfl, h210, hv'.below hB, (hB.cell hlt1).trans e0⟩
      | 1, _ => exact ⟨_, _, _, out, rfl, by omega, hO'.below hB, (hB.cell hlt1).trans e1⟩
    have hxx : ∀ wr, Below (w1.alloc (.cells #[.slice a raw.length c, .slice a1 out.length c1] 22)).heap.size (w1.alloc (.cells #[.slice a raw.length c, .slice a1 out.length c1] 22)) wr → IntsV wr (.slice a2 given.length c2) given := fun wr hB => hx'.below hB
    have HTWO := Lib.hid two
    have HXX := Lib.hid hxx
    clear two hxx e0 e1 hv' hx' hO' hO hlt1
    go_loopw [29] (fun i wr => ∃ k : Nat, k ≤ 2 ∧ i = .int .i64 k ∧ Below (w1.alloc (.cells #[.slice a raw.length c, .slice a1 out.length c1] 22)).heap.size (w1.alloc (.cells #[.slice a raw.length c, .slice a1 out.length c1] 22)) wr)
      (fun i _ => 2 - (intOf i).toNat)
    case atStart => exact ⟨0, by omega, rfl, Below.refl _ _⟩
    case round =>
      obtain ⟨wo, hwo⟩ : ∃ wo : World, wo = wr := ⟨_, rfl⟩
      obtain ⟨k, hk, rfl, hBr⟩ := hrel
      subst hwo
      by_cases hk2 : k < 2
      · obtain ⟨ad, n, cap, due, hn, hd210, hD, d⟩ := HTWO.out wo hBr k hk2
        have hG := HXX.out wo hBr
        subst hn
        have HTW := HTWO
        have HXW := HXX
        clear HTWO HXX
        have tokI : True := trivial
        have tokC : True := trivial
        have tokR : True := trivial
        have HT := Lib.hid hB2
        have HHD := Lib.hid hD
        have HHG := Lib.hid hG
        clear hB2 hD hG hv hu hx TM
        go_wp2_with (first
          | (go_at_call 11; refine (Assign_any _ due wo HHD.out).mono ?_; rintro e w2 ⟨v2, rfl, hO2, hB02⟩)
          | (go_at_call 12; refine (RAssign_any _ due w2 (HHD.out.below hB02)).mono ?_; rintro e w3 ⟨v3, rfl, hO3, hB23⟩; have hB03 := hB02.trans (hB23.mono hB02.size))
          | (go_at_call 13; have _t := tokI; refine (Ints_same _ _ (asgL due) (asgL due) _ (hO2.keep hB23).ints hO3.ints rfl).mono ?_; clear tokI _t; rintro e w4 ⟨rfl, hB34⟩; have hB04 := hB03.trans (hB34.mono hB03.size))
          | (go_at_call 14; refine (Count_any _ due w4 (HHD.out.below hB04)).mono ?_; rintro e w5 ⟨rfl, hB45⟩; have hB05 := hB04.trans (hB45.mono hB04.size))
          | (go_at_call 15; refine (RCount_any _ due w5 (HHD.out.below hB05)).mono ?_; rintro e w6 ⟨rfl, hB56⟩; have hB06 := hB05.trans (hB56.mono hB05.size))
          | (go_at_call 16; refine (Chain_any _ due w6 (HHD.out.below hB06)).mono ?_; rintro e w7 ⟨v7, rfl, hO7, hB67⟩; have hB07 := hB06.trans (hB67.mono hB06.size))
          | (go_at_call 17; refine (RChain_any _ due w7 (HHD.out.below hB07)).mono ?_; rintro e w8 ⟨v8, rfl, hO8, hB78⟩; have hB08 := hB07.trans (hB78.mono hB07.size))
          | (go_at_call 13; refine (Ints_same _ _ (chainF due) (chainF due) _ (hO7.keep hB78).ints hO8.ints rfl).mono ?_; rintro e w9 ⟨rfl, hB89⟩; have hB09 := hB08.trans (hB89.mono hB08.size))
          | (go_at_call 18; have _t := tokC; refine (Check_any _ _ due given w9 (HHD.out.below hB09) (HHG.out.below hB09)).mono ?_; clear tokC _t; rintro e w10 ⟨rfl, hB910⟩; have hB010 := hB09.trans (hB910.mono hB09.size))
          | (go_at_call 19; have _t := tokR; refine (RCheck_any _ _ due given w10 (HHD.out.below hB010) (HHG.out.below hB010)).mono ?_; clear tokR _t; rintro e w11 ⟨rfl, hB1011⟩; have hB011 := hB010.trans (hB1011.mono hB010.size); have hO311 := (((((hO3.keep hB34).keep hB45).keep hB56).keep hB67).keep hB78).keep ((hB89.trans (hB910.mono hB89.size)).trans (hB1011.mono (hB89.trans (hB910.mono hB89.size)).size)))
          | (go_at_call 18; refine (Check_any _ _ due (asgL due) w11 (HHD.out.below hB011) hO311.ints).mono ?_; rintro e w12 ⟨rfl, hB1112⟩; have hB012 := hB011.trans (hB1112.mono hB011.size))
          | (go_at_call 19; refine (RCheck_any _ _ due (asgL due) w12 (HHD.out.below hB012) (hO311.keep hB1112).ints).mono ?_; rintro e w13 ⟨rfl, hB1213⟩; have hB013 := hB012.trans (hB1213.mono hB012.size)))
        have hb13 : wo.heap.size ≤ w13.heap.size := hB013.size
        clear hB02 hB23 hB03 hB34 hB04 hB45 hB05 hB56 hB06 hB67 hB07 hB78 hB08 hB89 hB09 hB910 hB010 hB1011 hB011 hB1112 hB012 hB1213 hO2 hO3 hO7 hO8 hO311
        go_loopw [13, 14] (fun o i wr => ∃ (j : Nat) (cs : List Int), j ≤ due.length ∧ cs.length = j ∧ i = .int .i64 j ∧ OwnI w13.heap.size wr o cs ∧ Below w13.heap.size w13 wr)
          (fun _ i _ => due.length - (intOf i).toNat)
        case atStart => exact ⟨0, [], Nat.zero_le _, rfl, rfl, OwnI.nil _ _, Below.refl _ _⟩
        case round =>
          obtain ⟨j, cs, hj, hcs, rfl, hOc, hBi⟩ := hrel
          have HCS := Lib.hid hcs
          have hj7 : (j : Int) ≤ 210 := by omega
          clear hcs
          by_cases hjl : j < due.length
          · have QM := Mod_any ((j : Int) * 7 + given.length) 5 wr (by omega) (by omega)
            have m5 := modF_bd ((j : Int) * 7 + given.length) 5 (by omega)
            generalize modF ((j : Int) * 7 + given.length) 5 = y at *
            go_wp2_with (first
              | (go_at_call 20; refine QM.mono ?_; rintro e w3 ⟨rfl, rfl⟩)
              | (at_builtin; refine wpList_append1I rfl _ _ rfl w13.heap.size _ cs y _ rfl rfl rfl hOc (small_wf _ (by omega) (by omega)) (by have := HCS.out; omega) hBi.size ?_; intro v' wA hOA hgA; have hBA := own_app hOc hBi hBi.size hgA))
            go_roundw
            case rel => exact ⟨j + 1, _, by omega, by simp [HCS.out], by go_num, hOA, hBA⟩
            case measure => simp [intOf]; omega
          · have hB0i := hB013.trans (hBi.mono hb13)
            obtain ⟨ac, cc, rfl, _⟩ := hOc.ints.open
            go_wp2_with (first
              | (go_at_call 18; refine (Check_any _ _ due cs wr (HHD.out.below hB0i) hOc.ints).mono ?_; rintro e w14 ⟨rfl, hB14⟩; have hB014 := hB0i.trans (hB14.mono hB0i.size))
              | (go_at_call 19; refine (RCheck_any _ _ due cs w14 (HHD.out.below hB014) (hOc.keep hB14).ints).mono ?_; rintro e w15 ⟨rfl, hB15⟩; have hB015 := hB014.trans (hB15.mono hB014.size)))
            go_roundw
            case rel => exact ⟨k + 1, by omega, by go_num, hBr.trans (hB015.mono hBr.size)⟩
            case measure => simp [intOf]; omega
      · obtain rfl : k = 2 := by omega
        have hBw := hB2.trans (hBr.mono hB2.size)
        go_wp2_with (go_at_call 9; refine (awake_any _).mono ?_; rintro e w6 ⟨rfl, hB6⟩)
        go_ret
        exact ⟨rfl, hBw.trans (hB6.mono hBw.size)⟩
end Go.Proofs.Ytkefkegknacpjaa
