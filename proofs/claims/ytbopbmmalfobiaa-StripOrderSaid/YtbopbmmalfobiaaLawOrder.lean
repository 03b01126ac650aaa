/- Law StripOrder returns true for every input and changes nothing that was there. -/
import Derived.Test.YtbopbmmalfobiaaStripL
import Derived.Test.YtbopbmmalfobiaaStripQ
namespace Go.Proofs.Ytbopbmmalfobiaa
open Go.RowKit

theorem Adv_pack (v fv : Value) (l fs : List Int) (op : Bool) (w : World) (hv : IntsV w v l) (hf : IntsV w fv fs) (hl : l.length * 8 ≤ 140737488355328) :
    Calls Try.prog 10 #[v, fv, .bool op] w fun e w' => ∃ v4 x y, e = .returned (.tuple #[v4, .int .i64 y]) ∧ OwnI w.heap.size w' v4 x ∧ x.length = l.length ∧ (Lit.int .i64 y).wf = true ∧ bagsF l = lead y ++ bagsF x ∧ Below w.heap.size w w' :=
  (Advance_any v fv l fs op w hv hf hl).mono fun e w' ⟨hB, v4, he, hO⟩ =>
    ⟨v4, _, _, he, hO, advance_length l fs op, advance_leaves l fs op (fun n => (Lit.int .i64 n).wf = true) hv.wf (by decide), advance_order l fs op, hB⟩

theorem own_lit1 (y : Int) (w : World) (hy : (Lit.int .i64 y).wf = true) : OwnI w.heap.size (w.alloc (.cells #[.int .i64 y] 3)) (.slice (some ⟨w.heap.size, 0, none⟩) 1 1) [y] :=
  ⟨World.ownsRow_lit w #[.int .i64 y] 1 (Nat.le_refl _) (by simp [maxLen]) rfl, fun n hn => (List.mem_singleton.1 hn) ▸ hy⟩

theorem order_hit {l x : List Int} {y : Int} (h : bagsF l = lead y ++ bagsF x) (hy : (y != 0) = true) : bagsF l = [y] ++ bagsF x := by
  rw [h, lead, if_neg (by simpa using hy)]

theorem order_miss {l x : List Int} {y : Int} (h : bagsF l = lead y ++ bagsF x) (hy : (y != 0) = false) : bagsF l = bagsF x := by
  rw [h, lead, if_pos (by simpa using hy)]
  rfl

theorem StripOrder_any (v : Value) (l : List Int) (t o : Int) (w : World) (hv : IntsV w v l) (ht : 0 ≤ t ∧ t ≤ 255) :
    Calls Try.prog 3 #[v, .int .u8 t, .int .i64 o] w fun e w' => e = .returned (.bool true) ∧ Below w.heap.size w w' := by
  have WN := windows_any v l w hv
  obtain ⟨a, cap, rfl, _⟩ := hv
  go_enter Try.func3, Try.ntmps3
  go_wp2_with (go_at_call 8; refine WN.mono ?_; rintro e w1 ⟨v1, v2, ws, fs, rfl, hI1, hI2, hok, hB1⟩; have hn8 := hok.2.1; obtain ⟨a1, c1, rfl, _⟩ := hI1.open; obtain ⟨a2, c2, rfl, _⟩ := hI2.open)
  go_loopw [7, 9] (fun c i wr => ∃ (k : Nat) (cur : List Int), k ≤ 8 ∧ i = .int .i64 k ∧ IntsV wr c cur ∧ cur.length ≤ 8 ∧ Below w1.heap.size w1 wr)
    (fun _ i _ => 8 - (intOf i).toNat)
  case atStart => exact ⟨0, ws, by omega, rfl, hI1, hn8, Below.refl _ _⟩
  case round =>
    obtain ⟨k, cur, hk, rfl, hIc, hcl, hBr⟩ := hrel
    obtain ⟨ac, cc, rfl, _, _, _⟩ := hIc.open
    have hIf := hI2.below hBr
    have BG := Bags_any _ cur wr hIc (by omega)
    have hm : 0 ≤ t % 8 ∧ t % 8 < 8 := by omega
    have tok1 : True := trivial
    by_cases hk8 : (k : Int) < t % 8
    · go_wp2_with (first
        | (go_at_call 9; have _t := tok1; refine BG.mono ?_; clear tok1 _t BG; rintro e w2 ⟨v2, rfl, hO2, hB2⟩; have hIc2 := hIc.below hB2; have hIf2 := hIf.below hB2)
        | (go_at_call 10; refine (Adv_pack _ _ cur fs _ _ hIc2 hIf2 (by omega)).mono ?_; rintro e w3 ⟨v3, x, y, rfl, hO3, hxl, hyw, hor, hB3⟩; have HX := Lib.hid hxl; have HYW := Lib.hid hyw; have HOR := Lib.hid hor; have hne : ((x.length : Int) != (cur.length : Int)) = false := (by simp [hxl]); clear hxl hyw hor; have hO23 := hO2.keep hB3; have hI3 := hO3.ints; have hI3' := hO3.ints; obtain ⟨a3, c3, rfl, _⟩ := hI3'.open)
        | (go_at_call 9; refine (Bags_any _ x _ hI3 (by have := HX.out; omega)).mono ?_; rintro e w4 ⟨v4, rfl, hO4, hB4⟩; have hO24 := hO23.keep hB4; have hI4 := hI3.below hB4; have hB04 := ((hBr.trans (hB2.mono hBr.size)).trans (hB3.mono (hBr.trans (hB2.mono hBr.size)).size)).trans (hB4.mono ((hBr.trans (hB2.mono hBr.size)).trans (hB3.mono (hBr.trans (hB2.mono hBr.size)).size)).size))
        | (at_builtin; have hy : (y != 0) = true := (by assumption); refine wpList_appendV rfl _ _ rfl w4.heap.size _ [y] _ (bagsF x) rfl rfl (own_lit1 y w4 HYW.out) (hO4.ints.alloc _) (by have := bags_len x; have := HX.out; simp; omega) (by simp) ?_; intro v5 w5 hO5 hg5; have hB5 : Below w4.heap.size w4 w5 := (((Below.refl _ _).alloc (Nat.le_refl _) _).grown hg5 (by simp) (by intro k hk; cases hk; exact Nat.le_refl _)))
        | (go_at_call 11; have hy : (y != 0) = true := (by assumption); refine (Ints_same _ _ _ _ _ (hO24.keep hB5).ints hO5.ints (order_hit HOR.out hy)).mono ?_; rintro e w6 ⟨rfl, hB6⟩)
        | (go_at_call 11; have hy : (y != 0) = false := (by assumption); refine (Ints_same _ _ _ _ _ hO24.ints hO4.ints (order_miss HOR.out hy)).mono ?_; rintro e w6 ⟨rfl, hB6⟩))
      · go_roundw
        case rel => exact ⟨k + 1, x, by omega, rfl, (hI4.below hB5).below hB6, by have := HX.out; omega, (hB04.trans (hB5.mono hB04.size)).trans (hB6.mono (hB04.trans (hB5.mono hB04.size)).size)⟩
        case measure => simp [intOf]; omega
      · go_roundw
        case rel => exact ⟨k + 1, x, by omega, rfl, hI4.below hB6, by have := HX.out; omega, hB04.trans (hB6.mono hB04.size)⟩
        case measure => simp [intOf]; omega
    · go_wp2_with (go_at_call 12; refine (awake_any _).mono ?_; rintro e w6 ⟨rfl, hB6⟩)
      go_ret
      exact ⟨rfl, (hB1.trans (hBr.mono hB1.size)).trans (hB6.mono (hB1.trans (hBr.mono hB1.size)).size)⟩
end Go.Proofs.Ytbopbmmalfobiaa
