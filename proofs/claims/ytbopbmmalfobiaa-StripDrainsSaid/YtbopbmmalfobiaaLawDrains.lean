/- Law StripDrains returns true for every input and changes nothing that was there. -/
import Derived.Test.YtbopbmmalfobiaaStripL
import Derived.Test.YtbopbmmalfobiaaStripPD
namespace Go.Proofs.Ytbopbmmalfobiaa
open Go.RowKit

theorem drn_succ (k : Nat) (c g : List Int) : drn (k + 1) (c, g) = drn k ((advance c [] true).1, if (advance c [] true).2 = 0 then g else g ++ [(advance c [] true).2]) := rfl

theorem StripDrains_any (v : Value) (l : List Int) (w : World) (hv : IntsV w v l) :
    Calls Try.prog 4 #[v] w fun e w' => e = .returned (.bool true) ∧ Below w.heap.size w w' := by
  have WN := windows_any v l w hv
  obtain ⟨a, cap, rfl, _⟩ := hv
  go_enter Try.func4, Try.ntmps4
  go_wp2_with (first
    | (go_at_call 8; refine WN.mono ?_; rintro e w1 ⟨v1, v2, ws, fs, rfl, hI1, _, hok, hB1⟩; have hn8 := hok.2.1; obtain ⟨a1, c1, rfl, _⟩ := hI1.open)
    | (go_at_call 13; refine (BagsR_any _ ws _ hI1 (by omega)).mono ?_; rintro e w2 ⟨v3, rfl, hO3, hB2⟩; have hB02 := hB1.trans (hB2.mono hB1.size)))
  have hdr := hok.all drainOK drain_all
  simp only [drainOK, Bool.and_eq_true, decide_eq_true_eq] at hdr
  obtain ⟨hd1, hd2⟩ := hdr
  have HD1 := Lib.hid hd1
  have HD2 := Lib.hid hd2
  have hI2 := hI1.below hB2
  have hO3' := hO3.below (base' := w.heap.size) hB1.size
  clear hd1 hd2 hI1 hO3 hB1 hB2 WN
  have hz := hO3'.ints
  go_loopw [3, 6, 7] (fun c g i wr => ∃ (k : Nat) (cur got : List Int), k ≤ 2 * ws.length ∧ i = .int .i64 k ∧ IntsV wr c cur ∧ cur.length = ws.length ∧ OwnI w2.heap.size wr g got ∧ got.length ≤ k ∧ drn (2 * ws.length - k) (cur, got) = drn (2 * ws.length) (ws, []) ∧ Below w2.heap.size w2 wr)
    (fun _ _ i _ => 2 * ws.length - (intOf i).toNat)
  case atStart => exact ⟨0, ws, [], Nat.zero_le _, rfl, hI2, rfl, OwnI.nil _ _, Nat.le_refl _, rfl, Below.refl _ _⟩
  case round =>
    obtain ⟨k, cur, got, hk, rfl, hIc, hcl, hOg, hgl, hdn, hBr⟩ := hrel
    have HC := Lib.hid hcl
    have HDN := Lib.hid hdn
    clear hcl hdn
    obtain ⟨ac, cc, rfl, _, _, _⟩ := hIc.open
    have hc8 : cur.length ≤ 8 := by have := HC.out; omega
    by_cases hkn : k < 2 * ws.length
    · have ht : (k : Int) < 2 * (cur.length : Int) := by have := HC.out; omega
      obtain ⟨x, y, hxy⟩ : ∃ x y, advance cur [] true = (x, y) := ⟨_, _, rfl⟩
      have AD := Advance_any _ (.slice none 0 0) cur [] true wr hIc (ints_nil _) (by have := HC.out; omega)
      have hx := advance_length cur [] true
      have hyw := advance_leaves cur [] true (fun n => (Lit.int .i64 n).wf = true) hIc.wf (by decide)
      have hs := drn_succ (2 * ws.length - (k + 1)) cur got
      rw [show 2 * ws.length - (k + 1) + 1 = 2 * ws.length - k by omega] at hs
      rw [hxy] at AD hx hyw hs
      simp only at hx hyw hs
      have HX := Lib.hid hx
      have HYW := Lib.hid hyw
      have HS := Lib.hid (hs.symm.trans HDN.out)
      have hne : ((x.length : Int) != (cur.length : Int)) = false := by simp [hx]
      clear hx hyw hs hxy
      by_cases hy : y = 0
      · subst hy
        go_wp2_with (go_at_call 10; refine AD.mono ?_; rintro e w3 ⟨hB3, v4, rfl, hA4⟩; have hI4 := hA4.ints; obtain ⟨a4, c4, rfl, _⟩ := hI4.open)
        go_roundw
        case rel =>
          exact ⟨k + 1, x, got, by omega, rfl, hI4, HX.out.trans HC.out, hOg.keep hB3, by omega, by simpa using HS.out, hBr.trans (hB3.mono hBr.size)⟩
        case measure => simp [intOf]; omega
      · have gy : (y != 0) = true := by simpa using hy
        have HY := Lib.hid hy
        clear hy
        go_wp2_with (first
          | (go_at_call 10; refine AD.mono ?_; rintro e w3 ⟨hB3, v4, rfl, hA4⟩; have hI4 := hA4.ints; obtain ⟨a4, c4, rfl, _⟩ := hI4.open; have hO3 := hOg.keep hB3; have hB3' := hBr.trans (hB3.mono hBr.size))
          | (at_builtin; refine wpList_append1I rfl _ _ rfl w2.heap.size _ got y w3 rfl rfl rfl hO3 HYW.out (by omega) hB3'.size ?_; intro v5 w4 hO4 hg4))
        go_roundw
        case rel =>
          exact ⟨k + 1, x, got ++ [y], by omega, rfl, (hI4.alloc _).other hg4 (fun _ b hb => own_apart hOg hA4 (Nat.le_refl _) b hb), HX.out.trans HC.out, hO4, by simp; omega, by have := HS.out; rw [if_neg HY.out] at this; exact this, own_app hO3 hB3' hB3'.size hg4⟩
        case measure => simp [intOf]; omega
    · have ht : ¬ ((k : Int) < 2 * (cur.length : Int)) := by have := HC.out; omega
      obtain rfl : k = 2 * ws.length := by omega
      have hfin := HDN.out
      rw [Nat.sub_self, drn] at hfin
      have h1 := HD1.out
      have h2 := HD2.out
      rw [← hfin] at h1 h2
      simp only at h1 h2
      have hB02' := hB02.trans (hBr.mono hB02.size)
      have hO3r := hO3'.ints.below hBr
      have hq : ((cnt0 cur : Int) == (cur.length : Int)) = true := by have := HC.out; simp [h1, this]
      have H2 := Lib.hid h2
      clear h1 h2 hfin
      go_wp2_with (first
        | (go_at_call 14; refine (Free_any _ cur wr hIc).mono ?_; rintro e w' ⟨rfl, rfl⟩)
        | (go_at_call 11; refine (Ints_same _ _ got (bagsF ws) wr hOg.ints hO3r H2.out).mono ?_; rintro e w5 ⟨rfl, hB5⟩)
        | (go_at_call 12; refine (awake_any _).mono ?_; rintro e w6 ⟨rfl, hB6⟩))
      go_ret
      exact ⟨rfl, (hB02'.trans (hB5.mono hB02'.size)).trans (hB6.mono (hB02'.trans (hB5.mono hB02'.size)).size)⟩
end Go.Proofs.Ytbopbmmalfobiaa
