/- The law's index; the reference's Bags. -/
import Derived.Test.YtbopbmmalfobiaaStripE
namespace Go.Proofs.Ytbopbmmalfobiaa
open Go.RowKit

theorem findIdx_drop (l : List Int) (x : Int) (k : Nat) (h : ∀ j, j < k → l[j]?.getD 0 ≠ x) (hk : k ≤ l.length) : k ≤ l.findIdx (· == x) := by
  rcases Nat.lt_or_ge (l.findIdx (· == x)) k with h1 | h1
  · exfalso
    have h2 : l.findIdx (· == x) < l.length := by omega
    have h3 := List.findIdx_getElem (p := (· == x)) (xs := l) (w := h2)
    refine h _ h1 ?_
    simp [h2]
    simpa using h3
  · exact h1

theorem index_any (v : Value) (l : List Int) (x : Int) (w : World) (hv : IntsV w v l) :
    Calls Try.prog 17 #[v, .int .i64 x] w fun e w' => e = .returned (.int .i64 (l.findIdx (· == x) : Nat)) ∧ w = w' := by
  obtain ⟨a, c, rfl, la, _, ca⟩ := hv.open
  clear hv
  have hle : l.findIdx (· == x) ≤ l.length := List.findIdx_le_length
  go_enter Try.func17, Try.ntmps17
  go_wp2
  go_loop [5] (fun i => ∃ k : Nat, k ≤ l.length ∧ i = .int .i64 k ∧ ∀ j, j < k → l[j]?.getD 0 ≠ x) (fun i => l.length - (intOf i).toNat)
  case atStart => exact ⟨0, Nat.zero_le _, rfl, by omega⟩
  case round =>
    obtain ⟨k, hk, rfl, hj⟩ := hrel
    have HJ := Lib.hid hj
    clear hj
    by_cases hlt : k < l.length
    · obtain ⟨b, o, rfl, hb, cc⟩ := ca (by omega)
      have d := cc k hlt
      clear ca cc
      have hkl : l[k]?.getD 0 = l[k] := by simp [hlt]
      generalize hy : l[k]?.getD 0 = y at *
      have HY := Lib.hid hy
      have HK := Lib.hid hkl
      clear hy hkl
      by_cases hyx : y = x
      · subst hyx
        go_wp2
        go_ret
        refine ⟨ret_int ?_, rfl⟩
        have h1 := findIdx_drop l y k HJ.out hk
        have h2 : l.findIdx (· == y) ≤ k := by
          rcases Nat.lt_or_ge k (l.findIdx (· == y)) with h | h
          · have := List.not_of_lt_findIdx h
            simp [← HK.out] at this
          · exact h
        omega
      · have gy : (y == x) = false := by simpa using hyx
        have HYX := Lib.hid hyx
        clear hyx
        go_wp2
        go_round
        case rel =>
          refine ⟨k + 1, by omega, by go_num, fun j hj => ?_⟩
          rcases Nat.lt_or_ge j k with h | h
          · exact HJ.out j h
          · obtain rfl : j = k := by omega
            rw [HY.out]
            exact HYX.out
        case measure => simp [intOf]; omega
    · go_wp2
      go_ret
      exact ⟨ret_int (by have h1 := findIdx_drop l x k HJ.out hk; omega), rfl⟩

def bagsF (s : List Int) : List Int := s.reverse.filter (· != 0)

theorem bags_drop (s : List Int) (k : Nat) (h : k < s.length) : bagsF (s.drop k) = bagsF (s.drop (k + 1)) ++ if s[k]?.getD 0 = 0 then [] else [s[k]?.getD 0] := by
  unfold bagsF
  rw [List.drop_eq_getElem_cons h, List.reverse_cons, List.filter_append]
  by_cases h0 : s[k] = 0 <;> simp [h, h0]

theorem bags_len (s : List Int) : (bagsF s).length ≤ s.length := by
  unfold bagsF
  exact Nat.le_trans (List.length_filter_le _ _) (by simp)

def BagsPost (s : List Int) (w : World) (e : Ending) (w' : World) : Prop :=
  ∃ v, e = .returned v ∧ OwnI w.heap.size w' v (bagsF s) ∧ Below w.heap.size w w'

theorem own_app {B : Nat} {w0 w w1 : World} {v : Value} {l : List Int} {o : Obj} (hO : OwnI B w v l) (hB : Below B w0 w) (hBs : B ≤ w.heap.size) (hg : (w.alloc o).grownBy w1 v.ownBlock) : Below B w0 w1 :=
  (hB.alloc hBs _).grown hg (by simp; omega) (fun k hk => (hO.1.lt k hk).1)

theorem BagsR_any (v : Value) (l : List Int) (w : World) (hv : IntsV w v l) (hl : l.length * 8 ≤ 140737488355328) :
    Calls Try.prog 13 #[v] w (BagsPost l w) := by
  have hwf := hv.wf
  obtain ⟨a, c, rfl, la, _, ca⟩ := hv.open
  clear hv
  go_enter Try.func13, Try.ntmps13
  go_wp2
  go_loopw [3, 4] (fun o i wr => ∃ (k : Nat), k ≤ l.length ∧ i = .int .i64 ((k : Int) - 1) ∧ OwnI w.heap.size wr o (bagsF (l.drop k)) ∧ Below w.heap.size w wr) (fun _ i _ => (intOf i + 1).toNat)
  case atStart => exact ⟨l.length, Nat.le_refl _, rfl, by simpa [bagsF] using OwnI.nil _ _, Below.refl _ _⟩
  case round =>
    obtain ⟨k, hk, rfl, hO, hB⟩ := hrel
    cases k with
    | zero =>
      have e0 : ((0 : Nat) : Int) - 1 = -1 := rfl
      rw [e0]
      clear e0
      go_wp2
      go_ret
      exact ⟨_, rfl, hO, hB⟩
    | succ k =>
      have ek : (((k + 1 : Nat) : Int) - 1) = (k : Int) := by omega
      rw [ek]
      clear ek
      have hkl : k < l.length := by omega
      obtain ⟨b, off, rfl, hb, cc⟩ := ca (by omega)
      have d := (hB.cell (p := ⟨b, off + k, none⟩) hb).trans (cc k hkl)
      have hbd := bags_drop l k hkl
      have hlen := bags_len (l.drop (k + 1))
      rw [List.length_drop] at hlen
      have hx : (Lit.int .i64 (l[k]?.getD 0)).wf = true := hwf _ (by simp [hkl])
      generalize l[k]?.getD 0 = x at *
      generalize bagsF (l.drop (k + 1)) = m at *
      have HBD := Lib.hid hbd
      have HX := Lib.hid hx
      clear hbd hx cc ca
      by_cases h0 : x = 0
      · subst h0
        go_wp2
        go_roundw
        case rel => exact ⟨k, by omega, rfl, by rw [HBD.out]; simpa using hO, hB⟩
        case measure => simp [intOf]
      · have gx : (x != 0) = true := by simpa using h0
        have H0 := Lib.hid h0
        clear h0
        go_wp2_with (at_builtin; refine wpList_append1I rfl _ _ rfl w.heap.size _ m x _ rfl rfl rfl hO HX.out (by omega) hB.size ?_; intro v' w1 hown hgrow)
        go_roundw
        case rel => exact ⟨k, by omega, rfl, by rw [HBD.out, if_neg H0.out]; exact hown, own_app hO hB hB.size hgrow⟩
        case measure => simp [intOf]
end Go.Proofs.Ytbopbmmalfobiaa
