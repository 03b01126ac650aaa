/- Chapter 24: the law ConnectDecides. Plain. -/
import Derived.Test.YtkajegjghfbgaaaCn6
namespace Go.Proofs.Ytkajegjghfbgaaa.Ex.Cn
open Go.RowKit Go.Proofs.Ytkajegjghfbgaaa.Ax Go.Maps
set_option linter.unusedVariables false
set_option linter.unusedSimpArgs false

theorem d_L4 (x : List Minimum) (hx : x.length ≤ 1000) (rs : List HoldRule) (bags : List Connecting) : ∀ (q pre : List Int), law24_ConnectDecides_L4 x rs bags q pre.length (pre ++ q) = some (.brk ())
  | [], pre => rfl
  | t :: q, pre => by
    obtain ⟨r, h1, h2⟩ := decide_both x hx rs bags t
    rw [law24_ConnectDecides_L4, ixL_at' pre.length rfl (x := t) (by simp), Option.bind_some, h1, Option.bind_some, h2, Option.bind_some]
    simp only [bne_self_eq_false, cond_false, same_refl, Option.bind_some, Bool.not_true]
    have := d_L4 x hx rs bags q (pre ++ [t])
    simpa using this
theorem d_L4' (x : List Minimum) (hx : x.length ≤ 1000) (rs : List HoldRule) (bags : List Connecting) (l : List Int) : law24_ConnectDecides_L4 x rs bags l 0 l = some (.brk ()) := d_L4 x hx rs bags l []
theorem d_L3 (t : Int) (x : List Minimum) (hx : x.length ≤ 1000) (rs : List HoldRule) : ∀ (q pre : List (List Connecting)) (s : Src), SrcOk s → okP (law24_ConnectDecides_L3 t x rs q pre.length (pre ++ q) s.L s.At) (ctlQ (fun _ => False) (fun z => SrcOk ⟨z.1, z.2⟩))
  | [], pre, s, hs => okP_some hs
  | b :: q, pre, s, hs => by
    rw [law24_ConnectDecides_L3, ixL_at' pre.length rfl (x := b) (by simp), Option.bind_some]
    refine okP_bind (N_ok s 60 hs (by decide) (by decide)) (fun r hr => ?_)
    rw [d_L4' x hx, sub_brkE rfl]
    have := d_L3 t x hx rs q (pre ++ [b]) r.2 hr.2.2
    simpa using this
theorem d_L5 (t : Int) (x : List Minimum) (hx : x.length ≤ 1000) (rs : List HoldRule) (bs : List (List Connecting)) (hb : bs.length = 3) : ∀ (n : Nat) (s : Src) (i : Int), SrcOk s → 0 ≤ i → i ≤ 3 → 3 - i < n → okP (law24_ConnectDecides_L5 t x rs n s.L s.At bs i) (ctlQ (fun _ => False) (fun z => SrcOk ⟨z.1, z.2⟩))
  | 0, s, i, _, _, _, h => by omega
  | n + 1, s, i, hs, h0, h1, h2 => by
    rw [law24_ConnectDecides_L5]
    refine okP_cond (fun c => ?_) (fun _ => okP_some hs)
    have c := of_decide_eq_true c
    have hlt : i.toNat < bs.length := by omega
    rw [ixL_at' i.toNat (by omega) (List.getElem?_eq_getElem hlt), Option.bind_some]
    refine okP_bind (N_ok s 60 hs (by decide) (by decide)) (fun r hr => ?_)
    rw [d_L4' x hx, sub_brkE rfl, w64_id (by omega) (by omega)]
    exact d_L5 t x hx rs bs hb n r.2 (i + 1) hr.2.2 (by omega) (by omega) (by omega)
theorem d_L2 (t : Int) (many : List Connecting × Src) (hm : many.1.length ≤ 1000) (odd : List Connecting) (x : List Minimum) (hx : x.length ≤ 1000) : ∀ (q pre : List (List HoldRule)) (s : Src), SrcOk s → okP (law24_ConnectDecides_L2 t many odd x q pre.length (pre ++ q) s.L s.At) (ctlQ (fun _ => False) (fun z => SrcOk ⟨z.1, z.2⟩))
  | [], pre, s, hs => okP_some hs
  | rs :: q, pre, s, hs => by
    have ih := fun (s : Src) (hs : SrcOk s) => d_L2 t many hm odd x hx q (pre ++ [rs]) s hs
    rw [law24_ConnectDecides_L2, ixL_at' pre.length rfl (x := rs) (by simp), Option.bind_some, slL_eq (by omega) (by omega) (by omega), Option.bind_some]
    refine okP_bind (Bags2_ok s 2 hs (by decide) (by decide)) (fun r hr => ?_)
    refine okP_cond (fun _ => ?_) (fun _ => ?_)
    · refine okP_sub (d_L3 t x hx rs _ [] r.2 hr.2.2) (fun z hz => ?_)
      have := ih ⟨z.1, z.2⟩ hz
      simpa using this
    · rw [apL_eq (by simp; omega), Option.bind_some]
      refine okP_sub (d_L5 t x hx rs _ rfl 9223372036854775807 r.2 0 hr.2.2 (by omega) (by omega) (by omega)) (fun z hz => ?_)
      have := ih ⟨z.1, z.2⟩ hz
      simpa using this
theorem d_L1 (t : Int) (good : List HoldRule × Src) (many : List Connecting × Src) (hm : many.1.length ≤ 1000) : ∀ (q pre : List (List Minimum)) (bad : List HoldRule) (odd : List Connecting) (s : Src), (∀ x ∈ q, x.length ≤ 1000) → SrcOk s → okP (law24_ConnectDecides_L1 t good many q pre.length bad odd (pre ++ q) s.L s.At) (ctlQ (fun _ => False) (fun _ => True))
  | [], pre, bad, odd, s, _, hs => okP_some trivial
  | x :: q, pre, bad, odd, s, hx, hs => by
    rw [law24_ConnectDecides_L1, ixL_at' pre.length rfl (x := x) (by simp), Option.bind_some]
    refine okP_bind (Holds_ok s 3 hs (by decide) (by decide)) (fun r hr => ?_)
    refine okP_sub (d_L2 t many hm odd x (hx x (by simp)) _ [] r.2 hr.2.2) (fun z hz => ?_)
    have := d_L1 t good many hm q (pre ++ [x]) bad odd ⟨z.1, z.2⟩ (fun y hy => hx y (by simp [hy])) hz
    simpa using this
theorem decides_ok (l : List Int) (raw : List HoldRule) (bags : List Connecting) (closes : Int) (_ : ∀ x ∈ raw, Q_HoldRule x) (_ : ∀ x ∈ bags, Q_Connecting x) : law24_ConnectDecides l raw bags closes = some true := by
  refine okP_eq ?_
  unfold law24_ConnectDecides
  rw [awake24]
  refine okP_bind (New_ok l) fun r1 h1 => okP_bind (Min_ok r1 h1) fun r2 h2 => okP_bind (Holds_ok _ 8 h2.2.2 (by decide) (by decide)) fun r3 h3 => okP_bind (Bags2_ok _ 25 h3.2.2 (by decide) (by decide)) fun r4 h4 => ?_
  have a3 := h3.2.1
  have a4 := h4.2.1
  rw [apL_eq (by simp; omega), Option.bind_some, slL_eq (by omega) (by split <;> omega) (by split <;> omega), Option.bind_some, apL_eq (by simp; split <;> omega), Option.bind_some, apL_eq (by simp; omega), Option.bind_some, slL_eq (by omega) (by split <;> omega) (by split <;> omega), Option.bind_some, apL_eq (by simp; split <;> omega), Option.bind_some]
  refine okP_bind (spoilt_ok _ _ h4.2.2 h2.2.1) fun r11 h11 => ?_
  refine okP_finB (d_L1 closes r3 r4 (by omega) [r2.1, r11.1] [] _ _ r11.2 (fun x hx => ?_) h11.2) fun _ _ => okP_some rfl
  have := h2.2.1
  have := h11.1
  simp only [List.mem_cons, List.not_mem_nil, or_false] at hx
  rcases hx with rfl | rfl <;> omega
end Go.Proofs.Ytkajegjghfbgaaa.Ex.Cn
