/- Lanes: LanesStore. -/
import Derived.Test.YtkefkegknacpjaaLn1
import Derived.Test.YtkefkegknacpjaaDec
namespace Go.Proofs.Ytkefkegknacpjaa.Ex
open Go.RowKit Go.Proofs.Ytkefkegknacpjaa.Ax
set_option linter.unusedVariables false
set_option linter.unusedSimpArgs false

theorem best_room {d due : Int} {L : List (List Stored)} : ∀ k, 0 ≤ bestL d due L k → ((laneF L (bestL d due L k)).length : Int) < d
  | 0, h => by simp [bestL] at h
  | k + 1, h => by
    rw [bestL] at h ⊢
    split
    · rename_i c
      exact c.1
    · rename_i c
      rw [if_neg c] at h
      exact best_room k h
theorem LOk.set {x : Lanes} (h : LOk x) (n : Nat) (lane : List Stored) (h1 : (lane.length : Int) ≤ x.Depth) : LOk ⟨x.Depth, x.L.set n lane⟩ := by
  obtain ⟨a, b, c, d⟩ := h
  refine ⟨by simpa using a, b, fun l hl => ?_, fun l hl => ?_⟩
  · rcases List.mem_or_eq_of_mem_set hl with hl | rfl
    · exact c l hl
    · omega
  · rcases List.mem_or_eq_of_mem_set hl with hl | rfl
    · exact d l hl
    · exact h1
theorem put_ok {x : Lanes} (hx : LOk x) (s : Stored) (h : (putR x s).2.2 = 0) : LOk (putR x s).1 := by
  unfold putR at h ⊢
  split
  · rename_i c; rw [if_pos c] at h; simp at h
  · rename_i c
    rw [if_neg c] at h
    split
    · rename_i c; rw [if_pos c] at h; simp at h
    · rename_i c
      rw [if_neg c] at h
      split
      · rename_i c; rw [if_pos c] at h; simp at h
      · rename_i c
        have := best_room (d := x.Depth) (due := s.Due) (L := x.L) x.L.length (by omega)
        exact hx.set _ _ (by simp; omega)
theorem take_ok {x : Lanes} (hx : LOk x) (b : Int) (h : (takeR x b).2.2 = 0) : LOk (takeR x b).1 := by
  unfold takeR at h ⊢
  cases hf : findL b x.L with
  | none => rw [hf] at h; simp at h
  | some p =>
    obtain ⟨l, h1, h2⟩ := findL_some hf
    obtain ⟨s, h3, h4⟩ := idxL_some h2
    have hpl := (List.getElem?_eq_some_iff.1 h3).1
    have := hx.e _ (List.mem_of_getElem? h1)
    simp only [lane_get h1]
    exact hx.set _ _ (by simp; omega)

theorem takeK {α : Type} {Q : α → Prop} {x : Lanes} (hx : LOk x) (b : Int) {R K2 : Option α} {K1 : Int → List (List Stored) → Int → List (List Stored) → Option α} (h1 : ∀ y, LOk y → okP (K1 y.Depth y.L y.Depth y.L) Q) (h2 : okP K2 Q) :
    okP ((lanes_Take x b).bind fun r20 => (ref17_Take x b).bind fun r21 => cond (r20.2.2 != r21.2.2) R ((ref17_Same r20.1 r21.1).bind fun r22 => cond (!r22) R ((keep_Ints r20.2.1 r21.2.1).bind fun r23 => cond (!r23) R (cond (r21.2.2 == (0 : Int)) (K1 r20.1.Depth r20.1.L r21.1.Depth r21.1.L) K2)))) Q := by
  rw [take_eq hx, rtake_eq hx]
  simp only [Option.bind_some, bne_self_eq_false, cond_false]
  rw [same_eq]
  simp only [Option.bind_some, Bool.not_true, cond_false]
  rw [ints_eq]
  simp only [Option.bind_some, Bool.not_true, cond_false]
  exact okP_cond (fun h => h1 _ (take_ok hx b (eq_of_beq h))) (fun _ => h2)
theorem putK {α : Type} {Q : α → Prop} {x : Lanes} (hx : LOk x) (s : Stored) {R K2 : Option α} {K1 : Int → List (List Stored) → Int → List (List Stored) → Option α} (h1 : ∀ y, LOk y → okP (K1 y.Depth y.L y.Depth y.L) Q) (h2 : okP K2 Q) :
    okP ((lanes_Put x s).bind fun r24 => (ref17_Put x s).bind fun r25 => cond (r24.2.2 != r25.2.2) R (cond (r24.2.1 != r25.2.1) R ((ref17_Same r24.1 r25.1).bind fun r26 => cond (!r26) R (cond (r25.2.2 == (0 : Int)) (K1 r24.1.Depth r24.1.L r25.1.Depth r25.1.L) K2)))) Q := by
  rw [put_eq hx, rput_eq hx]
  simp only [Option.bind_some, bne_self_eq_false, cond_false]
  rw [same_eq]
  simp only [Option.bind_some, Bool.not_true, cond_false]
  exact okP_cond (fun h => h1 _ (put_ok hx s (eq_of_beq h))) (fun _ => h2)

theorem awake17 : law17_awake = some true := by kernel_rfl

theorem store_L (x3 : Stored) : ∀ (fuel : Nat) (a : List Int) (at_ d : Int) (l : List (List Stored)) (i : Nat), i ≤ 30 → 30 - i < fuel → SrcOk ⟨a, at_⟩ → LOk ⟨d, l⟩ → okP (law17_LanesStore_L1 x3 fuel a at_ d l d l (i : Int)) (ctlQ (fun _ => False) (fun _ => True))
  | 0, a, at_, d, l, i, _, h, _, _ => by omega
  | fuel + 1, a, at_, d, l, i, hi, hf, hs, hx => by
    have rec_ : ∀ (s : Src) (y : Lanes), i < 30 → SrcOk s → LOk y → okP (law17_LanesStore_L1 x3 fuel s.L s.At y.Depth y.L y.Depth y.L (w64 ((i : Int) + 1))) (ctlQ (fun _ => False) (fun _ => True)) := fun s y hlt hs hy => by
      rw [w64_id (by omega) (by omega), show (i : Int) + 1 = ((i + 1 : Nat) : Int) by omega]
      exact store_L x3 fuel s.L s.At y.Depth y.L (i + 1) hlt (by omega) hs hy
    have body : i < 30 → okP ((keep_Src_Range (⟨a, at_⟩ : Src) (0 : Int) (14 : Int)).bind fun r_17 => (keep_Src_N r_17.2 (9 : Int)).bind fun r_18 => (keep_Src_N r_18.2 (3 : Int)).bind fun r_19 => some (r_17, r_18, r_19)) (fun z => SrcOk z.2.2.2) := fun _ =>
      okP_bind (Range_ok _ 0 14 hs (by omega) (by omega) (by omega)) fun r17 h17 => okP_bind (N_ok r17.2 9 h17.2.2 (by omega) (by omega)) fun r18 h18 => okP_bind (N_ok r18.2 3 h18.2.2 (by omega) (by omega)) fun r19 h19 => okP_some h19.2.2
    rw [law17_LanesStore_L1]
    refine okP_cond (fun h => ?_) (fun h => okP_some trivial)
    have hlt : i < 30 := by have := of_decide_eq_true h; omega
    refine okP_cond (fun _ => ?_) (fun _ => ?_)
    · refine okP_bind (Range_ok _ 0 14 hs (by omega) (by omega) (by omega)) fun r17 h17 => okP_bind (N_ok r17.2 9 h17.2.2 (by omega) (by omega)) fun r18 h18 => ?_
      refine okP_cond (fun _ => ?_) (fun _ => ?_)
      · refine okP_bind (N_ok r18.2 3 h18.2.2 (by omega) (by omega)) fun r19 h19 => okP_cond (fun _ => ?_) (fun _ => ?_)
        · exact takeK hx _ (K1 := fun d l d' l' => law17_LanesStore_L1 x3 fuel r19.2.L r19.2.At d l d' l' (w64 ((i : Int) + 1))) (fun y hy => rec_ r19.2 y hlt h19.2.2 hy) (rec_ r19.2 ⟨d, l⟩ hlt h19.2.2 hx)
        · exact putK hx _ (K1 := fun d l d' l' => law17_LanesStore_L1 x3 fuel r19.2.L r19.2.At d l d' l' (w64 ((i : Int) + 1))) (fun y hy => rec_ r19.2 y hlt h19.2.2 hy) (rec_ r19.2 ⟨d, l⟩ hlt h19.2.2 hx)
      · refine okP_bind (N_ok r18.2 3 h18.2.2 (by omega) (by omega)) fun r19 h19 => okP_cond (fun _ => ?_) (fun _ => ?_)
        · exact takeK hx _ (K1 := fun d l d' l' => law17_LanesStore_L1 x3 fuel r19.2.L r19.2.At d l d' l' (w64 ((i : Int) + 1))) (fun y hy => rec_ r19.2 y hlt h19.2.2 hy) (rec_ r19.2 ⟨d, l⟩ hlt h19.2.2 hx)
        · exact putK hx _ (K1 := fun d l d' l' => law17_LanesStore_L1 x3 fuel r19.2.L r19.2.At d l d' l' (w64 ((i : Int) + 1))) (fun y hy => rec_ r19.2 y hlt h19.2.2 hy) (rec_ r19.2 ⟨d, l⟩ hlt h19.2.2 hx)
    · unfold keep_Src_More
      simp only [Option.bind_some]
      refine okP_cond (fun _ => ?_) (fun _ => okP_some trivial)
      refine okP_bind (Range_ok _ 0 14 hs (by omega) (by omega) (by omega)) fun r17 h17 => okP_bind (N_ok r17.2 9 h17.2.2 (by omega) (by omega)) fun r18 h18 => ?_
      refine okP_cond (fun _ => ?_) (fun _ => ?_)
      · refine okP_bind (N_ok r18.2 3 h18.2.2 (by omega) (by omega)) fun r19 h19 => okP_cond (fun _ => ?_) (fun _ => ?_)
        · exact takeK hx _ (K1 := fun d l d' l' => law17_LanesStore_L1 x3 fuel r19.2.L r19.2.At d l d' l' (w64 ((i : Int) + 1))) (fun y hy => rec_ r19.2 y hlt h19.2.2 hy) (rec_ r19.2 ⟨d, l⟩ hlt h19.2.2 hx)
        · exact putK hx _ (K1 := fun d l d' l' => law17_LanesStore_L1 x3 fuel r19.2.L r19.2.At d l d' l' (w64 ((i : Int) + 1))) (fun y hy => rec_ r19.2 y hlt h19.2.2 hy) (rec_ r19.2 ⟨d, l⟩ hlt h19.2.2 hx)
      · refine okP_bind (N_ok r18.2 3 h18.2.2 (by omega) (by omega)) fun r19 h19 => okP_cond (fun _ => ?_) (fun _ => ?_)
        · exact takeK hx _ (K1 := fun d l d' l' => law17_LanesStore_L1 x3 fuel r19.2.L r19.2.At d l d' l' (w64 ((i : Int) + 1))) (fun y hy => rec_ r19.2 y hlt h19.2.2 hy) (rec_ r19.2 ⟨d, l⟩ hlt h19.2.2 hx)
        · exact putK hx _ (K1 := fun d l d' l' => law17_LanesStore_L1 x3 fuel r19.2.L r19.2.At d l d' l' (w64 ((i : Int) + 1))) (fun y hy => rec_ r19.2 y hlt h19.2.2 hy) (rec_ r19.2 ⟨d, l⟩ hlt h19.2.2 hx)

theorem new_ref (a b : Int) : ref17_New a b = lanes_New a b := rfl
theorem new_any (a b : Int) : okP (lanes_New a b) (fun _ => True) := by
  unfold lanes_New
  refine okP_cond (fun _ => okP_some trivial) fun h1 => okP_cond (fun _ => okP_some trivial) fun h2 => okP_cond (fun _ => okP_some trivial) fun h3 => okP_cond (fun _ => okP_some trivial) fun h4 => ?_
  have h1 := of_decide_eq_false h1
  have h2 := of_decide_eq_false h2
  exact okP_bindE (mkL_eq (by omega) (by omega)) (okP_some trivial)
theorem new_eq {a b : Int} (h1 : 1 ≤ a) (h2 : a ≤ 20) (h3 : 1 ≤ b) (h4 : b ≤ 20) : lanes_New a b = some (⟨b, List.replicate a.toNat []⟩, 0) := by
  unfold lanes_New
  rw [decide_eq_false (by omega), decide_eq_false (by omega), decide_eq_false (by omega), decide_eq_false (by omega)]
  simp only [cond_false]
  rw [mkL_eq (by omega) (by omega)]
  rfl
theorem new_ok {a b : Int} (h1 : 1 ≤ a) (h2 : a ≤ 20) (h3 : 1 ≤ b) (h4 : b ≤ 20) : LOk ⟨b, List.replicate a.toNat []⟩ := by
  refine ⟨by simp; omega, h4, fun l hl => ?_, fun l hl => ?_⟩
  · rw [(List.mem_replicate.1 hl).2]; simp
  · rw [(List.mem_replicate.1 hl).2]; simp; omega

theorem store_ok (l : List Int) (lines depth : Int) (raw : Stored) (_ : Q_Stored raw) : law17_LanesStore l lines depth raw = some true := by
  refine okP_eq ?_
  unfold law17_LanesStore
  refine okP_bind (New_ok l) fun r1 h1 => ?_
  rw [new_ref]
  obtain ⟨u, hu, _⟩ := new_any lines depth
  rw [hu]
  simp only [Option.bind_some, bne_self_eq_false, cond_false]
  rw [same_eq]
  simp only [Option.bind_some, Bool.not_true, cond_false]
  refine okP_bind (Range_ok r1 1 4 h1 (by omega) (by omega) (by omega)) fun r5 h5 => okP_bind (Range_ok r5.2 1 4 h5.2.2 (by omega) (by omega) (by omega)) fun r6 h6 => ?_
  rw [new_ref, new_eq h5.1 (by have := h5.2.1; omega) h6.1 (by have := h6.2.1; omega)]
  simp only [Option.bind_some, bne_self_eq_false, cond_false]
  rw [same_eq]
  simp only [Option.bind_some, Bool.not_true, cond_false]
  have hx := new_ok h5.1 (by have := h5.2.1; omega) h6.1 (by have := h6.2.1; omega)
  refine okP_finB (store_L raw 9223372036854775807 r6.2.L r6.2.At _ _ 0 (by omega) (by omega) h6.2.2 hx) fun _ _ => ?_
  rw [awake17]
  exact okP_some rfl
end Go.Proofs.Ytkefkegknacpjaa.Ex
