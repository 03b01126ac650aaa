/- Law LanesLeast returns true for every input. -/
import Derived.Test.YtkefkegknacpjaaLawLCert
import Derived.Deep.CutRange
namespace Go.Proofs.Ytkefkegknacpjaa
open Go.RowKit Go.Maps

/-- more places than values: two places have the same value -/
theorem pigeon : ∀ (n : Nat) (f : Nat → Int), (∀ t, t ≤ n → 0 ≤ f t ∧ f t < n) → ∃ s t, s < t ∧ t ≤ n ∧ f s = f t := by
  intro n
  induction n with
  | zero => intro f h; have := h 0 (Nat.le_refl 0); omega
  | succ n ih =>
    intro f h
    by_cases hc : ∃ s, s < n + 1 ∧ f s = f (n + 1)
    · obtain ⟨s, h1, h2⟩ := hc
      exact ⟨s, n + 1, h1, Nat.le_refl _, h2⟩
    · have hne : ∀ s, s < n + 1 → f s ≠ f (n + 1) := fun s hs e => hc ⟨s, hs, e⟩
      obtain ⟨s, t, h1, h2, h3⟩ := ih (fun t => if f t = n then f (n + 1) else f t) (by
        intro t ht
        have a1 := h t (by omega)
        have a2 := h (n + 1) (Nat.le_refl _)
        have a3 := hne t (by omega)
        show 0 ≤ (if f t = n then f (n + 1) else f t) ∧ (if f t = n then f (n + 1) else f t) < n
        split <;> omega)
      have h3' : (if f s = n then f (n + 1) else f s) = (if f t = n then f (n + 1) else f t) := h3
      have b1 := hne s (by omega)
      have b2 := hne t (by omega)
      refine ⟨s, t, h1, by omega, ?_⟩
      split at h3' <;> split at h3' <;> omega

theorem chain_rises (due : List Int) (h : dueErr due = 0) (s d : Nat) (hd : s + (d + 1) < (chainF due).length) :
    atF (chainF due) s < atF (chainF due) (s + (d + 1)) ∧ atF due (atF (chainF due) (s + (d + 1))).toNat < atF due (atF (chainF due) s).toNat := by
  obtain ⟨_, _, hc⟩ := chain_facts due h
  induction d with
  | zero => exact hc s hd
  | succ d ih =>
    have h1 := ih (by omega)
    have h2 := hc (s + (d + 1)) (by omega)
    rw [show s + (d + 1 + 1) = s + (d + 1) + 1 by omega]
    omega

/-- fewer lanes: a bag is in the way -/
theorem least_bad {due a : List Int} (h : dueErr due = 0) (hn : 2 ≤ asgN due) (hl : a.length = due.length) (ha : ∀ x ∈ a, 0 ≤ x ∧ x < (asgN due : Int) - 1) : checkF due a = 9 := by
  obtain ⟨c1, c2, _⟩ := chain_facts due h
  obtain ⟨n, hN⟩ : ∃ n, asgN due = n + 1 := ⟨asgN due - 1, by omega⟩
  obtain ⟨s, t, h1, h2, h3⟩ := pigeon n (fun t => atF a (atF (chainF due) t).toNat) (by
    intro t ht
    have hx := c2 _ (atF_mem (l := chainF due) (k := t) (by omega))
    have := ha _ (atF_mem (l := a) (k := (atF (chainF due) t).toNat) (by omega))
    show 0 ≤ atF a (atF (chainF due) t).toNat ∧ atF a (atF (chainF due) t).toNat < n
    omega)
  have h3' : atF a (atF (chainF due) s).toNat = atF a (atF (chainF due) t).toNat := h3
  obtain ⟨d, hd⟩ : ∃ d, t = s + (d + 1) := ⟨t - s - 1, by omega⟩
  have hr := chain_rises due h s d (by omega)
  rw [← hd] at hr
  have x1 := c2 _ (atF_mem (l := chainF due) (k := s) (by omega))
  have x2 := c2 _ (atF_mem (l := chainF due) (k := t) (by omega))
  refine check_bad (i := (atF (chainF due) t).toNat) (k := (atF (chainF due) s).toNat) h hl ?_ (by omega) (by omega) (fun hp => ?_)
  · rw [List.any_eq_false]
    intro x hx
    have := ha x hx
    simp
    omega
  · have := hp h3'
    omega

/-- one lane is enough: all in lane 0 -/
theorem least_one {due : List Int} (h : dueErr due = 0) (hn : asgN due = 1) : checkF due (List.replicate due.length 0) = 0 := by
  have hl : (asgL due).length = due.length := (asgL_len due).trans (if_pos h)
  have : asgL due = List.replicate due.length 0 := by
    rw [List.eq_replicate_iff]
    refine ⟨hl, fun x hx => ?_⟩
    obtain ⟨k, hk, rfl⟩ := List.getElem_of_mem hx
    have := asgL_lt (due := due) k hk
    have e : atF (asgL due) k = (asgL due)[k] := by simp [atF, hk]
    omega
  rw [← this]
  exact asgL_ok h

set_option maxHeartbeats 1000000 in
theorem LanesLeast_any (u v : Value) (l m : List Int) (w : World) (hu : IntsV w u l) (hv : IntsV w v m) :
    Calls Try.prog 5 #[u, v] w fun e w' => e = .returned (.bool true) ∧ Below w.heap.size w w' := by
  have TM := times_any u l w hu
  obtain ⟨a', c', rfl, la', _, _⟩ := hu.open
  obtain ⟨a'', c'', rfl, la'', _, _⟩ := hv.open
  have HV := Lib.hid hv
  clear hv
  go_enter Try.func5, Try.ntmps5
  go_upto_if 15 with (first
    | (go_at_call 10; refine TM.mono ?_; rintro e w1 ⟨v1, due, rfl, hO1, ho1, ho2, hB1⟩; obtain ⟨a1, c1, rfl, _, _, _⟩ := hO1.ints.open; have HE := Lib.hid (times_err ho1 ho2); have HD := Lib.hid hO1.ints; clear ho2)
    | (go_at_call 14; refine (Count_any _ due w1 HD.out).mono ?_; rintro e w2 ⟨rfl, hB2⟩; have hB12 := hB1.trans (hB2.mono hB1.size); have HD2 := Lib.hid (HD.out.below hB2)))
  clear TM hO1 hB1
  by_cases h0 : asgN due = 0
  · have hd : due = [] := by
      by_cases e : due = []
      · exact e
      · exact absurd ((asgN_pos due).2 (fun x => x.elim e (fun y => y HE.out))) (by omega)
    subst hd
    have h0i : (asgN [] : Int) = 0 := by omega
    rw [h0i]
    go_wp2_with (go_at_call 9; refine (awake_any _).mono ?_; rintro e w6 ⟨rfl, hB6⟩)
    go_ret
    exact ⟨rfl, hB12.trans (hB6.mono hB12.size)⟩
  · have hn1 : ¬ (asgN due : Int) < 1 := by omega
    have hl0 : 0 < due.length := by
      have := asgN_le due
      omega
    have hv2 := HV.out.below hB12
    by_cases h1 : asgN due = 1
    · have h1i : (asgN due : Int) = 1 := by omega
      have HC := Lib.hid (least_one HE.out h1)
      clear hn1 h0 h1
      rw [h1i]
      go_wp2_with (go_at_call 21; refine (New_any _ m w2 hv2).mono ?_; rintro e w3 ⟨b, rfl, hs3, hB3⟩; have hB13 := hB12.trans (hB3.mono hB12.size); have HD3 := Lib.hid (HD2.out.below hB3))
      go_loopw [8, 9] (fun a i wr => a = .slice none 0 0 ∧ i = .int .i64 0 ∧ wr = w3) (fun _ _ _ => 0)
      case atStart => exact ⟨rfl, rfl, rfl⟩
      case round =>
        obtain ⟨rfl, rfl, rfl⟩ := hrel
        go_wp2_with (first
          | (at_make; refine wpList_makeI rfl _ _ rfl wr.heap.size due.length rfl rfl (by omega) (Nat.le_refl _) ?_; intro w4 hown hgrow; have hB4 := below_none hgrow; have hB14 := hB13.trans (hB4.mono hB13.size))
          | (go_at_call 18; refine (Check_any _ _ due _ w4 (HD3.out.below hB4) hown.ints).mono ?_; rintro e w5 ⟨rfl, hB5⟩; rw [HC.out]; have hB15 := hB14.trans (hB5.mono hB14.size))
          | (go_at_call 9; refine (awake_any _).mono ?_; rintro e w6 ⟨rfl, hB6⟩))
        go_ret
        exact ⟨rfl, hB15.trans (hB6.mono hB15.size)⟩
    · have hn2 : ((asgN due : Int) == 1) = false := by simp; omega
      have hne : (asgN due : Int) ≠ 1 := by omega
      have hn29 : asgN due ≤ 29 := by have := asgN_le due; omega
      have hge : 2 ≤ asgN due := by omega
      go_wp2_with (go_at_call 21; refine (New_any _ m w2 hv2).mono ?_; rintro e w3 ⟨b, rfl, hs3, hB3⟩; have hB13 := hB12.trans (hB3.mono hB12.size); have HD3 := Lib.hid (HD2.out.below hB3))
      have hbw := hs3.lt
      go_loopw [8, 9] (fun a i wr => ∃ (k : Nat) (cs r : List Int), i = .int .i64 k ∧ k ≤ due.length ∧ cs.length = k ∧ OwnI w3.heap.size wr a cs ∧ SrcR w2.heap.size wr b r ∧ (∀ x ∈ cs, 0 ≤ x ∧ x < (asgN due : Int) - 1) ∧ Below w2.heap.size w2 wr ∧ w3.heap.size ≤ wr.heap.size)
        (fun _ i _ => due.length - (intOf i).toNat)
      case atStart => exact ⟨0, [], _, rfl, Nat.zero_le _, rfl, OwnI.nil _ _, hs3, by simp, hB3, Nat.le_refl _⟩
      case round =>
        obtain ⟨k, cs, r, rfl, hk, hcl, hO, hs, hbd, hB, hsz⟩ := hrel
        have HBD := Lib.hid hbd
        have HCL := Lib.hid hcl
        have mN := modF_bd (r.headD 0) ((asgN due : Int) - 1) (by omega)
        have QN := N_any _ _ _ ((asgN due : Int) - 1) wr hs (by omega)
        generalize hmod : modF (r.headD 0) ((asgN due : Int) - 1) = y at *
        have HMOD := Lib.hid hmod
        clear hbd hcl hmod
        by_cases hki : k < due.length
        · go_wp2_with (first
            | (go_at_call 22; refine QN.mono ?_; rintro e w4 ⟨rfl, hs4, hg4⟩; have hO4 := hO.other hg4 (own_src hO hbw); have hB4 := below_grown hB hg4 hB.size hs.ge; have hsz4 := hg4.size)
            | (at_builtin; refine wpList_append1I rfl _ _ rfl w3.heap.size _ cs _ _ rfl rfl rfl hO4 (small_wf _ (by omega) (by omega)) (by have := HCL.out; omega) (by omega) ?_; intro v' wA hOA hgA))
          go_roundw
          case rel =>
            have hsA := hgA.size
            have hgg : w4.grownBy wA u8.ownBlock := grownBy_trans (World.grownBy_alloc _ _ _) hgA
            refine ⟨k + 1, _, r.tail, by go_num, by omega, by rw [List.length_append, HCL.out]; rfl, hOA, hs4.other hgg (fun g hg => ⟨by have := (hO.1.lt g hg).1; have := hB3.size; omega, fun e => by have := (hO.1.lt g hg).1; omega⟩), ?_, own_app (hO4.below hB3.size) hB4 hB4.size hgA, by simp at hsA; omega⟩
            intro x hx
            rcases List.mem_append.1 hx with hx | hx
            · exact HBD.out x hx
            · obtain rfl := List.mem_singleton.1 hx
              exact mN
          case measure => simp [intOf]; omega
        · obtain rfl : k = due.length := by omega
          obtain ⟨a8, c8, rfl, _⟩ := hO.ints.open
          have hBw := hB12.trans (hB.mono hB12.size)
          go_wp2_with (first
            | (go_at_call 18; refine (Check_any _ _ due cs wr (HD2.out.below hB) hO.ints).mono ?_; rintro e w5 ⟨rfl, hB5⟩; rw [least_bad HE.out hge HCL.out HBD.out]; have hBw5 := hBw.trans (hB5.mono hBw.size))
            | (go_at_call 9; refine (awake_any _).mono ?_; rintro e w6 ⟨rfl, hB6⟩))
          go_ret
          exact ⟨rfl, hBw5.trans (hB6.mono hBw5.size)⟩
end Go.Proofs.Ytkefkegknacpjaa
