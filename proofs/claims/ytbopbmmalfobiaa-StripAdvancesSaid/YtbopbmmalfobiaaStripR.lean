/- The reference's tick is the program's. -/
import Derived.Test.YtbopbmmalfobiaaStripQ
namespace Go.Proofs.Ytbopbmmalfobiaa

/-- the bag of window k is in window p behind the tick -/
def Dk (s fs : List Int) (op : Bool) (k p : Nat) : Prop :=
  atF s k ≠ 0 ∧ ((k + 1 < s.length ∧ dst s fs k = p) ∨ (k + 1 = s.length ∧ p = k ∧ ¬ (op = true ∧ atF fs k ≠ 1)))

theorem Dk.cases {s fs : List Int} {op : Bool} {k p : Nat} (h : Dk s fs op k p) : atF s k ≠ 0 ∧ (p = k ∨ (p = k + 1 ∧ atF s (k + 1) = 0) ∨ (p = k + 2 ∧ atF s (k + 1) = 0 ∧ atF s (k + 2) = 0)) := by
  refine ⟨h.1, ?_⟩
  rcases h.2 with ⟨_, h⟩ | ⟨_, h, _⟩
  · rcases tgt_cases s.length k (atF s (k + 1)) (atF s (k + 2)) (atF fs k) with h' | ⟨h', h1⟩ | ⟨h', h1, h2, _⟩
    · exact .inl (h.symm.trans h')
    · exact .inr (.inl ⟨h.symm.trans h', h1⟩)
    · exact .inr (.inr ⟨h.symm.trans h', h1, h2⟩)
  · exact .inl h

theorem Dk.inj_lt {s fs : List Int} {op : Bool} {k k' p : Nat} (h : Dk s fs op k p) (h' : Dk s fs op k' p) (hlt : k < k') : False := by
  obtain ⟨_, h1⟩ := h.cases
  obtain ⟨h0, h2⟩ := h'.cases
  have : k' = k + 1 ∨ k' = k + 2 := by omega
  rcases this with rfl | rfl
  · rcases h1 with h1 | h1 | h1
    · omega
    · exact h0 h1.2
    · exact h0 h1.2.1
  · rcases h1 with h1 | h1 | h1
    · omega
    · omega
    · exact h0 h1.2.2

theorem Dk.inj {s fs : List Int} {op : Bool} {k k' p : Nat} (h : Dk s fs op k p) (h' : Dk s fs op k' p) : k = k' := by
  rcases Nat.lt_trichotomy k k' with h1 | h1 | h1
  · exact (h.inj_lt h' h1).elim
  · exact h1
  · exact (h'.inj_lt h h1).elim

theorem Dk.ge {s fs : List Int} {op : Bool} {k p : Nat} (h : Dk s fs op k p) : k ≤ p := by
  obtain ⟨_, h1⟩ := h.cases
  omega

theorem Dk.k_lt {s fs : List Int} {op : Bool} {k p : Nat} (h : Dk s fs op k p) : k < s.length := atF_lt h.1

/-- what leaves -/
def lv (s fs : List Int) (op : Bool) : Int := if op = true ∧ atF fs (s.length - 1) ≠ 1 then atF s (s.length - 1) else 0

structure InvE (s fs : List Int) (op : Bool) (j : Nat) (st : List Int × Int) : Prop where
  len : st.1.length = s.length
  old : ∀ p, p < j → atF st.1 p = atF s p
  now : ∀ p, j ≤ p → p < s.length → (∃ k, j ≤ k ∧ Dk s fs op k p ∧ atF st.1 p = atF s k) ∨ ((∀ k, j ≤ k → ¬ Dk s fs op k p) ∧ atF st.1 p = 0)
  x0 : j = s.length → st.2 = 0
  x1 : j < s.length → st.2 = lv s fs op

theorem InvE.step {s fs : List Int} {op : Bool} {k : Nat} {st : List Int × Int} (hk : k < s.length) (h : InvE s fs op (k + 1) st) : InvE s fs op k (stepS s fs op k st) := by
  obtain ⟨o, x⟩ := st
  obtain ⟨h1, h2, h3, h4, h5⟩ := h
  simp only at *
  have hok : atF o k = atF s k := h2 k (by omega)
  have hx : k + 1 = s.length ∨ x = lv s fs op := by
    rcases Nat.lt_or_ge (k + 1) s.length with h | h
    · exact .inr (h5 h)
    · exact .inl (by omega)
  -- what is said of the windows from k + 1 on is said from k on, where the bag of k goes elsewhere
  have keep : ∀ p, k + 1 ≤ p → p < s.length → ¬ Dk s fs op k p → (∃ k', k ≤ k' ∧ Dk s fs op k' p ∧ atF o p = atF s k') ∨ ((∀ k', k ≤ k' → ¬ Dk s fs op k' p) ∧ atF o p = 0) := by
    intro p hp hps hn
    rcases h3 p hp hps with ⟨k', a, b, c⟩ | ⟨a, b⟩
    · exact .inl ⟨k', by omega, b, c⟩
    · refine .inr ⟨fun k' hk' hd => ?_, b⟩
      rcases Nat.lt_or_ge k k' with h | h
      · exact a k' h hd
      · obtain rfl : k' = k := by omega
        exact hn hd
  unfold stepS
  by_cases hz : atF s k = 0
  · rw [if_pos hz]
    refine ⟨h1, fun p hp => h2 p (by omega), fun p hp hps => ?_, fun h => by omega, fun _ => ?_⟩
    · rcases Nat.lt_or_ge k p with h | h
      · exact keep p h hps (fun hd => hd.1 hz)
      · obtain rfl : p = k := by omega
        exact .inr ⟨fun k' hk' hd => by have := hd.ge; obtain rfl : k' = p := by omega
                                        exact hd.1 hz, hok.trans hz⟩
    · rcases hx with hx | hx
      · simp only
        rw [h4 hx, lv, show s.length - 1 = k by omega, hz]
        simp
      · exact hx
  · rw [if_neg hz]
    by_cases hk1 : k + 1 < s.length
    · rw [if_pos hk1]
      have tb := tgt_bd s.length k (atF s (k + 1)) (atF s (k + 2)) (atF fs k) hk1
      generalize htt : tgt s.length k (atF s (k + 1)) (atF s (k + 2)) (atF fs k) = t at *
      have hd' : Dk s fs op k t := ⟨hz, .inl ⟨hk1, htt⟩⟩
      have hot : t = k ∨ atF o t = 0 := by
        rcases Nat.lt_or_ge k t with h | h
        · rcases h3 t h (by omega) with ⟨k', a, b, _⟩ | ⟨_, b⟩
          · have := b.inj hd'
            omega
          · exact .inr b
        · exact .inl (by omega)
      refine ⟨by simp [h1], fun p hp => ?_, fun p hp hps => ?_, fun h => by omega, fun _ => (hx.resolve_left (by omega))⟩
      · simp only
        rw [atF_set_ne _ (by omega), atF_set_ne _ (by omega)]
        exact h2 p (by omega)
      · simp only
        by_cases hpt : p = t
        · subst hpt
          refine .inl ⟨k, Nat.le_refl _, hd', ?_⟩
          rw [atF_set_same _ (by simp; omega)]
          exact hok
        · rw [atF_set_ne _ (fun e => hpt e.symm)]
          by_cases hpk : p = k
          · subst hpk
            rw [atF_set_same _ (by omega)]
            refine .inr ⟨fun k' hk' hdk => ?_, ?_⟩
            · have := hdk.ge
              obtain rfl : k' = p := by omega
              rcases hdk.2 with ⟨_, e⟩ | ⟨e, _⟩
              · exact hpt (e.symm.trans htt)
              · omega
            · exact hot.resolve_left (fun e => hpt e.symm)
          · rw [atF_set_ne _ (fun e => hpk e.symm)]
            refine keep p (by omega) hps (fun hdk => ?_)
            rcases hdk.2 with ⟨_, e⟩ | ⟨e, _⟩
            · exact hpt (e.symm.trans htt)
            · omega
    · rw [if_neg hk1]
      have hkl : k + 1 = s.length := by omega
      have hlv : lv s fs op = if op = true ∧ atF fs k ≠ 1 then atF s k else 0 := by rw [lv, show s.length - 1 = k by omega]
      by_cases hop : op = true ∧ atF fs k ≠ 1
      · rw [if_pos hop]
        refine ⟨by simp [h1], fun p hp => ?_, fun p hp hps => ?_, fun h => by omega, fun _ => by rw [hlv, if_pos hop]⟩
        · simp only
          rw [atF_set_ne _ (by omega)]
          exact h2 p (by omega)
        · obtain rfl : p = k := by omega
          simp only
          rw [atF_set_same _ (by omega)]
          refine .inr ⟨fun k' hk' hdk => ?_, rfl⟩
          have := hdk.ge
          obtain rfl : k' = p := by omega
          rcases hdk.2 with ⟨e, _⟩ | ⟨_, _, e⟩
          · omega
          · exact e hop
      · rw [if_neg hop]
        refine ⟨h1, fun p hp => h2 p (by omega), fun p hp hps => ?_, fun h => by omega, fun _ => by rw [hlv, if_neg hop]; exact h4 hkl⟩
        obtain rfl : p = k := by omega
        exact .inl ⟨p, Nat.le_refl _, ⟨hz, .inr ⟨hkl, rfl, hop⟩⟩, hok⟩

theorem InvE.adv {s fs : List Int} {op : Bool} : ∀ (k : Nat) (st : List Int × Int), k ≤ s.length → InvE s fs op k st → InvE s fs op 0 (advS s fs op k st)
  | 0, _, _, h => h
  | k + 1, _, hk, h => InvE.adv k _ (by omega) (h.step (by omega))

theorem advance_inv (s fs : List Int) (op : Bool) : InvE s fs op 0 (advance s fs op) :=
  InvE.adv s.length (s, 0) (Nat.le_refl _) ⟨rfl, fun _ _ => rfl, fun p h h' => by omega, fun _ => rfl, fun h => by omega⟩

structure InvR (s fs : List Int) (op : Bool) (j : Nat) (st : List Int × Int) : Prop where
  len : st.1.length = s.length
  now : ∀ p, p < s.length → (∃ k, k < j ∧ Dk s fs op k p ∧ atF st.1 p = atF s k) ∨ ((∀ k, k < j → ¬ Dk s fs op k p) ∧ atF st.1 p = 0)
  x0 : j < s.length → st.2 = 0
  x1 : j = s.length → 0 < s.length → st.2 = lv s fs op

theorem InvR.put {s fs : List Int} {op : Bool} {k t : Nat} {o : List Int} (hl : o.length = s.length) (ht : t < s.length) (hd : Dk s fs op k t) (hu : ∀ p, Dk s fs op k p → p = t)
    (h : ∀ p, p < s.length → (∃ k', k' < k ∧ Dk s fs op k' p ∧ atF o p = atF s k') ∨ ((∀ k', k' < k → ¬ Dk s fs op k' p) ∧ atF o p = 0)) :
    ∀ p, p < s.length → (∃ k', k' < k + 1 ∧ Dk s fs op k' p ∧ atF (o.set t (atF s k)) p = atF s k') ∨ ((∀ k', k' < k + 1 → ¬ Dk s fs op k' p) ∧ atF (o.set t (atF s k)) p = 0) := by
  intro p hp
  by_cases hpt : p = t
  · subst hpt
    exact .inl ⟨k, by omega, hd, atF_set_same _ (by omega)⟩
  · rw [atF_set_ne _ (fun e => hpt e.symm)]
    rcases h p hp with ⟨k', a, b, c⟩ | ⟨a, b⟩
    · exact .inl ⟨k', by omega, b, c⟩
    · refine .inr ⟨fun k' hk' hdk => ?_, b⟩
      rcases Nat.lt_or_ge k' k with h' | h'
      · exact a k' h' hdk
      · obtain rfl : k' = k := by omega
        exact hpt (hu p hdk)

theorem InvR.none {s fs : List Int} {op : Bool} {k : Nat} {o : List Int} (hn : ∀ p, ¬ Dk s fs op k p)
    (h : ∀ p, p < s.length → (∃ k', k' < k ∧ Dk s fs op k' p ∧ atF o p = atF s k') ∨ ((∀ k', k' < k → ¬ Dk s fs op k' p) ∧ atF o p = 0)) :
    ∀ p, p < s.length → (∃ k', k' < k + 1 ∧ Dk s fs op k' p ∧ atF o p = atF s k') ∨ ((∀ k', k' < k + 1 → ¬ Dk s fs op k' p) ∧ atF o p = 0) := by
  intro p hp
  rcases h p hp with ⟨k', a, b, c⟩ | ⟨a, b⟩
  · exact .inl ⟨k', by omega, b, c⟩
  · refine .inr ⟨fun k' hk' hdk => ?_, b⟩
    rcases Nat.lt_or_ge k' k with h' | h'
    · exact a k' h' hdk
    · obtain rfl : k' = k := by omega
      exact hn p hdk

theorem InvR.step {s fs : List Int} {op : Bool} {k : Nat} {st : List Int × Int} (hk : k < s.length) (h : InvR s fs op k st) : InvR s fs op (k + 1) (stepR s fs op k st) := by
  obtain ⟨o, x⟩ := st
  obtain ⟨h1, h3, h4, h5⟩ := h
  simp only at *
  have hx := h4 hk
  have hlv : k + 1 = s.length → lv s fs op = if op = true ∧ atF fs k ≠ 1 then atF s k else 0 := fun e => by rw [lv, show s.length - 1 = k by omega]
  unfold stepR
  by_cases hz : atF s k = 0
  · rw [if_pos hz]
    exact ⟨h1, InvR.none (fun p hd => hd.1 hz) h3, fun _ => hx, fun e _ => by rw [hlv e, hz]; simp [hx]⟩
  · rw [if_neg hz]
    by_cases hk1 : k + 1 < s.length
    · rw [if_pos hk1]
      have tb := tgt_bd s.length k (atF s (k + 1)) (atF s (k + 2)) (atF fs k) hk1
      refine ⟨by simp [h1], InvR.put h1 tb.2 ⟨hz, .inl ⟨hk1, rfl⟩⟩ (fun p hd => ?_) h3, fun _ => hx, fun e => by omega⟩
      rcases hd.2 with ⟨_, e⟩ | ⟨e, _⟩
      · exact e.symm
      · omega
    · rw [if_neg hk1]
      have hkl : k + 1 = s.length := by omega
      by_cases hop : op = true ∧ atF fs k ≠ 1
      · rw [if_pos hop]
        refine ⟨h1, InvR.none (fun p hd => ?_) h3, fun e => by omega, fun e _ => by rw [hlv e, if_pos hop]⟩
        rcases hd.2 with ⟨e, _⟩ | ⟨_, _, e⟩
        · omega
        · exact e hop
      · rw [if_neg hop]
        refine ⟨by simp [h1], InvR.put h1 hk ⟨hz, .inr ⟨hkl, rfl, hop⟩⟩ (fun p hd => ?_) h3, fun e => by omega, fun e _ => by rw [hlv e, if_neg hop]; exact hx⟩
        rcases hd.2 with ⟨e, _⟩ | ⟨_, e, _⟩
        · omega
        · exact e

theorem InvR.adv {s fs : List Int} {op : Bool} : ∀ (m k : Nat) (st : List Int × Int), k + m = s.length → InvR s fs op k st → InvR s fs op s.length (advR s fs op k st m)
  | 0, k, _, hk, h => by obtain rfl : k = s.length := by omega
                         exact h
  | m + 1, k, _, hk, h => InvR.adv m (k + 1) _ (by omega) (h.step (by omega))

theorem advanceR_eq (s fs : List Int) (op : Bool) : advanceR s fs op = advance s fs op := by
  have hS := advance_inv s fs op
  have hR : InvR s fs op s.length (advanceR s fs op) := InvR.adv s.length 0 _ (by omega)
    ⟨by simp, fun p hp => .inr ⟨fun k hk => by omega, by simp [atF, hp]⟩, fun _ => rfl, fun e h => by omega⟩
  apply Prod.ext
  · apply List.ext_getElem (hR.len.trans hS.len.symm)
    intro p hp _
    have hps : p < s.length := by rw [hR.len] at hp; exact hp
    rw [atF_get, atF_get]
    rcases hR.now p hps with ⟨k, _, b, c⟩ | ⟨a, b⟩ <;> rcases hS.now p (Nat.zero_le _) hps with ⟨k', _, b', c'⟩ | ⟨a', b'⟩
    · rw [c, c', b.inj b']
    · exact (a' k (Nat.zero_le _) b).elim
    · exact (a k' b'.k_lt b').elim
    · rw [b, b']
  · rcases Nat.eq_zero_or_pos s.length with h0 | h0
    · have : s = [] := List.eq_nil_of_length_eq_zero h0
      subst this
      rfl
    · rw [hR.x1 rfl h0, hS.x1 h0]
end Go.Proofs.Ytbopbmmalfobiaa
