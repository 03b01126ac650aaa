/- Plain facts about one tick of a strip; no program is in sight here but through the definitions. -/
import Derived.Test.YtbopbmmalfobiaaStripD
import Derived.Test.YtbopbmmalfobiaaStripE
import Derived.Test.YtbopbmmalfobiaaStripF
namespace Go.Proofs.Ytbopbmmalfobiaa

theorem stepS_length (s fs : List Int) (op : Bool) (k : Nat) (st : List Int × Int) : (stepS s fs op k st).1.length = st.1.length := by
  unfold stepS
  split
  · rfl
  · split
    · simp
    · split <;> simp

theorem advS_length (s fs : List Int) (op : Bool) (k : Nat) (st : List Int × Int) : (advS s fs op k st).1.length = st.1.length := by
  induction k generalizing st with
  | zero => rfl
  | succ k ih => rw [advS, ih, stepS_length]

theorem advance_length (s fs : List Int) (op : Bool) : (advance s fs op).1.length = s.length := advS_length _ _ _ _ _

theorem advS_leaves (s fs : List Int) (op : Bool) (k : Nat) (hk : k ≤ s.length) (st : List Int × Int) (p : Int → Prop) (h : ∀ x ∈ s, p x) (h0 : p st.2) : p (advS s fs op k st).2 := by
  induction k generalizing st with
  | zero => exact h0
  | succ k ih =>
    rw [advS]
    refine ih (by omega) _ ?_
    unfold stepS
    split
    · exact h0
    · split
      · exact h0
      · split
        · refine h _ ?_
          have : k < s.length := by omega
          unfold atF
          simp [this]
        · exact h0

theorem advance_leaves (s fs : List Int) (op : Bool) (p : Int → Prop) (h : ∀ x ∈ s, p x) (h0 : p 0) : p (advance s fs op).2 := advS_leaves s fs op _ (Nat.le_refl _) _ p h h0

/-- the windows of the law, one after another -/
def genW : Nat → Nat → List (List Int)
  | 0, _ => [[]]
  | n + 1, i => (genW n (i + 1)).flatMap fun t => [0 :: t, ((i : Int) + 1) :: t]

theorem mem_genW : ∀ (ws : List Int) (i : Nat), (∀ j, j < ws.length → ws[j]?.getD 0 = 0 ∨ ws[j]?.getD 0 = ((i + j : Nat) : Int) + 1) → ws ∈ genW ws.length i
  | [], _, _ => by simp [genW]
  | x :: t, i, h => by
    have h0 := h 0 (by simp)
    have ht := mem_genW t (i + 1) (fun j hj => by
      have := h (j + 1) (by simpa using hj)
      simp only [List.getElem?_cons_succ] at this
      rw [show i + 1 + j = i + (j + 1) by omega]
      exact this)
    simp only [List.length_cons, genW, List.mem_flatMap]
    refine ⟨t, ht, ?_⟩
    simp only [List.getElem?_cons_zero, Option.getD_some, Nat.add_zero] at h0
    rcases h0 with rfl | rfl <;> simp

theorem WinOK.mem {ws fs : List Int} (h : WinOK ws fs) : ws ∈ genW ws.length 0 := mem_genW ws 0 (fun j hj => by simpa using h.2.2.2.1 j hj)

def allW (c : List Int → Bool) : Bool := (((genW 1 0).all c && (genW 2 0).all c) && ((genW 3 0).all c && (genW 4 0).all c)) && (((genW 5 0).all c && (genW 6 0).all c) && ((genW 7 0).all c && (genW 8 0).all c))

/-- a Bool that holds of all windows of 1 to 8 holds of the law's -/
theorem WinOK.all {ws fs : List Int} (h : WinOK ws fs) (c : List Int → Bool) (hc : allW c = true) : c ws = true := by
  simp only [allW, Bool.and_eq_true, List.all_eq_true] at hc
  have hm := h.mem
  obtain ⟨h1, h2, _⟩ := h
  have : ws.length = 1 ∨ ws.length = 2 ∨ ws.length = 3 ∨ ws.length = 4 ∨ ws.length = 5 ∨ ws.length = 6 ∨ ws.length = 7 ∨ ws.length = 8 := by omega
  rcases this with e | e | e | e | e | e | e | e <;> rw [e] at hm
  · exact hc.1.1.1 _ hm
  · exact hc.1.1.2 _ hm
  · exact hc.1.2.1 _ hm
  · exact hc.1.2.2 _ hm
  · exact hc.2.1.1 _ hm
  · exact hc.2.1.2 _ hm
  · exact hc.2.2.1 _ hm
  · exact hc.2.2.2 _ hm

end Go.Proofs.Ytbopbmmalfobiaa
