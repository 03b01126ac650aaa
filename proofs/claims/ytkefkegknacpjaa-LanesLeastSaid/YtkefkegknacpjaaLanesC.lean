/- lanes.Assign, Count, Chain; slices.Index and Reverse. -/
import Derived.Test.YtkefkegknacpjaaLanesB
namespace Go.Proofs.Ytkefkegknacpjaa
open Go.RowKit

theorem due_le {due : List Int} (h : dueErr due = 0) : due.length ≤ 200 := by
  unfold dueErr at h
  split at h
  · omega
  · omega

def asgL (due : List Int) : List Int := if dueErr due = 0 then (asg due due.length).2.1 else []
def asgN (due : List Int) : Nat := if dueErr due = 0 then (asg due due.length).1.length else 0

def OwnRet (l : List Int) (d : Int) (w : World) (e : Ending) (w' : World) : Prop :=
  ∃ v2, e = .returned (.tuple #[v2, .int .i64 d]) ∧ OwnI w.heap.size w' v2 l ∧ Below w.heap.size w w'
def OwnOne (l : List Int) (w : World) (e : Ending) (w' : World) : Prop :=
  ∃ v2, e = .returned v2 ∧ OwnI w.heap.size w' v2 l ∧ Below w.heap.size w w'

theorem Assign_any (v : Value) (due : List Int) (w : World) (hv : IntsV w v due) :
    Calls Try.prog 11 #[v] w (OwnRet (asgL due) (dueErr due) w) := by
  have Q := checked_any v due w hv
  by_cases h : dueErr due = 0
  · have hl := due_le h
    have QA := assigned_any v due w hv hl
    unfold asgL
    rw [if_pos h]
    rw [h] at Q ⊢
    clear h
    go_enter Try.func11, Try.ntmps11
    go_wp2_with (first
      | (go_at_call 34; refine Q.mono ?_; rintro e w5 ⟨rfl, rfl⟩)
      | (go_at_call 35; refine QA.mono ?_; rintro e w5 ⟨v2, v3, rfl, h2, h3, hB⟩))
    go_ret2
    exact ⟨_, rfl, h2, hB⟩
  · unfold asgL
    rw [if_neg h]
    generalize dueErr due = d at *
    go_enter Try.func11, Try.ntmps11
    go_wp2_with (go_at_call 34; refine Q.mono ?_; rintro e w5 ⟨rfl, rfl⟩)
    go_ret2
    exact ⟨_, rfl, OwnI.nil _ _, Below.refl _ _⟩

theorem Count_any (v : Value) (due : List Int) (w : World) (hv : IntsV w v due) :
    Calls Try.prog 14 #[v] w fun e w' => e = .returned (.int .i64 (asgN due)) ∧ Below w.heap.size w w' := by
  have Q := checked_any v due w hv
  by_cases h : dueErr due = 0
  · have hl := due_le h
    have QA := assigned_any v due w hv hl
    unfold asgN
    rw [if_pos h]
    rw [h] at Q
    clear h
    go_enter Try.func14, Try.ntmps14
    go_wp2_with (first
      | (go_at_call 34; refine Q.mono ?_; rintro e w5 ⟨rfl, rfl⟩)
      | (go_at_call 35; refine QA.mono ?_; rintro e w5 ⟨v2, v3, rfl, h2, h3, hB⟩))
    go_ret
    exact ⟨rfl, hB⟩
  · unfold asgN
    rw [if_neg h]
    generalize dueErr due = d at *
    go_enter Try.func14, Try.ntmps14
    go_wp2_with (go_at_call 34; refine Q.mono ?_; rintro e w5 ⟨rfl, rfl⟩)
    go_ret
    exact ⟨rfl, Below.refl _ _⟩

/-- the first place of x from place k -/
def idxF (l : List Int) (x : Int) : Int := match l.findIdx? (· == x) with
  | some k => k
  | none => -1

theorem idx_hit {l : List Int} {x : Int} {k : Nat} (hk : k < l.length) (h : atF l k = x) (hb : ∀ j, j < k → atF l j ≠ x) : idxF l x = k := by
  have : l.findIdx? (· == x) = some k := by
    rw [List.findIdx?_eq_some_iff_getElem]
    refine ⟨hk, by simpa [atF, hk] using h, ?_⟩
    intro j hj
    have := hb j hj
    simp [atF, show j < l.length by omega] at this
    simpa using this
  unfold idxF
  rw [this]

theorem idx_none {l : List Int} {x : Int} (hb : ∀ j, j < l.length → atF l j ≠ x) : idxF l x = -1 := by
  have : l.findIdx? (· == x) = none := by
    rw [List.findIdx?_eq_none_iff]
    intro y hy
    obtain ⟨j, hj, rfl⟩ := List.mem_iff_getElem.1 hy
    have := hb j hj
    simp [atF, hj] at this
    simpa using this
  unfold idxF
  rw [this]

theorem Index_any (v : Value) (l : List Int) (x : Int) (w : World) (hv : IntsV w v l) :
    Calls Try.prog 38 #[v, .int .i64 x] w fun e w' => e = .returned (.int .i64 (idxF l x)) ∧ w = w' := by
  obtain ⟨a, c, rfl, la, _, ca⟩ := hv.open
  clear hv
  go_enter Try.func38, Try.ntmps38
  go_wp2
  go_loop [8] (fun i => ∃ k : Nat, k ≤ l.length ∧ i = .int .i64 k ∧ ∀ j, j < k → atF l j ≠ x) (fun i => l.length - (intOf i).toNat)
  case atStart => exact ⟨0, Nat.zero_le _, rfl, fun j hj => by omega⟩
  case round =>
    obtain ⟨k, hk, rfl, hall⟩ := hrel
    by_cases hlt : k < l.length
    · obtain ⟨b, o, rfl, hb, cc⟩ := ca (by omega)
      have d : w.cell? ⟨b, o + k, none⟩ = some (.int .i64 (atF l k)) := cc k hlt
      have hhit := fun h => idx_hit (x := x) hlt h hall
      have hstep : ∀ y, atF l k = y → y ≠ x → ∀ j, j < k + 1 → atF l j ≠ x := by
        intro y hy hyx j hj
        by_cases hjk : j = k
        · rw [hjk, hy]; exact hyx
        · exact hall j (by omega)
      clear cc ca hall
      obtain ⟨y, hy⟩ : ∃ y, atF l k = y := ⟨_, rfl⟩
      rw [hy] at d
      have HY := Lib.hid hy
      clear hy
      by_cases h0 : x = y
      · subst h0
        go_wp2
        go_ret
        exact ⟨ret_int (hhit HY.out).symm, rfl⟩
      · go_wp2
        go_round
        case rel => exact ⟨k + 1, by omega, by go_num, hstep y HY.out (fun h => h0 h.symm)⟩
        case measure => simp [intOf]; omega
    · go_wp2
      go_ret
      exact ⟨ret_int (idx_none (fun j hj => hall j (by omega))).symm, rfl⟩

/-- the row when i pairs are exchanged -/
def RevAt (l l' : List Int) (i : Nat) : Prop := l'.length = l.length ∧ ∀ j, j < l.length → atF l' j = if j < i ∨ l.length - i ≤ j then atF l (l.length - 1 - j) else atF l j

theorem rev_step {l l' : List Int} {i : Nat} (h : RevAt l l' i) (hi : 2 * i + 1 < l.length) :
    RevAt l ((l'.set i (atF l' (l.length - 1 - i))).set (l.length - 1 - i) (atF l' i)) (i + 1) := by
  obtain ⟨h1, h2⟩ := h
  refine ⟨by simp [h1], fun j hj => ?_⟩
  have e1 := h2 i (by omega)
  have e2 := h2 (l.length - 1 - i) (by omega)
  rw [if_neg (by omega)] at e1 e2
  have e3 := h2 j hj
  rw [e1, e2]
  unfold atF at *
  rw [List.getElem?_set, List.getElem?_set]
  by_cases c1 : l.length - 1 - i = j
  · subst c1
    rw [if_pos rfl, if_pos (by simp; omega), if_pos (by omega)]
    simp [show l.length - 1 - (l.length - 1 - i) = i by omega]
  · rw [if_neg c1]
    by_cases c2 : i = j
    · subst c2
      rw [if_pos rfl, if_pos (by omega), if_pos (by omega)]
      simp
    · rw [if_neg c2, e3]
      congr 1
      simp only [eq_iff_iff]
      omega

theorem rev_end {l l' : List Int} {i : Nat} (h : RevAt l l' i) (hi : l.length ≤ 2 * i + 1) : l' = l.reverse := by
  obtain ⟨h1, h2⟩ := h
  refine ext_getD (by simp [h1]) (fun j hj => ?_)
  have := h2 j (by omega)
  unfold atF at this
  rw [this, List.getElem?_reverse (by omega)]
  split
  · rfl
  · rw [show l.length - 1 - j = j by omega]

def RevPost (base : Nat) (v : Value) (l : List Int) (w : World) (e : Ending) (w' : World) : Prop :=
  e = .returned (.tuple #[]) ∧ OwnI base w' v l.reverse ∧ w.grownBy w' v.ownBlock

theorem Reverse_any (v : Value) (l : List Int) (base : Nat) (w : World) (hv : OwnI base w v l) :
    Calls Try.prog 39 #[v] w (RevPost base v l w) := by
  obtain ⟨a, c, rfl, la, _, _⟩ := hv.ints.open
  go_enter Try.func39, Try.ntmps39
  go_wp2
  go_loopw [2, 3] (fun i j wr => ∃ (k : Nat) (l' : List Int), i = .int .i64 k ∧ j = .int .i64 ((l.length : Int) - 1 - k) ∧ 2 * k ≤ l.length + 1 ∧ RevAt l l' k ∧ OwnI base wr (.slice a l.length c) l' ∧ w.grownBy wr (Value.ownBlock (.slice a l.length c)))
    (fun i _ _ => l.length - 2 * (intOf i).toNat)
  case atStart => exact ⟨0, l, rfl, by simp, by omega, ⟨rfl, fun j hj => by rw [if_neg (by omega)]⟩, hv, grownBy_refl _ _⟩
  case round =>
    obtain ⟨k, l', rfl, rfl, hk, hr, hO, hg⟩ := hrel
    by_cases hlt : 2 * k + 1 < l.length
    · have hl' := hr.1
      obtain ⟨g, cap, hvv, _, hgl, hfr, hcc⟩ := hO.open (by omega)
      simp only [Value.slice.injEq] at hvv
      obtain ⟨rfl, hvl, rfl⟩ := hvv
      have HVL := Lib.hid hvl
      clear hvl
      have hi1 : (l.length : Int) - 1 - (k : Int) = ((l.length - 1 - k : Nat) : Int) := by omega
      rw [hi1]
      have c1 := hcc k (by omega)
      have c2 := hcc (l.length - 1 - k) (by omega)
      have f1 := hfr k
      have f2 := hfr (l.length - 1 - k)
      have hst := rev_step hr hlt
      have hx1 : l'[k]?.getD 0 = atF l' k := rfl
      have hx2 : l'[l.length - 1 - k]?.getD 0 = atF l' (l.length - 1 - k) := rfl
      rw [hx1] at c1
      rw [hx2] at c2
      have s1 := hO.set k (atF l' (l.length - 1 - k)) (hO.2 _ (atF_mem (by omega)))
      have s2 := s1.set (l.length - 1 - k) (atF l' k) (hO.2 _ (atF_mem (by omega)))
      generalize hm : l.length - 1 - k = m at *
      have hm1 : m < l.length := by omega
      have hkm : (k : Int) < (m : Int) := by omega
      have hml : (m : Int) < (l.length : Int) := by omega
      have hkl : (k : Int) < (l.length : Int) := by omega
      generalize atF l' k = x at *
      generalize atF l' m = y at *
      have HM := Lib.hid hm
      have HL' := Lib.hid hl'
      have HI := Lib.hid hi1
      clear hm hl' hi1 hx1 hx2 hfr hcc
      go_wp2
      go_region
      all_goals
        go_wp2
        refine ⟨⟨k + 1, _, rfl, ?_, by omega, hst, s2.drew, ?_⟩, by simp [intOf]; omega⟩
        · have := HM.out; congr 1; omega
        · exact grownBy_trans hg (grownBy_trans (grownBy_set _ _ _ _) (grownBy_draws (grownBy_set _ _ _ _) 1))
    · go_wp2
      go_end0
      rw [rev_end hr (by omega)] at hO
      exact ⟨rfl, hO, hg⟩
end Go.Proofs.Ytkefkegknacpjaa
