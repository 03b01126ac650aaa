/- Authority: what keep.Src draws; finding a departure; the state of a passenger. -/
/- Authority: decisions of the program and of the reference. -/
/- Authority: the laws AuthorityDecides, AuthorityNever, AuthorityFinal, AuthorityRulings, AuthorityCancelled, in plain Lean. -/
import Derived.Test.YtbiofbmjonmglaaDoorBd1
namespace Go.Proofs.YtbiofbmjonmglaaDoor.Ex
open Go.RowKit Go.Proofs.YtbiofbmjonmglaaDoor.Ax
set_option linter.unusedVariables false
set_option linter.unusedSimpArgs false

theorem Text_ok (s : Src) (l : List ByteArray) (h : SrcOk s) (h1 : 1 ≤ l.length) (h2 : l.length ≤ 1000000) : okP (keep_Src_Text s l) (fun r => r.1 ∈ l ∧ SrcOk r.2) := by
  unfold keep_Src_Text
  refine okP_bind (N_ok s _ h (by omega) (by omega)) (fun r ⟨r1, r2, r3⟩ => ?_)
  exact okP_bind (okP_ixL (Q := fun x => x ∈ l) r1 r2 (fun x hx _ => hx)) (fun x hx => okP_some ⟨hx, r3⟩)
def fl (f : Nat) : Flight := ⟨⟨#[66, 65]⟩, 1 + ((f / 3 : Nat) : Int), ⟨#[]⟩, 1 + ((f % 3 : Nat) : Int)⟩
theorem fl_eq {f : Nat} (h : f < 5) : keep_Flights (f : Int) = some (fl f) := by
  match f, h with
  | 0, _ =>
    have e : keep_Flights (0 : Int) = some (fl 0) := by kernel_rfl
    exact e
  | 1, _ =>
    have e : keep_Flights (1 : Int) = some (fl 1) := by kernel_rfl
    exact e
  | 2, _ =>
    have e : keep_Flights (2 : Int) = some (fl 2) := by kernel_rfl
    exact e
  | 3, _ =>
    have e : keep_Flights (3 : Int) = some (fl 3) := by kernel_rfl
    exact e
  | 4, _ =>
    have e : keep_Flights (4 : Int) = some (fl 4) := by kernel_rfl
    exact e
theorem fl_lt {f g : Nat} (h : f < g) (hg : g < 5) : flt (fl f) (fl g) := by
  have h0 : (List.range 5).all (fun g => (List.range g).all fun f => cmpF (fl f) (fl g) == -1) = true := by kernel_rfl
  have := List.all_eq_true.1 (List.all_eq_true.1 h0 g (List.mem_range.2 hg)) f (List.mem_range.2 h)
  exact eq_of_beq this
theorem fl_valid {f : Nat} (h : f < 5) : flight_Valid (fl f) = some true := by
  match f, h with
  | 0, _ => exact (by kernel_rfl : flight_Valid (fl 0) = some true)
  | 1, _ => exact (by kernel_rfl : flight_Valid (fl 1) = some true)
  | 2, _ => exact (by kernel_rfl : flight_Valid (fl 2) = some true)
  | 3, _ => exact (by kernel_rfl : flight_Valid (fl 3) = some true)
  | 4, _ => exact (by kernel_rfl : flight_Valid (fl 4) = some true)
theorem ng_ok {i : Int} (h : 0 ≤ i) : ng i = some () := by unfold ng; rw [if_neg (by omega)]
theorem pas_L (r : Int × Src) : ∀ (n : Nat) (acc : List Int) (i : Nat), (∀ x ∈ acc, 1 ≤ x ∧ x ≤ i) → acc.Pairwise (· < ·) → acc.length ≤ i → i ≤ 12 → 12 < n + i → okP (keep_Src_Passengers_L1 r n acc (i : Int)) (ctlQ (fun _ => False) (fun z => (∀ x ∈ z, 1 ≤ x ∧ x ≤ 12) ∧ z.Pairwise (· < ·) ∧ z.length ≤ 12))
  | 0, acc, i, _, _, _, h1, h2 => by omega
  | n + 1, acc, i, ha, hs, hl, h1, h2 => by
    rw [keep_Src_Passengers_L1]
    refine okP_cond (fun h => ?_) (fun h => ?_)
    · have h := of_decide_eq_true h
      rw [ng_ok (by omega), Option.bind_some, w64_id (z := (i : Int) + 1) (by omega) (by omega)]
      have e : (i : Int) + 1 = ((i + 1 : Nat) : Int) := by omega
      rw [e]
      refine okP_cond (fun _ => ?_) (fun _ => ?_)
      · rw [apL_eq (by simp; omega), Option.bind_some]
        refine pas_L r n _ (i + 1) (fun x hx => ?_) ?_ (by simp; omega) (by omega) (by omega)
        · rcases List.mem_append.1 hx with h | h
          · have := ha x h; omega
          · simp at h; omega
        · rw [List.pairwise_append]
          refine ⟨hs, by simp, fun a ha' b hb => ?_⟩
          simp at hb
          have := ha a ha'
          omega
      · exact pas_L r n _ (i + 1) (fun x hx => by have := ha x hx; omega) hs (by omega) (by omega) (by omega)
    · have h := of_decide_eq_false h
      exact okP_some ⟨fun x hx => by have := ha x hx; omega, hs, by omega⟩
theorem pas_ok (s : Src) (h : SrcOk s) : okP (keep_Src_Passengers s) (fun r => ((∀ x ∈ r.1, 1 ≤ x ∧ x ≤ 12) ∧ r.1.Pairwise (· < ·) ∧ r.1.length ≤ 12) ∧ SrcOk r.2) := by
  unfold keep_Src_Passengers
  refine okP_bind (N_ok s 4096 h (by omega) (by omega)) (fun r ⟨r1, r2, r3⟩ => ?_)
  exact okP_finB (pas_L r 9223372036854775807 [] 0 (fun x hx => by simp at hx) (by simp) (by simp) (by omega) (by omega)) (fun z hz => okP_some ⟨hz, r3⟩)
theorem man_L2 : ∀ (l : List Int) (k : Nat) (s : Src) (acc : List Int), SrcOk s → acc.length + l.length ≤ 1000 → okP (keep_Src_Manifests_L2 l k s.L s.At acc) (ctlQ (fun _ => False) (fun z => ∃ m : List Int, m.Sublist l ∧ z.2.2.2.2 = acc ++ m ∧ SrcOk ⟨z.2.2.1, z.2.2.2.1⟩))
  | [], k, s, acc, hs, _ => okP_some ⟨[], List.Sublist.refl _, by simp, hs⟩
  | x :: l, k, s, acc, hs, hl => by
    simp only [List.length_cons] at hl
    rw [keep_Src_Manifests_L2]
    refine okP_bind (N_ok s 3 hs (by omega) (by omega)) (fun r ⟨r1, r2, r3⟩ => ?_)
    refine okP_cond (fun _ => ?_) (fun _ => ?_)
    · rw [apL_eq (by simp; omega), Option.bind_some]
      refine okP_mono (man_L2 l (k + 1) r.2 (acc ++ [x]) r3 (by simp; omega)) (fun c hc => ?_)
      cases c with
      | ret _ => exact hc
      | brk z =>
        obtain ⟨m, h1, h2, h3⟩ := hc
        exact ⟨x :: m, h1.cons_cons x, by rw [h2]; simp, h3⟩
    · refine okP_mono (man_L2 l (k + 1) r.2 acc r3 (by omega)) (fun c hc => ?_)
      cases c with
      | ret _ => exact hc
      | brk z =>
        obtain ⟨m, h1, h2, h3⟩ := hc
        exact ⟨m, h1.cons x, h2, h3⟩
theorem man_L1 : ∀ (n : Nat) (s : Src) (i : Nat) (acc : List Manifest), SrcOk s → i ≤ 5 → 5 < n + i → acc.length ≤ i → (∀ m ∈ acc, okM m ∧ ∃ f, f < i ∧ m.Flight = fl f) → sortedM acc → okP (keep_Src_Manifests_L1 n s.L s.At (i : Int) acc) (ctlQ (fun _ => False) (fun z => SrcOk ⟨z.1, z.2.1⟩ ∧ okL z.2.2 ∧ z.2.2.length ≤ 5))
  | 0, s, i, acc, _, h1, h2, _, _, _ => by omega
  | n + 1, s, i, acc, hs, h1, h2, h3, h4, h5 => by
    rw [keep_Src_Manifests_L1]
    refine okP_cond (fun h => ?_) (fun h => okP_some ⟨hs, ⟨fun m hm => (h4 m hm).1, h5, by show acc.length ≤ 24; omega⟩, by show acc.length ≤ 5; omega⟩)
    have h := of_decide_eq_true h
    have hi : i < 5 := by omega
    have e : (i : Int) + 1 = ((i + 1 : Nat) : Int) := by omega
    rw [w64_id (z := (i : Int) + 1) (by omega) (by omega), e]
    refine okP_bind (N_ok s 2 hs (by omega) (by omega)) (fun r ⟨r1, r2, r3⟩ => ?_)
    refine okP_cond (fun _ => ?_) (fun _ => ?_)
    · exact man_L1 n r.2 (i + 1) acc r3 (by omega) (by omega) (by omega) (fun m hm => ⟨(h4 m hm).1, by obtain ⟨f, hf, e⟩ := (h4 m hm).2; exact ⟨f, by omega, e⟩⟩) h5
    · rw [fl_eq hi, Option.bind_some]
      refine okP_bind (N_ok r.2 4 r3 (by omega) (by omega)) (fun q ⟨q1, q2, q3⟩ => ?_)
      refine okP_bind (pas_ok q.2 q3) (fun p ⟨⟨p1, p2, p3⟩, p4⟩ => ?_)
      refine okP_sub (man_L2 p.1 0 p.2 [] p4 (by simp; omega)) (fun z ⟨m, hm1, hm2, hm3⟩ => ?_)
      rw [hm2, List.nil_append, apL_eq (by simp; omega), Option.bind_some, w64_id (z := 1 + q.1) (by omega) (by omega)]
      have hmm : ∀ x ∈ m, x ∈ p.1 := fun x hx => hm1.subset hx
      refine man_L1 n ⟨z.2.2.1, z.2.2.2.1⟩ (i + 1) _ hm3 (by omega) (by omega) (by simp; omega) (fun x hx => ?_) ?_
      · rcases List.mem_append.1 hx with h | h
        · exact ⟨(h4 x h).1, by obtain ⟨f, hf, e⟩ := (h4 x h).2; exact ⟨f, by omega, e⟩⟩
        · simp only [List.mem_singleton] at h
          subst h
          exact ⟨⟨fl_valid hi, by show 1 ≤ 1 + q.1; omega, by show 1 + q.1 ≤ 9999; omega, ⟨fun x hx => by have := p1 x (hmm x hx); omega, p2.sublist hm1⟩, ⟨fun x hx => by have := p1 x hx; omega, p2⟩, hmm, by have := hm1.length_le; show m.length ≤ 1000000; omega, by show p.1.length ≤ 1000000; omega⟩, i, by omega, rfl⟩
      · unfold sortedM
        rw [List.pairwise_append]
        refine ⟨h5, by simp, fun a ha b hb => ?_⟩
        simp only [List.mem_singleton] at hb
        subst hb
        obtain ⟨f, hf, e⟩ := (h4 a ha).2
        rw [e]
        exact fl_lt hf hi
theorem man_ok (s : Src) (h : SrcOk s) : okP (keep_Src_Manifests s) (fun r => (okL r.1 ∧ r.1.length ≤ 5) ∧ SrcOk r.2) := by
  unfold keep_Src_Manifests
  exact okP_finB (man_L1 9223372036854775807 s 0 [] h (by omega) (by omega) (by simp) (fun m hm => by simp at hm) (by simp [sortedM])) (fun z ⟨h1, h2, h3⟩ => okP_some ⟨⟨h2, h3⟩, h1⟩)

theorem in_L (x : Int) : ∀ (l : List Int) (k : Nat), ref25_in_L1 x l k = some (if x ∈ l then .ret true else .brk ())
  | [], k => by simp [ref25_in_L1]
  | y :: l, k => by
    rw [ref25_in_L1, in_L x l (k + 1)]
    simp only [cond_ite, beq_iff_eq]
    by_cases e : y = x
    · subst e; simp
    · rw [if_neg e]
      simp [Ne.symm e]
theorem in_eq (l : List Int) (x : Int) : ref25_in l x = some (decide (x ∈ l)) := by
  unfold ref25_in
  rw [in_L x l 0]
  by_cases h : x ∈ l
  · rw [if_pos h, decide_eq_true h]; rfl
  · rw [if_neg h, decide_eq_false h]; rfl

theorem awake_ok : law26_awake = some true := by kernel_rfl

theorem Port_ok (s : Src) (h : SrcOk s) : okP (keep_Src_Port s) (fun r => SrcOk r.2) := by
  unfold keep_Src_Port
  exact okP_bind (Text_ok s _ h (by simp) (by simp)) (fun r ⟨_, h⟩ => okP_some h)
theorem Flight_ok (s : Src) (h : SrcOk s) : okP (keep_Src_Flight s) (fun r => SrcOk r.2) := by
  unfold keep_Src_Flight
  refine okP_bind (Text_ok s _ h (by simp) (by simp)) (fun r ⟨_, h⟩ => ?_)
  refine okP_bind (N_ok _ 3 h (by omega) (by omega)) (fun r ⟨_, _, h⟩ => ?_)
  exact okP_bind (N_ok _ 3 h (by omega) (by omega)) (fun r ⟨_, _, h⟩ => okP_some h)
theorem Plates_ok (i : Int) : okP (keep_Plates i) (fun _ => True) := by
  unfold keep_Plates
  rw [mod_eq i 1000 (by omega) (by omega)]
  exact okP_some trivial
theorem Plate_ok (s : Src) (n : Int) (h : SrcOk s) (h1 : 1 ≤ n) (h2 : n ≤ 1000) : okP (keep_Src_Plate s n) (fun r => SrcOk r.2) := by
  unfold keep_Src_Plate
  refine okP_bind (N_ok s n h h1 (by omega)) (fun r ⟨_, _, h⟩ => ?_)
  exact okP_bind (Plates_ok _) (fun _ _ => okP_some h)
theorem Flights_ok (i : Int) : okP (keep_Flights i) (fun _ => True) := by
  unfold keep_Flights
  rw [mod_eq i 27 (by omega) (by omega), Option.bind_some]
  have h1 : 0 ≤ i % 27 ∧ i % 27 < 27 := by omega
  have h2 : (i % 27).tdiv 9 = i % 27 / 9 := Int.tdiv_eq_ediv_of_nonneg h1.1
  rw [h2, w64_id (by omega) (by omega)]
  exact okP_bind (okP_ixL (Q := fun _ => True) (by omega) (by simp only [List.length_cons, List.length_nil]; omega) (fun _ _ _ => trivial)) (fun _ _ => okP_some trivial)

/-- the facts that are drawn -/
def FactsOk (x : Facts) : Prop := ∃ f : Nat, f < 3 ∧ x.Bag.Out.Flight = fl f
theorem Facts_ok (s : Src) (h : SrcOk s) : okP (keep_Src_Facts s) (fun r => FactsOk r.1 ∧ SrcOk r.2) := by
  unfold keep_Src_Facts
  refine okP_bind (N_ok _ 12 h (by omega) (by omega)) (fun r1 ⟨_, _, h⟩ => ?_)
  refine okP_bind (N_ok _ 12 h (by omega) (by omega)) (fun r2 ⟨_, _, h⟩ => ?_)
  refine okP_bind (N_ok _ 8 h (by omega) (by omega)) (fun r3 ⟨_, _, h⟩ => ?_)
  refine okP_bind (Plate_ok _ 20 h (by omega) (by omega)) (fun r4 h => ?_)
  refine okP_bind (N_ok _ 3 h (by omega) (by omega)) (fun r5 ⟨a1, a2, h⟩ => ?_)
  obtain ⟨f, hf⟩ : ∃ f : Nat, r5.1 = f := ⟨r5.1.toNat, by omega⟩
  rw [hf, fl_eq (f := f) (by omega), Option.bind_some]
  refine okP_bind (N_ok _ 12 h (by omega) (by omega)) (fun r7 ⟨_, _, h⟩ => ?_)
  refine okP_bind (N_ok _ 4 h (by omega) (by omega)) (fun r8 ⟨_, _, h⟩ => ?_)
  refine okP_bind (N_ok _ 30 h (by omega) (by omega)) (fun r9 ⟨_, _, h⟩ => ?_)
  refine okP_bind (N_ok _ 9 h (by omega) (by omega)) (fun r10 ⟨_, _, h⟩ => ?_)
  refine okP_bind (N_ok _ 12 h (by omega) (by omega)) (fun r11 ⟨_, _, h⟩ => ?_)
  refine okP_bind (N_ok _ 4 h (by omega) (by omega)) (fun r12 ⟨_, _, h⟩ => ?_)
  refine okP_cond (fun _ => ?_) (fun _ => okP_some ⟨⟨f, by omega, rfl⟩, h⟩)
  exact okP_bind (N_ok _ 5 h (by omega) (by omega)) (fun r13 ⟨_, _, h⟩ => okP_some ⟨⟨f, by omega, rfl⟩, h⟩)

theorem sched_L (r : Int × Src) (hr : r.1 ≤ 100) : ∀ (n : Nat) (s : Src) (acc : List Departure) (a i : Int), SrcOk s → 0 ≤ i → 0 ≤ a → a ≤ 1000 → i ≤ 101 → 101 < n + i → (acc.length : Int) ≤ i → okP (keep_Src_Schedule_L1 r n s.L s.At acc a i) (ctlQ (fun _ => False) (fun z => SrcOk ⟨z.1, z.2.1⟩))
  | 0, s, acc, a, i, _, _, _, _, _, _, _ => by omega
  | n + 1, s, acc, a, i, h, h0, h1, h2, h3, h4, h5 => by
    rw [keep_Src_Schedule_L1]
    refine okP_cond (fun c1 => ?_) (fun _ => okP_some h)
    refine okP_cond (fun c2 => ?_) (fun _ => okP_some h)
    have c1 := of_decide_eq_true c1
    have c2 := of_decide_eq_true c2
    refine okP_bind (N_ok s 3 h (by omega) (by omega)) (fun r7 ⟨b1, b2, h⟩ => ?_)
    refine okP_cond (fun _ => okP_some h) (fun _ => ?_)
    refine okP_bind (Flights_ok _) (fun r8 _ => ?_)
    refine okP_bind (Port_ok _ h) (fun r9 h => ?_)
    refine okP_bind (N_ok _ 40 h (by omega) (by omega)) (fun r10 ⟨_, _, h⟩ => ?_)
    refine okP_bind (N_ok _ 100 h (by omega) (by omega)) (fun r11 ⟨_, _, h⟩ => ?_)
    refine okP_bind (N_ok _ 20 h (by omega) (by omega)) (fun r12 ⟨_, _, h⟩ => ?_)
    refine okP_bind (N_ok _ 10 h (by omega) (by omega)) (fun r13 ⟨_, _, h⟩ => ?_)
    refine okP_bind (N_ok _ 6 h (by omega) (by omega)) (fun r14 ⟨d1, d2, h⟩ => ?_)
    refine okP_bind (okP_ixL (Q := fun _ => True) d1 (by simp only [List.length_cons, List.length_nil]; omega) (fun _ _ _ => trivial)) (fun e _ => ?_)
    rw [apL_eq (by simp; omega), Option.bind_some, w64_id (z := a + r7.1) (by omega) (by omega), w64_id (z := a + r7.1 + 1) (by omega) (by omega), w64_id (z := i + 1) (by omega) (by omega)]
    exact sched_L r hr n r14.2 _ _ _ h (by omega) (by omega) (by omega) (by omega) (by omega) (by simp; omega)
theorem Schedule_ok (s : Src) (n : Int) (h : SrcOk s) (h1 : 0 ≤ n) (h2 : n ≤ 90) : okP (keep_Src_Schedule s n) (fun r => SrcOk r.2) := by
  unfold keep_Src_Schedule
  rw [w64_id (by omega) (by omega)]
  refine okP_bind (N_ok s (n + 1) h (by omega) (by omega)) (fun r ⟨_, _, h⟩ => ?_)
  exact okP_finB (sched_L r (by omega) 9223372036854775807 r.2 [] 0 0 h (by omega) (by omega) (by omega) (by omega) (by omega) (by simp)) (fun z hz => okP_some hz)

def dep (f : Nat) : Departure := ⟨fl f, ⟨#[76, 72, 82]⟩, 10, 40, 50, 0, 0⟩
theorem flights_eq : law26_flights = some [dep 0, dep 1, dep 2] := by kernel_rfl

/-! finding a departure -/
theorem find_same (f : Flight) : ∀ (l : List Departure) (k : Nat), schedule_Find_L1 f l k = ref20_Find_L1 f l k
  | [], k => rfl
  | e :: q, k => by rw [schedule_Find_L1, ref20_Find_L1, find_same f q (k + 1)]
theorem sfind_eq (l : List Departure) (f : Flight) : schedule_Find l f = ref20_Find l f := by
  unfold schedule_Find ref20_Find
  rw [find_same]
def Found (f : Flight) (l : List Departure) (i : Nat) (d : Departure) : Prop := l[i]? = some d ∧ d.Flight = f
theorem find_L (f : Flight) : ∀ (l : List Departure) (k : Nat), (ref20_Find_L1 f l k = some (.brk ()) ∧ ∀ d ∈ l, d.Flight ≠ f) ∨ ∃ i d, Found f l i d ∧ ref20_Find_L1 f l k = some (.ret ((k + i : Nat) : Int))
  | [], k => .inl ⟨rfl, fun d h => by simp at h⟩
  | e :: q, k => by
    rw [ref20_Find_L1, flight_beq]
    by_cases he : e.Flight = f
    · rw [decide_eq_true he]
      exact .inr ⟨0, e, ⟨rfl, he⟩, rfl⟩
    · rw [decide_eq_false he]
      rcases find_L f q (k + 1) with ⟨h1, h2⟩ | ⟨i, d, h1, h2⟩
      · exact .inl ⟨h1, fun d hd => by rcases List.mem_cons.1 hd with rfl | hd; exact he; exact h2 d hd⟩
      · exact .inr ⟨i + 1, d, h1, by rw [cond_false, h2, show k + 1 + i = k + (i + 1) by omega]⟩
theorem find_ok (l : List Departure) (f : Flight) : (ref20_Find l f = some (-1) ∧ ∀ d ∈ l, d.Flight ≠ f) ∨ ∃ i d, Found f l i d ∧ ref20_Find l f = some ((i : Nat) : Int) := by
  unfold ref20_Find
  rcases find_L f l 0 with ⟨h1, h2⟩ | ⟨i, d, h1, h2⟩
  · exact .inl ⟨by rw [fin_brkE h1], h2⟩
  · exact .inr ⟨i, d, h1, by rw [fin_retE h2]; simp⟩

/-! the state of a passenger -/
theorem mfind_L (f : Flight) : ∀ (l : List Manifest) (k : Nat), (ref25_find_L1 f l k = some (.brk ()) ∧ ∀ d ∈ l, d.Flight ≠ f) ∨ ∃ i d, l[i]? = some d ∧ d.Flight = f ∧ (∀ j, j < i → ∀ d', l[j]? = some d' → d'.Flight ≠ f) ∧ ref25_find_L1 f l k = some (.ret ((k + i : Nat) : Int))
  | [], k => .inl ⟨rfl, fun d h => by simp at h⟩
  | e :: q, k => by
    rw [ref25_find_L1, flight_beq]
    by_cases he : e.Flight = f
    · rw [decide_eq_true he]
      exact .inr ⟨0, e, rfl, he, fun j hj => by omega, rfl⟩
    · rw [decide_eq_false he]
      rcases mfind_L f q (k + 1) with ⟨h1, h2⟩ | ⟨i, d, h1, h3, h4, h2⟩
      · exact .inl ⟨h1, fun d hd => by rcases List.mem_cons.1 hd with rfl | hd; exact he; exact h2 d hd⟩
      · refine .inr ⟨i + 1, d, h1, h3, fun j hj d' hd => ?_, by rw [cond_false, h2, show k + 1 + i = k + (i + 1) by omega]⟩
        cases j with
        | zero => cases hd; exact he
        | succ j => exact h4 j (by omega) d' hd
def stat1 (m : Manifest) (n st : Int) : Int := if n ∈ m.Boarded then 4 else if n ∈ m.Ever then 5 else st
theorem status_none (f : Flight) (n st : Int) : ∀ (l : List Manifest) (k : Nat), (∀ d ∈ l, d.Flight ≠ f) → boarding_Status_L1 f n st l k = some (.brk ())
  | [], k, _ => rfl
  | e :: q, k, h => by
    rw [boarding_Status_L1, flight_beq, decide_eq_false (h e (by simp)), Bool.not_false, cond_true]
    exact status_none f n st q (k + 1) (fun d hd => h d (List.mem_cons_of_mem _ hd))
theorem status_at (f : Flight) (n st : Int) : ∀ (l : List Manifest) (k i : Nat) (d : Manifest), l[i]? = some d → d.Flight = f → (∀ j, j < i → ∀ d', l[j]? = some d' → d'.Flight ≠ f) → boarding_Status_L1 f n st l k = some (.ret (stat1 d n st))
  | [], k, i, d, h, _, _ => by simp at h
  | e :: q, k, 0, d, h, h1, _ => by
    cases h
    rw [boarding_Status_L1, flight_beq, decide_eq_true h1, Bool.not_true, cond_false, contains_eq, contains_eq]
    unfold stat1
    by_cases c1 : n ∈ e.Boarded
    · simp [c1]
    · by_cases c2 : n ∈ e.Ever <;> simp [c1, c2]
  | e :: q, k, i + 1, d, h, h1, h2 => by
    rw [boarding_Status_L1, flight_beq, decide_eq_false (h2 0 (by omega) e rfl), Bool.not_false, cond_true]
    exact status_at f n st q (k + 1) i d h h1 (fun j hj d' hd => h2 (j + 1) (by omega) d' hd)
/-- the first manifest of the flight tells -/
theorem status_ok (l : List Manifest) (f : Flight) (n st : Int) : ∃ s, boarding_Status l f n st = some s ∧ ref25_Status l f n st = some s ∧ ((s = st ∧ ∀ d ∈ l, d.Flight ≠ f) ∨ ∃ d ∈ l, d.Flight = f ∧ s = stat1 d n st) := by
  unfold boarding_Status ref25_Status ref25_find
  rcases mfind_L f l 0 with ⟨h1, h2⟩ | ⟨i, d, h1, h2, h3, h4⟩
  · refine ⟨st, by rw [fin_brkE (status_none f n st l 0 h2)], ?_, .inl ⟨rfl, h2⟩⟩
    rw [fin_brkE h1]
    rfl
  · refine ⟨stat1 d n st, by rw [fin_retE (status_at f n st l 0 i d h1 h2 h3)], ?_, .inr ⟨d, List.mem_of_getElem? h1, h2, rfl⟩⟩
    rw [fin_retE h4, Option.bind_some, Nat.zero_add]
    have e : ixL l ((i : Nat) : Int) = some d := ixL_at' i rfl h1
    have hn : decide (((i : Nat) : Int) < 0) = false := decide_eq_false (by omega)
    rw [hn, cond_false, e]
    simp only [Option.bind_some, in_eq]
    unfold stat1
    by_cases c1 : n ∈ d.Boarded
    · simp [c1]
    · by_cases c2 : n ∈ d.Ever <;> simp [c1, c2]

/-- may be granted, as far as the departure d and the bag tell -/
def goodB (x : Facts) (d : Departure) (f : Flight) (now : Int) (fin : Bool) : Bool :=
  x.Known && (!decide (1 < x.Copies) && (decide (x.Bag.Out.Flight = f) && (!(d.State != 0) && ((fin || !decide (d.Closes ≤ now)) && (x.Cleared && (x.Bag.Load && !x.Bag.Unloaded))))))

theorem closed_eq (d : Departure) (t : Int) : schedule_IsClosed d t = some (d.State != 0 || decide (d.Closes ≤ t)) := by
  unfold schedule_IsClosed
  cases d.State != 0 <;> rfl
theorem closed_ref (d : Departure) (t : Int) : ref20_IsClosed d t = some (d.State != 0 || decide (d.Closes ≤ t)) := by
  unfold ref20_IsClosed
  cases d.State != 0 <;> rfl

/-- what both refusals give -/
def refR (x : Facts) (o : Option Departure) (f : Flight) (now : Int) (fin : Bool) : Int :=
  if x.Known = false then 1 else if 1 < x.Copies then 2 else if x.Bag.Out.Flight ≠ f then 3 else match o with
  | none => 4
  | some d => if d.State ≠ 0 then 4 else if fin = false ∧ d.Closes ≤ now then 4 else if x.Cleared = false then 5 else if x.Bag.Load = false then 6 else if x.Bag.Unloaded = true then 6 else 0

theorem refR_le (x : Facts) (o : Option Departure) (f : Flight) (now : Int) (fin : Bool) : 0 ≤ refR x o f now fin ∧ refR x o f now fin ≤ 6 := by
  unfold refR
  (repeat' split) <;> omega
theorem refR_zero {x : Facts} {o : Option Departure} {f : Flight} {now : Int} {fin : Bool} (h : refR x o f now fin = 0) : x.Known = true ∧ ¬ 1 < x.Copies ∧ x.Bag.Out.Flight = f ∧ ∃ d, o = some d ∧ d.State = 0 ∧ (fin = false → ¬ d.Closes ≤ now) ∧ x.Cleared = true ∧ x.Bag.Load = true ∧ x.Bag.Unloaded = false := by
  unfold refR at h
  split at h
  · omega
  split at h
  · omega
  split at h
  · omega
  split at h
  · omega
  rename_i k1 k2 k3 _ d
  split at h
  · omega
  split at h
  · omega
  split at h
  · omega
  split at h
  · omega
  split at h
  · omega
  rename_i q1 q2 q3 q4 q5
  exact ⟨by simpa using k1, k2, by simpa using k3, d, rfl, by simpa using q1, fun e he => q2 ⟨e, he⟩, by simpa using q3, by simpa using q4, by simpa using q5⟩

theorem tail_eq (x : Facts) (d : Departure) (now : Int) (fin : Bool) : (cond (d.State != (0 : Int)) (some (4 : Int)) (cond (!fin) ((some (d.State != 0 || decide (d.Closes ≤ now))).bind fun r_4 => cond r_4 (some (4 : Int)) (cond (!x.Cleared) (some (5 : Int)) (cond (!x.Bag.Load) (some (6 : Int)) (cond x.Bag.Unloaded (some (6 : Int)) (some (0 : Int))))))
    (cond (!x.Cleared) (some (5 : Int)) (cond (!x.Bag.Load) (some (6 : Int)) (cond x.Bag.Unloaded (some (6 : Int)) (some (0 : Int))))))) = some (if d.State ≠ 0 then 4 else if fin = false ∧ d.Closes ≤ now then 4 else if x.Cleared = false then 5 else if x.Bag.Load = false then 6 else if x.Bag.Unloaded = true then 6 else 0) := by
  by_cases h : d.State = 0
  · have e : (d.State != 0) = false := by simp [h]
    rw [e, cond_false, if_neg (by simpa using h)]
    by_cases c : d.Closes ≤ now <;> cases fin <;> cases x.Cleared <;> cases x.Bag.Load <;> cases x.Bag.Unloaded <;> simp [c]
  · have e : (d.State != 0) = true := by simp [h]
    rw [e, cond_true, if_pos h]

theorem refusal_ok (x : Facts) (l : List Departure) (f : Flight) (now : Int) (fin : Bool) : ∃ o, authority_refusal x l f now fin = some (refR x o f now fin) ∧ ref26_Refusal x l f now fin = some (refR x o f now fin) ∧
    ((o = none ∧ ref20_Find l f = some (-1) ∧ ∀ d ∈ l, d.Flight ≠ f) ∨ ∃ i d, o = some d ∧ Found f l i d ∧ ref20_Find l f = some ((i : Nat) : Int)) := by
  have hd : ∀ (p q : Int), decide (p < q) = true ∨ decide (p < q) = false := fun p q => by by_cases h : p < q <;> simp [h]
  rcases find_ok l f with ⟨h1, h2⟩ | ⟨i, d, h1, h2⟩
  · refine ⟨none, ?_, ?_, .inl ⟨rfl, h1, h2⟩⟩
    · unfold authority_refusal refR
      rw [sfind_eq, h1, Option.bind_some, flight_beq]
      cases x.Known <;> by_cases c : 1 < x.Copies <;> by_cases e : x.Bag.Out.Flight = f <;> simp [c, e]
    · unfold ref26_Refusal refR
      rw [h1, Option.bind_some, flight_beq]
      cases x.Known <;> by_cases c : 1 < x.Copies <;> by_cases e : x.Bag.Out.Flight = f <;> simp [c, e]
  · have hx : ixL l ((i : Nat) : Int) = some d := ixL_at' i rfl h1.1
    have hn : decide (((i : Nat) : Int) < 0) = false := decide_eq_false (by omega)
    refine ⟨some d, ?_, ?_, .inr ⟨i, d, rfl, h1, h2⟩⟩
    · unfold authority_refusal refR
      rw [sfind_eq, h2, Option.bind_some, flight_beq, hn, hx]
      simp only [Option.bind_some, closed_eq, cond_false]
      have ht := tail_eq x d now fin
      simp only [Option.bind_some] at ht
      rw [ht]
      cases x.Known <;> by_cases c : 1 < x.Copies <;> by_cases e : x.Bag.Out.Flight = f <;> simp [c, e]
    · unfold ref26_Refusal refR
      rw [h2, Option.bind_some, flight_beq, hn, hx]
      simp only [Option.bind_some, closed_ref, cond_false]
      have ht := tail_eq x d now fin
      simp only [Option.bind_some] at ht
      rw [ht]
      cases x.Known <;> by_cases c : 1 < x.Copies <;> by_cases e : x.Bag.Out.Flight = f <;> simp [c, e]

/-- what both decisions give behind the refusals: e the exception, s the state of the passenger -/
def decD (e s : Int) (fin : Bool) : Decision :=
  if e = 1 then ⟨true, 3, 0⟩ else if e = 2 then ⟨true, 4, 0⟩ else if e = 3 then ⟨true, 5, 0⟩ else if s = 4 then ⟨true, 1, 0⟩ else if s = 1 ∧ fin = false then ⟨true, 2, 0⟩ else if s = 5 then ⟨false, 0, 7⟩ else ⟨false, 0, 8⟩

def decR (r e s : Int) (fin : Bool) : Decision := if r ≠ 0 then ⟨false, 0, r⟩ else decD e s fin

theorem grant_eq (r : Int) : authority_grant r = some ⟨true, r, 0⟩ := rfl
theorem refuse_eq (r : Int) : authority_refuse r = some ⟨false, 0, r⟩ := rfl

theorem stail_eq (s : Int) (fin : Bool) : (cond (s == (4 : Int)) (some (⟨true, 1, 0⟩ : Decision)) (cond (s == (1 : Int)) (cond (!fin) (some (⟨true, 2, 0⟩ : Decision)) (some (⟨false, 0, 8⟩ : Decision))) (cond (s == (5 : Int)) (some (⟨false, 0, 7⟩ : Decision)) (some (⟨false, 0, 8⟩ : Decision))))) =
    some (if s = 4 then ⟨true, 1, 0⟩ else if s = 1 ∧ fin = false then ⟨true, 2, 0⟩ else if s = 5 then ⟨false, 0, 7⟩ else ⟨false, 0, 8⟩) := by
  by_cases h4 : s = 4
  · subst h4; rfl
  · by_cases h1 : s = 1
    · subst h1; cases fin <;> rfl
    · by_cases h5 : s = 5
      · subst h5; rfl
      · have e4 : (s == 4) = false := by simpa using h4
        have e1 : (s == 1) = false := by simpa using h1
        have e5 : (s == 5) = false := by simpa using h5
        rw [e4, e1, e5, if_neg h4, if_neg (fun h => h1 h.1), if_neg h5]
        rfl

theorem decide_ok (x : Facts) (m : List Manifest) (l : List Departure) (f : Flight) (now : Int) (fin : Bool) : ∃ o s, authority_Decide x m l f now fin = some (decR (refR x o f now fin) x.Bag.Exception s fin) ∧ ref26_Decide x m l f now fin = some (decR (refR x o f now fin) x.Bag.Exception s fin) ∧
    ((o = none ∧ ref20_Find l f = some (-1) ∧ ∀ d ∈ l, d.Flight ≠ f) ∨ ∃ i d, o = some d ∧ Found f l i d ∧ ref20_Find l f = some ((i : Nat) : Int)) ∧ boarding_Status m x.Bag.Out.Flight x.Bag.Sequence x.Bag.Status = some s := by
  obtain ⟨o, h1, h2, h3⟩ := refusal_ok x l f now fin
  obtain ⟨s, s1, s2, s3⟩ := status_ok m x.Bag.Out.Flight x.Bag.Sequence x.Bag.Status
  refine ⟨o, s, ?_, ?_, h3, s1⟩
  · unfold authority_Decide decR
    rw [h1, Option.bind_some]
    generalize refR x o f now fin = r
    by_cases hr : r = 0
    · have e0 : (r != 0) = false := by simpa using hr
      rw [e0, cond_false, if_neg (by simpa using hr), s1]
      simp only [grant_eq, refuse_eq, Option.bind_some, stail_eq]
      unfold decD
      generalize x.Bag.Exception = e
      by_cases c1 : e = 1
      · subst c1; rfl
      by_cases c2 : e = 2
      · subst c2; rfl
      by_cases c3 : e = 3
      · subst c3; rfl
      rw [if_neg c1, if_neg c2, if_neg c3]
      by_cases c0 : 0 < e
      · have : ¬ e < 4 := by omega
        rw [decide_eq_true c0, decide_eq_false this, cond_true, cond_false]
      · rw [decide_eq_false c0, cond_false]
    · have e0 : (r != 0) = true := by simpa using hr
      rw [e0, cond_true, if_pos hr]
      rfl
  · unfold ref26_Decide ref26_State decR
    rw [h2, Option.bind_some]
    generalize refR x o f now fin = r
    by_cases hr : r = 0
    · have e0 : (r != 0) = false := by simpa using hr
      rw [e0, cond_false, if_neg (by simpa using hr), s2]
      simp only [Option.bind_some, stail_eq]
      unfold decD
      generalize x.Bag.Exception = e
      by_cases c1 : e = 1
      · subst c1; rfl
      by_cases c2 : e = 2
      · subst c2; rfl
      by_cases c3 : e = 3
      · subst c3; rfl
      have e1 : (e == 1) = false := by simpa using c1
      have e2 : (e == 2) = false := by simpa using c2
      have e3 : (e == 3) = false := by simpa using c3
      rw [if_neg c1, if_neg c2, if_neg c3, e1, e2, e3]
      rfl
    · have e0 : (r != 0) = true := by simpa using hr
      rw [e0, cond_true, if_pos hr]

theorem few_L : ∀ (l : List Manifest) (k : Nat), okP (law26_few_L1 l k) (ctlQ (fun _ => True) (fun _ => True))
  | [], k => okP_some trivial
  | e :: q, k => by
    rw [law26_few_L1]
    refine okP_cond (fun _ => okP_some trivial) (fun _ => ?_)
    exact okP_cond (fun _ => okP_some trivial) (fun _ => few_L q (k + 1))
theorem few_ok (m : List Manifest) (d : List Departure) : okP (law26_few m d) (fun _ => True) := by
  unfold law26_few
  exact okP_fin (few_L m 0) (fun _ _ => okP_cond (fun _ => okP_some trivial) (fun _ => okP_some trivial))
theorem bag_ok (n : Int) : okP (law26_bag n) (fun _ => True) := by
  unfold law26_bag
  refine okP_bind (Plates_ok _) (fun _ _ => ?_)
  exact okP_bind (Flights_ok _) (fun _ _ => okP_some trivial)
theorem dsame (a : Decision) : ((a.Granted == a.Granted) && ((a.Rule == a.Rule) && ((a.Reason == a.Reason) && true))) = true := by simp

abbrev brkT {ρ σ : Type} : Ctl ρ σ → Prop := ctlQ (fun _ => False) (fun _ => True)

theorem dec_L5 (now : Int) (x : Facts) (m : List Manifest) (q : List Departure) (f : Flight) (r : Int × Src) : ∀ (n : Nat) (i : Int), 0 ≤ i → i ≤ 2 → 2 < n + i → okP (law26_AuthorityDecides_L5 now x m q f r n i) brkT
  | 0, i, _, _, _ => by omega
  | n + 1, i, h0, h1, h2 => by
    rw [law26_AuthorityDecides_L5]
    refine okP_cond (fun h => ?_) (fun _ => okP_some trivial)
    have h := of_decide_eq_true h
    refine okP_bind (okP_ixL (Q := fun _ => True) h0 (by simp only [List.length_cons, List.length_nil]; omega) (fun _ _ _ => trivial)) (fun b _ => ?_)
    obtain ⟨o, s, e1, e2, _⟩ := decide_ok x m q f now b
    obtain ⟨o', s', e3, e4, _⟩ := decide_ok x m q f r.1 b
    rw [e1, e2, Option.bind_some, Option.bind_some, dsame, Bool.not_true, cond_false, e3, e4, Option.bind_some, Option.bind_some, dsame, Bool.not_true, cond_false, w64_id (z := i + 1) (by omega) (by omega)]
    exact dec_L5 now x m q f r n (i + 1) (by omega) (by omega) (by omega)
def srcQ {ρ : Type} : Ctl ρ ((List Int) × Int) → Prop := ctlQ (fun _ => False) (fun z => SrcOk ⟨z.1, z.2⟩)
theorem dec_L4 (now : Int) (x : Facts) (m : List Manifest) (q : List Departure) : ∀ (l : List Flight) (k : Nat) (s : Src), SrcOk s → okP (law26_AuthorityDecides_L4 now x m q l k s.L s.At) srcQ
  | [], k, s, h => okP_some h
  | f :: l, k, s, h => by
    rw [law26_AuthorityDecides_L4]
    refine okP_bind (N_ok s 60 h (by omega) (by omega)) (fun r ⟨_, _, h⟩ => ?_)
    exact okP_sub (dec_L5 now x m q f r 9223372036854775807 0 (by omega) (by omega) (by omega)) (fun _ _ => dec_L4 now x m q l (k + 1) r.2 h)
theorem dec_L3 (f : Flight) (now : Int) (x : Facts) (m : List Manifest) : ∀ (l : List (List Departure)) (k : Nat) (s : Src), SrcOk s → okP (law26_AuthorityDecides_L3 f now x m l k s.L s.At) srcQ
  | [], k, s, h => okP_some h
  | q :: l, k, s, h => by
    rw [law26_AuthorityDecides_L3]
    refine okP_bind (Flight_ok s h) (fun r h => ?_)
    exact okP_sub (dec_L4 now x m q _ 0 r.2 h) (fun z hz => dec_L3 f now x m l (k + 1) ⟨z.1, z.2⟩ hz)
theorem dec_L2 (d : List Departure) (f : Flight) (now : Int) (r : (List Departure) × Src) (x : Facts) : ∀ (l : List (List Manifest)) (k : Nat) (s : Src), SrcOk s → okP (law26_AuthorityDecides_L2 d f now r x l k s.L s.At) srcQ
  | [], k, s, h => okP_some h
  | q :: l, k, s, h => by
    rw [law26_AuthorityDecides_L2, flights_eq, Option.bind_some]
    exact okP_sub (dec_L3 f now x q _ 0 s h) (fun z hz => dec_L2 d f now r x l (k + 1) ⟨z.1, z.2⟩ hz)
theorem dec_L1 (m : List Manifest) (d : List Departure) (f : Flight) (now : Int) (r : (List Departure) × Src) : ∀ (l : List Facts) (k : Nat) (s : Src), SrcOk s → okP (law26_AuthorityDecides_L1 m d f now r l k s.L s.At) brkT
  | [], k, s, h => okP_some trivial
  | x :: l, k, s, h => by
    rw [law26_AuthorityDecides_L1]
    refine okP_bind (man_ok s h) (fun p ⟨_, h⟩ => ?_)
    exact okP_sub (dec_L2 d f now r x _ 0 p.2 h) (fun z hz => dec_L1 m d f now r l (k + 1) ⟨z.1, z.2⟩ hz)
theorem decides_ok (x : Facts) (m : List Manifest) (d : List Departure) (l : List Int) (f : Flight) (now : Int) : law26_AuthorityDecides x m d l f now = some true := by
  refine okP_eq ?_
  unfold law26_AuthorityDecides
  refine okP_bind (few_ok m d) (fun b _ => ?_)
  refine okP_cond (fun _ => okP_some rfl) (fun _ => ?_)
  refine okP_bind (New_ok l) (fun s h => ?_)
  refine okP_bind (Schedule_ok s 12 h (by omega) (by omega)) (fun r h => ?_)
  refine okP_bind (Facts_ok _ h) (fun r4 ⟨_, h⟩ => ?_)
  refine okP_bind (Facts_ok _ h) (fun r5 ⟨_, h⟩ => ?_)
  refine okP_bind (N_ok _ 12 h (by omega) (by omega)) (fun r6 ⟨_, _, h⟩ => ?_)
  refine okP_bind (bag_ok _) (fun r7 _ => ?_)
  refine okP_finB (dec_L1 m d f now r _ 0 r6.2 h) (fun _ _ => ?_)
  rw [awake_ok]
  exact okP_some rfl

/-! no bag is granted that .. -/
theorem dec_chk {r e s : Int} {fin : Bool} (h : 0 ≤ r ∧ r ≤ 6) : ((decR r e s fin).Granted == ((decR r e s fin).Reason == 0)) = true ∧ ((decR r e s fin).Granted == ((decR r e s fin).Rule != 0)) = true ∧ decide ((decR r e s fin).Rule < 0) = false ∧ decide (5 < (decR r e s fin).Rule) = false ∧
    decide ((decR r e s fin).Reason < 0) = false ∧ decide (8 < (decR r e s fin).Reason) = false ∧ ((decR r e s fin).Granted = true → r = 0) := by
  unfold decR
  by_cases hr : r = 0
  · rw [if_neg (by simpa using hr)]
    unfold decD
    (repeat' split) <;> exact ⟨rfl, rfl, rfl, rfl, rfl, rfl, fun _ => hr⟩
  · rw [if_pos hr]
    have e1 : (r == 0) = false := by simpa using hr
    refine ⟨by rw [e1]; rfl, rfl, rfl, rfl, decide_eq_false (by show ¬ r < 0; omega), decide_eq_false (by show ¬ 8 < r; omega), fun h => by cases h⟩
theorem never_L3 (now : Int) (fin : Bool) (r2 : (List Manifest) × Src) (x : Facts) (l : List Departure) : ∀ (q : List Flight) (k : Nat), law26_AuthorityNever_L3 now fin r2 x l q k = some (.brk ())
  | [], k => rfl
  | g :: q, k => by
    obtain ⟨o, s, h1, _, h2, _⟩ := decide_ok x r2.1 l g now fin
    obtain ⟨c1, c2, c3, c4, c5, c6, c7⟩ := dec_chk (e := x.Bag.Exception) (s := s) (fin := fin) (refR_le x o g now fin)
    rw [law26_AuthorityNever_L3, h1, Option.bind_some, never_L3 now fin r2 x l q (k + 1), flight_beq]
    generalize hb : decR (refR x o g now fin) x.Bag.Exception s fin = a at c1 c2 c3 c4 c5 c6 c7 ⊢
    simp only [c1, c2, c3, c4, c5, c6, Bool.not_true, cond_false]
    cases hg : a.Granted with
    | true =>
      obtain ⟨z1, z2, z3, d, z4, z5, _, z6, z7, z8⟩ := refR_zero (c7 hg)
      rcases h2 with ⟨rfl, _⟩ | ⟨i, d', rfl, hf, hi⟩
      · cases z4
      · cases z4
        have hx : ixL l ((i : Nat) : Int) = some d := ixL_at' i rfl hf.1
        have hn : decide (((i : Nat) : Int) < 0) = false := decide_eq_false (by omega)
        have hs : (d.State != 0) = false := by simp [z5]
        rw [hi, Option.bind_some, z1, decide_eq_false z2, z6, decide_eq_true z3, hn, hx]
        simp only [Option.bind_some, hs, z7, z8, Bool.not_true, cond_false, cond_true]
    | false =>
      rcases h2 with ⟨rfl, hi, _⟩ | ⟨i, d', rfl, hf, hi⟩
      · rw [hi, Option.bind_some]
        simp only [cond_false, show decide ((-1 : Int) < 0) = true from rfl, cond_true]
        cases x.Known <;> cases decide (1 < x.Copies) <;> cases x.Cleared <;> cases decide (x.Bag.Out.Flight = g) <;> rfl
      · have hx : ixL l ((i : Nat) : Int) = some d' := ixL_at' i rfl hf.1
        have hn : decide (((i : Nat) : Int) < 0) = false := decide_eq_false (by omega)
        rw [hi, Option.bind_some, hn, hx]
        simp only [cond_false, Option.bind_some]
        cases x.Known <;> cases decide (1 < x.Copies) <;> cases x.Cleared <;> cases decide (x.Bag.Out.Flight = g) <;> cases d'.State != 0 <;> cases x.Bag.Load <;> rfl
theorem never_L2 (f : Flight) (now : Int) (fin : Bool) (r2 : (List Manifest) × Src) (x : Facts) : ∀ (l : List (List Departure)) (k : Nat) (s : Src), SrcOk s → okP (law26_AuthorityNever_L2 f now fin r2 x l k s.L s.At) srcQ
  | [], k, s, h => okP_some h
  | q :: l, k, s, h => by
    rw [law26_AuthorityNever_L2]
    refine okP_bind (Flight_ok s h) (fun r h => ?_)
    rw [sub_brkE (never_L3 now fin r2 x q _ 0)]
    exact never_L2 f now fin r2 x l (k + 1) r.2 h
theorem never_L1 (f : Flight) (now : Int) (fin : Bool) (r2 : (List Manifest) × Src) (r3 : (List Departure) × Src) : ∀ (l : List Facts) (k : Nat) (s : Src), SrcOk s → okP (law26_AuthorityNever_L1 f now fin r2 r3 l k s.L s.At) brkT
  | [], k, s, h => okP_some trivial
  | x :: l, k, s, h => by
    rw [law26_AuthorityNever_L1, flights_eq, Option.bind_some]
    exact okP_sub (never_L2 f now fin r2 x _ 0 s h) (fun z hz => never_L1 f now fin r2 r3 l (k + 1) ⟨z.1, z.2⟩ hz)
theorem never_ok (x : Facts) (l : List Int) (f : Flight) (now : Int) (fin : Bool) : law26_AuthorityNever x l f now fin = some true := by
  refine okP_eq ?_
  unfold law26_AuthorityNever
  refine okP_bind (New_ok l) (fun s h => ?_)
  refine okP_bind (man_ok s h) (fun r ⟨_, h⟩ => ?_)
  refine okP_bind (Schedule_ok _ 8 h (by omega) (by omega)) (fun r3 h => ?_)
  refine okP_bind (Facts_ok _ h) (fun r4 ⟨_, h⟩ => ?_)
  refine okP_bind (Facts_ok _ h) (fun r5 ⟨_, h⟩ => ?_)
  refine okP_finB (never_L1 f now fin r r3 _ 0 r5.2 h) (fun _ _ => ?_)
  rw [awake_ok]
  exact okP_some rfl

/-! what may stay on board may be loaded -/
theorem dep_find {k : Nat} (h : k < 3) : ref20_Find [dep 0, dep 1, dep 2] (fl k) = some (k : Int) ∧ [dep 0, dep 1, dep 2][k]? = some (dep k) := by
  match k, h with
  | 0, _ => exact ⟨by kernel_rfl, rfl⟩
  | 1, _ => exact ⟨by kernel_rfl, rfl⟩
  | 2, _ => exact ⟨by kernel_rfl, rfl⟩
theorem dec_more {e s : Int} (h : (decD e s true).Granted = true) : decD e s false = decD e s true := by
  unfold decD at h ⊢
  by_cases c1 : e = 1
  · rw [if_pos c1, if_pos c1]
  rw [if_neg c1] at h ⊢
  rw [if_neg c1]
  by_cases c2 : e = 2
  · rw [if_pos c2, if_pos c2]
  rw [if_neg c2] at h ⊢
  rw [if_neg c2]
  by_cases c3 : e = 3
  · rw [if_pos c3, if_pos c3]
  rw [if_neg c3] at h ⊢
  rw [if_neg c3]
  by_cases c4 : s = 4
  · rw [if_pos c4, if_pos c4]
  rw [if_neg c4] at h
  have : ¬ (s = 1 ∧ true = false) := fun h => by cases h.2
  rw [if_neg this] at h
  split at h <;> cases h
theorem refR_of {x : Facts} {d : Departure} {f : Flight} {now t : Int} (h : refR x (some d) f now true = 0) (ht : ¬ d.Closes ≤ t) : refR x (some d) f t false = 0 := by
  obtain ⟨z1, z2, z3, d', z4, z5, _, z6, z7, z8⟩ := refR_zero h
  cases z4
  unfold refR
  simp [z1, z2, z3, z5, z6, z7, z8, ht]
theorem final_L (now t : Int) (r2 : (List Manifest) × Src) : ∀ (n : Nat) (s : Src) (i : Int), SrcOk s → 0 ≤ i → i ≤ 8 → 8 < n + i → okP (law26_AuthorityFinal_L1 now t r2 [dep 0, dep 1, dep 2] n s.L s.At i) brkT
  | 0, s, i, _, _, _, _ => by omega
  | n + 1, s, i, h, h0, h1, h2 => by
    rw [law26_AuthorityFinal_L1]
    refine okP_cond (fun c => ?_) (fun _ => okP_some trivial)
    have c := of_decide_eq_true c
    rw [w64_id (z := i + 1) (by omega) (by omega)]
    refine okP_bind (Facts_ok s h) (fun r8 ⟨⟨k, hk, hfl⟩, h⟩ => ?_)
    have ih := final_L now t r2 n r8.2 (i + 1) h (by omega) (by omega) (by omega)
    obtain ⟨o1, s1, a1, _, a2, a3⟩ := decide_ok r8.1 r2.1 [dep 0, dep 1, dep 2] r8.1.Bag.Out.Flight now true
    obtain ⟨o2, s2, b1, _, b2, b3⟩ := decide_ok r8.1 r2.1 [dep 0, dep 1, dep 2] r8.1.Bag.Out.Flight t false
    rw [a3] at b3
    cases b3
    obtain ⟨d1, d2⟩ := dep_find hk
    have oE : ∀ o, ((o = none ∧ ref20_Find [dep 0, dep 1, dep 2] r8.1.Bag.Out.Flight = some (-1) ∧ ∀ d ∈ [dep 0, dep 1, dep 2], d.Flight ≠ r8.1.Bag.Out.Flight) ∨ ∃ i d, o = some d ∧ Found r8.1.Bag.Out.Flight [dep 0, dep 1, dep 2] i d ∧ ref20_Find [dep 0, dep 1, dep 2] r8.1.Bag.Out.Flight = some ((i : Nat) : Int)) → o = some (dep k) := fun o ho => by
      rw [hfl, d1] at ho
      rcases ho with ⟨_, hi, _⟩ | ⟨j, d, rfl, hf, hi⟩
      · have := Option.some.inj hi; omega
      · have := Option.some.inj hi
        have : j = k := by omega
        subst this
        rw [hf.1] at d2
        exact d2
    obtain rfl := oE o1 a2
    obtain rfl := oE o2 b2
    obtain ⟨_, _, _, _, _, _, g1⟩ := dec_chk (e := r8.1.Bag.Exception) (s := s1) (fin := true) (refR_le r8.1 (some (dep k)) r8.1.Bag.Out.Flight now true)
    obtain ⟨_, _, _, _, _, _, g2⟩ := dec_chk (e := r8.1.Bag.Exception) (s := s1) (fin := false) (refR_le r8.1 (some (dep k)) r8.1.Bag.Out.Flight t false)
    have hx : ixL [dep 0, dep 1, dep 2] ((k : Nat) : Int) = some (dep k) := ixL_at' k rfl d2
    have hn : decide (((k : Nat) : Int) < 0) = false := decide_eq_false (by omega)
    rw [a1, b1, Option.bind_some, Option.bind_some, hfl, d1, Option.bind_some, hn, cond_false, hx, ← hfl]
    simp only [Option.bind_some, closed_eq]
    have hst : ((dep k).State != 0) = false := rfl
    rw [hst, Bool.false_or]
    -- b granted: not closed
    have hB : (decR (refR r8.1 (some (dep k)) r8.1.Bag.Out.Flight t false) r8.1.Bag.Exception s1 false).Granted = true → decide ((dep k).Closes ≤ t) = false := fun hb => by
      obtain ⟨_, _, _, d, e, _, hc, _⟩ := refR_zero (g2 hb)
      cases e
      exact decide_eq_false (hc rfl)
    have hA : (decR (refR r8.1 (some (dep k)) r8.1.Bag.Out.Flight now true) r8.1.Bag.Exception s1 true).Granted = true → decide ((dep k).Closes ≤ t) = false → decR (refR r8.1 (some (dep k)) r8.1.Bag.Out.Flight t false) r8.1.Bag.Exception s1 false = decR (refR r8.1 (some (dep k)) r8.1.Bag.Out.Flight now true) r8.1.Bag.Exception s1 true := fun ha hc => by
      have h0 := g1 ha
      have h0' := refR_of h0 (of_decide_eq_false hc)
      rw [h0] at ha
      rw [h0, h0']
      exact dec_more ha
    generalize decR (refR r8.1 (some (dep k)) r8.1.Bag.Out.Flight t false) r8.1.Bag.Exception s1 false = b at hA hB ⊢
    generalize decR (refR r8.1 (some (dep k)) r8.1.Bag.Out.Flight now true) r8.1.Bag.Exception s1 true = a at hA ⊢
    cases hc : decide ((dep k).Closes ≤ t) with
    | true =>
      have hb : b.Granted = false := by
        cases hb : b.Granted with
        | false => rfl
        | true => have := hB hb; rw [hc] at this; cases this
      rw [hb]
      cases a.Granted <;> exact ih
    | false =>
      cases ha : a.Granted with
      | true =>
        have := hA ha hc
        subst this
        rw [ha]
        have e : (b.Rule != b.Rule) = false := by simp
        rw [e]
        exact ih
      | false =>
        cases b.Granted <;> exact ih
theorem final_ok (l : List Int) (now t : Int) : law26_AuthorityFinal l now t = some true := by
  refine okP_eq ?_
  unfold law26_AuthorityFinal
  refine okP_bind (New_ok l) (fun s h => ?_)
  refine okP_bind (man_ok s h) (fun r ⟨_, h⟩ => ?_)
  rw [flights_eq, Option.bind_some, apL_eq (by simp), Option.bind_some]
  refine okP_finB (final_L now t r 9223372036854775807 r.2 0 h (by omega) (by omega) (by omega)) (fun _ _ => ?_)
  rw [awake_ok]
  exact okP_some rfl

/-! rulings -/
theorem may_same (p : Plate) : ∀ (l : List Ruling) (k : Nat), authority_May_L1 p l k = ref26_May_L1 p l k
  | [], k => rfl
  | e :: q, k => by rw [authority_May_L1, ref26_May_L1, may_same p q (k + 1)]
theorem may_L (p : Plate) : ∀ (l : List Ruling) (k : Nat), okP (ref26_May_L1 p l k) (ctlQ (fun _ => True) (fun _ => True))
  | [], k => okP_some trivial
  | e :: q, k => by
    rw [ref26_May_L1]
    exact okP_cond (fun _ => okP_some trivial) (fun _ => may_L p q (k + 1))
theorem may_ok (l : List Ruling) (p : Plate) : ∃ b, authority_May l p = some b ∧ ref26_May l p = some b := by
  obtain ⟨b, h, _⟩ : okP (ref26_May l p) (fun _ => True) := by
    unfold ref26_May
    exact okP_fin (may_L p l 0) (fun _ _ => okP_some trivial)
  refine ⟨b, ?_, h⟩
  rw [← h]
  unfold authority_May ref26_May
  rw [may_same]
theorem rul_L1 : ∀ (n : Nat) (s : Src) (acc : List Ruling) (i : Int), SrcOk s → 0 ≤ i → i < n → (acc.length : Int) + i ≤ 100 → okP (law26_AuthorityRulings_L1 n s.L s.At acc i) (ctlQ (fun _ => False) (fun z => SrcOk ⟨z.1, z.2.1⟩ ∧ z.2.2.length ≤ 100))
  | 0, s, acc, i, _, _, _, _ => by omega
  | n + 1, s, acc, i, h, h0, h1, h2 => by
    rw [law26_AuthorityRulings_L1]
    refine okP_cond (fun c => ?_) (fun _ => okP_some ⟨h, by show acc.length ≤ 100; omega⟩)
    have c := of_decide_eq_true c
    refine okP_bind (Plate_ok s 6 h (by omega) (by omega)) (fun r7 h => ?_)
    refine okP_bind (N_ok _ 2 h (by omega) (by omega)) (fun r8 ⟨_, _, h⟩ => ?_)
    refine okP_bind (N_ok _ 2 h (by omega) (by omega)) (fun r9 ⟨_, _, h⟩ => ?_)
    rw [apL_eq (by simp; omega), Option.bind_some, w64_id (z := i - 1) (by omega) (by omega)]
    exact rul_L1 n r9.2 _ (i - 1) h (by omega) (by omega) (by simp; omega)
theorem rul_L3 : ∀ (l : List Ruling) (k : Nat) (acc : List Plate), acc.length + l.length ≤ 1000 → okP (law26_AuthorityRulings_L3 l k acc) brkT
  | [], k, acc, _ => okP_some trivial
  | e :: q, k, acc, h => by
    simp only [List.length_cons] at h
    rw [law26_AuthorityRulings_L3, apL_eq (by simp; omega), Option.bind_some]
    exact rul_L3 q (k + 1) _ (by simp; omega)
theorem rul_L4 (l : List Ruling) : ∀ (q : List Plate) (k : Nat), law26_AuthorityRulings_L4 l q k = some (.brk ())
  | [], k => rfl
  | p :: q, k => by
    obtain ⟨b, h1, h2⟩ := may_ok l p
    rw [law26_AuthorityRulings_L4, h1, h2, Option.bind_some, Option.bind_some, beq_self_eq_true, Bool.not_true, cond_false, rul_L4 l q (k + 1)]
theorem rul_L2 (raw : List Ruling) (p : Plate) (z : (List Int) × Int × (List Ruling)) (hr : raw.length ≤ 100) (hz : z.2.2.length ≤ 100) : ∀ (n : Nat) (s : Src) (i : Int), SrcOk s → 0 ≤ i → i ≤ 2 → 2 < n + i → okP (law26_AuthorityRulings_L2 raw p z n s.L s.At i) brkT
  | 0, s, i, _, _, _, _ => by omega
  | n + 1, s, i, h, h0, h1, h2 => by
    rw [law26_AuthorityRulings_L2]
    refine okP_cond (fun c => ?_) (fun _ => okP_some trivial)
    have c := of_decide_eq_true c
    refine okP_bind (okP_ixL (Q := fun q => q.length ≤ 100) h0 (by simp only [List.length_cons, List.length_nil]; omega) (fun q hq _ => ?_)) (fun q hq => ?_)
    · simp only [List.mem_cons, List.not_mem_nil, or_false] at hq
      rcases hq with rfl | rfl
      · exact hr
      · exact hz
    refine okP_bind (Plate_ok s 6 h (by omega) (by omega)) (fun r7 h => ?_)
    refine okP_bind (Plate_ok _ 6 h (by omega) (by omega)) (fun r8 h => ?_)
    refine okP_sub (rul_L3 q 0 _ (by simp; omega)) (fun z25 _ => ?_)
    rw [sub_brkE (rul_L4 q z25 0), w64_id (z := i + 1) (by omega) (by omega)]
    exact rul_L2 raw p z hr hz n r8.2 (i + 1) h (by omega) (by omega) (by omega)
theorem rulings_ok (raw : List Ruling) (l : List Int) (p : Plate) : law26_AuthorityRulings raw l p = some true := by
  refine okP_eq ?_
  unfold law26_AuthorityRulings
  refine okP_bind (New_ok l) (fun s h => ?_)
  refine okP_cond (fun _ => okP_some rfl) (fun c => ?_)
  have c := of_decide_eq_false c
  refine okP_bind (N_ok s 12 h (by omega) (by omega)) (fun r ⟨a1, a2, h⟩ => ?_)
  refine okP_finB (rul_L1 9223372036854775807 r.2 [] r.1 h a1 (by omega) (by simp; omega)) (fun z ⟨h, hz⟩ => ?_)
  refine okP_finB (rul_L2 raw p z (by omega) hz 9223372036854775807 ⟨z.1, z.2.1⟩ 0 h (by omega) (by omega) (by omega)) (fun _ _ => ?_)
  rw [awake_ok]
  exact okP_some rfl

/-! cancelled and restored -/
def depS (f : Nat) (st : Int) : Departure := ⟨fl f, ⟨#[76, 72, 82]⟩, 10, 40, 50, 0, st⟩
def chg (k : Nat) (st : Int) : List Departure := [depS 0 (if k = 0 then st else 0), depS 1 (if k = 1 then st else 0), depS 2 (if k = 2 then st else 0)]
theorem can_eq {k : Nat} (h : k < 3) (now : Int) : schedule_Apply [dep 0, dep 1, dep 2] ⟨4, 0, fl k⟩ now = some (chg k 1, 0) ∧ schedule_Apply (chg k 1) ⟨5, 0, fl k⟩ now = some ([dep 0, dep 1, dep 2], 0) ∧ schedule_Depart [dep 0, dep 1, dep 2] (fl k) 40 = some (chg k 2, 0) := by
  match k, h with
  | 0, _ => exact ⟨by kernel_rfl, by kernel_rfl, by kernel_rfl⟩
  | 1, _ => exact ⟨by kernel_rfl, by kernel_rfl, by kernel_rfl⟩
  | 2, _ => exact ⟨by kernel_rfl, by kernel_rfl, by kernel_rfl⟩
theorem chg_find {k : Nat} (h : k < 3) (st : Int) : ref20_Find (chg k st) (fl k) = some (k : Int) ∧ (chg k st)[k]? = some (depS k st) := by
  match k, h with
  | 0, _ => exact ⟨by kernel_rfl, rfl⟩
  | 1, _ => exact ⟨by kernel_rfl, rfl⟩
  | 2, _ => exact ⟨by kernel_rfl, rfl⟩
theorem chg_dec {k : Nat} (h : k < 3) {st : Int} (hs : st ≠ 0) (x : Facts) (m : List Manifest) (now : Int) (fin : Bool) : okP (authority_Decide x m (chg k st) (fl k) now fin) (fun a => a.Granted = false) := by
  obtain ⟨o, s, a1, _, a2, _⟩ := decide_ok x m (chg k st) (fl k) now fin
  refine ⟨_, a1, ?_⟩
  obtain ⟨d1, d2⟩ := chg_find h st
  obtain ⟨_, _, _, _, _, _, g1⟩ := dec_chk (e := x.Bag.Exception) (s := s) (fin := fin) (refR_le x o (fl k) now fin)
  cases hg : (decR (refR x o (fl k) now fin) x.Bag.Exception s fin).Granted with
  | false => rfl
  | true =>
    obtain ⟨_, _, _, d, e, hst, _⟩ := refR_zero (g1 hg)
    subst e
    rw [d1] at a2
    rcases a2 with ⟨h, _⟩ | ⟨j, d', e, hf, hi⟩
    · cases h
    · have := Option.some.inj hi
      have : j = k := by omega
      subst this
      rw [hf.1] at d2
      cases e
      cases d2
      exact absurd hst hs
theorem can_L {k : Nat} (hk : k < 3) (now : Int) (fin : Bool) (r2 : (List Manifest) × Src) : ∀ (n : Nat) (s : Src) (i : Int), SrcOk s → 0 ≤ i → i ≤ 6 → 6 < n + i → okP (law26_AuthorityCancelled_L1 now fin r2 [dep 0, dep 1, dep 2] (fl k) (chg k 1, 0) ([dep 0, dep 1, dep 2], 0) (chg k 2, 0) n s.L s.At i) brkT
  | 0, s, i, _, _, _, _ => by omega
  | n + 1, s, i, h, h0, h1, h2 => by
    rw [law26_AuthorityCancelled_L1]
    refine okP_cond (fun c => ?_) (fun _ => okP_some trivial)
    have c := of_decide_eq_true c
    rw [w64_id (z := i + 1) (by omega) (by omega)]
    refine okP_bind (Facts_ok s h) (fun r8 ⟨_, h⟩ => ?_)
    refine okP_bind (chg_dec hk (st := 1) (by decide) _ _ now fin) (fun a ha => ?_)
    rw [ha, cond_false]
    refine okP_bind (chg_dec hk (st := 2) (by decide) _ _ now fin) (fun b hb => ?_)
    rw [hb, cond_false]
    have hd := fun x => decide_ok x r2.1 [dep 0, dep 1, dep 2] (fl k) now fin
    obtain ⟨o, s', e1, _⟩ := hd (⟨r8.1.Known, (⟨r8.1.Bag.Plate, r8.1.Bag.In, (⟨fl k, r8.1.Bag.Out.Port, r8.1.Bag.Out.Class⟩ : Leg), r8.1.Bag.Onward, r8.1.Bag.Sequence, r8.1.Bag.Status, r8.1.Bag.Weight, r8.1.Bag.Load, r8.1.Bag.Surname, r8.1.Bag.Given, r8.1.Bag.Exception, r8.1.Bag.Node, r8.1.Bag.Unloaded⟩ : Bag), r8.1.Copies, r8.1.Cleared⟩ : Facts)
    rw [e1, Option.bind_some, Option.bind_some, dsame, Bool.not_true, cond_false]
    exact can_L hk now fin r2 n r8.2 (i + 1) h (by omega) (by omega) (by omega)
theorem cancelled_ok (l : List Int) (now : Int) (fin : Bool) : law26_AuthorityCancelled l now fin = some true := by
  refine okP_eq ?_
  unfold law26_AuthorityCancelled
  refine okP_bind (New_ok l) (fun s h => ?_)
  refine okP_bind (man_ok s h) (fun r ⟨_, h⟩ => ?_)
  rw [flights_eq, Option.bind_some]
  refine okP_bind (N_ok _ 3 h (by omega) (by omega)) (fun r4 ⟨a1, a2, h⟩ => ?_)
  obtain ⟨k, hk⟩ : ∃ k : Nat, r4.1 = k := ⟨r4.1.toNat, by omega⟩
  have hk3 : k < 3 := by omega
  obtain ⟨e1, e2, e3⟩ := can_eq hk3 now
  rw [hk, fl_eq (f := k) (by omega), Option.bind_some, e1, Option.bind_some, e2, Option.bind_some, e3, Option.bind_some]
  simp only [show ((0 : Int) != 0) = false from rfl, cond_false]
  refine okP_finB (can_L hk3 now fin r 9223372036854775807 r4.2 0 h (by omega) (by omega) (by omega)) (fun _ _ => ?_)
  rw [awake_ok]
  exact okP_some rfl
end Go.Proofs.YtbiofbmjonmglaaDoor.Ex
