/- Abstract operations: append, make, composite slices. Nothing of the dump is used here. -/
import Derived.Test.YtkefkegknacpjaaAxG
namespace Go.Proofs.Ytkefkegknacpjaa.Ax
open Go.RowKit
set_option linter.unusedVariables false
set_option linter.unusedSimpArgs false

theorem flat_blk {w : World} {F : Nat → Prop} {β : Nat → Option Hdr} {sz : Nat} {xs : List (List AV)} {l : List Value} (h : Flat w F β sz xs l) {b : Nat} {arr : Array Value} {ty : TypeId} (hb : w.heap[b]? = some (.cells arr ty (0, 0)))
    (hl : ∀ p, p < l.length → arr[p]? = l[p]?) {cap : Nat} (hc : cap * sz ≤ arr.size) (hx : xs.length ≤ cap) (hm : cap ≤ maxLen) : BlkR w F β ⟨some b, xs.length, cap⟩ (.row sz xs) := by
  refine ⟨rfl, hx, hm, (fun e => by cases e), h.2.1, fun b' e => ?_⟩
  cases e
  refine ⟨arr, ty, hb, hc, fun k c j u hk hj => ?_⟩
  obtain ⟨v, e1, e2⟩ := h.2.2 k c j u hk hj
  refine ⟨v, ?_, e2⟩
  rw [hl _ (List.getElem?_eq_some_iff.1 e1).1]
  exact e1

/-- the slice that is appended to: its elements, and the ids that go -/
def OwnS (H : Nat → Option ABlk) (g : Nat) (v : AV) (sz : Nat) (xs : List (List AV)) (wr : List (Nat × Option ABlk)) : Prop :=
  (v = .nils ∧ xs = [] ∧ wr = []) ∨ (∃ id, v = .osl id ∧ H id = some (.row sz xs) ∧ wr = [(id, none)]) ∨
    (∃ id hi mx ys, v = .sub id sz 0 hi mx ∧ H id = some (.row sz ys) ∧ hi ≤ ys.length ∧ xs = ys.take hi ∧ (mx = none ∨ mx = some hi) ∧ wr = [(id, none)])

/-- a shorter row of the same block -/
theorem BlkR.short {w : World} {F : Nat → Prop} {β : Nat → Option Hdr} {g : Hdr} {sz hi cp : Nat} {ys : List (List AV)} (h : BlkR w F β g (.row sz ys)) (hh : hi ≤ ys.length) (hc1 : hi ≤ cp) (hc2 : cp ≤ g.cap) : BlkR w F β ⟨g.blk, hi, cp⟩ (.row sz (ys.take hi)) := by
  obtain ⟨h1, h2, h3, h4, h5, h6⟩ := h
  have el : ∀ (k : Nat) (c : List AV), (ys.take hi)[k]? = some c → ys[k]? = some c := fun k c hk => by
    rw [List.getElem?_take] at hk
    split at hk
    · exact hk
    · cases hk
  refine ⟨by simp [Nat.min_eq_left hh], by simp [Nat.min_eq_left hh]; exact hc1, by show cp ≤ maxLen; omega, fun e => by have := h4 e; show cp = 0; omega, fun k c hk => h5 k c (el k c hk), fun b e => ?_⟩
  obtain ⟨arr, ty, r1, r2, r3⟩ := h6 b e
  exact ⟨arr, ty, r1, Nat.le_trans (Nat.mul_le_mul_right _ (by show cp ≤ g.cap; omega)) r2, fun k c j u hk hj => r3 k c j u (el k c hk) hj⟩

section
variable {P : Program} (w : World)
theorem run_append_in (t ty e : TypeId) (i : TypeInfo) (ht : P.underlying t = some (.slice e)) (hi : P.info? e = some i) (g sLen sCap : Nat) (cur : Array Value) (te : TypeId) (hg : w.heap[g]? = some (.cells cur te (0, 0)))
    (a : Option Addr) (m c : Nat) (news : List Value) (hf : (Builtin.firstCells i.size m (.slice a m c)).run P w = .ok news.toArray w) (h1 : ∀ u ∈ news, u.oneCell' = true) (hroom : sLen + m ≤ sCap) (hfit : sLen * i.size + news.length ≤ cur.size) :
    (Builtin.append_ #[t, t] ty #[.slice (some ⟨g, 0, none⟩) sLen sCap, .slice a m c]).run P w =
      .ok (.slice (some ⟨g, 0, none⟩) (sLen + m) sCap) (w.setRow g (cur.toList.take (sLen * i.size) ++ news ++ cur.toList.drop (sLen * i.size + news.length)).toArray) := by
  have hst := run_storeCells_at P g (sLen * i.size) te news 0 cur w hg (by simpa using hfit) h1
  simp only [Nat.add_zero] at hst
  simp [Builtin.append_, run_underlying ht, sizeOf, typeInfo, hi, Builtin.lenOf, hroom, hf, Addr.add_lit, hst]

theorem run_append_0 (t ty e : TypeId) (i : TypeInfo) (ht : P.underlying t = some (.slice e)) (hi : P.info? e = some i) (a : Option Addr) (c : Nat) (hf : (Builtin.firstCells i.size 0 (.slice a 0 c)).run P w = .ok #[] w) :
    (Builtin.append_ #[t, t] ty #[.slice none 0 0, .slice a 0 c]).run P w = .ok (.slice none 0 0) w := by
  simp [Builtin.append_, run_underlying ht, sizeOf, typeInfo, hi, Builtin.lenOf, hf]
end

theorem first_run {P : Program} {w : World} {F : Nat → Prop} {β : Nat → Option Hdr} {sz : Nat} {ys : List (List AV)} {a : Option Addr} {c : Nat} {news : List Value} (ha : a = none → ys = []) (hf : Flat w F β sz ys news) (hn : ∀ ad, a = some ad → ∀ (j : Nat) (u : Value), news[j]? = some u → w.cell? (ad.add j) = some u) :
    (Builtin.firstCells sz ys.length (.slice a ys.length c)).run P w = .ok news.toArray w := by
  cases a with
  | none =>
    have := ha rfl
    subst this
    have : news = [] := List.eq_nil_of_length_eq_zero (by simpa using hf.1)
    subst this
    simp [Builtin.firstCells]
  | some ad => exact run_firstCells_some (P := P) w sz ys.length ad ys.length c news hf.1 (hn ad rfl)

theorem same_setRow (w : World) (g : Nat) (arr : Array Value) : Same w (w.setRow g arr) (some g) :=
  ⟨rfl, rfl, rfl, by simp, fun k _ hk => setRow_other w g k _ (fun e => hk (by simp [e]))⟩

theorem same_grow (w : World) (o : Obj) : Same w (w.drew.alloc o) none :=
  ⟨rfl, rfl, rfl, by simp, fun k hk _ => Below.heap_alloc w.drew _ k hk⟩

/-- behind an append: the row has a new id -/
theorem append_rel {C : Ctx} {I : Nat → Prop} {σ : ASt} {a : Act} {w : World} {β : Nat → Option Hdr} {F : Nat → Prop} (hR : RelB C I σ a w β F) {n : Nat} (hn : ¬ I n) {g : Nat} (hC : C.γ.length = g) {v : AV} {sz : Nat} {xs ys : List (List AV)} {wr : List (Nat × Option ABlk)}
    (hs : OwnS σ.H g v sz xs wr) {sv xv : Value} (hv : RV w F β v sv) (hx : Reads w F β sz ys xv) {P : Program} {t ty e : TypeId} {i : TypeInfo} {z : Value} (ht : P.underlying t = some (.slice e)) (hi : P.info? e = some i) (hz : i.zero = some z)
    (hsz : i.size = sz) (hzs : z.cells.size = sz) (hb : (xs.length + ys.length) * i.bytes ≤ 140737488355328) (h63 : xs.length + ys.length ≤ maxLen) :
    ∃ u w' β', (Builtin.append_ #[t, t] ty #[sv, xv]).run P w = .ok u w' ∧ RelB C (fun i => I i ∨ i = n) { σ with H := wrH σ.H (wr ++ [(n, some (.row sz (xs ++ ys)))]) } a w' β' F ∧ RV w' F β' (.osl n) u := by
  subst hsz
  obtain ⟨xa, xc, news, rfl, hxa, hfl, hcells⟩ := hx
  have hfirst := first_run (P := P) hxa hfl hcells (c := xc)
  have hsmall : xs.length + ys.length ≤ 9223372036854775807 := by simp only [maxLen] at h63; omega
  -- what is appended to, in the world
  obtain ⟨h, hsv, hblk, hid⟩ : ∃ h : Hdr, sv = .slice (ownBase h.blk 0) h.len h.cap ∧ BlkR w F β h (.row i.size xs) ∧ ((wr = [] ∧ h.blk = none) ∨ ∃ id k g', wr = [(id, none)] ∧ σ.H id = some k ∧ β id = some g' ∧ h.blk = g'.blk ∧ BlkR w F β g' k ∧ ∀ k', wrH σ.H (wr ++ [(n, k')]) = setH (setH σ.H id none) n k') := by
    rcases hs with ⟨rfl, rfl, rfl⟩ | ⟨id, rfl, h1, rfl⟩ | ⟨id, hh, mx, zs, rfl, h1, h2, rfl, h3, rfl⟩
    · cases hv
      exact ⟨⟨none, 0, 0⟩, rfl, ⟨rfl, Nat.le_refl _, by simp [maxLen], fun _ => rfl, fun k c hk => by simp at hk, fun b e => by cases e⟩, .inl ⟨rfl, rfl⟩⟩
    · obtain ⟨g', e1, e2, _⟩ := hR.live id _ h1
      cases hv with
      | osl _ g'' e3 =>
        rw [e1] at e3
        cases e3
        exact ⟨g', rfl, e2, .inr ⟨id, _, g', rfl, h1, e1, rfl, e2, fun k' => rfl⟩⟩
    · obtain ⟨g', e1, e2, _⟩ := hR.live id _ h1
      cases hv with
      | sub _ _ _ _ _ g'' e3 =>
        rw [e1] at e3
        cases e3
        have hcap : hh ≤ g'.cap := by have := e2.2.1; omega
        rcases h3 with rfl | rfl
        · refine ⟨⟨g'.blk, hh, g'.cap⟩, ?_, e2.short h2 hcap (Nat.le_refl _), .inr ⟨id, _, g', rfl, h1, e1, rfl, e2, fun k' => rfl⟩⟩
          simp
        · refine ⟨⟨g'.blk, hh, hh⟩, ?_, e2.short h2 (Nat.le_refl _) hcap, .inr ⟨id, _, g', rfl, h1, e1, rfl, e2, fun k' => rfl⟩⟩
          simp
  obtain ⟨q1, q2, q3, q4, q5, q6⟩ := hblk
  have hblk : BlkR w F β h (.row i.size xs) := ⟨q1, q2, q3, q4, q5, q6⟩
  subst hsv
  by_cases hroom : h.len + ys.length ≤ h.cap
  · cases hb' : h.blk with
    | none =>
      have hc0 := q4 hb'
      have hx0 : xs = [] := List.eq_nil_of_length_eq_zero (by omega)
      have hy0 : ys = [] := List.eq_nil_of_length_eq_zero (by omega)
      have hl0 : h.len = 0 := by omega
      subst hx0
      subst hy0
      have hnews : news = [] := List.eq_nil_of_length_eq_zero (by simpa using hfl.1)
      subst hnews
      have hrun := run_append_0 (P := P) w t ty e i ht hi xa xc hfirst
      have hB0 : ∀ β', BlkR w F β' ⟨none, 0, 0⟩ (.row i.size ([] ++ [])) := fun β' => ⟨rfl, Nat.le_refl _, by simp [maxLen], fun _ => rfl, fun k c hk => by simp at hk, fun b e => by cases e⟩
      refine ⟨.slice none 0 0, w, setB β n ⟨none, 0, 0⟩, by rw [hl0, hc0]; exact hrun, ?_, .osl n ⟨none, 0, 0⟩ (setB_same _ _ _)⟩
      rcases hid with ⟨rfl, _⟩ | ⟨id, k, g', rfl, h2, h3, h4, h5, h6⟩
      · exact (hR.new hn ⟨rfl, rfl, rfl, Nat.le_refl _, fun _ _ _ => rfl⟩ ⟨none, 0, 0⟩ (fun i e => by cases e) _ (hB0 _)).fin rfl rfl (fun i hi => hi)
      · exact (hR.take h2 h3 hn ⟨none, 0, 0⟩ (by rw [← h4, hb']) _ (hB0 _)).fin rfl (h6 _) (fun i hi => hi)
    | some b =>
      obtain ⟨arr, ty', r1, r2, r3⟩ := q6 b hb'
      have hfit : h.len * i.size + news.length ≤ arr.size := by
        rw [hfl.1, ← Nat.add_mul]
        exact Nat.le_trans (Nat.mul_le_mul_right _ hroom) r2
      have hrun := run_append_in (P := P) w t ty e i ht hi b h.len h.cap arr ty' r1 xa ys.length xc news hfirst hfl.one hroom hfit
      rcases hid with ⟨_, hc⟩ | ⟨id, k, g', rfl, h2, h3, h4, h5, h6⟩
      · rw [hb'] at hc; cases hc
      · generalize hA : (arr.toList.take (h.len * i.size) ++ news ++ arr.toList.drop (h.len * i.size + news.length)).toArray = A at hrun
        have hAs : A.size = arr.size := by
          rw [← hA]
          simp only [List.size_toArray, List.length_append, List.length_take, List.length_drop, Array.length_toList]
          omega
        have hAlt : ∀ p, p < h.len * i.size → A[p]? = arr[p]? := fun p hp => by
          rw [← hA]
          simp only [List.getElem?_toArray]
          rw [List.getElem?_append_left (by simp; omega), List.getElem?_append_left (by simp; omega), List.getElem?_take, if_pos hp, Array.getElem?_toList]
        have hAn : ∀ p, p < news.length → A[h.len * i.size + p]? = news[p]? := fun p hp => by
          rw [← hA]
          simp only [List.getElem?_toArray]
          have hl : (arr.toList.take (h.len * i.size)).length = h.len * i.size := by simp; omega
          rw [List.getElem?_append_left (by rw [List.length_append, hl]; omega), List.getElem?_append_right (by rw [hl]; omega), hl, Nat.add_sub_cancel_left]
        have hheap := setRow_heap w b arr A ty' _ r1
        obtain ⟨_, d1, _, d3⟩ := hR.live id k h2
        rw [h3] at d1
        cases d1
        obtain ⟨d4, d5, d6⟩ := d3 b (by rw [← h4, hb'])
        have hFw : ∀ j, F j → (w.setRow b A).heap[j]? = w.heap[j]? := fun j hj => (same_setRow w b A).block j (hR.news j hj).1 (fun e => d5 (by cases e; exact hj))
        -- the old row, in the new world
        have hold : ∀ (k : Nat) (c : List AV) (j : Nat) (u : AV), xs[k]? = some c → c[j]? = some u → ∃ v, A[k * i.size + j]? = some v ∧ RV (w.setRow b A) F β u v := fun k c j u hk hj => by
          obtain ⟨v, s1, s2⟩ := r3 k c j u hk hj
          have hj' := (List.getElem?_eq_some_iff.1 hj).1
          rw [(q5 _ _ hk).1] at hj'
          have hk' := (List.getElem?_eq_some_iff.1 hk).1
          exact ⟨v, by rw [hAlt _ (by rw [q1]; exact flat_lt hk' hj')]; exact s1, s2.mono (fun _ x => x) hFw (fun _ _ x => x)⟩
        have hrow : BlkR (w.setRow b A) F β g' (.row i.size ([] : List (List AV))) ∨ True := .inr trivial
        -- written, then taken over
        have hkill := hR.kill id
        have hstep : RelB C I { σ with H := setH σ.H id none } a (w.setRow b A) β F := by
          refine hkill.step (same_setRow w b A) (fun j e => ?_) I (fun _ x => x) _ β (fun _ _ x => x) (fun id g e => hR.dom id g e) (fun id1 k1 e1 => ?_) hkill.inj
          · cases e
            refine ⟨d5, fun hlt => ?_⟩
            rcases d6 with d6 | d6
            · exact d6
            · omega
          · refine .inl ⟨e1, fun g1 j s1 s2 s3 => ?_⟩
            cases s3
            by_cases hid : id1 = id
            · subst hid; rw [setH_same] at e1; cases e1
            · rw [setH_ne _ _ hid] at e1
              exact hid (hR.inj id1 id k1 k g1 _ _ e1 h2 s1 h3 s2 (by rw [← h4, hb']))
        have hβ := setB_le (⟨some b, h.len + ys.length, h.cap⟩ : Hdr) (hR.fresh hn)
        refine ⟨_, _, setB β n ⟨some b, h.len + ys.length, h.cap⟩, hrun, ?_, .osl n ⟨some b, h.len + ys.length, h.cap⟩ (setB_same _ _ _)⟩
        have hlive' : BlkR (w.setRow b A) F (setB β n ⟨some b, h.len + ys.length, h.cap⟩) ⟨some b, h.len + ys.length, h.cap⟩ (.row i.size (xs ++ ys)) := by
          refine ⟨by simp [q1], by simp; omega, q3, (fun e => by cases e), fun k c hk => ?_, fun b2 e2 => ?_⟩
          · by_cases hlt : k < xs.length
            · rw [List.getElem?_append_left hlt] at hk; exact q5 _ _ hk
            · rw [List.getElem?_append_right (by omega)] at hk; exact hfl.2.1 _ _ hk
          · cases e2
            refine ⟨A, ty', hheap, by rw [hAs]; exact r2, fun k c j u hk hj => ?_⟩
            by_cases hlt : k < xs.length
            · rw [List.getElem?_append_left hlt] at hk
              obtain ⟨v, s1, s2⟩ := hold k c j u hk hj
              exact ⟨v, s1, s2.mono (fun _ x => x) (fun _ _ => rfl) hβ⟩
            · rw [List.getElem?_append_right (by omega)] at hk
              obtain ⟨v, s1, s2⟩ := hfl.2.2 _ c j u hk hj
              refine ⟨v, ?_, (s2.mono (fun _ x => x) hFw (fun _ _ x => x)).mono (fun _ x => x) (fun _ _ => rfl) hβ⟩
              have := hAn _ (List.getElem?_eq_some_iff.1 s1).1
              rw [s1, q1, ← Nat.add_assoc, ← Nat.add_mul, Nat.add_sub_cancel' (by omega)] at this
              exact this
        refine (hstep.step (w' := w.setRow b A) (b := none) ⟨rfl, rfl, rfl, Nat.le_refl _, fun _ _ _ => rfl⟩ (fun j e => by cases e) (fun i => I i ∨ i = n) (fun i hi => .inl hi) (setH (setH σ.H id none) n (some (.row i.size (xs ++ ys)))) (setB β n ⟨some b, h.len + ys.length, h.cap⟩) hβ (fun id1 g1 e => ?_) (fun id1 k1 e1 => ?_) (fun id1 id2 k1 k2 g1 g2 j e1 e2 e3 e4 e5 e6 => ?_)).fin rfl (h6 _) (fun i hi => hi)
        · unfold setB at e
          split at e
          · exact .inr ‹_›
          · exact .inl (hR.dom _ _ e)
        · by_cases hid : id1 = n
          · subst hid
            rw [setH_same] at e1
            cases e1
            refine .inr ⟨_, setB_same _ _ _, hlive', fun j hj => ?_⟩
            cases hj
            exact ⟨Nat.lt_of_lt_of_le d4 (same_setRow w b A).size, d5, d6⟩
          · rw [setH_ne _ _ hid] at e1
            exact .inl ⟨e1, fun _ _ _ _ => by simp⟩
        · have old : ∀ {id1 k1}, id1 ≠ n → setH (setH σ.H id none) n (some (.row i.size (xs ++ ys))) id1 = some k1 → id1 ≠ id ∧ σ.H id1 = some k1 := fun {id1 k1} s1 s2 => by
            rw [setH_ne _ _ s1] at s2
            by_cases hid : id1 = id
            · subst hid; rw [setH_same] at s2; cases s2
            · rw [setH_ne _ _ hid] at s2; exact ⟨hid, s2⟩
          by_cases hid : id1 = n <;> by_cases hid' : id2 = n
          · rw [hid, hid']
          · obtain ⟨o1, o2⟩ := old hid' e2
            rw [setB, if_neg hid'] at e4
            rw [hid, setB_same] at e3
            cases e3
            cases e5
            exact absurd (hR.inj id2 id k2 k g2 _ _ o2 h2 e4 h3 e6 (by rw [← h4, hb'])) o1
          · obtain ⟨o1, o2⟩ := old hid e1
            rw [setB, if_neg hid] at e3
            rw [hid', setB_same] at e4
            cases e4
            cases e6
            exact absurd (hR.inj id1 id k1 k g1 _ _ o2 h2 e3 h3 e5 (by rw [← h4, hb'])) o1
          · rw [setB, if_neg hid] at e3
            rw [setB, if_neg hid'] at e4
            exact hR.inj id1 id2 k1 k2 g1 g2 j (old hid e1).2 (old hid' e2).2 e3 e4 e5 e6
  · -- a new block
    obtain ⟨olds, ho1, ho2, ho3⟩ : ∃ olds : List Value, Flat w F β i.size xs olds ∧ (∀ b, h.blk = some b → ∀ (j : Nat) (u : Value), olds[j]? = some u → w.cell? ((⟨b, 0, none⟩ : Addr).add j) = some u) ∧ (h.blk = none → olds = []) := by
      cases hb' : h.blk with
      | none =>
        have hx0 : xs = [] := List.eq_nil_of_length_eq_zero (by have := q4 hb'; omega)
        subst hx0
        exact ⟨[], ⟨by simp, fun k c hk => by simp at hk, fun k c j u hk => by simp at hk⟩, fun b e => (by cases e), fun _ => rfl⟩
      | some b =>
        obtain ⟨arr, ty, r1, r2, r3⟩ := row_flat hblk hb' (lo := 0) (n := xs.length) (by omega)
        simp only [List.drop_zero, List.take_length, Nat.zero_mul] at r3
        refine ⟨_, r3, fun b2 e j u hu => ?_, fun e => by cases e⟩
        cases e
        rw [Addr.add_lit, Nat.zero_add]
        rw [List.getElem?_take] at hu
        split at hu
        · simp [World.cell?, r1]; simpa using hu
        · cases hu
    obtain ⟨ad, rfl⟩ : ∃ ad, xa = some ad := by
      cases xa with
      | none => have := hxa rfl; subst this; simp at hroom; omega
      | some ad => exact ⟨ad, rfl⟩
    have hmpos : 0 < ys.length := by
      rcases Nat.eq_zero_or_pos ys.length with h0 | h0
      · omega
      · exact h0
    have hcn := hcells ad rfl
    have hge := grownCap_ge w (h.len + ys.length) h.cap e
    have hcm := grownCap_le_maxLen w (h.len + ys.length) h.cap e (by rw [q1]; exact h63)
    obtain ⟨A, hrun, hAsz, hAlt⟩ : ∃ A : Array Value, (Builtin.append_ #[t, t] ty #[.slice (ownBase h.blk 0) h.len h.cap, .slice (some ad) ys.length xc]).run P w = .ok (.slice (some ⟨w.heap.size, 0, none⟩) (h.len + ys.length) (grownCap w (h.len + ys.length) h.cap e)) (w.drew.alloc (.cells A e)) ∧
        A.size = grownCap w (h.len + ys.length) h.cap e * i.size ∧ ∀ p, p < (olds ++ news).length → A[p]? = (olds ++ news)[p]? := by
      have hsize : ∀ k, olds.length + news.length + (Builtin.zeroCells z.cells (k - (h.len + ys.length))).size = h.len * i.size + ys.length * i.size + (k - (h.len + ys.length)) * i.size := fun k => by
        rw [size_zeroCells, hzs, ho1.1, hfl.1, q1]
      cases hb' : h.blk with
      | none =>
        have hc0 := q4 hb'
        have hl0 : h.len = 0 := by omega
        have ho := ho3 hb'
        subst ho
        have hr := run_append_nil (P := P) w t ty e i z ht hi hz ad ys.length xc news hfl.1 hcn hmpos (by omega) (by have : ys.length * i.bytes ≤ (xs.length + ys.length) * i.bytes := Nat.mul_le_mul_right _ (by omega); omega)
        rw [hl0, hc0]
        simp only [Nat.zero_add] at hr ⊢
        refine ⟨_, hr, ?_, fun p hp => ?_⟩
        · rw [Array.size_append, size_zeroCells, hzs, List.size_toArray, hfl.1, ← Nat.add_mul]
          congr 1
          have := grownCap_ge w ys.length 0 e
          omega
        · simp only [List.nil_append] at hp ⊢
          rw [Array.getElem?_append_left (by simpa using hp)]
          simp
      | some b =>
        have hr := run_append_grow (P := P) w t ty e i z ht hi hz ⟨b, 0, none⟩ h.len h.cap olds (by rw [ho1.1, q1]) (ho2 b hb') ad ys.length xc news hfl.1 hcn (by omega) (by omega) (growslice_fits (by omega) (by rw [q1]; exact hb))
        refine ⟨_, hr, ?_, fun p hp => ?_⟩
        · simp only [Array.size_append, List.size_toArray]
          rw [hsize, ← Nat.add_mul, ← Nat.add_mul]
          congr 1
          omega
        · rw [Array.getElem?_append_left (by simpa using hp)]
          simp
    have hns := same_grow w (.cells A e)
    have hkilled : ∃ H0, RelB C I { σ with H := H0 } a w β F ∧ ∀ k', wrH σ.H (wr ++ [(n, k')]) = setH H0 n k' := by
      rcases hid with ⟨rfl, _⟩ | ⟨id, k, g', rfl, h2, h3, h4, h5, h6⟩
      · exact ⟨σ.H, hR, fun k' => rfl⟩
      · exact ⟨_, hR.kill id, h6⟩
    obtain ⟨H0, hR0, hH0⟩ := hkilled
    have hFw : ∀ j, F j → (w.drew.alloc (.cells A e)).heap[j]? = w.heap[j]? := fun j hj => hns.block j (hR.news j hj).1 (by simp)
    have hflat := (ho1.append hfl).mono (F' := F) (w' := w.drew.alloc (.cells A e)) (β' := setB β n ⟨some w.heap.size, (xs ++ ys).length, grownCap w (h.len + ys.length) h.cap e⟩) (fun _ x => x) hFw (setB_le _ (hR.fresh hn))
    have hnew := hR0.new hn hns ⟨some w.heap.size, (xs ++ ys).length, grownCap w (h.len + ys.length) h.cap e⟩ (fun j e => by cases e; exact ⟨Nat.le_refl _, by simp⟩) (.row i.size (xs ++ ys))
      (flat_blk hflat (heap_alloc_new w.drew _) hAlt (by rw [hAsz]; exact Nat.le_refl _) (by simp; omega) hcm)
    refine ⟨_, _, _, hrun, hnew.fin rfl (hH0 _) (fun i hi => hi), ?_⟩
    have := RV.osl (w := w.drew.alloc (.cells A e)) (F := F) (β := setB β n ⟨some w.heap.size, (xs ++ ys).length, grownCap w (h.len + ys.length) h.cap e⟩) n _ (setB_same _ _ _)
    have hlen : (xs ++ ys).length = h.len + ys.length := by simp [q1]
    rw [show Value.slice (some ⟨w.heap.size, 0, none⟩) (h.len + ys.length) (grownCap w (h.len + ys.length) h.cap e) = .slice (ownBase (some w.heap.size) 0) (xs ++ ys).length (grownCap w (h.len + ys.length) h.cap e) from by rw [hlen]; rfl]
    exact this
end Go.Proofs.Ytkefkegknacpjaa.Ax
