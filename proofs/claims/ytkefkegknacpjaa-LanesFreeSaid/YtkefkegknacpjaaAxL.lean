/- A region whose order is drawn: every order ends where the textual one ends. Nothing of the dump is used here. -/
import Derived.Test.YtkefkegknacpjaaAxK
namespace Go.Proofs.Ytkefkegknacpjaa.Ax
open Go.RowKit
set_option linter.unusedVariables false
set_option linter.unusedSimpArgs false

def Eff.wids (e : Eff) : List Nat := e.wr.map (·.1)

/-- two operations that may not change places -/
def Confl (ops : Array Oper) (oi oj : Oper) (ei ej : Eff) : Prop :=
  (∃ t, (oi.dst = some t ∧ (t ∈ oj.looksAt ops ∨ oj.dst = some t)) ∨ (oj.dst = some t ∧ t ∈ oi.looksAt ops)) ∨
    ∃ id, (id ∈ ei.wids ∧ (id ∈ ej.rd ∨ id ∈ ej.wids)) ∨ (id ∈ ej.wids ∧ id ∈ ei.rd)

structure Tr (P : Program) (g nt : Nat) (ops : Array Oper) (S R : Nat → ASt) (E : Nat → Eff) : Prop where
  step : ∀ (i : Nat) (o : Oper), ops[i]? = some o → Ref (S i) (R i) ∧ StepOK P g ops o (R i) (E i) ∧ (∀ d, o.dst = some d → d < nt) ∧ S (i + 1) = (R i).app o (E i)
  ord : ∀ (i j : Nat) (oi oj : Oper), i < j → ops[i]? = some oi → ops[j]? = some oj → Confl ops oi oj (E i) (E j) → Path ops j i
  back : ∀ j i, Edge' ops j i → i < j

theorem putE_ne (env : Nat → AV) {d : Option Tmp} {t : Nat} (v : AV) (h : d ≠ some t) : putE env d v t = env t := by
  cases d with
  | none => rfl
  | some d => exact setE_ne _ _ (fun e => h (by rw [e]))

theorem putE_same (env : Nat → AV) (t : Nat) (v : AV) : putE env (some t) v t = v := setE_same _ _ _

/-- the last that is said of an id that is written -/
theorem wrH_mem (H H2 : Nat → Option ABlk) : ∀ (l : List (Nat × Option ABlk)) (id : Nat), id ∈ l.map (·.1) → wrH H l id = wrH H2 l id
  | [], id, h => by simp at h
  | (i, k) :: l, id, h => by
    simp only [wrH]
    by_cases hm : id ∈ l.map (·.1)
    · exact wrH_mem _ _ l id hm
    · rw [wrH_one _ l id hm, wrH_one _ l id hm]
      simp only [List.map_cons, List.mem_cons] at h
      rcases h with rfl | h
      · rw [setH_same, setH_same]
      · exact absurd h hm

section
variable {P : Program} {g nt : Nat} {ops : Array Oper} {S R : Nat → ASt} {E : Nat → Eff} (T : Tr P g nt ops S R E)
include T

theorem Tr.chainT {t m : Nat} : ∀ {k : Nat}, m ≤ k → k ≤ ops.size → (∀ (j : Nat) (o : Oper), m ≤ j → j < k → ops[j]? = some o → o.dst ≠ some t) → Imp ((S m).env t) ((S k).env t)
  | 0, h, _, _ => by obtain rfl : m = 0 := by omega
                     exact .refl _
  | k + 1, h, hk, hw => by
    by_cases he : m = k + 1
    · subst he; exact .refl _
    · have ih := Tr.chainT (k := k) (by omega) (by omega) (fun j o h1 h2 => hw j o h1 (by omega))
      have ho : ops[k]? = some ops[k] := Array.getElem?_eq_getElem _
      obtain ⟨h1, _, _, h4⟩ := T.step k _ ho
      refine ih.trans ?_
      rw [h4]
      simp only [ASt.app]
      rw [putE_ne _ _ (hw k _ (by omega) (by omega) ho)]
      exact h1.1 t

theorem Tr.chainH {id m : Nat} : ∀ {k : Nat}, m ≤ k → k ≤ ops.size → (∀ j, m ≤ j → j < k → id ∉ (E j).wids) → (S m).H id = (S k).H id
  | 0, h, _, _ => by obtain rfl : m = 0 := by omega
                     rfl
  | k + 1, h, hk, hw => by
    by_cases he : m = k + 1
    · subst he; rfl
    · have ih := Tr.chainH (k := k) (by omega) (by omega) (fun j h1 h2 => hw j h1 (by omega))
      have ho : ops[k]? = some ops[k] := Array.getElem?_eq_getElem _
      obtain ⟨h1, _, _, h4⟩ := T.step k _ ho
      rw [ih, h4]
      simp only [ASt.app]
      rw [wrH_one _ _ _ (hw k (by omega) (by omega)), h1.2.1]

theorem Tr.mono {m : Nat} : ∀ {k : Nat}, m ≤ k → k ≤ ops.size → (S m).n ≤ (S k).n
  | 0, h, _ => by obtain rfl : m = 0 := by omega
                  exact Nat.le_refl _
  | k + 1, h, hk => by
    by_cases he : m = k + 1
    · subst he; exact Nat.le_refl _
    · have ih := Tr.mono (m := m) (k := k) (by omega) (by omega)
      have ho : ops[k]? = some ops[k] := Array.getElem?_eq_getElem _
      obtain ⟨h1, h2, _, h4⟩ := T.step k _ ho
      have := h2.mono
      rw [h1.2.2] at this
      rw [h4]
      simp only [ASt.app]
      omega

/-- what holds when some of the operations have been made -/
structure Inv (C : Ctx) (L : Nat → Prop) (σ : ASt) (a : Act) (w : World) : Prop where
  rel : Rel C (fun id => id < (S 0).n ∨ ∃ j, j < ops.size ∧ L j ∧ (S j).n ≤ id ∧ id < (E j).n) σ a w
  env : ∀ (t k : Nat), k ≤ ops.size → (∀ (j : Nat) (o : Oper), j < k → ops[j]? = some o → o.dst = some t → L j) → (∀ (j : Nat) (o : Oper), k ≤ j → ops[j]? = some o → o.dst = some t → ¬ L j) → Imp (σ.env t) ((S k).env t)
  H : ∀ (id k : Nat), k ≤ ops.size → (∀ j, j < k → j < ops.size → id ∈ (E j).wids → L j) → (∀ j, k ≤ j → j < ops.size → id ∈ (E j).wids → ¬ L j) → σ.H id = (S k).H id
  down : ∀ j i, L j → Edge' ops j i → L i

omit T in
theorem Inv.path {C : Ctx} {L : Nat → Prop} {σ : ASt} {a : Act} {w : World} (h : Inv (ops := ops) (S := S) (E := E) C L σ a w) {j i : Nat} (hp : Path ops j i) (hj : L j) : L i := by
  induction hp with
  | one e => exact h.down _ _ hj e
  | step e _ ih => exact ih (h.down _ _ hj e)

omit T in
theorem ready_path {L : Nat → Prop} (hL : ∀ j i, L j → Edge' ops j i → L i) {j i : Nat} (hp : Path ops j i) (hj : ∀ i, Edge' ops j i → L i) : L i := by
  have key : ∀ {j i}, Path ops j i → L j → L i := fun {j i} hp => by
    induction hp with
    | one e => exact fun h => hL _ _ h e
    | step e _ ih => exact fun h => ih (hL _ _ h e)
  cases hp with
  | one e => exact hj _ e
  | step e p => exact key p (hj _ e)

theorem Tr.next {C : Ctx} {L : Nat → Prop} {σ : ASt} {a : Act} {w : World} (hC : C.γ.length = g) (hnt : C.nt = nt) (h : Inv (ops := ops) (S := S) (E := E) C L σ a w) {i : Nat} {o : Oper} (ho : ops[i]? = some o) (hn : ¬ L i) (hr : ∀ k, Edge' ops i k → L k) {K : Act → World → Prop} {Q : Exit → Act → World → Prop}
    (hK : ∀ σ' a' w', Inv (ops := ops) (S := S) (E := E) C (fun j => L j ∨ j = i) σ' a' w' → K a' w') : wpOp P ops Q i K a w := by
  have hi : i < ops.size := (Array.getElem?_eq_some_iff.1 ho).1
  obtain ⟨h1, h2, h3, h4⟩ := T.step i o ho
  -- an operation before it that may not change places with it has been made, one behind it has not
  have before : ∀ (j : Nat) (oj : Oper), j < i → ops[j]? = some oj → Confl ops oj o (E j) (E i) → L j := fun j oj hj hoj hc => ready_path h.down (T.ord j i oj o hj hoj ho hc) hr
  have behind : ∀ (j : Nat) (oj : Oper), i < j → ops[j]? = some oj → Confl ops o oj (E i) (E j) → ¬ L j := fun j oj hj hoj hc hL => hn (h.path (T.ord i j o oj hj ho hoj hc) hL)
  have henv : ∀ t ∈ o.looksAt ops, Imp (σ.env t) ((R i).env t) := fun t ht => (h.env t i (by omega) (fun j oj hj hoj hd => before j oj hj hoj (.inl ⟨t, .inl ⟨hd, .inl ht⟩⟩)) (fun j oj hj hoj hd => by
    by_cases he : j = i
    · subst he; exact hn
    · exact behind j oj (by omega) hoj (.inl ⟨t, .inr ⟨hd, ht⟩⟩))).trans (h1.1 t)
  have hH : ∀ id ∈ (E i).rd ++ (E i).wids, σ.H id = (R i).H id := fun id hid => by
    rw [h1.2.1]
    refine h.H id i (by omega) (fun j hj hjs hd => before j _ hj (Array.getElem?_eq_getElem hjs) (.inr ⟨id, .inl ⟨hd, List.mem_append.1 hid⟩⟩)) (fun j hj hjs hd => ?_)
    by_cases he : j = i
    · subst he; exact hn
    · refine behind j _ (by omega) (Array.getElem?_eq_getElem hjs) (.inr ⟨id, ?_⟩)
      rcases List.mem_append.1 hid with hid | hid
      · exact .inr ⟨hd, hid⟩
      · exact .inl ⟨hid, .inr hd⟩
  have hfresh : ∀ id, (R i).n ≤ id → id < (E i).n → ¬ (id < (S 0).n ∨ ∃ j, j < ops.size ∧ L j ∧ (S j).n ≤ id ∧ id < (E j).n) := fun id e1 e2 e3 => by
    rw [h1.2.2] at e1
    rcases e3 with e3 | ⟨j, hjs, hj, e3, e4⟩
    · have := T.mono (Nat.zero_le i) (Nat.le_of_lt hi); omega
    · have hne : j ≠ i := fun e => hn (e ▸ hj)
      rcases Nat.lt_or_ge j i with hlt | hge
      · have h5 := (T.step j _ (Array.getElem?_eq_getElem hjs)).2.2.2
        have := T.mono (show j + 1 ≤ i by omega) (Nat.le_of_lt hi)
        rw [h5] at this
        simp only [ASt.app] at this
        omega
      · have := T.mono (show i + 1 ≤ j by omega) (Nat.le_of_lt hjs)
        rw [h4] at this
        simp only [ASt.app] at this
        omega
  have hstep := h2.run (K := K) (Q := Q) hC henv hH hfresh (fun d e => hnt ▸ h3 d e) h.rel (fun a' w' hR => hK (σ.app o (E i)) _ _ ⟨?_, fun t k hk k1 k2 => ?_, fun id k hk k1 k2 => ?_, fun j k hj he => ?_⟩)
  · unfold wpOp
    simp only [ho]
    split
    · rename_i hw; rw [if_pos hw] at hstep; exact .inl hstep
    · rename_i hw; rw [if_neg hw] at hstep; exact hstep
  · obtain ⟨β, F, hB⟩ := hR
    refine ⟨β, F, hB.fin rfl rfl (fun id hid => ?_)⟩
    rcases hid with (hid | ⟨j, hjs, hj, hid⟩) | hid
    · exact .inl hid
    · exact .inr ⟨j, hjs, .inl hj, hid⟩
    · rw [h1.2.2] at hid
      exact .inr ⟨i, hi, .inr rfl, hid⟩
  · simp only [ASt.app]
    by_cases hd : o.dst = some t
    · have hik : i < k := by
        rcases Nat.lt_or_ge i k with hlt | hge
        · exact hlt
        · exact absurd (.inr rfl) (k2 i o hge ho hd)
      rw [hd, putE_same]
      have hc := T.chainT (t := t) (m := i + 1) (k := k) (by omega) hk (fun j oj h5 h6 hoj hdj => by
        rcases k1 j oj h6 hoj hdj with hL | he
        · exact behind j oj (by omega) hoj (.inl ⟨t, .inl ⟨hd, .inr hdj⟩⟩) hL
        · omega)
      rw [h4] at hc
      simp only [ASt.app, hd, putE_same] at hc
      exact hc
    · rw [putE_ne _ _ hd]
      refine h.env t k hk (fun j oj hj hoj hdj => (k1 j oj hj hoj hdj).resolve_right (fun e => ?_)) (fun j oj hj hoj hdj hL => k2 j oj hj hoj hdj (.inl hL))
      subst e
      rw [ho] at hoj
      cases hoj
      exact hd hdj
  · simp only [ASt.app]
    by_cases hd : id ∈ (E i).wids
    · have hik : i < k := by
        rcases Nat.lt_or_ge i k with hlt | hge
        · exact hlt
        · exact absurd (.inr rfl) (k2 i hge hi hd)
      have hc := T.chainH (id := id) (m := i + 1) (k := k) (by omega) hk (fun j h5 h6 hdj => by
        rcases k1 j h6 (by omega) hdj with hL | he
        · exact behind j _ (by omega) (Array.getElem?_eq_getElem (by omega)) (.inr ⟨id, .inl ⟨hd, .inr hdj⟩⟩) hL
        · omega)
      rw [h4] at hc
      simp only [ASt.app] at hc
      rw [← hc]
      exact wrH_mem _ _ _ id hd
    · rw [wrH_one _ _ _ hd]
      refine h.H id k hk (fun j hj hjs hdj => (k1 j hj hjs hdj).resolve_right (fun e => ?_)) (fun j hj hjs hdj hL => k2 j hj hjs hdj (.inl hL))
      subst e
      exact hd hdj
  · rcases hj with hj | rfl
    · exact .inl (h.down j k hj he)
    · exact .inl (hr k he)

/-- is it listed? -/
def Ls (listed : Array Bool) (j : Nat) : Prop := listed.getD j false = true

omit T in
theorem ls_set {listed : Array Bool} {i : Nat} (hi : i < listed.size) (j : Nat) : Ls (listed.setIfInBounds i true) j ↔ Ls listed j ∨ j = i := by
  unfold Ls
  by_cases h : j = i
  · subst h; simp [hi]
  · simp [Array.getElem?_setIfInBounds_ne (Ne.symm h), h]

omit T in
theorem count_set {listed : Array Bool} {i : Nat} (hi : i < listed.size) (hf : listed[i] = false) : (listed.setIfInBounds i true).toList.countP (· == false) + 1 = listed.toList.countP (· == false) := by
  have hi' : i < listed.toList.length := by simpa using hi
  have h0 : listed.toList[i] = false := by simpa using hf
  rw [Array.toList_setIfInBounds, List.countP_set hi']
  have hpos : 0 < listed.toList.countP (· == false) := List.countP_pos_iff.2 ⟨false, by rw [← h0]; exact List.getElem_mem _, rfl⟩
  rw [h0]
  show List.countP (· == false) listed.toList - 1 + 0 + 1 = _
  omega

theorem Tr.all {C : Ctx} (hC : C.γ.length = g) (hnt : C.nt = nt) {Q : Exit → Act → World → Prop} (hK : ∀ a' w', Rel C (Below' (S ops.size).n) (S ops.size) a' w' → Q .normal a' w') :
    ∀ (fuel : Nat) (listed : Array Bool) (σ : ASt) (a : Act) (w : World), listed.size = ops.size → listed.toList.countP (· == false) = fuel → Inv (ops := ops) (S := S) (E := E) C (Ls listed) σ a w → wpAny P .any ops Q fuel listed a w := by
  have done : ∀ (listed : Array Bool) (σ : ASt) (a : Act) (w : World), listed.size = ops.size → Region.ready .any ops listed = [] → Inv (ops := ops) (S := S) (E := E) C (Ls listed) σ a w → Q .normal a w := by
    intro listed σ a w hs hr h
    have allL : ∀ j, j < ops.size → Ls listed j := by
      intro j
      induction j using Nat.strongRecOn with
      | _ j ih =>
        intro hj
        refine Classical.byContradiction fun hn => ?_
        have : j ∈ Region.ready .any ops listed := mem_ready.2 ⟨by
          unfold Ls at hn
          simp [hs, hj] at hn ⊢
          exact hn, ops[j], Array.getElem?_eq_getElem hj, fun e he hb => by
            have hlt := T.back j e.on ⟨ops[j], Array.getElem?_eq_getElem hj, e, he, hb, rfl⟩
            exact ih e.on hlt (by omega)⟩
        rw [hr] at this
        cases this
    refine hK a w ?_
    have h1 := h.rel
    have hrel : Rel C (Below' (S ops.size).n) σ a w := by
      obtain ⟨β, F, hB⟩ := h1
      refine ⟨β, F, hB.fin rfl rfl (fun id hid => ?_)⟩
      show id < (S ops.size).n
      rcases hid with hid | ⟨j, hjs, hj, h2, h3⟩
      · have := T.mono (Nat.zero_le ops.size) (Nat.le_refl _); omega
      · have h5 := (T.step j _ (Array.getElem?_eq_getElem hjs)).2.2.2
        have := T.mono (show j + 1 ≤ ops.size by omega) (Nat.le_refl _)
        rw [h5] at this
        simp only [ASt.app] at this
        omega
    obtain ⟨β, F, hB⟩ := hrel
    have eH : ∀ id, (S ops.size).H id = σ.H id := fun id => (h.H id ops.size (Nat.le_refl _) (fun j _ hjs _ => allL j hjs) (fun j hj hjs => by omega)).symm
    refine ⟨β, F, { hB with env := fun t => (h.env t ops.size (Nat.le_refl _) (fun j o hj _ _ => allL j hj) (fun j o hj hoj => by have := (Array.getElem?_eq_some_iff.1 hoj).1; omega)) _ _ _ _ (hB.env t), live := fun id k e => hB.live id k (by rw [← eH]; exact e), inj := fun i1 i2 k1 k2 g1 g2 i e1 e2 => hB.inj i1 i2 k1 k2 g1 g2 i (by rw [← eH]; exact e1) (by rw [← eH]; exact e2) }⟩
  intro fuel
  induction fuel with
  | zero =>
    intro listed σ a w hs hc h
    have hr : Region.ready .any ops listed = [] := by
      refine List.eq_nil_iff_forall_not_mem.2 fun i hi => ?_
      obtain ⟨h1, o, ho, _⟩ := mem_ready.1 hi
      have hlt : i < listed.size := by rw [hs]; exact (Array.getElem?_eq_some_iff.1 ho).1
      have hf : listed[i] = false := by simpa [hlt] using h1
      have := count_set hlt hf
      omega
    exact ⟨hr, done listed σ a w hs hr h⟩
  | succ fuel ih =>
    intro listed σ a w hs hc h
    refine ⟨fun hr => done listed σ a w hs hr h, fun i hi => ?_⟩
    obtain ⟨h1, o, ho, h2⟩ := mem_ready.1 hi
    have hlt : i < listed.size := by rw [hs]; exact (Array.getElem?_eq_some_iff.1 ho).1
    have hf : listed[i] = false := by simpa [hlt] using h1
    refine T.next hC hnt h ho (fun hL => by unfold Ls at hL; simp [hlt, hf] at hL) (fun k hk => ?_) (fun σ' a' w' h' => ih _ σ' a' w' (by simp [hs]) (by have := count_set hlt hf; omega) ?_)
    · obtain ⟨o', ho', e, he, hb, rfl⟩ := hk
      rw [ho] at ho'
      cases ho'
      exact h2 e he hb
    · have hset : (fun j => Ls listed j ∨ j = i) = Ls (listed.setIfInBounds i true) := funext fun j => propext (ls_set hlt j).symm
      rw [← hset]
      exact h'
end
end Go.Proofs.Ytkefkegknacpjaa.Ax
