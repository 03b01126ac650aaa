/- A region of operations: in textual order, and in any order. Nothing of the dump is used here. -/
import Derived.Test.YtkefkegknacpjaaAxI
import Derived.Orders
namespace Go.Proofs.Ytkefkegknacpjaa.Ax
open Go.RowKit
set_option linter.unusedVariables false
set_option linter.unusedSimpArgs false

/-- what an operation does that is not wanted -/
def skipE (σ : ASt) : Eff := ⟨.tup [], [], [], σ.n⟩

/-- what a slot says of a condition -/
def IsB (v : AV) (b : Bool) : Prop := (v = .tru ∧ b = true) ∨ (v = .fls ∧ b = false) ∨ v = .bool b

theorem IsB.rv {v : AV} {b : Bool} (h : IsB v b) {w : World} {F : Nat → Prop} {β : Nat → Option Hdr} {u : Value} (hu : RV w F β v u) : u = .bool b := by
  rcases h with ⟨rfl, rfl⟩ | ⟨rfl, rfl⟩ | rfl <;> cases hu <;> rfl

/-- one operation of a region with its guard -/
def StepOK (P : Program) (g : Nat) (ops : Array Oper) (o : Oper) (σ : ASt) (e : Eff) : Prop :=
  (o.guard = none ∧ OpOK P g o σ e) ∨ (∃ j want t, o.guard = some (j, want) ∧ (ops[j]?).bind (·.dst) = some t ∧ σ.env t = .tup [] ∧ e = skipE σ) ∨
    ∃ j want t b, o.guard = some (j, want) ∧ (ops[j]?).bind (·.dst) = some t ∧ IsB (σ.env t) b ∧ ((b = want ∧ OpOK P g o σ e) ∨ (b ≠ want ∧ e = skipE σ))

/-- the same blocks; the slots told at most better -/
def Ref (σ σ' : ASt) : Prop := (∀ t, Imp (σ.env t) (σ'.env t)) ∧ σ'.H = σ.H ∧ σ'.n = σ.n

theorem Ref.refl (σ : ASt) : Ref σ σ := ⟨fun t => .refl _, rfl, rfl⟩

theorem imp_ev {env env' : Nat → AV} {x : Operand} (h : ∀ t, x = .tmp t → Imp (env t) (env' t)) : Imp (ev env x) (ev env' x) := by
  cases x with
  | tmp t => exact h t rfl
  | const v => exact .refl _
  | global g => exact .refl _
  | func f => exact .refl _

theorem yielded_of {ops : Array Oper} {tmps : Array Value} {j : Nat} {t : Tmp} {b : Bool} (h : (ops[j]?).bind (·.dst) = some t) (hv : tmps.getD t undef = .bool b) : yielded ops tmps j = some b := by
  unfold yielded
  rw [h]
  have : tmps[t]? = some (.bool b) := by
    rcases Nat.lt_or_ge t tmps.size with hlt | hge
    · rw [Array.getElem?_eq_getElem hlt]
      simp [Array.getD, hlt] at hv
      exact congrArg some hv
    · simp [Array.getD, Nat.not_lt.2 hge, undef] at hv
  simp [this]

theorem yielded_none {ops : Array Oper} {tmps : Array Value} {j : Nat} {t : Tmp} (h : (ops[j]?).bind (·.dst) = some t) (hv : tmps.getD t undef = undef) : yielded ops tmps j = none := by
  unfold yielded
  rw [h]
  cases ht : tmps[t]? with
  | none => simp [ht]
  | some x =>
    have : x = undef := by simpa [Array.getD_eq_getD_getElem?, ht] using hv
    subst this
    simp [ht, undef]

/-- the step, made: the operation with its guard, in a world that is told as well as the step asks -/
theorem StepOK.run {P : Program} {g : Nat} {ops : Array Oper} {o : Oper} {σ : ASt} {e : Eff} (h : StepOK P g ops o σ e) {C : Ctx} {I : Nat → Prop} {σ2 : ASt} {a : Act} {w : World} {K : Act → World → Prop} {Q : Exit → Act → World → Prop}
    (hC : C.γ.length = g) (hx : ∀ t ∈ o.looksAt ops, Imp (σ2.env t) (σ.env t)) (hH : ∀ id ∈ e.rd ++ e.wr.map (·.1), σ2.H id = σ.H id) (hI : ∀ id, σ.n ≤ id → id < e.n → ¬ I id) (hd : ∀ d, o.dst = some d → d < C.nt) (hR : Rel C I σ2 a w)
    (hK : ∀ a' w', Rel C (fun id => I id ∨ (σ.n ≤ id ∧ id < e.n)) (σ2.app o e) a' w' → K a' w') :
    if Region.wanted o (yielded ops a.tmps) = true then o.wp P a w K Q else K (a.put o.dst undef) w := by
  have hops : ∀ x ∈ o.op.operands, Imp (ev σ2.env x) (ev σ.env x) := fun x hm => imp_ev fun t e => hx t (by
    subst e
    exact List.mem_append_left _ (List.mem_filterMap.2 ⟨.tmp t, by simpa using hm, rfl⟩))
  rcases h with ⟨hg, hok⟩ | ⟨j, want, t, hg, ht, hu, rfl⟩ | ⟨j, want, t, b, hg, ht, hb, h⟩
  · rw [if_pos (by simp [Region.wanted, hg])]
    exact hok.2 C I σ2 a w K Q hC hops hH hI hd hR hK
  · have hR' := hR
    obtain ⟨β, F, hB⟩ := hR'
    have hv : a.tmps.getD t undef = undef := by
      have := (hx t (by simp [Oper.looksAt, hg, ht])) _ _ _ _ (hB.env t)
      rw [hu] at this
      generalize a.tmps.getD t undef = v at this ⊢
      cases this with
      | tup _ cs h1 _ => rw [show cs = #[] from Array.eq_empty_of_size_eq_zero (by simpa using h1.symm)]; rfl
    rw [if_neg (by simp [Region.wanted, hg, yielded_none ht hv])]
    refine hK _ _ ⟨β, F, (hB.put o.dst (.tup []) undef hd (.tup _ _ rfl (fun j u v hu => by simp at hu))).fin ?_ rfl (fun i hi => .inl hi)⟩
    rfl
  · have hR' := hR
    obtain ⟨β, F, hB⟩ := hR'
    have hv : a.tmps.getD t undef = .bool b := hb.rv ((hx t (by simp [Oper.looksAt, hg, ht])) _ _ _ _ (hB.env t))
    have hy := yielded_of (tmps := a.tmps) ht hv
    rcases h with ⟨rfl, hok⟩ | ⟨hne, rfl⟩
    · rw [if_pos (by simp [Region.wanted, hg, hy])]
      exact hok.2 C I σ2 a w K Q hC hops hH hI hd hR hK
    · rw [if_neg (by simp [Region.wanted, hg, hy, hne])]
      refine hK _ _ ⟨β, F, (hB.put o.dst (.tup []) undef hd (.tup _ _ rfl (fun j u v hu => by simp at hu))).fin ?_ rfl (fun i hi => .inl hi)⟩
      rfl

theorem StepOK.mono {P : Program} {g : Nat} {ops : Array Oper} {o : Oper} {σ : ASt} {e : Eff} (h : StepOK P g ops o σ e) : σ.n ≤ e.n := by
  rcases h with ⟨_, h⟩ | ⟨_, _, _, _, _, _, rfl⟩ | ⟨_, _, _, _, _, _, _, ⟨_, h⟩ | ⟨_, rfl⟩⟩
  · exact h.1
  · exact Nat.le_refl _
  · exact h.1
  · exact Nat.le_refl _

/-- better told is well told -/
theorem Rel.ref {C : Ctx} {I : Nat → Prop} {σ σ' : ASt} {a : Act} {w : World} (h : Rel C I σ a w) (k : Ref σ σ') : Rel C I σ' a w := by
  obtain ⟨β, F, h⟩ := h
  exact ⟨β, F, { h with env := fun t => k.1 t _ _ _ _ (h.env t), live := fun id g e => h.live id g (by rw [← k.2.1]; exact e), inj := fun i1 i2 k1 k2 g1 g2 i e1 e2 => h.inj i1 i2 k1 k2 g1 g2 i (by rw [← k.2.1]; exact e1) (by rw [← k.2.1]; exact e2) }⟩

/-- the run of a region, step by step in textual order -/
inductive Run (P : Program) (g nt : Nat) (ops : Array Oper) : List Oper → ASt → List Eff → ASt → Prop where
  | nil (σ : ASt) : Run P g nt ops [] σ [] σ
  | cons (o : Oper) (rest : List Oper) (σ σr σ' : ASt) (e : Eff) (es : List Eff) : Ref σ σr → StepOK P g ops o σr e → (∀ d, o.dst = some d → d < nt) → Run P g nt ops rest (σr.app o e) es σ' → Run P g nt ops (o :: rest) σ (e :: es) σ'

def Below' (n : Nat) : Nat → Prop := fun id => id < n

theorem Run.list {P : Program} {g nt : Nat} {ops : Array Oper} {Q : Exit → Act → World → Prop} {C : Ctx} (hC : C.γ.length = g) (hnt : C.nt = nt) : ∀ {l : List Oper} {σ : ASt} {es : List Eff} {σ' : ASt}, Run P g nt ops l σ es σ' → ∀ {a : Act} {w : World}, Rel C (Below' σ.n) σ a w →
    (∀ a' w', Rel C (Below' σ'.n) σ' a' w' → Q .normal a' w') → wpList P ops Q l a w := by
  intro l σ es σ' h
  induction h with
  | nil σ => exact fun hR hK => hK _ _ hR
  | cons o rest σ σr σ' e es hr hs hd _ ih =>
    intro a w hR hK
    have hmono := hs.mono
    have hR' := hR.ref hr
    refine wpList_step fun K hKK => ?_
    refine hs.run hC (fun t _ => .refl _) (fun id _ => rfl) (fun id h1 h2 h3 => ?_) (fun d e => hnt ▸ hd d e) hR' (fun a' w' hR2 => hKK _ _ (ih ?_ hK))
    · have : id < σ.n := h3
      rw [← hr.2.2] at this
      omega
    · obtain ⟨β, F, hB⟩ := hR2
      refine ⟨β, F, hB.fin rfl rfl (fun i hi => ?_)⟩
      show i < e.n
      rcases hi with hi | hi
      · have : i < σ.n := hi
        rw [← hr.2.2] at this
        omega
      · exact hi.2

/-- the direct edges of a region that bind -/
def Edge' (ops : Array Oper) (j i : Nat) : Prop := ∃ o, ops[j]? = some o ∧ ∃ e ∈ o.after, Region.binds .any e = true ∧ e.on = i

inductive Path (ops : Array Oper) : Nat → Nat → Prop where
  | one {j i : Nat} : Edge' ops j i → Path ops j i
  | step {j k i : Nat} : Edge' ops j k → Path ops k i → Path ops j i

def maskOf (acc : List Nat) (l : List Edge) (s : Nat) : Nat := l.foldl (fun s e => if Region.binds .any e then s ||| 2 ^ e.on ||| acc[e.on]?.getD 0 else s) s

theorem maskOf_bit (acc : List Nat) (i : Nat) : ∀ (l : List Edge) (s : Nat), (maskOf acc l s).testBit i = true → s.testBit i = true ∨ ∃ e ∈ l, Region.binds .any e = true ∧ (e.on = i ∨ (acc[e.on]?.getD 0).testBit i = true)
  | [], s, h => .inl h
  | e :: l, s, h => by
    rcases maskOf_bit acc i l _ h with h1 | ⟨e', h1, h2⟩
    · simp only at h1
      split at h1
      · rename_i hb
        simp only [Nat.testBit_or, Bool.or_eq_true] at h1
        rcases h1 with (h1 | h1) | h1
        · exact .inl h1
        · refine .inr ⟨e, List.mem_cons_self .., hb, .inl ?_⟩
          simpa [Nat.testBit_two_pow] using h1
        · exact .inr ⟨e, List.mem_cons_self .., hb, .inr h1⟩
      · exact .inl h1
    · exact .inr ⟨e', List.mem_cons_of_mem _ h1, h2⟩

/-- which operations go before each one -/
def befL : List Oper → List Nat → List Nat
  | [], acc => acc
  | o :: l, acc => befL l (acc ++ [maskOf acc o.after.toList 0])

theorem befL_ok (ops : Array Oper) : ∀ (l : List Oper) (acc : List Nat), (∀ j, l[j]? = ops[acc.length + j]? ∨ l.length ≤ j) → (∀ j i, (acc[j]?.getD 0).testBit i = true → Path ops j i) → ∀ j i, ((befL l acc)[j]?.getD 0).testBit i = true → Path ops j i
  | [], acc, _, h => h
  | o :: l, acc, hl, h => by
    refine befL_ok ops l _ (fun j => ?_) (fun j i hj => ?_)
    · rcases hl (j + 1) with h1 | h1
      · left
        rw [List.length_append, List.length_singleton, Nat.add_assoc, Nat.add_comm 1 j]
        simpa using h1
      · right
        simp at h1
        exact h1
    · by_cases hlt : j < acc.length
      · rw [List.getElem?_append_left hlt] at hj
        exact h j i hj
      · by_cases he : j = acc.length
        · subst he
          rw [List.getElem?_append_right (Nat.le_refl _), Nat.sub_self] at hj
          simp only [List.getElem?_cons_zero, Option.getD_some] at hj
          rcases maskOf_bit acc i _ _ hj with h1 | ⟨e, h1, h2, h3⟩
          · simp at h1
          · have ho : ops[acc.length]? = some o := by
              rcases hl 0 with h4 | h4
              · simpa using h4.symm
              · simp at h4
            have hedge : Edge' ops acc.length e.on := ⟨o, ho, e, by simpa using h1, h2, rfl⟩
            rcases h3 with rfl | h3
            · exact .one hedge
            · exact .step hedge (h _ _ h3)
        · rw [List.getElem?_eq_none (by simp; omega)] at hj
          simp at hj
end Go.Proofs.Ytkefkegknacpjaa.Ax
