/- Reasoning on printed functions: that one gives a result of which something holds. Nothing of the dump is used here. -/
import Derived.Test.YtkajegjghfbgaaaExL
namespace Go.Proofs.Ytkajegjghfbgaaa.Ex
open Go.RowKit Go.Proofs.Ytkajegjghfbgaaa.Ax
set_option linter.unusedVariables false
set_option linter.unusedSimpArgs false

/-- it gives a result, and Q holds of it -/
def okP {α : Type} (o : Option α) (Q : α → Prop) : Prop := ∃ x, o = some x ∧ Q x

theorem okP_some {α : Type} {x : α} {Q : α → Prop} (h : Q x) : okP (some x) Q := ⟨x, rfl, h⟩
theorem okP_bind {α β : Type} {o : Option α} {f : α → Option β} {R : α → Prop} {Q : β → Prop} (h : okP o R) (k : ∀ x, R x → okP (f x) Q) : okP (o.bind f) Q := by
  obtain ⟨x, rfl, hx⟩ := h
  exact k x hx
theorem okP_bindE {α β : Type} {o : Option α} {x : α} {f : α → Option β} {Q : β → Prop} (h : o = some x) (k : okP (f x) Q) : okP (o.bind f) Q := by
  subst h
  exact k
theorem okP_cond {α : Type} {b : Bool} {x y : Option α} {Q : α → Prop} (h1 : b = true → okP x Q) (h2 : b = false → okP y Q) : okP (cond b x y) Q := by
  cases b
  · exact h2 rfl
  · exact h1 rfl
theorem okP_mono {α : Type} {o : Option α} {Q R : α → Prop} (h : okP o Q) (k : ∀ x, Q x → R x) : okP o R := by
  obtain ⟨x, e, hx⟩ := h
  exact ⟨x, e, k x hx⟩
theorem okP_eq {α : Type} {o : Option α} {x : α} (h : okP o (fun y => y = x)) : o = some x := by
  obtain ⟨y, e, rfl⟩ := h
  exact e
theorem okP_of {α : Type} {o : Option α} {x : α} {Q : α → Prop} (h : o = some x) (k : Q x) : okP o Q := ⟨x, h, k⟩
theorem okP_and {α : Type} {o : Option α} {Q R : α → Prop} (h : okP o Q) (k : okP o R) : okP o (fun x => Q x ∧ R x) := by
  obtain ⟨x, e, hx⟩ := h
  obtain ⟨y, e', hy⟩ := k
  rw [e] at e'
  cases e'
  exact ⟨x, e, hx, hy⟩

/-- what is asked of the end of a loop -/
def ctlQ {ρ σ : Type} (R : ρ → Prop) (S : σ → Prop) : Ctl ρ σ → Prop
  | .ret r => R r
  | .brk s => S s
theorem okP_fin {ρ σ : Type} {o : Option (Ctl ρ σ)} {k : σ → Option ρ} {S : σ → Prop} {Q : ρ → Prop} (h : okP o (ctlQ Q S)) (hk : ∀ s, S s → okP (k s) Q) : okP (Ctl.fin o k) Q := by
  obtain ⟨c, rfl, hc⟩ := h
  cases c with
  | ret r => exact ⟨r, rfl, hc⟩
  | brk s => exact hk s hc
/-- a loop in which the function does not return -/
theorem okP_finB {ρ σ : Type} {o : Option (Ctl ρ σ)} {k : σ → Option ρ} {S : σ → Prop} {Q : ρ → Prop} (h : okP o (ctlQ (fun _ => False) S)) (hk : ∀ s, S s → okP (k s) Q) : okP (Ctl.fin o k) Q := by
  obtain ⟨c, rfl, hc⟩ := h
  cases c with
  | ret r => exact hc.elim
  | brk s => exact hk s hc
theorem okP_sub {ρ σ τ : Type} {o : Option (Ctl ρ σ)} {k : σ → Option (Ctl ρ τ)} {R : ρ → Prop} {S : σ → Prop} {T : τ → Prop} (h : okP o (ctlQ R S)) (hk : ∀ s, S s → okP (k s) (ctlQ R T)) : okP (Ctl.sub o k) (ctlQ R T) := by
  obtain ⟨c, rfl, hc⟩ := h
  cases c with
  | ret r => exact ⟨.ret r, rfl, hc⟩
  | brk s => exact hk s hc
theorem fin_brkE {ρ σ : Type} {o : Option (Ctl ρ σ)} {k : σ → Option ρ} {s : σ} (h : o = some (.brk s)) : Ctl.fin o k = k s := by subst h; rfl
theorem fin_retE {ρ σ : Type} {o : Option (Ctl ρ σ)} {k : σ → Option ρ} {r : ρ} (h : o = some (.ret r)) : Ctl.fin o k = some r := by subst h; rfl
theorem sub_brkE {ρ σ τ : Type} {o : Option (Ctl ρ σ)} {k : σ → Option (Ctl ρ τ)} {s : σ} (h : o = some (.brk s)) : Ctl.sub o k = k s := by subst h; rfl
theorem sub_retE {ρ σ τ : Type} {o : Option (Ctl ρ σ)} {k : σ → Option (Ctl ρ τ)} {r : ρ} (h : o = some (.ret r)) : Ctl.sub o k = some (.ret r) := by subst h; rfl

theorem ixL_at' {α : Type} {l : List α} {i : Int} {x : α} (m : Nat) (hm : i = m) (h : l[m]? = some x) : ixL l i = some x := by
  unfold ixL
  rw [if_pos (by omega), show i.toNat = m by omega, h]
theorem okP_ixL {α : Type} {l : List α} {i : Int} (h1 : 0 ≤ i) (h2 : i < l.length) {Q : α → Prop} (k : ∀ x, x ∈ l → l[i.toNat]? = some x → Q x) : okP (ixL l i) Q := by
  have hl : i.toNat < l.length := by omega
  exact ⟨l[i.toNat], ixL_at' i.toNat (by omega) (List.getElem?_eq_getElem hl), k _ (List.getElem_mem hl) (List.getElem?_eq_getElem hl)⟩
theorem apL_eq {α : Type} {l y : List α} (h : l.length + y.length ≤ 16777216) : apL l y = some (l ++ y) := if_pos h
theorem slL_eq {α : Type} {l : List α} {a b : Int} (h1 : 0 ≤ a) (h2 : a ≤ b) (h3 : b ≤ l.length) : slL l a b = some ((l.drop a.toNat).take (b.toNat - a.toNat)) := if_pos ⟨h1, h2, h3⟩
theorem mkL_eq {α : Type} {n : Int} {z : α} (h1 : 0 ≤ n) (h2 : n ≤ 16777216) : mkL n z = some (List.replicate n.toNat z) := if_pos ⟨h1, h2⟩
theorem cond_ite {α : Type} (b : Bool) (x y : α) : cond b x y = if b = true then x else y := by cases b <;> rfl
theorem ite_some {α : Type} {p : Prop} [Decidable p] {x y : α} : (if p then some x else some y) = some (if p then x else y) := by split <;> rfl

/-- bytes are equal as lists just when they are equal -/
theorem toList_inj {a b : ByteArray} (h : a.toList = b.toList) : a = b := by
  have h2 : a.data.toList = b.data.toList := by
    have e : ∀ s : ByteArray, s.toList = s.data.toList := fun s => by
      exact ByteArray.toList_eq s
    rw [← e a, ← e b, h]
  cases a
  cases b
  congr 1
  exact Array.toList_inj.1 h2
end Go.Proofs.Ytkajegjghfbgaaa.Ex
