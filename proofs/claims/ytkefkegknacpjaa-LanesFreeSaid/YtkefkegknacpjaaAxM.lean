/- Calls: contracts, what is handed over, what comes back. Nothing of the dump is used here. -/
import Derived.Test.YtkefkegknacpjaaAxL
namespace Go.Proofs.Ytkefkegknacpjaa.Ax
open Go.RowKit
set_option linter.unusedVariables false
set_option linter.unusedSimpArgs false

mutual
/-- it names no block that is owned -/
def AV.ni : AV → Bool
  | .ptr .. | .eptr .. | .osl _ | .sub .. => false
  | .agg c => AV.niL c
  | .tup c => AV.niL c
  | .fn _ c => AV.niL c
  | _ => true
def AV.niL : List AV → Bool
  | [] => true
  | x :: l => x.ni && AV.niL l
end

mutual
/-- it leads to no memory that is only read -/
def AV.flat : AV → Bool
  | .iptr _ | .lst _ _ => false
  | .agg c => AV.flatL c
  | .tup c => AV.flatL c
  | .fn _ c => AV.flatL c
  | _ => true
def AV.flatL : List AV → Bool
  | [] => true
  | x :: l => x.flat && AV.flatL l
end

mutual
/-- other names for the blocks -/
def AV.ren (ρ : Nat → Nat) : AV → AV
  | .ptr id j => .ptr (ρ id) j
  | .eptr id sz i j => .eptr (ρ id) sz i j
  | .osl id => .osl (ρ id)
  | .sub id sz lo hi mx => .sub (ρ id) sz lo hi mx
  | .agg c => .agg (AV.renL ρ c)
  | .tup c => .tup (AV.renL ρ c)
  | .fn f c => .fn f (AV.renL ρ c)
  | .any => .any
  | .int k n => .int k n
  | .tru => .tru
  | .fls => .fls
  | .bool b => .bool b
  | .str s => .str s
  | .nilp => .nilp
  | .val v => .val v
  | .nils => .nils
  | .iptr c => .iptr c
  | .lst sz xs => .lst sz xs
def AV.renL (ρ : Nat → Nat) : List AV → List AV
  | [] => []
  | x :: l => x.ren ρ :: AV.renL ρ l
end

theorem renL_len (ρ : Nat → Nat) : ∀ l, (AV.renL ρ l).length = l.length
  | [] => by simp [AV.renL]
  | x :: l => by simp [AV.renL, renL_len ρ l]

theorem renL_at (ρ : Nat → Nat) : ∀ (l : List AV) (j : Nat), (AV.renL ρ l)[j]? = (l[j]?).map (AV.ren ρ)
  | [], j => by simp [AV.renL]
  | x :: l, 0 => by simp [AV.renL]
  | x :: l, j + 1 => by simpa [AV.renL] using renL_at ρ l j

theorem niL_mem : ∀ {l : List AV} {x : AV}, AV.niL l = true → x ∈ l → x.ni = true
  | y :: l, x, h, hx => by
    simp only [AV.niL, Bool.and_eq_true] at h
    rcases List.mem_cons.1 hx with rfl | hx
    · exact h.1
    · exact niL_mem h.2 hx

theorem flatL_mem : ∀ {l : List AV} {x : AV}, AV.flatL l = true → x ∈ l → x.flat = true
  | y :: l, x, h, hx => by
    simp only [AV.flatL, Bool.and_eq_true] at h
    rcases List.mem_cons.1 hx with rfl | hx
    · exact h.1
    · exact flatL_mem h.2 hx

theorem RV.noIds {w : World} {F : Nat → Prop} {β : Nat → Option Hdr} {x : AV} {v : Value} (h : RV w F β x v) (hx : x.ni = true) : RV w F noB x v := by
  induction h with
  | any v => exact .any v
  | int k n => exact .int k n
  | tru => exact .tru
  | fls => exact .fls
  | bool b => exact .bool b
  | str s => exact .str s
  | nilp => exact .nilp
  | val v => exact .val v
  | nils => exact .nils
  | ptr | eptr | osl | sub => simp [AV.ni] at hx
  | iptr c b o vs hb h1 ho hr ih => exact .iptr c b o vs hb h1 ho hr
  | lst sz xs a cap vs h1 h2 h3 h4 h5 h6 hr ih => exact .lst sz xs a cap vs h1 h2 h3 h4 h5 h6 hr
  | agg c cs h1 _ ih => simp only [AV.ni] at hx; exact .agg c cs h1 (fun j u v hu hv => ih j u v hu hv (niL_mem hx (List.mem_of_getElem? hu)))
  | tup c cs h1 _ ih => simp only [AV.ni] at hx; exact .tup c cs h1 (fun j u v hu hv => ih j u v hu hv (niL_mem hx (List.mem_of_getElem? hu)))
  | fn f c cs h1 _ ih => simp only [AV.ni] at hx; exact .fn f c cs h1 (fun j u v hu hv => ih j u v hu hv (niL_mem hx (List.mem_of_getElem? hu)))

theorem RV.re {w w' : World} {F F' : Nat → Prop} {β : Nat → Option Hdr} {x : AV} {v : Value} (h : RV w F β x v) (hx : x.flat = true) : RV w' F' β x v := by
  induction h with
  | any v => exact .any v
  | int k n => exact .int k n
  | tru => exact .tru
  | fls => exact .fls
  | bool b => exact .bool b
  | str s => exact .str s
  | nilp => exact .nilp
  | val v => exact .val v
  | nils => exact .nils
  | ptr id j b h h1 h2 => exact .ptr id j b h h1 h2
  | eptr id sz i j b h h1 h2 => exact .eptr id sz i j b h h1 h2
  | osl id h h1 => exact .osl id h h1
  | sub id sz lo hi mx h h1 => exact .sub id sz lo hi mx h h1
  | iptr | lst => simp [AV.flat] at hx
  | agg c cs h1 _ ih => simp only [AV.flat] at hx; exact .agg c cs h1 (fun j u v hu hv => ih j u v hu hv (flatL_mem hx (List.mem_of_getElem? hu)))
  | tup c cs h1 _ ih => simp only [AV.flat] at hx; exact .tup c cs h1 (fun j u v hu hv => ih j u v hu hv (flatL_mem hx (List.mem_of_getElem? hu)))
  | fn f c cs h1 _ ih => simp only [AV.flat] at hx; exact .fn f c cs h1 (fun j u v hu hv => ih j u v hu hv (flatL_mem hx (List.mem_of_getElem? hu)))

/-- the same value, its blocks named anew -/
theorem RV.ren {w : World} {F : Nat → Prop} {β β' : Nat → Option Hdr} {ρ : Nat → Nat} {x : AV} {v : Value} (h : RV w F β x v) (hβ : ∀ id g, β id = some g → β' (ρ id) = some g) : RV w F β' (x.ren ρ) v := by
  have list : ∀ {c : List AV} {cs : Array Value}, c.length = cs.size → (∀ (j : Nat) (u : AV) (v : Value), c[j]? = some u → cs[j]? = some v → RV w F β' (u.ren ρ) v) → (AV.renL ρ c).length = cs.size ∧ ∀ (j : Nat) (u : AV) (v : Value), (AV.renL ρ c)[j]? = some u → cs[j]? = some v → RV w F β' u v := fun {c cs} h1 h2 => by
    refine ⟨(renL_len ρ c).trans h1, fun j u v hu hv => ?_⟩
    rw [renL_at] at hu
    cases hc : c[j]? with
    | none => rw [hc] at hu; cases hu
    | some y => rw [hc] at hu; cases hu; exact h2 j y v hc hv
  induction h generalizing β' with
  | any v => simp only [AV.ren]; exact .any v
  | int k n => simp only [AV.ren]; exact .int k n
  | tru => simp only [AV.ren]; exact .tru
  | fls => simp only [AV.ren]; exact .fls
  | bool b => simp only [AV.ren]; exact .bool b
  | str s => simp only [AV.ren]; exact .str s
  | nilp => simp only [AV.ren]; exact .nilp
  | val v => simp only [AV.ren]; exact .val v
  | nils => simp only [AV.ren]; exact .nils
  | ptr id j b h h1 h2 => simp only [AV.ren]; exact .ptr _ j b h (hβ _ _ h1) h2
  | eptr id sz i j b h h1 h2 => simp only [AV.ren]; exact .eptr _ sz i j b h (hβ _ _ h1) h2
  | osl id h h1 => simp only [AV.ren]; exact .osl _ h (hβ _ _ h1)
  | sub id sz lo hi mx h h1 => simp only [AV.ren]; exact .sub _ sz lo hi mx h (hβ _ _ h1)
  | iptr c b o vs hb h1 ho hr ih => simp only [AV.ren]; exact .iptr c b o vs hb h1 ho hr
  | lst sz xs a cap vs h1 h2 h3 h4 h5 h6 hr ih => simp only [AV.ren]; exact .lst sz xs a cap vs h1 h2 h3 h4 h5 h6 hr
  | agg c cs h1 _ ih => simp only [AV.ren]; obtain ⟨e1, e2⟩ := list h1 (fun j u v hu hv => ih j u v hu hv hβ list); exact .agg _ cs e1 e2
  | tup c cs h1 _ ih => simp only [AV.ren]; obtain ⟨e1, e2⟩ := list h1 (fun j u v hu hv => ih j u v hu hv hβ list); exact .tup _ cs e1 e2
  | fn f c cs h1 _ ih => simp only [AV.ren]; obtain ⟨e1, e2⟩ := list h1 (fun j u v hu hv => ih j u v hu hv hβ list); exact .fn f _ cs e1 e2

/-- and back -/
theorem RV.unren {w : World} {F : Nat → Prop} {β : Nat → Option Hdr} {y : AV} {v : Value} (h : RV w F β y v) : ∀ {β' : Nat → Option Hdr} {ρ : Nat → Nat} {x : AV}, y = x.ren ρ → (∀ id g, β (ρ id) = some g → β' id = some g) → RV w F β' x v := by
  induction h with
  | any v => intro β' ρ x e hβ; cases x <;> simp only [AV.ren] at e <;> first | cases e; done | exact .any v
  | int k n => intro β' ρ x e hβ; cases x <;> simp only [AV.ren] at e <;> first | (cases e; exact .int k n) | cases e
  | tru => intro β' ρ x e hβ; cases x <;> simp only [AV.ren] at e <;> first | exact .tru | cases e
  | fls => intro β' ρ x e hβ; cases x <;> simp only [AV.ren] at e <;> first | exact .fls | cases e
  | bool b => intro β' ρ x e hβ; cases x <;> simp only [AV.ren] at e <;> first | (cases e; exact .bool b) | cases e
  | str s => intro β' ρ x e hβ; cases x <;> simp only [AV.ren] at e <;> first | (cases e; exact .str s) | cases e
  | nilp => intro β' ρ x e hβ; cases x <;> simp only [AV.ren] at e <;> first | exact .nilp | cases e
  | val v => intro β' ρ x e hβ; cases x <;> simp only [AV.ren] at e <;> first | (cases e; exact .val v) | cases e
  | nils => intro β' ρ x e hβ; cases x <;> simp only [AV.ren] at e <;> first | exact .nils | cases e
  | ptr id j b h h1 h2 => intro β' ρ x e hβ; cases x <;> simp only [AV.ren] at e <;> first | (cases e; exact .ptr _ j b h (hβ _ _ h1) h2) | cases e
  | eptr id sz i j b h h1 h2 => intro β' ρ x e hβ; cases x <;> simp only [AV.ren] at e <;> first | (cases e; exact .eptr _ sz i j b h (hβ _ _ h1) h2) | cases e
  | osl id h h1 => intro β' ρ x e hβ; cases x <;> simp only [AV.ren] at e <;> first | (cases e; exact .osl _ h (hβ _ _ h1)) | cases e
  | sub id sz lo hi mx h h1 => intro β' ρ x e hβ; cases x <;> simp only [AV.ren] at e <;> first | (cases e; exact .sub _ sz lo hi mx h (hβ _ _ h1)) | cases e
  | iptr c b o vs hb h1 ho hr ih => intro β' ρ x e hβ; cases x <;> simp only [AV.ren] at e <;> first | (cases e; exact .iptr c b o vs hb h1 ho hr) | cases e
  | lst sz xs a cap vs h1 h2 h3 h4 h5 h6 hr ih => intro β' ρ x e hβ; cases x <;> simp only [AV.ren] at e <;> first | (cases e; exact .lst sz xs a cap vs h1 h2 h3 h4 h5 h6 hr) | cases e
  | agg c cs h1 _ ih =>
    intro β' ρ x e hβ
    cases x <;> simp only [AV.ren] at e <;> first
      | (cases e; exact .agg _ cs (by rw [← renL_len ρ]; exact h1) (fun j u v hu hv => ih j (u.ren ρ) v (by rw [renL_at, hu]; rfl) hv rfl hβ))
      | cases e
  | tup c cs h1 _ ih =>
    intro β' ρ x e hβ
    cases x <;> simp only [AV.ren] at e <;> first
      | (cases e; exact .tup _ cs (by rw [← renL_len ρ]; exact h1) (fun j u v hu hv => ih j (u.ren ρ) v (by rw [renL_at, hu]; rfl) hv rfl hβ))
      | cases e
  | fn f c cs h1 _ ih =>
    intro β' ρ x e hβ
    cases x <;> simp only [AV.ren] at e <;> first
      | (cases e; exact .fn _ _ cs (by rw [← renL_len ρ]; exact h1) (fun j u v hu hv => ih j (u.ren ρ) v (by rw [renL_at, hu]; rfl) hv rfl hβ))
      | cases e
end Go.Proofs.Ytkefkegknacpjaa.Ax
