/- Abstract operations: equality of structs. Nothing of the dump is used here. -/
import Derived.Test.YtkefkegknacpjaaAxP2
import Derived.Laws.StructEq
namespace Go.Proofs.Ytkefkegknacpjaa.Ax
open Go.RowKit
set_option linter.unusedVariables false
set_option linter.unusedSimpArgs false

def eq1 : AV → AV → Option Bool
  | .int k a, .int k' b => if k = k' then some (a == b) else none
  | .str a, .str b => some (a.toList == b.toList)
  | .bool a, .bool b => some (a == b)
  | .bool a, .tru => some (a == true)
  | .bool a, .fls => some (a == false)
  | .tru, .bool b => some (true == b)
  | .fls, .bool b => some (false == b)
  | .tru, .tru => some true
  | .fls, .fls => some true
  | .tru, .fls => some false
  | .fls, .tru => some false
  | _, _ => none

def eqCells : List AV → List AV → Option Bool
  | [], [] => some true
  | x :: l, y :: m => match eq1 x y, eqCells l m with
    | some b, some r => some (b && r)
    | _, _ => none
  | _, _ => none

theorem eqCells_len : ∀ {c d : List AV} {r : Bool}, eqCells c d = some r → c.length = d.length
  | [], [], _, _ => rfl
  | x :: l, y :: m, r, h => by
    simp only [eqCells] at h
    split at h
    · rename_i _ e; simp [eqCells_len e]
    · cases h
  | [], y :: m, r, h => by simp [eqCells] at h
  | x :: l, [], r, h => by simp [eqCells] at h

theorem eqCells_split : ∀ (n : Nat) {c d : List AV} {r : Bool}, eqCells c d = some r → ∃ r1 r2, eqCells (c.take n) (d.take n) = some r1 ∧ eqCells (c.drop n) (d.drop n) = some r2 ∧ r = (r1 && r2)
  | 0, c, d, r, h => ⟨true, r, by simp [eqCells], by simpa using h, by simp⟩
  | n + 1, [], [], r, h => ⟨true, r, by simp [eqCells], by simpa using h, by simp⟩
  | n + 1, x :: l, y :: m, r, h => by
    simp only [eqCells] at h
    split at h
    · rename_i b r' e1 e2
      cases h
      obtain ⟨r1, r2, h1, h2, h3⟩ := eqCells_split n e2
      exact ⟨b && r1, r2, by simp [eqCells, e1, h1], by simpa using h2, by rw [h3, Bool.and_assoc]⟩
    · cases h
  | n + 1, [], y :: m, r, h => by simp [eqCells] at h
  | n + 1, x :: l, [], r, h => by simp [eqCells] at h

/-- a value of a type that can be compared, as cells -/
def Shape (P : Program) (t : TypeId) (w : World) (F : Nat → Prop) (β : Nat → Option Hdr) (c : List AV) (x : Value) : Prop :=
  match P.underlying t with
  | some (.struct _) => ∃ cs, x = .agg cs ∧ RVs w F β c cs
  | _ => ∃ u, c = [u] ∧ RV w F β u x

theorem eq1_run {P : Program} {t : TypeId} {w w' : World} {F : Nat → Prop} {β : Nat → Option Hdr} {u v : AV} {x y : Value} {r : Bool} (hu : RV w F β u x) (hv : RV w F β v y) (h : eq1 u v = some r) (d : Nat)
    (ht : (∃ k, P.underlying t = some (.int k)) ∨ P.underlying t = some .string ∨ P.underlying t = some .bool) (hk : (∀ k n, u = .int k n → ∃ k, P.underlying t = some (.int k)) ∧ (∀ s, u = .str s → P.underlying t = some .string) ∧ ((u = .tru ∨ u = .fls ∨ ∃ b, u = .bool b) → P.underlying t = some .bool)) : (Op.equalIn (d + 1) t x y).run P w' = .ok r w' := by
  unfold eq1 at h
  split at h
  · split at h
    · rename_i e; subst e; cases h; cases hu; cases hv; obtain ⟨k, hk⟩ := hk.1 _ _ rfl; exact run_equalIn_int w' d t _ _ _ _ hk
    · cases h
  · cases h; cases hu; cases hv; exact run_equalIn_string w' d t _ _ (hk.2.1 _ rfl)
  · cases h; cases hu; cases hv; exact run_equalIn_bool w' d t _ _ (hk.2.2 (.inr (.inr ⟨_, rfl⟩)))
  · cases h; cases hu; cases hv; exact run_equalIn_bool w' d t _ _ (hk.2.2 (.inr (.inr ⟨_, rfl⟩)))
  · cases h; cases hu; cases hv; exact run_equalIn_bool w' d t _ _ (hk.2.2 (.inr (.inr ⟨_, rfl⟩)))
  · cases h; cases hu; cases hv; exact run_equalIn_bool w' d t _ _ (hk.2.2 (.inl rfl))
  · cases h; cases hu; cases hv; exact run_equalIn_bool w' d t _ _ (hk.2.2 (.inr (.inl rfl)))
  · cases h; cases hu; cases hv; exact run_equalIn_bool w' d t _ _ (hk.2.2 (.inl rfl))
  · cases h; cases hu; cases hv; exact run_equalIn_bool w' d t _ _ (hk.2.2 (.inr (.inl rfl)))
  · cases h; cases hu; cases hv; exact run_equalIn_bool w' d t _ _ (hk.2.2 (.inl rfl))
  · cases h; cases hu; cases hv; exact run_equalIn_bool w' d t _ _ (hk.2.2 (.inr (.inl rfl)))
  · cases h

/-- do the cells have the kinds that the type asks for? -/
def kinds (P : Program) (rec : TypeId → List AV → Bool) : List Field → List AV → Bool
  | [], _ => true
  | f :: fs, c => match P.info? f.type with
    | some i => rec f.type (c.take i.size) && kinds P rec fs (c.drop i.size)
    | none => false

def kindOf (P : Program) : Nat → TypeId → List AV → Bool
  | 0, _, _ => false
  | d + 1, t, c => match P.underlying t with
    | some (.int _) => match c with | [.int _ _] => true | _ => false
    | some .string => match c with | [.str _] => true | _ => false
    | some .bool => match c with | [.bool _] | [.tru] | [.fls] => true | _ => false
    | some (.struct fs) => kinds P (kindOf P d) fs.toList c
    | _ => false

theorem equal_run {P : Program} (m : Nat) : ∀ (d : Nat) (t : TypeId), eqTy P d t = true → ∀ (w w' : World) (F : Nat → Prop) (β : Nat → Option Hdr) (c e : List AV) (x y : Value) (r : Bool), (∀ i, P.info? t = some i → c.length = i.size) → Shape P t w F β c x → Shape P t w F β e y → kindOf P d t c = true → eqCells c e = some r → (Op.equalIn (m + d) t x y).run P w' = .ok r w'
  | 0, t, h => by simp [eqTy] at h
  | d + 1, t, h => by
    intro w w' F β c e x y r hsz hx hy hk hr
    unfold eqTy at h
    unfold Shape at hx hy
    unfold kindOf at hk
    have scalar : ∀ {td : TypeDesc}, P.underlying t = some td → (∃ u, c = [u] ∧ RV w F β u x) → (∃ u, e = [u] ∧ RV w F β u y) → ((∃ k, td = .int k) ∨ td = .string ∨ td = .bool) → (∀ u, c = [u] → (∀ k n, u = .int k n → ∃ k, td = .int k) ∧ (∀ s, u = .str s → td = .string) ∧ ((u = .tru ∨ u = .fls ∨ ∃ b, u = .bool b) → td = .bool)) → (Op.equalIn (m + (d + 1)) t x y).run P w' = .ok r w' := by
      rintro td ht ⟨u, rfl, hu⟩ ⟨v, rfl, hv⟩ hd hkk
      have he : eq1 u v = some r := by
        simp only [eqCells] at hr
        split at hr
        · rename_i e1 e2; cases e2; rw [e1, ← hr]; simp
        · cases hr
      obtain ⟨k1, k2, k3⟩ := hkk u rfl
      refine eq1_run hu hv he (m + d) ?_ ⟨fun k n q => ?_, fun s q => ?_, fun q => ?_⟩
      · rcases hd with ⟨k, rfl⟩ | rfl | rfl
        · exact .inl ⟨k, ht⟩
        · exact .inr (.inl ht)
        · exact .inr (.inr ht)
      · obtain ⟨k', rfl⟩ := k1 k n q; exact ⟨k', ht⟩
      · rw [ht, k2 s q]
      · rw [ht, k3 q]
    split at h
    · rename_i k i h1 h2
      rw [h1] at hx hy hk
      refine scalar h1 hx hy (.inl ⟨k, rfl⟩) (fun u hc => ?_)
      subst hc
      simp only at hk
      split at hk <;> first | cases hk; done | skip
      rename_i e
      cases e
      exact ⟨fun _ _ _ => ⟨k, rfl⟩, fun s q => (by cases q), fun q => (by rcases q with q | q | ⟨_, q⟩ <;> cases q)⟩
    · rename_i i h1 h2
      rw [h1] at hx hy hk
      refine scalar h1 hx hy (.inr (.inl rfl)) (fun u hc => ?_)
      subst hc
      simp only at hk
      split at hk <;> first | cases hk; done | skip
      rename_i e
      cases e
      exact ⟨fun _ _ q => (by cases q), fun s q => rfl, fun q => (by rcases q with q | q | ⟨_, q⟩ <;> cases q)⟩
    · rename_i i h1 h2
      rw [h1] at hx hy hk
      refine scalar h1 hx hy (.inr (.inr rfl)) (fun u hc => ?_)
      subst hc
      simp only at hk
      refine ⟨fun k n q => ?_, fun s q => ?_, fun _ => rfl⟩ <;> subst q <;> simp at hk
    · rename_i fs i h1 h2
      simp only [Bool.and_eq_true, Bool.not_eq_true'] at h
      rw [h1] at hx hy hk
      simp only at hx hy hk
      obtain ⟨xs, rfl, hx⟩ := hx
      obtain ⟨ys, rfl, hy⟩ := hy
      have hfs : P.fieldsOf t = fs := by simp [Program.fieldsOf, h1]
      rw [show m + (d + 1) = (m + d) + 1 from rfl, run_equalIn_struct w' (m + d) t xs ys (by rw [hfs]; exact h1) h.1, hfs]
      have hlen : c.length = e.length := eqCells_len hr
      have main : ∀ (l : List Field) (off : Nat) (r : Bool), tileB P (eqTy P d) l off i.size = true → kinds P (kindOf P d) l (c.drop off) = true → eqCells (c.drop off) (e.drop off) = some r → c.length = i.size → (Op.eqFields (m + d) xs ys l).run P w' = .ok r w' := by
        intro l
        induction l with
        | nil =>
          intro off r q1 q2 q3 q4
          simp only [tileB, beq_iff_eq] at q1
          rw [List.drop_eq_nil_of_le (by omega), List.drop_eq_nil_of_le (by omega)] at q3
          simp only [eqCells] at q3
          cases q3
          simp [Op.eqFields]
        | cons f l ih =>
          intro off r q1 q2 q3 q4
          simp only [tileB] at q1
          simp only [kinds] at q2
          split at q1
          · rename_i fi hfi
            rw [hfi] at q2
            simp only [Bool.and_eq_true, bne_iff_ne, ne_eq, beq_iff_eq] at q1 q2
            obtain ⟨⟨⟨n1, n2⟩, n3⟩, n4⟩ := q1
            subst n2
            obtain ⟨r1, r2, s1, s2, rfl⟩ := eqCells_split fi.size q3
            rw [List.drop_drop, List.drop_drop] at s2
            have hrest := ih (f.offset + fi.size) r2 n4 (by rw [← List.drop_drop]; exact q2.2) s2 q4
            -- the field
            obtain ⟨fd, hfd⟩ : ∃ fd, P.underlying f.type = some fd := by
              cases hu : P.underlying f.type with
              | some fd => exact ⟨fd, rfl⟩
              | none => cases d <;> simp [eqTy, hu] at n3
            have size1 : aggD fd = false → fi.size = 1 ∧ True := fun ha => by
              cases d with
              | zero => simp [eqTy] at n3
              | succ d =>
                unfold eqTy at n3
                rw [hfd, hfi] at n3
                cases fd <;> simp only [Bool.false_eq_true] at n3 <;> first
                  | (simp [aggD] at ha; done)
                  | exact ⟨by simpa using n3, trivial⟩
            have hfit : aggD fd = true → ∃ sfs, fd = .struct sfs := fun ha => by
              cases d with
              | zero => simp [eqTy] at n3
              | succ d =>
                unfold eqTy at n3
                rw [hfd, hfi] at n3
                cases fd <;> simp only [Bool.false_eq_true] at n3 <;> first
                  | exact ⟨_, rfl⟩
                  | (simp [aggD] at ha; done)
            have htot : f.offset + fi.size ≤ i.size := by
              have : ∀ (l : List Field) (o : Nat), tileB P (eqTy P d) l o i.size = true → o ≤ i.size := by
                intro l
                induction l with
                | nil => intro o h; simp only [tileB, beq_iff_eq] at h; omega
                | cons f' l' ih' =>
                  intro o h
                  simp only [tileB] at h
                  split at h
                  · simp only [Bool.and_eq_true] at h
                    have := ih' _ h.2
                    omega
                  · cases h
              exact this l _ n4
            have hpart : ∀ (cc : List AV) (zs : Array Value), RVs w F β cc zs → cc.length = i.size → ∃ v, (part f.type zs f.offset).run P w' = .ok v w' ∧ Shape P f.type w F β ((cc.drop f.offset).take fi.size) v := fun cc zs hz hcl => by
              rw [run_part w' hfi hfd]
              cases ha : aggD fd with
              | true =>
                obtain ⟨sfs, rfl⟩ := hfit ha
                refine ⟨_, rfl, ?_⟩
                unfold Shape
                rw [hfd]
                exact ⟨_, rfl, hz.extract f.offset fi.size (by omega)⟩
              | false =>
                have h1s := (size1 ha).1
                have hlt : f.offset < cc.length := by omega
                obtain ⟨v, hv, hrv⟩ := hz.at (List.getElem?_eq_getElem hlt)
                refine ⟨v, by simp [hv], ?_⟩
                unfold Shape
                rw [hfd]
                have hc1 : (cc.drop f.offset).take fi.size = [cc[f.offset]] := by
                  rw [h1s, List.drop_eq_getElem_cons hlt]
                  rfl
                cases fd <;> simp only [aggD, Bool.true_eq_false] at ha <;> exact ⟨_, hc1, hrv⟩
            obtain ⟨a, p1, p2⟩ := hpart c xs hx q4
            obtain ⟨b, p3, p4⟩ := hpart e ys hy (by omega)
            have hr1 := equal_run m d f.type n3 w w' F β _ _ a b r1 (fun i' hi' => by rw [hfi] at hi'; cases hi'; simp; omega) p2 p4 q2.1 s1
            simp only [Op.eqFields, n1, ne_eq, not_false_eq_true, if_true, Sem.run_bind, p1, p3, hr1, Result.andThen_ok]
            cases r1
            · simp
            · simpa using hrest
          · cases q1
      exact main fs.toList 0 r h.2 (by simpa using hk) (by simpa using hr) (hsz i h2)
    · cases h
end Go.Proofs.Ytkefkegknacpjaa.Ax
