/- The abstract walk of one operation is sound. Nothing of the dump is used here. -/
import Derived.Test.YtkefkegknacpjaaAxV
namespace Go.Proofs.Ytkefkegknacpjaa.Ax
open Go.RowKit
set_option linter.unusedVariables false
set_option linter.unusedSimpArgs false

theorem partA_gives {c : List AV} {o n : Nat} {b : Bool} {K : AV → Prop} (h : partA c o n b K) : ∃ v, K v ∧ ((b = true ∧ o + n ≤ c.length ∧ v = .agg ((c.drop o).take n)) ∨ (b = false ∧ c[o]? = some v)) := partA_ok h

theorem awp1_ok {P : Program} {tab : Tab} (hT : TabOK P tab) {g : Nat} {o : Oper} {σ : ASt} {K : Eff → Prop} (h : awp1 P tab g o σ K) : ∃ e, K e ∧ OpOK P g o σ e := by
  obtain ⟨env, H, nn⟩ := σ
  simp only [awp1] at h
  cases ho : o.op <;> rw [ho] at h <;> simp only at h
  case move x => exact ⟨_, h, ok_gives (gives_move (.inl ho))⟩
  case assign x => exact ⟨_, h, ok_gives (gives_move (.inr ho))⟩
  case pick c x y =>
    split at h
    · rename_i e; exact ⟨_, h, ok_gives (gives_pick ho (.inl ⟨e, rfl⟩))⟩
    · rename_i e; exact ⟨_, h, ok_gives (gives_pick ho (.inr ⟨e, rfl⟩))⟩
    · exact h.elim
  case extract x i =>
    split at h
    · rename_i e
      split at h
      · rename_i e2; exact ⟨_, h, ok_gives (gives_extract ho e e2)⟩
      · exact h.elim
    · exact h.elim
  case field t x i =>
    split at h
    · rename_i ti ht
      split at h
      · rename_i e1 e2
        split at h
        · rename_i e3
          obtain ⟨v, hv, hp⟩ := partA_ok h
          exact ⟨_, hv, ok_gives (gives_field hT ho ht e1 e3 e2 hp)⟩
        · exact h.elim
      · exact h.elim
    · exact h.elim
  case build t parts =>
    split at h
    · rename_i ti ht
      split at h
      · rename_i e1
        split at h
        · rename_i e2; exact ⟨_, h, ok_gives (gives_build hT ho ht e1 e2)⟩
        · exact h.elim
      · exact h.elim
    · exact h.elim
  case buildSlice t n parts =>
    split at h
    · rename_i ti ht
      split at h
      · rename_i e1
        split at h
        · rename_i e2
          split at h
          · rename_i e3
            simp only [Bool.and_eq_true] at e3
            obtain ⟨⟨⟨⟨q1, q2⟩, q3⟩, q4⟩, q5⟩ := e3
            exact ⟨_, forceC_iff.1 h, ok_buildSlice hT ho ht e1 (Nat.eq_of_beq_eq_true q1) (Nat.le_of_ble_eq_true q2) (Nat.le_of_ble_eq_true q3) e2 q4 (Nat.eq_of_beq_eq_true q5)⟩
          · exact h.elim
        · exact h.elim
      · exact h.elim
    · exact h.elim
  case box t x =>
    split at h
    · rename_i e; exact ⟨_, h, ok_box ho e⟩
    · exact h.elim
  case alloc t =>
    split at h
    · rename_i ti ht; exact ⟨_, h, ok_alloc hT ho ht⟩
    · exact h.elim
  case load t x =>
    split at h
    · rename_i ti ht
      split at h
      · rename_i e
        obtain ⟨v, hv, hp⟩ := partA_ok h
        exact ⟨_, hv, ok_gives (gives_load hT ho ht (.inl ⟨e, rfl, rfl⟩) hp)⟩
      · rename_i e
        split at h
        · rename_i e2
          obtain ⟨v, hv, hp⟩ := partA_ok h
          exact ⟨_, hv, ok_gives (gives_load hT ho ht (.inr (.inl ⟨_, e, e2, rfl⟩)) hp)⟩
        · exact h.elim
      · rename_i e
        split at h
        · rename_i e2
          replace h := sameN_ok h
          obtain ⟨rfl, c, hc, h⟩ := h
          obtain ⟨v, hv, hp⟩ := partA_ok h
          exact ⟨_, hv, ok_gives (gives_load hT ho ht (.inr (.inr ⟨_, _, _, _, e, e2, hc, rfl⟩)) hp)⟩
        · exact h.elim
      · exact h.elim
    · exact h.elim
  case store t p x =>
    split at h
    · rename_i ti ht
      split at h
      · rename_i e1
        simp only [Bool.and_eq_true] at e1
        obtain ⟨⟨q1, q2⟩, q3⟩ := e1
        have q3 := Nat.eq_of_beq_eq_true q3
        split at h
        · rename_i e2
          split at h
          · rename_i e3
            split at h
            · rename_i e4; exact ⟨_, h, ok_storeB hT ho ht e2 e3 q1 q2 q3 (Nat.le_of_ble_eq_true e4)⟩
            · exact h.elim
          · exact h.elim
        · rename_i e2
          split at h
          · rename_i e3
            split at h
            · replace h := sameN_ok h
              obtain ⟨rfl, c, hc, hl, _, rfl, h⟩ := h
              exact ⟨_, h, ok_storeR hT ho ht e2 e3 hc q1 q2 q3 hl⟩
            · replace h := sameN_ok h
              obtain ⟨rfl, h⟩ := h
              obtain ⟨cs, ids, hz, h⟩ := frzP_ok h
              split at h
              · rename_i e4
                simp only [Bool.and_eq_true, Bool.not_eq_true'] at e4
                obtain ⟨⟨p1, p2⟩, p3⟩ := e4
                obtain ⟨c, hc, hl, _, rfl, h⟩ := h
                exact ⟨_, h, ok_storeF hT ho ht e2 e3 hc q1 q2 p1 (Nat.eq_of_beq_eq_true p2) hl hz (fun hm => by rw [← List.contains_iff_mem, p3] at hm; cases hm)⟩
              · exact h.elim
          · exact h.elim
        · exact h.elim
      · exact h.elim
    · exact h.elim
  case nilCheck x =>
    split at h
    · rename_i e; exact ⟨_, h, ok_gives (gives_nilCheck ho (.inl ⟨_, _, e⟩))⟩
    · rename_i e; exact ⟨_, h, ok_gives (gives_nilCheck ho (.inr (.inl ⟨_, _, _, _, e⟩)))⟩
    · rename_i e; exact ⟨_, h, ok_gives (gives_nilCheck ho (.inr (.inr ⟨_, e⟩)))⟩
    · exact h.elim
  case binOp op t x y t' =>
    split at h
    · rename_i e1 e2
      split at h
      · rename_i ti ht
        split at h
        · rename_i ks hk
          split at h
          · rename_i q1 q2
            simp only [Bool.and_eq_true] at q1
            have hop : op = .eql ∨ op = .neq := by
              have := q1.2
              cases op <;> simp [isEq] at this <;> simp
            refine ⟨_, h, ok_gives ?_⟩
            have := gives_eqA hT ho hop ht hk e1 e2 q1.1 q2 (H := H)
            have he : ∀ r, (if op = .eql then r else !r) = eqB op r := fun r => by rcases hop with rfl | rfl <;> rfl
            rw [he] at this
            exact this
          · exact h.elim
        · exact h.elim
      · exact h.elim
    · split at h
      · rename_i q1 q2 q3
        split at h
        · rename_i ti ht
          split at h
          · rename_i hd
            have hop : op = .eql ∨ op = .neq := by cases op <;> simp [isEq] at q1 <;> simp
            refine ⟨_, h, ok_gives ?_⟩
            have := gives_eqBool hT ho hop ht hd q2 q3 (H := H)
            have he : ∀ r, (if op = .eql then r else !r) = eqB op r := fun r => by rcases hop with rfl | rfl <;> rfl
            rw [he] at this
            exact this
          · exact h.elim
        · exact h.elim
      · obtain ⟨v, hv, hg⟩ := gives_bin (H := H) ho h
        exact ⟨_, hv, ok_gives hg⟩
  case unOp op t x =>
    split at h
    · rename_i e; exact ⟨_, h, ok_gives (gives_not ho (.inl ⟨e, rfl⟩))⟩
    · rename_i e; exact ⟨_, h, ok_gives (gives_not ho (.inr (.inl ⟨e, rfl⟩)))⟩
    · rename_i e; exact ⟨_, h, ok_gives (gives_not ho (.inr (.inr ⟨_, e, rfl⟩)))⟩
    · rename_i e
      obtain ⟨z, rfl, h⟩ := h
      exact ⟨_, h, ok_gives (gives_neg ho e)⟩
    · exact h.elim
  case convert s t x =>
    split at h
    · rename_i e1 e2
      split at h
      · rename_i e3 e4
        obtain ⟨z, rfl, h⟩ := h
        exact ⟨_, h, ok_gives (gives_convInt hT ho e1 e2 e3 e4)⟩
      · rename_i e3
        split at h
        · rename_i e4
          obtain ⟨tj, e, sz, eb, ez, te, q1, q2, q3, q4⟩ := bytesTy_ok e4
          obtain ⟨ys, ids, hc, ns, hys, h⟩ := contP_ok h
          exact ⟨_, h, ok_gives (gives_bytesStr hT ho q1 e2 e3 q2 q3 q4 hc hys)⟩
        · exact h.elim
      · exact h.elim
    · exact h.elim
  case makeFunc fn first cap =>
    split at h
    · exact ⟨_, h, ok_gives (gives_makeFunc ho)⟩
    · exact h.elim
  case makeSlice t l c =>
    split at h
    · rename_i ti ht
      split at h
      · rename_i e1 e2 e3
        split at h
        · rename_i e4
          simp only [Bool.and_eq_true] at e4
          obtain ⟨m, rfl, rfl, h1, h2, _, rfl, h⟩ := h
          exact ⟨_, h, ok_makeSlice hT ho ht e1 (Nat.eq_of_beq_eq_true e4.1) e4.2 e2 e3 h1 h2⟩
        · exact h.elim
      · exact h.elim
    · exact h.elim
  case fieldAddr t x i =>
    split at h
    · rename_i ti ht
      split at h
      · rename_i e1
        split at h
        · rename_i e2
          split at h
          · rename_i e3; exact ⟨_, h, ok_gives (gives_fieldAddr hT ho ht e1 e2 (.inl ⟨_, _, e3, rfl⟩))⟩
          · rename_i e3; exact ⟨_, h, ok_gives (gives_fieldAddr hT ho ht e1 e2 (.inr (.inl ⟨_, _, _, _, e3, rfl⟩)))⟩
          · rename_i e3; exact ⟨_, h, ok_gives (gives_fieldAddr hT ho ht e1 e2 (.inr (.inr ⟨_, e3, rfl⟩)))⟩
          · exact h.elim
        · exact h.elim
      · exact h.elim
    · exact h.elim
  case indexAddr t x ix =>
    split at h
    · rename_i ti ht
      split at h
      · rename_i e1 e2
        split at h
        · rename_i e3
          replace h := sameN_ok h
          obtain ⟨rfl, m, c, rfl, hc, h⟩ := h
          exact ⟨_, h, ok_gives (gives_indexL hT ho ht e1 e3 e2 hc (rfl : (0 : Nat) = 0))⟩
        · rename_i e3
          split at h
          · rename_i e4
            replace h := sameN_ok h
            obtain ⟨rfl, m, rfl, hm, h⟩ := h
            exact ⟨_, h, ok_gives (gives_indexO hT ho ht e1 e3 e2 e4 hm)⟩
          · exact h.elim
        · exact h.elim
      · rename_i e1 e2
        split at h
        · rename_i e3
          obtain ⟨m, rfl, hm, h⟩ := h
          exact ⟨_, h, ok_gives (gives_indexA hT ho ht e1 e2 hm (.inl ⟨_, _, e3, rfl⟩))⟩
        · rename_i e3
          obtain ⟨m, rfl, hm, h⟩ := h
          exact ⟨_, h, ok_gives (gives_indexA hT ho ht e1 e2 hm (.inr (.inl ⟨_, _, _, _, e3, rfl⟩)))⟩
        · rename_i e3
          obtain ⟨m, rfl, hm, h⟩ := h
          exact ⟨_, h, ok_gives (gives_indexA hT ho ht e1 e2 hm (.inr (.inr ⟨_, e3, rfl⟩)))⟩
        · exact h.elim
      · exact h.elim
    · exact h.elim
  case index t x ix =>
    split at h
    · rename_i ti ht
      split at h
      · rename_i e1 e2 e3
        obtain ⟨m, b, rfl, hb, h⟩ := h
        exact ⟨_, h, ok_gives (gives_byte hT ho ht e1 e2 e3 hb)⟩
      · rename_i e1 e2 e3
        obtain ⟨m, rfl, hm, h⟩ := h
        obtain ⟨v, hv, hp⟩ := partA_ok h
        exact ⟨_, hv, ok_gives (gives_indexV hT ho ht e1 e2 e3 hm hp)⟩
      · exact h.elim
    · exact h.elim
  case slice t x lo hi mx =>
    split at h
    · rename_i ti ht
      split at h
      · rename_i e1
        split at h
        · rename_i e2
          obtain ⟨l, hl, h⟩ := boundP_ok h
          obtain ⟨q, hq, h1, h2, h⟩ := boundP_ok h
          exact ⟨_, h, ok_gives (gives_substr hT ho ht e1 e2 hl hq h1 h2)⟩
        · exact h.elim
      · rename_i e1
        split at h
        · rename_i e2
          split at h
          · replace h := sameN_ok h
            obtain ⟨rfl, h⟩ := h
            obtain ⟨l, hl, h⟩ := boundP_ok h
            obtain ⟨q, hq, h1, h2, _, rfl, h⟩ := boundP_ok h
            exact ⟨_, h, ok_gives (gives_sliceL hT ho ht e1 (.inl e2) hl hq h1 h2)⟩
          · exact h.elim
        · rename_i e2
          split at h
          · obtain ⟨l, hl, h⟩ := boundP_ok h
            obtain ⟨q, hq, h1, h2, h⟩ := boundP_ok h
            refine ⟨_, h, ok_gives ?_⟩
            have := gives_sliceL hT ho ht e1 (.inr ⟨e2, rfl⟩) hl hq h1 h2 (H := H)
            simpa using this
          · exact h.elim
        · rename_i e2
          split at h
          · rename_i e3
            split at h
            · replace h := sameN_ok h
              obtain ⟨rfl, h⟩ := h
              obtain ⟨l, hl, h⟩ := boundP_ok h
              obtain ⟨q, hq, h1, h2, h⟩ := boundP_ok h
              exact ⟨_, h, ok_gives (gives_sliceO (m := 0) hT ho ht e1 e2 e3 hl hq (fun _ e => by cases e) h1 h2 (fun e => by cases e) (fun e => by cases e))⟩
            · split at h
              · replace h := sameN_ok h
                obtain ⟨rfl, h⟩ := h
                obtain ⟨l, hl, h⟩ := boundP_ok h
                obtain ⟨q, hq, h⟩ := boundP_ok h
                obtain ⟨m, hm, h1, h2, h3, h⟩ := boundP_ok h
                exact ⟨_, h, ok_gives (gives_sliceO (m := m) hT ho ht e1 e2 e3 hl hq (fun q' e => by cases e; exact hm) h1 (by omega) (fun _ => ⟨h2, h3⟩) (fun _ => rfl))⟩
              · exact h.elim
          · exact h.elim
        · exact h.elim
      · exact h.elim
    · exact h.elim
  case call c =>
    obtain ⟨callee, args, argTypes⟩ := c
    simp only at h
    split at h
    · split at h
      · rename_i ti ht
        split at h
        · rename_i e1 e2; exact ⟨_, h, ok_gives (gives_len hT ho ht (.inl ⟨_, e1, e2, rfl, rfl⟩))⟩
        · rename_i e1 e2; obtain ⟨_, rfl, h⟩ := h; exact ⟨_, h, ok_gives (gives_len hT ho ht (.inr (.inl ⟨_, _, _, _, e1, .inl ⟨_, _, e2, rfl, rfl⟩⟩)))⟩
        · rename_i e1 e2; exact ⟨_, h, ok_gives (gives_len hT ho ht (.inr (.inl ⟨_, _, _, _, e1, .inr (.inl ⟨e2, rfl, rfl⟩)⟩)))⟩
        · rename_i e1 e2
          split at h
          · rename_i e3; obtain ⟨_, rfl, h⟩ := h; exact ⟨_, h, ok_gives (gives_len hT ho ht (.inr (.inl ⟨_, _, _, _, e1, .inr (.inr (.inl ⟨_, _, _, e2, e3, rfl, rfl⟩))⟩)))⟩
          · exact h.elim
        · rename_i e1 e2; obtain ⟨_, rfl, h⟩ := h; exact ⟨_, h, ok_gives (gives_len hT ho ht (.inr (.inl ⟨_, _, _, _, e1, .inr (.inr (.inr ⟨_, _, _, _, _, e2, rfl, rfl⟩))⟩)))⟩
        · rename_i e1; exact ⟨_, h, ok_gives (gives_len hT ho ht (.inr (.inr ⟨_, _, e1, rfl⟩)))⟩
        · exact h.elim
      · exact h.elim
    · split at h
      · rename_i e1 e2; exact ⟨_, h, ok_gives (gives_min ho e1 e2)⟩
      · exact h.elim
    · split at h
      · rename_i e1 e2; exact ⟨_, h, ok_gives (gives_max ho e1 e2)⟩
      · exact h.elim
    · split at h
      · rename_i eb
        have eb := Nat.eq_of_beq_eq_true eb
        subst eb
        split at h
        · rename_i ti ht
          split at h
          · rename_i e1
            split at h
            · rename_i e2
              obtain ⟨xs, wr, hs, h⟩ := ownP_ok h
              obtain ⟨ys, ids, hx, h1, h2, _, rfl, h⟩ := contP_ok h
              exact ⟨_, h, ok_append hT ho ht e1 (Nat.eq_of_beq_eq_true e2) hs hx h1 h2⟩
            · exact h.elim
          · exact h.elim
        · exact h.elim
      · exact h.elim
    · split at h
      · rename_i ti ht
        split at h
        · rename_i e1
          split at h
          · rename_i e2
            split at h
            · rename_i e3
              split at h
              · rename_i e4
                replace h := sameN_ok h
                obtain ⟨rfl, h⟩ := h
                obtain ⟨ys, ids, hx, h1, _, _, rfl, rfl, h⟩ := contP_ok h
                exact ⟨_, h, ok_copy hT ho ht e1 (Nat.eq_of_beq_eq_true e2) e3 e4 hx h1⟩
              · exact h.elim
            · exact h.elim
          · exact h.elim
        · exact h.elim
      · exact h.elim
    · split at h
      · rename_i e1
        obtain ⟨args', gs, bs, G, G', res, Gc, up, m, hc, h⟩ := h
        obtain rfl := hc.m
        rw [hc.gc, namesC_map] at h
        obtain ⟨fn, bd, f1, f2, f3⟩ := hc.fn
        have hfl := hc.flat
        cases up with
        | false =>
          simp only [upL, List.append_nil] at h
          exact ⟨_, h, ok_call ho e1 f1 f2 f3 (by have := hc.len; simpa using this) hc.args hc.gl hc.gk hc.nd hc.dis hc.le hfl hc.ac⟩
        | true => exact ⟨_, h, ok_callF ho e1 f1 f2 f3 (by have := hc.len; simpa using this) hc.args hc.gl hc.gk hc.nd hc.dis hc.le hc.ac⟩
      · exact h.elim
    · exact h.elim
  all_goals exact h.elim
end Go.Proofs.Ytkefkegknacpjaa.Ax
