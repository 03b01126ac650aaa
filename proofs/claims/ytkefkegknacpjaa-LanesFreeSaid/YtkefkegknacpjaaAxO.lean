/- A call, as a step of a walk. Nothing of the dump is used here. -/
import Derived.Test.YtkefkegknacpjaaAxN
namespace Go.Proofs.Ytkefkegknacpjaa.Ax
open Go.RowKit
set_option linter.unusedVariables false
set_option linter.unusedSimpArgs false

/-- the names, to the caller, of the blocks of a call: gs those granted, from n on m new ones (and one name that is never used) -/
def rho (gs : List Nat) (n m k : Nat) : Nat := match gs[k]? with
  | some id => id
  | none => n + min (k - gs.length) m

def wrs (ρ : Nat → Nat) : Nat → List ABlk → List (Nat × Option ABlk)
  | _, [] => []
  | k, b :: l => (ρ k, liveB (b.ren ρ)) :: wrs ρ (k + 1) l

theorem wrs_mem {ρ : Nat → Nat} : ∀ {l : List ABlk} {k : Nat} {p : Nat × Option ABlk}, p ∈ wrs ρ k l → ∃ j b, l[j]? = some b ∧ p = (ρ (k + j), liveB (b.ren ρ))
  | b :: l, k, p, h => by
    simp only [wrs, List.mem_cons] at h
    rcases h with rfl | h
    · exact ⟨0, b, rfl, rfl⟩
    · obtain ⟨j, b', h1, h2⟩ := wrs_mem h
      exact ⟨j + 1, b', by simpa using h1, by rw [h2]; simp [Nat.add_comm 1 j, Nat.add_assoc]⟩

theorem wrs_at {ρ : Nat → Nat} : ∀ {l : List ABlk} {k j : Nat} {b : ABlk}, l[j]? = some b → (ρ (k + j), liveB (b.ren ρ)) ∈ wrs ρ k l
  | b' :: l, k, 0, b, h => by simp at h; subst h; simp [wrs]
  | b' :: l, k, j + 1, b, h => by
    simp only [wrs, List.mem_cons]
    right
    have := wrs_at (ρ := ρ) (k := k + 1) (show l[j]? = some b by simpa using h)
    rwa [Nat.add_assoc, Nat.add_comm 1 j] at this

theorem wrH_get : ∀ (l : List (Nat × Option ABlk)) (H : Nat → Option ABlk) (x : Nat) (y : Option ABlk), (∀ (i j : Nat) (p q : Nat × Option ABlk), l[i]? = some p → l[j]? = some q → p.1 = q.1 → i = j) → (x, y) ∈ l → wrH H l x = y
  | (i, k0) :: l, H, x, y, hn, h => by
    have hn' : ∀ (a b : Nat) (p q : Nat × Option ABlk), l[a]? = some p → l[b]? = some q → p.1 = q.1 → a = b := fun a b p q ha hb e => by
      have := hn (a + 1) (b + 1) p q (by simpa using ha) (by simpa using hb) e
      omega
    rcases List.mem_cons.1 h with h | h
    · cases h
      simp only [wrH]
      rw [wrH_one _ l _ (fun hm => by
        obtain ⟨q, hq, e⟩ := List.mem_map.1 hm
        obtain ⟨b, hb, hq'⟩ := List.getElem_of_mem hq
        have := hn 0 (b + 1) (i, k0) q rfl (by simp [List.getElem?_eq_getElem hb, hq']) e.symm
        omega), setH_same]
    · exact wrH_get l _ x y hn' h

theorem wrs_idx {ρ : Nat → Nat} : ∀ {l : List ABlk} {k i : Nat} {p : Nat × Option ABlk}, (wrs ρ k l)[i]? = some p → p.1 = ρ (k + i) ∧ i < l.length
  | [], k, i, p, h => by simp [wrs] at h
  | b :: l, k, 0, p, h => by simp [wrs] at h; subst h; exact ⟨rfl, by simp⟩
  | b :: l, k, i + 1, p, h => by
    obtain ⟨h1, h2⟩ := wrs_idx (k := k + 1) (show (wrs ρ (k + 1) l)[i]? = some p by simpa [wrs] using h)
    exact ⟨by rw [h1]; congr 1; omega, by simp; omega⟩

/-- blocks under their names -/
def namesC (ρ : Nat → Nat) : Nat → List ABlk → List (Nat × Option ABlk)
  | _, [] => []
  | k, b :: l => (ρ k, liveB b) :: namesC ρ (k + 1) l

theorem namesC_map (ρ : Nat → Nat) : ∀ (l : List ABlk) (k : Nat), namesC ρ k (l.map (ABlk.ren ρ)) = wrs ρ k l
  | [], k => rfl
  | b :: l, k => by simp only [List.map_cons, namesC, wrs, namesC_map ρ l]

theorem args_at {env : Nat → AV} {a : Act} {xs : Array Operand} {cap : List AV} {cs : Array Value} (hc : cap.length = cs.size) (t : Nat) : (∃ x, xs[t]? = some x ∧ (xs.toList.map (ev env) ++ cap)[t]? = some (ev env x) ∧ (xs.map a.eval ++ cs)[t]? = some (a.eval x)) ∨
    (∃ u v, (xs.toList.map (ev env) ++ cap)[t]? = some u ∧ (xs.map a.eval ++ cs)[t]? = some v ∧ cap[t - xs.size]? = some u ∧ cs[t - xs.size]? = some v) ∨ ((xs.toList.map (ev env) ++ cap)[t]? = none ∧ (xs.map a.eval ++ cs)[t]? = none) := by
  by_cases h1 : t < xs.size
  · refine .inl ⟨xs[t], Array.getElem?_eq_getElem h1, ?_, ?_⟩
    · rw [List.getElem?_append_left (by simpa using h1)]; simp [h1]
    · rw [Array.getElem?_append_left (by simpa using h1)]; simp [h1]
  · by_cases h2 : t - xs.size < cap.length
    · refine .inr (.inl ⟨cap[t - xs.size], cs[t - xs.size]'(by omega), ?_, ?_, List.getElem?_eq_getElem _, Array.getElem?_eq_getElem _⟩)
      · rw [List.getElem?_append_right (by simpa using Nat.not_lt.1 h1)]; simp [h2]
      · rw [Array.getElem?_append_right (by simpa using Nat.not_lt.1 h1)]; simp [show t - xs.size < cs.size by omega]
    · refine .inr (.inr ⟨?_, ?_⟩)
      · rw [List.getElem?_eq_none (by simp; omega)]
      · rw [Array.getElem?_eq_none (by simp; omega)]

theorem ok_call {P : Program} {g : Nat} {o : Oper} {σ : ASt} {fx : Operand} {xs : Array Operand} {ats : Array TypeId} {f : FuncId} {cap : List AV} {fn : Func} {args' : List AV} {gs bs : List Nat} {G G' : List ABlk} {res : AV}
    (ho : o.op = .call { callee := .value fx, args := xs, argTypes := ats }) (hfx : ev σ.env fx = .fn f cap) (hfn : P.funcs[f]? = some fn) (hname : fn.name ≠ "runtime.NumGoroutine") {bd : Code} (hbody : fn.body = some bd)
    (hlen : xs.size + cap.length = args'.length) (hargs : ∀ (t : Nat) (u u' : AV), (xs.toList.map (ev σ.env) ++ cap)[t]? = some u → args'[t]? = some u' → ArgR σ.H gs [] bs u u')
    (hG : gs.length = G.length) (hGk : ∀ (k id : Nat) (b : ABlk), gs[k]? = some id → G[k]? = some b → σ.H id = some (b.ren (rho gs σ.n (G'.length - G.length)))) (hnd : ∀ (i j id : Nat), gs[i]? = some id → gs[j]? = some id → i = j) (hdis : ∀ id ∈ gs, id ∉ bs)
    (hle : G.length ≤ G'.length) (hflat : bs = [] ∨ (res.flat = true ∧ ∀ b ∈ G', b.flat)) (hAC : AC P f args' G res G') :
    OpOK P g o σ ⟨res.ren (rho gs σ.n (G'.length - G.length)), wrs (rho gs σ.n (G'.length - G.length)) 0 G', gs ++ bs, σ.n + (G'.length - G.length) + 1⟩ := by
  refine ⟨by show σ.n ≤ σ.n + (G'.length - G.length) + 1; omega, fun C I σ2 a w K Q hC hxs hH hI hdd hR hK => ?_⟩
  obtain ⟨β, F, hR⟩ := hR
  have hHg : ∀ id, id ∈ gs ∨ id ∈ bs → σ2.H id = σ.H id := fun id h => hH id (by simp only [List.mem_append]; exact .inl h)
  -- the function and what it captured
  have hv := hxs fx (by simp [ho, Op.operands, Call.operands]) _ _ _ _ (hR.ev fx)
  rw [hfx] at hv
  generalize hfv : a.eval fx = fv at hv
  cases hv with
  | fn _ _ cs c1 c2 =>
  have hexec : (execOp a.eval o).run P w = .ok (.enter f (xs.map a.eval ++ cs)) w := by
    simp [execOp, ho, resolve, hfv, Deferred.ofValue, invoke, callFunc, program, Sem.run, hfn, hname, hbody]
  -- the blocks that are granted
  have hgr : ∀ (k id : Nat), gs[k]? = some id → ∃ b h, G[k]? = some b ∧ σ2.H id = some (b.ren (rho gs σ.n (G'.length - G.length))) ∧ β id = some h ∧ BlkR w F β h (b.ren (rho gs σ.n (G'.length - G.length))) ∧ ∀ i, h.blk = some i → i < w.heap.size ∧ ¬ F i ∧ C.Mine i := fun k id hk => by
    have hkl : k < G.length := by rw [← hG]; exact (List.getElem?_eq_some_iff.1 hk).1
    have hb : G[k]? = some G[k] := List.getElem?_eq_getElem hkl
    have h1 := hGk k id _ hk hb
    rw [← hHg id (.inl (List.mem_of_getElem? hk))] at h1
    obtain ⟨h, e1, e2, e3⟩ := hR.live id _ h1
    exact ⟨_, h, hb, h1, e1, e2, e3⟩
  let γc : List Hdr := gs.map fun id => (β id).getD ⟨none, 0, 0⟩
  have hγ : ∀ (k : Nat) (h : Hdr), γc[k]? = some h → ∃ id, gs[k]? = some id ∧ β id = some h := fun k h e => by
    simp only [γc, List.getElem?_map] at e
    cases hk : gs[k]? with
    | none => rw [hk] at e; cases e
    | some id =>
      rw [hk] at e
      obtain ⟨b, h', _, _, e1, _⟩ := hgr k id hk
      simp only [Option.map_some, e1, Option.getD_some] at e
      cases e
      exact ⟨id, rfl, e1⟩
  let Bor : Nat → Prop := fun b => ∃ id ∈ bs, ∃ h k, σ2.H id = some k ∧ β id = some h ∧ h.blk = some b
  let βc : Nat → Option Hdr := fun k => γc[k]?
  let Cc : Ctx := ⟨w, γc, fun b => F b ∨ Bor b, (xs.map a.eval ++ cs).size⟩
  have hρ : ∀ (k : Nat) (h : Hdr), β (rho gs σ.n (G'.length - G.length) k) = some h → βc k = some h := fun k h e => by
    unfold rho at e
    cases hk : gs[k]? with
    | some id => rw [hk] at e; simp only at e; simp only [βc, γc, List.getElem?_map, hk, Option.map_some, e, Option.getD_some]
    | none =>
      rw [hk] at e
      simp only at e
      exact absurd (hR.dom _ _ e) (hI _ (Nat.le_add_right _ _) (by show _ < σ.n + (G'.length - G.length) + 1; omega))
  have hbor : ∀ b, Bor b → b < w.heap.size ∧ ¬ F b := fun b ⟨id, _, h, k, h1, h2, h3⟩ => by
    obtain ⟨h', e1, _, e3⟩ := hR.live id k h1
    rw [h2] at e1
    cases e1
    exact ⟨(e3 b h3).1, (e3 b h3).2.1⟩
  have hentry : RelB Cc (Below' G.length) (entry args' G) ⟨xs.map a.eval ++ cs, []⟩ w βc (fun b => F b ∨ Bor b) := by
    refine ⟨fun t => ?_, rfl, rfl, fun k b hk => ?_, fun k1 k2 b1 b2 h1 h2 i e1 e2 e3 e4 e5 e6 => ?_, fun k h e => ?_, fun i h e => e, fun b hb => hb, fun b hb => ⟨?_, .inl hb⟩, rfl, rfl, rfl, Nat.le_refl _, fun b _ _ => rfl, fun g => (hR.glo g).mono (fun b hb => .inl hb) (fun _ _ => rfl) (fun _ _ e => e)⟩
    · simp only [entry]
      rw [Array.getD_eq_getD_getElem?]
      cases hu' : args'[t]? with
      | none => exact .any _
      | some u' =>
        have hF : ∀ b, F b → F b ∨ Bor b := fun b hb => .inl hb
        have hg1 : ∀ (k id : Nat) (h : Hdr), gs[k]? = some id → β id = some h → βc k = some h := fun k id h h1 h2 => by simp only [βc, γc, List.getElem?_map, h1, Option.map_some, h2, Option.getD_some]
        have hb1 : ∀ id ∈ bs, ∀ k, σ.H id = some k → ∃ g, β id = some g ∧ BlkR w F β g k ∧ ∀ b, g.blk = some b → F b ∨ Bor b := fun id hid k hk => by
          rw [← hHg id (.inr hid)] at hk
          obtain ⟨h, e1, e2, _⟩ := hR.live id k hk
          exact ⟨h, e1, e2, fun b hb => .inr ⟨id, hid, h, k, hk, e1, hb⟩⟩
        rcases args_at (env := σ.env) (a := a) (xs := xs) c1 t with ⟨x, hx, h1, h2⟩ | ⟨u, v, h1, h2, h3, h4⟩ | ⟨h1, _⟩
        · rw [h2]
          exact (hargs t _ u' h1 hu').rv hF hg1 (fun k hk => by simp at hk) hb1 (hxs x (by simp only [ho, Op.operands, Call.operands]; exact Array.mem_append.2 (.inr (Array.mem_of_getElem? hx))) _ _ _ _ (hR.ev x))
        · rw [h2]
          exact (hargs t _ u' h1 hu').rv hF hg1 (fun k hk => by simp at hk) hb1 (c2 _ u v h3 h4)
        · have := (List.getElem?_eq_some_iff.1 hu').1
          rw [List.getElem?_eq_none_iff] at h1
          simp at h1
          omega
    · replace hk := (entry_H hk).1
      have hkl : k < gs.length := by rw [hG]; exact (List.getElem?_eq_some_iff.1 hk).1
      have hid := List.getElem?_eq_getElem hkl
      obtain ⟨b', h, e0, e1, e2, e3, e4⟩ := hgr k _ hid
      have hb' : b' = b := by
        rw [e0] at hk
        exact Option.some.inj hk
      subst hb'
      have hβk : βc k = some h := by simp only [βc, γc, List.getElem?_map, hid, Option.map_some, e2, Option.getD_some]
      refine ⟨h, hβk, ((e3.unren hρ).mono (fun b hb => .inl hb) (fun _ _ => rfl) (fun _ _ => rfl) (fun _ _ e => e)), fun i hi => ⟨(e4 i hi).1, fun hF => ?_, .inl ⟨h, List.mem_of_getElem? hβk, hi⟩⟩⟩
      rcases hF with hF | ⟨id2, hid2, h2, k2, f1, f2, f3⟩
      · exact (e4 i hi).2.1 hF
      · have := hR.inj _ id2 _ _ h h2 i e1 f1 e2 f2 hi f3
        exact hdis _ (List.mem_of_getElem? hid) (this ▸ hid2)
    · obtain ⟨id1, f1, f2⟩ := hγ k1 h1 e3
      obtain ⟨id2, f3, f4⟩ := hγ k2 h2 e4
      obtain ⟨_, _, _, f5, _⟩ := hgr k1 id1 f1
      obtain ⟨_, _, _, f6, _⟩ := hgr k2 id2 f3
      have := hR.inj id1 id2 _ _ h1 h2 i f5 f6 f2 f4 e5 e6
      subst this
      exact hnd k1 k2 id1 f1 f3
    · obtain ⟨id, f1, _⟩ := hγ k h e
      show k < G.length
      rw [← hG]
      exact (List.getElem?_eq_some_iff.1 f1).1
    · rcases hb with hb | hb
      · exact (hR.news b hb).1
      · exact (hbor b hb).1
  have hcall := hAC Cc w (xs.map a.eval ++ cs) (by simp [Cc, γc, hG]) rfl rfl (by simp; omega) ⟨_, _, hentry⟩
  unfold Oper.wp
  rw [hexec]
  simp only [Oper.upon_enter]
  refine Calls.mono hcall fun e w' he => ?_
  obtain ⟨v, rfl, β', F', hE⟩ := he
  refine hK _ _ ?_
  -- the names, put together
  have hfresh : ∀ k, gs.length ≤ k → k < G'.length → rho gs σ.n (G'.length - G.length) k = σ.n + (k - gs.length) := fun k h1 h2 => by
    unfold rho
    rw [List.getElem?_eq_none h1]
    simp only
    rw [Nat.min_eq_left (by omega)]
  have hold : ∀ (k id : Nat), gs[k]? = some id → rho gs σ.n (G'.length - G.length) k = id := fun k id h => by unfold rho; rw [h]
  have hnotI : ∀ k, gs.length ≤ k → k < G'.length → ¬ I (rho gs σ.n (G'.length - G.length) k) := fun k h1 h2 => by
    rw [hfresh k h1 h2]
    exact hI _ (Nat.le_add_right _ _) (by show _ < σ.n + (G'.length - G.length) + 1; omega)
  have hinI : ∀ (k id : Nat), gs[k]? = some id → I id := fun k id hk => by
    obtain ⟨_, h, _, _, e1, _⟩ := hgr k id hk
    exact hR.dom _ _ e1
  have hρinj : ∀ j k, j < G'.length → k < G'.length → rho gs σ.n (G'.length - G.length) j = rho gs σ.n (G'.length - G.length) k → j = k := fun j k hj hk e => by
    rcases Nat.lt_or_ge j gs.length with h1 | h1 <;> rcases Nat.lt_or_ge k gs.length with h2 | h2
    · have e1 := List.getElem?_eq_getElem h1
      have e2 := List.getElem?_eq_getElem h2
      rw [hold j _ e1, hold k _ e2] at e
      exact hnd j k _ e1 (e ▸ e2)
    · have e1 := List.getElem?_eq_getElem h1
      rw [hold j _ e1] at e
      exact absurd (e ▸ hinI j _ e1) (hnotI k h2 hk)
    · have e2 := List.getElem?_eq_getElem h2
      rw [hold k _ e2] at e
      exact absurd (e ▸ hinI k _ e2) (hnotI j h1 hj)
    · rw [hfresh j h1 hj, hfresh k h2 hk] at e
      omega
  let ρ : Nat → Nat := rho gs σ.n (G'.length - G.length)
  let β2 : Nat → Option Hdr := fun id => if σ.n ≤ id ∧ id < σ.n + (G'.length - G.length) then β' (id - σ.n + gs.length) else β id
  let F2 : Nat → Prop := fun b => F' b ∧ ¬ Bor b
  have hβ2 : ∀ id g, β id = some g → β2 id = some g := fun id g e => by
    have hn : ¬ (σ.n ≤ id ∧ id < σ.n + (G'.length - G.length)) := fun h => hI id h.1 (by show id < σ.n + (G'.length - G.length) + 1; omega) (hR.dom _ _ e)
    simp only [β2, if_neg hn]
    exact e
  have hβρ : ∀ k g, β' k = some g → β2 (ρ k) = some g := fun k g e => by
    have hk : k < G'.length := hE.dom k g e
    rcases Nat.lt_or_ge k gs.length with h | h
    · have hid := List.getElem?_eq_getElem h
      obtain ⟨_, h', _, _, e1, _⟩ := hgr k _ hid
      have hγk : γc[k]? = some h' := by simp only [γc, List.getElem?_map, hid, Option.map_some, e1, Option.getD_some]
      have := hE.gr k h' hγk
      rw [e] at this
      cases this
      rw [show ρ k = gs[k] from hold k _ hid]
      exact hβ2 _ _ e1
    · rw [show ρ k = σ.n + (k - gs.length) from hfresh k h hk]
      have hc : σ.n ≤ σ.n + (k - gs.length) ∧ σ.n + (k - gs.length) < σ.n + (G'.length - G.length) := by omega
      simp only [β2, if_pos hc]
      rw [show σ.n + (k - gs.length) - σ.n + gs.length = k by omega]
      exact e
  have hFF : ∀ b, F b → F2 b := fun b hb => ⟨hE.sub b (.inl hb), fun h => (hbor b h).2 hb⟩
  have hgran : ∀ (b : Nat), (∃ h ∈ γc, h.blk = some b) → ∃ id h, id ∈ gs ∧ β id = some h ∧ h.blk = some b ∧ ∃ k, σ2.H id = some k := fun b ⟨h, hm, hb⟩ => by
    obtain ⟨k, hk⟩ := List.getElem?_of_mem hm
    obtain ⟨id, f1, f2⟩ := hγ k h hk
    obtain ⟨_, _, _, f3, _⟩ := hgr k id f1
    exact ⟨id, h, List.mem_of_getElem? f1, f2, hb, _, f3⟩
  have hsame : ∀ b, b < w.heap.size → ¬ (∃ h ∈ γc, h.blk = some b) → w'.heap[b]? = w.heap[b]? := fun b h1 h2 => hE.block b h1 (fun h hm e => h2 ⟨h, hm, e⟩)
  have hFs : ∀ b, F b → w'.heap[b]? = w.heap[b]? := fun b hb => hsame b (hR.news b hb).1 (fun h => by
    obtain ⟨id, g, _, e1, e2, k, e3⟩ := hgran b h
    obtain ⟨g', q1, _, q3⟩ := hR.live id k e3
    rw [e1] at q1
    cases q1
    exact (q3 b e2).2.1 hb)
  have hconv : ∀ h b, b ∈ G' → BlkR w' F' β' h b → BlkR w' F2 β2 h (b.ren ρ) := fun h b hb hk => by
    rcases hflat with h0 | ⟨_, h0⟩
    · refine ((hk.ren hβρ).mono (fun i hi => ⟨hi, fun ⟨id, hid, _⟩ => by rw [h0] at hid; simp at hid⟩) (fun _ _ => rfl) (fun _ _ => rfl) (fun _ _ e => e))
    · exact (hk.re (h0 b hb)).ren hβρ
  have hkeys : ∀ j b, G'[j]? = some b → wrH σ2.H (wrs ρ 0 G') (ρ j) = liveB (b.ren ρ) := fun j b hj => by
    refine wrH_get _ _ _ _ (fun i1 i2 p q h1 h2 e => ?_) (by have := wrs_at (ρ := ρ) (k := 0) hj; rwa [Nat.zero_add] at this)
    obtain ⟨r1, r2⟩ := wrs_idx h1
    obtain ⟨r3, r4⟩ := wrs_idx h2
    rw [r1, r3, Nat.zero_add, Nat.zero_add] at e
    exact hρinj _ _ r2 r4 e
  have hother : ∀ id, ¬ (∃ j, j < G'.length ∧ id = ρ j) → wrH σ2.H (wrs ρ 0 G') id = σ2.H id := fun id hn => wrH_one _ _ _ (fun hm => by
    obtain ⟨q, hq, e⟩ := List.mem_map.1 hm
    obtain ⟨j, b, h1, h2⟩ := wrs_mem hq
    refine hn ⟨j, (List.getElem?_eq_some_iff.1 h1).1, ?_⟩
    rw [← e, h2, Nat.zero_add])
  have hnk : ∀ id k, σ2.H id = some k → ¬ (∃ j, j < G'.length ∧ id = ρ j) → ∀ h i, β id = some h → h.blk = some i → i < w.heap.size ∧ ¬ (∃ h ∈ γc, h.blk = some i) := fun id k hk hn h i e1 e2 => by
    obtain ⟨h', q1, _, q3⟩ := hR.live id k hk
    rw [e1] at q1
    cases q1
    refine ⟨(q3 i e2).1, fun hg => ?_⟩
    obtain ⟨id', g', r1, r2, r3, k', r4⟩ := hgran i hg
    have := hR.inj id id' k k' h g' i hk r4 e1 r2 e2 r3
    subst this
    obtain ⟨j, hj⟩ := List.getElem?_of_mem r1
    have hjl := (List.getElem?_eq_some_iff.1 hj).1
    exact hn ⟨j, by omega, (hold j _ hj).symm⟩
  have hkey : ∀ j b, G'[j]? = some b → liveB b = some b → ∃ h, β' j = some h ∧ β2 (ρ j) = some h ∧ BlkR w' F' β' h b ∧ ∀ i, h.blk = some i → i < w'.heap.size ∧ ¬ F' i ∧ C.Mine i ∧ ((∃ h ∈ γc, h.blk = some i) ∨ w.heap.size ≤ i) := fun j b hj hlv => by
    obtain ⟨h, e1, e2, e3⟩ := hE.live j b (entry_at hj hlv)
    refine ⟨h, e1, hβρ j h e1, e2, fun i hi => ?_⟩
    obtain ⟨f1, f2, f3⟩ := e3 i hi
    rcases f3 with f3 | f3
    · obtain ⟨id', g', r1, r2, r3, k', r4⟩ := hgran i f3
      obtain ⟨g'', q1, _, q3⟩ := hR.live id' k' r4
      rw [r2] at q1
      cases q1
      exact ⟨f1, f2, (q3 i r3).2.2, .inl f3⟩
    · exact ⟨f1, f2, .inr (Nat.le_trans hR.grow f3), .inr f3⟩
  have hwl : w.heap.size ≤ w'.heap.size := hE.grow
  have hres : RV w' F2 β2 (res.ren ρ) v := by
    have h0 : RV w' F' β' res v := hE.env 0
    rcases hflat with hf | ⟨hf, _⟩
    · exact (h0.ren hβρ).mono (fun i hi => ⟨hi, fun ⟨id, hid, _⟩ => by rw [hf] at hid; simp at hid⟩) (fun _ _ => rfl) (fun _ _ e => e)
    · exact (h0.re hf).ren hβρ
  have hmain : RelB C (fun id => I id ∨ (σ.n ≤ id ∧ id < σ.n + (G'.length - G.length) + 1)) { σ2 with H := wrH σ2.H (wrs ρ 0 G') } a w' β2 F2 := by
    refine ⟨fun t => (hR.env t).mono hFF hFs hβ2, hR.size, hR.defers, fun id k hk => ?_, fun id1 id2 k1 k2 h1 h2 i e1 e2 e3 e4 e5 e6 => ?_, fun id h e => ?_, fun i h e => hβ2 _ _ (hR.gr i h e), fun b hb => hFF b (hR.sub b hb), fun b hb => ?_, hE.os.trans hR.os, hE.tape.trans hR.tape, hE.output.trans hR.output, Nat.le_trans hR.grow hwl, fun b hb hn => ?_, fun g => (hR.glo g).mono hFF hFs (fun _ _ e => e)⟩
    · by_cases hj : ∃ j, j < G'.length ∧ id = ρ j
      · obtain ⟨j, hj, rfl⟩ := hj
        have hb := List.getElem?_eq_getElem hj
        have := hkeys j _ hb
        simp only at hk
        rw [this] at hk
        obtain ⟨hlv, rfl⟩ := liveB_ren hk
        obtain ⟨h, e1, e2, e3, e4⟩ := hkey j _ hb hlv
        exact ⟨h, e2, hconv h _ (List.getElem_mem _) e3, fun i hi => ⟨(e4 i hi).1, fun hF => (e4 i hi).2.1 hF.1, (e4 i hi).2.2.1⟩⟩
      · simp only at hk
        rw [hother id hj] at hk
        obtain ⟨h, e1, e2, e3⟩ := hR.live id k hk
        refine ⟨h, hβ2 _ _ e1, e2.mono hFF hFs (fun i hi => ?_) hβ2, fun i hi => ⟨Nat.lt_of_lt_of_le (e3 i hi).1 hwl, fun hF => ?_, (e3 i hi).2.2⟩⟩
        · obtain ⟨q1, q2⟩ := hnk id k hk hj h i e1 hi
          exact hsame i q1 q2
        · rcases (hE.news i hF.1).2 with (hq | hq) | hq | hq
          · exact (e3 i hi).2.1 hq
          · exact hF.2 hq
          · exact (hnk id k hk hj h i e1 hi).2 hq
          · have hq' : w.heap.size ≤ i := hq
            have := (e3 i hi).1
            omega
    · simp only at e1 e2
      have hlv : ∀ j k, j < G'.length → wrH σ2.H (wrs ρ 0 G') (ρ j) = some k → ∃ b, G'[j]? = some b ∧ liveB b = some b := fun j k hj e => by
        have hb := List.getElem?_eq_getElem hj
        rw [hkeys j _ hb] at e
        exact ⟨_, hb, (liveB_ren e).1⟩
      by_cases hj1 : ∃ j, j < G'.length ∧ id1 = ρ j <;> by_cases hj2 : ∃ j, j < G'.length ∧ id2 = ρ j
      · obtain ⟨j1, hj1, rfl⟩ := hj1
        obtain ⟨j2, hj2, rfl⟩ := hj2
        obtain ⟨c1, p1, p2⟩ := hlv j1 _ hj1 e1
        obtain ⟨c2, p3, p4⟩ := hlv j2 _ hj2 e2
        obtain ⟨g1, f1, f2, _⟩ := hkey j1 _ p1 p2
        obtain ⟨g2, f3, f4, _⟩ := hkey j2 _ p3 p4
        rw [f2] at e3
        rw [f4] at e4
        cases e3
        cases e4
        rw [hE.inj j1 j2 _ _ _ _ i (entry_at p1 p2) (entry_at p3 p4) f1 f3 e5 e6]
      · obtain ⟨j1, hj1, rfl⟩ := hj1
        obtain ⟨c1, p1, p2⟩ := hlv j1 _ hj1 e1
        obtain ⟨g1, f1, f2, _, f4⟩ := hkey j1 _ p1 p2
        rw [f2] at e3
        cases e3
        rw [hother id2 hj2] at e2
        obtain ⟨h', q1, _⟩ := hR.live id2 k2 e2
        have := hβ2 _ _ q1
        rw [e4] at this
        cases this
        obtain ⟨r1, r2⟩ := hnk id2 k2 e2 hj2 h2 i q1 e6
        rcases (f4 i e5).2.2.2 with hq | hq
        · exact absurd hq r2
        · omega
      · obtain ⟨j2, hj2, rfl⟩ := hj2
        obtain ⟨c2, p1, p2⟩ := hlv j2 _ hj2 e2
        obtain ⟨g2, f1, f2, _, f4⟩ := hkey j2 _ p1 p2
        rw [f2] at e4
        cases e4
        rw [hother id1 hj1] at e1
        obtain ⟨h', q1, _⟩ := hR.live id1 k1 e1
        have := hβ2 _ _ q1
        rw [e3] at this
        cases this
        obtain ⟨r1, r2⟩ := hnk id1 k1 e1 hj1 h1 i q1 e5
        rcases (f4 i e6).2.2.2 with hq | hq
        · exact absurd hq r2
        · omega
      · rw [hother id1 hj1] at e1
        rw [hother id2 hj2] at e2
        obtain ⟨h', q1, _⟩ := hR.live id1 k1 e1
        obtain ⟨h'', q2, _⟩ := hR.live id2 k2 e2
        have r1 := hβ2 _ _ q1
        have r2 := hβ2 _ _ q2
        rw [e3] at r1
        rw [e4] at r2
        cases r1
        cases r2
        exact hR.inj id1 id2 k1 k2 h1 h2 i e1 e2 q1 q2 e5 e6
    · simp only [β2] at e
      split at e
      · rename_i hc
        exact .inr ⟨hc.1, by omega⟩
      · exact .inl (hR.dom id h e)
    · obtain ⟨h1, h2⟩ := hE.news b hb.1
      refine ⟨h1, ?_⟩
      rcases h2 with (h2 | h2) | h2 | h2
      · exact (hR.news b h2).2
      · exact absurd h2 hb.2
      · obtain ⟨id', g', r1, r2, r3, k', r4⟩ := hgran b h2
        obtain ⟨g'', q1, _, q3⟩ := hR.live id' k' r4
        rw [r2] at q1
        cases q1
        exact .inr (q3 b r3).2.2
      · exact .inr (.inr (Nat.le_trans hR.grow h2))
    · rw [hsame b (Nat.lt_of_lt_of_le hb hR.grow) (fun hg => by
        obtain ⟨id, g', _, r2, r3, k', r4⟩ := hgran b hg
        obtain ⟨g'', q1, _, q3⟩ := hR.live id k' r4
        rw [r2] at q1
        cases q1
        rcases (q3 b r3).2.2 with ⟨g3, hm, hq⟩ | hq
        · exact hn g3 hm hq
        · omega)]
      exact hR.block b hb hn
  exact ⟨β2, F2, (hmain.put o.dst (res.ren ρ) v hdd hres).fin rfl rfl (fun i hi => hi)⟩
end Go.Proofs.Ytkefkegknacpjaa.Ax
