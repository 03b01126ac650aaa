/- The walk of functions in which ways come together behind a block. Nothing of the dump is used here. -/
import Derived.Test.YtidhgcgbdjjdlaaAxZ
namespace Go.Proofs.Ytidhgcgbdjjdlaa.Ax
open Go.RowKit
set_option linter.unusedVariables false
set_option linter.unusedSimpArgs false

def awpJ (P : Program) (tab : Tab) (g nt : Nat) : Code → (Exit → ASt → Prop) → ASt → Prop
  | .skip, K, σ => K .normal σ
  | .region _ ops false, K, σ => awpN P tab g nt ops.toList ops.toList σ (fun σ' => K .normal σ')
  | .region _ ops true, K, σ => awpOps P tab g nt ops.toList ops.toList σ (fun es σ' => ordOK ops (es.map Eff.fp) = true ∧ K .normal σ')
  | .seq a b, K, σ => awpJ P tab g nt a (thenA (awpJ P tab g nt b K) K) σ
  | .cond c a b, K, σ => match ev σ.env c with
    | .tru => awpJ P tab g nt a K σ
    | .fls => awpJ P tab g nt b K σ
    | .bool t => (t = true → awpJ P tab g nt a K σ) ∧ (t = false → awpJ P tab g nt b K σ)
    | _ => False
  | .exit id, K, σ => K (.exit id) σ
  | .ret, K, σ => K .ret σ
  | .loop c, K, σ => SW P g nt (.loop c) K σ
  | c, K, σ => SW P g nt c K σ

theorem awpJ_ok {P : Program} {tab : Tab} (hT : TabOK P tab) (hP : P.follows .mixedOrders = true) {g nt : Nat} : ∀ (c : Code) {K : Exit → ASt → Prop} {σ : ASt}, awpJ P tab g nt c K σ → SW P g nt c K σ
  | .skip, K, σ, h => fun C a w _ _ hR => wp_skip ⟨σ, h, hR⟩
  | .region id ops false, K, σ, h => fun C a w hC hnt hR => by
    exact wp_region_list (awpN_ok (Q := fun e a' w' => ∃ σ', K e σ' ∧ Rel C (Below' σ'.n) σ' a' w') hT hC hnt h hR (fun σ' a' w' hk hr => ⟨σ', hk, hr⟩))
  | .region id ops true, K, σ, h => fun C a w hC hnt hR => by
    obtain ⟨es, σ', h1, h2, h3⟩ := awpOps_ok hT h
    exact run_draw hP h1 h2 hC hnt hR (Q := fun e a' w' => ∃ σ', K e σ' ∧ Rel C (Below' σ'.n) σ' a' w') (fun a' w' hr => ⟨σ', h3, hr⟩)
  | .seq x y, K, σ, h => fun C a w hC hnt hR => by
    refine wp_seq (wp_mono (awpJ_ok hT hP x h C a w hC hnt hR) (fun e a' w' ⟨σ', q, r⟩ => ?_))
    cases e with
    | normal => exact awpJ_ok hT hP y q C a' w' hC hnt r
    | _ => exact ⟨σ', q, r⟩
  | .cond c x y, K, σ, h => fun C a w hC hnt hR => by
    have hR' := hR
    obtain ⟨β, F, hB⟩ := hR'
    have hv := hB.ev c
    simp only [awpJ] at h
    split at h
    · rename_i e
      rw [e] at hv
      generalize hvc : a.eval c = v at hv
      cases hv
      exact wp_cond_true hvc (awpJ_ok hT hP x h C a w hC hnt hR)
    · rename_i e
      rw [e] at hv
      generalize hvc : a.eval c = v at hv
      cases hv
      exact wp_cond_false hvc (awpJ_ok hT hP y h C a w hC hnt hR)
    · rename_i t e
      rw [e] at hv
      generalize hvc : a.eval c = v at hv
      cases hv
      cases t with
      | true => exact wp_cond_true hvc (awpJ_ok hT hP x (h.1 rfl) C a w hC hnt hR)
      | false => exact wp_cond_false hvc (awpJ_ok hT hP y (h.2 rfl) C a w hC hnt hR)
    · exact h.elim
  | .block id c, K, σ, h => h
  | .exit id, K, σ, h => fun C a w _ _ hR => wp_exit ⟨σ, h, hR⟩
  | .ret, K, σ, h => fun C a w _ _ hR => wp_ret ⟨σ, h, hR⟩
  | .loop c, K, σ, h => h
  | .rangeFunc .., K, σ, h => h
  | .scope c, K, σ, h => h
  | .label l, K, σ, h => h
  | .goto l, K, σ, h => h
  | .refuse s, K, σ, h => h


/-- a block, walked through -/
theorem sw_blk {P : Program} {tab : Tab} (hT : TabOK P tab) (hP : P.follows .mixedOrders = true) {g nt id : Nat} {c : Code} {K : Exit → ASt → Prop} {σ : ASt} (h : awpJ P tab g nt c (blockA id K) σ) : SW P g nt (.block id c) K σ := fun C a w hC hnt hR => by
    refine wp_block (wp_mono (awpJ_ok hT hP c h C a w hC hnt hR) (fun e a' w' ⟨σ', q, r⟩ => ?_))
    cases e with
    | exit id' =>
      simp only [Exit.inBlock]
      simp only [blockA] at q
      split
      · rename_i he
        subst he
        rw [show Nat.beq id' id' = true from by simp] at q
        exact ⟨σ', q, r⟩
      · rename_i he
        split at q
        · rename_i e2; exact absurd (Nat.eq_of_beq_eq_true e2) he
        · exact ⟨σ', q, r⟩
    | _ => exact ⟨σ', q, r⟩

/-- all ways through a block end in one state -/
def joinA (id : Nat) (J : ASt → Prop) (K : Exit → ASt → Prop) (e : Exit) (σ : ASt) : Prop := match e with
  | .normal => J σ
  | .exit id' => match Nat.beq id' id with
    | true => J σ
    | false => K (.exit id') σ
  | e => K e σ

theorem sw_blkj {P : Program} {tab : Tab} (hT : TabOK P tab) (hP : P.follows .mixedOrders = true) {g nt id : Nat} {c : Code} {K : Exit → ASt → Prop} {σ : ASt} {α : Type} (S : α → ASt) (D : α → Prop)
    (h : awpJ P tab g nt c (joinA id (fun σ' => ∃ x gs zs bs, D x ∧ Wk g σ' (S x) gs zs bs) K) σ) (h2 : ∀ x, D x → K .normal (S x)) : SW P g nt (.block id c) K σ := fun C a w hC hnt hR => by
  refine wp_block (wp_mono (awpJ_ok hT hP c h C a w hC hnt hR) (fun e a' w' ⟨σ', q, r⟩ => ?_))
  cases e with
  | normal =>
    obtain ⟨x, gs, zs, bs, hd, hw⟩ := q
    exact ⟨S x, h2 x hd, hw.rel hC r⟩
  | exit id' =>
    simp only [Exit.inBlock]
    simp only [joinA] at q
    split
    · rename_i he
      subst he
      rw [show Nat.beq id' id' = true from by simp] at q
      obtain ⟨x, gs, zs, bs, hd, hw⟩ := q
      exact ⟨S x, h2 x hd, hw.rel hC r⟩
    · rename_i he
      split at q
      · rename_i e2; exact absurd (Nat.eq_of_beq_eq_true e2) he
      · exact ⟨σ', q, r⟩
  | _ => exact ⟨σ', q, r⟩

/-- a loop: Inv x is what is known at its head, x gets less with every round -/
theorem sw_loopJ {P : Program} {tab : Tab} (hT : TabOK P tab) (hP : P.follows .mixedOrders = true) {g nt : Nat} {α : Type} {c : Code} {K : Exit → ASt → Prop} {σ : ASt} (I : α → Prop) (S : α → ASt) (μ : α → Nat) (x0 : α) (h0 : I x0) {gs zs bs : List Nat} (hw : Wk g σ (S x0) gs zs bs)
    (round : ∀ x, I x → awpJ P tab g nt c (thenA (fun σ' => ∃ y gs zs bs, I y ∧ μ y < μ x ∧ Wk g σ' (S y) gs zs bs) K) (S x)) : SW P g nt (.loop c) K σ := by
  intro C a w hC hnt hR b k cs
  have key : ∀ (n : Nat) (x : α) (a : Act) (w : World), μ x = n → I x → Rel C (Below' (S x).n) (S x) a w →
      ∃ e a' w', (∃ σ', K e σ' ∧ Rel C (Below' σ'.n) σ' a' w') ∧ Arrives P (lone (b.at a (.code c :: .inLoop c :: k)) cs w) b k cs e a' w' := by
    intro n
    induction n using Nat.strongRecOn with
    | _ n ih =>
      intro x a w hn hI hr
      obtain ⟨e, a₁, w₁, ⟨σ', hq, hr'⟩, harr⟩ := awpJ_ok hT hP c (round x hI) C a w hC hnt hr b (.inLoop c :: k) cs
      cases e with
      | normal =>
        obtain ⟨y, gs, zs, bs, hIy, hlt, hw'⟩ := hq
        obtain ⟨e₂, a₂, w₂, hq₂, harr₂⟩ := ih (μ y) (hn ▸ hlt) y a₁ w₁ rfl hIy (hw'.rel hC hr')
        exact ⟨e₂, a₂, w₂, hq₂, .of_steps (Steps.trans harr (.one step_inLoop)) harr₂⟩
      | exit id => exact ⟨_, a₁, w₁, ⟨σ', hq, hr'⟩, .pass (x := .inLoop c) rfl (fun _ _ => .inl (by simp)) harr⟩
      | goto l => exact ⟨_, a₁, w₁, ⟨σ', hq, hr'⟩, .pass (x := .inLoop c) rfl (fun _ _ => .inl (by simp)) harr⟩
      | ret => exact ⟨_, a₁, w₁, ⟨σ', hq, hr'⟩, .pass (x := .inLoop c) rfl (fun _ _ => .inl (by simp)) harr⟩
      | panic ch => exact ⟨_, a₁, w₁, ⟨σ', hq, hr'⟩, .pass (x := .inLoop c) rfl (fun _ _ => .inl (by simp)) harr⟩
      | outgrown => exact ⟨_, a₁, w₁, ⟨σ', hq, hr'⟩, .pass (x := .inLoop c) rfl (fun _ _ => .inl (by simp)) harr⟩
  obtain ⟨e, a', w', hq, harr⟩ := key _ x0 a w rfl h0 (hw.rel hC hR)
  exact ⟨e, a', w', hq, .of_steps (.one step_loop) harr⟩

theorem ac_ofJ {P : Program} {tab : Tab} (hT : TabOK P tab) (hP : P.follows .mixedOrders = true) {f : FuncId} {fn : Func} {c : Code} {args : List AV} {G G' : List ABlk} {res : AV} (hf : P.funcs[f]? = some fn) (hb : fn.body = some c) {nt : Nat} (hn : fn.ntmps = nt) (hle : Nat.ble args.length nt = true)
    (h : awpJ P tab G.length nt c (retA tab G.length fn.results.toList res G') (entry args G)) : AC P f args G res G' := by
  intro C w vals hC hw0 hnt hlen hR
  have hle' := Nat.le_of_ble_eq_true hle
  refine calls_of_wp hf hb (Code.wp_mono (fun e a' w' hq => ?_) (awpJ_ok hT hP c h { C with nt := nt } { tmps := vals ++ Array.replicate (fn.ntmps - vals.size) undef, defers := [] } w hC rfl ?_))
  · obtain ⟨σ', hK, hR'⟩ := hq
    have fin : resA tab σ' fn.results.toList (fun v => ∃ gs zs bs, Wk G.length ⟨oneE v, σ'.H, σ'.n⟩ (entry [res] G') gs zs bs) → a'.defers = [] ∧ ∃ v, (results fn a'.tmps).run P w' = .ok v w' ∧ ∃ v', Ending.returned v = .returned v' ∧ Rel { C with nt := 1 } (Below' G'.length) (entry [res] G') ⟨#[v'], []⟩ w' := fun hK => by
      obtain ⟨β, F, hB⟩ := hR'
      obtain ⟨v, u, ⟨gs, zs, bs, hw⟩, h2, h3⟩ := resA_ok hT hB hK
      refine ⟨hB.defers, u, h2, u, rfl, ?_⟩
      have hone : RelB { C with nt := 1 } (Below' σ'.n) ⟨oneE v, σ'.H, σ'.n⟩ ⟨#[u], []⟩ w' β F := by
        refine ⟨fun t => ?_, rfl, rfl, hB.live, hB.inj, hB.dom, hB.gr, hB.sub, hB.news, hB.os, hB.tape, hB.output, hB.grow, hB.block, hB.glo⟩
        match t with
        | 0 => exact h3
        | t + 1 => exact .any _
      exact hw.rel (C := { C with nt := 1 }) hC ⟨β, F, hone⟩
    cases e with
    | normal => exact fin hK
    | ret => exact fin hK
    | exit id => exact hK.elim
    | goto l => exact hK.elim
    | panic ch => exact hK.elim
    | outgrown => exact hK.elim
  · obtain ⟨β, F, hB⟩ := hR
    refine ⟨β, F, ⟨fun t => ?_, by simp; omega, rfl, hB.live, hB.inj, hB.dom, hB.gr, hB.sub, hB.news, hB.os, hB.tape, hB.output, hB.grow, hB.block, hB.glo⟩⟩
    have h1 := hB.env t
    by_cases ht : t < args.length
    · have : (vals ++ Array.replicate (fn.ntmps - vals.size) undef).getD t undef = vals.getD t undef := by
        simp only [Array.getD_eq_getD_getElem?]
        rw [Array.getElem?_append_left (by omega)]
      rw [this]
      exact h1
    · simp only [entry]
      rw [List.getElem?_eq_none (by omega)]
      exact .any _
end Go.Proofs.Ytidhgcgbdjjdlaa.Ax
