/- The abstract walk of code; calls entered. Nothing of the dump is used here. -/
import Derived.Test.YtkefkegknacpjaaAxX
import Derived.Lib.SliceRun
import Derived.Laws.Cover3
namespace Go.Proofs.Ytkefkegknacpjaa.Ax
open Go.RowKit
set_option linter.unusedVariables false
set_option linter.unusedSimpArgs false

/-- a slice that is only read, compared with nil: is it asked for equality, and the elements of the slice -/
def nilCmp (tab : Tab) (o : Oper) (σ : ASt) : Option (Bool × List (List AV)) := match o.guard with
  | some _ => none
  | none => match o.op with
    | .binOp op t x (.const (.slice none 0 0)) _ => match tab t with
      | some ti => match ti.d, op, ev σ.env x with
        | .slc .., .eql, .lst _ xs => some (true, xs)
        | .slc .., .neq, .lst _ xs => some (false, xs)
        | _, _, _ => none
      | none => none
    | _ => none

def nilB : Bool → Bool → Bool
  | true, b => b
  | false, b => !b

def stepN (σ : ASt) (o : Oper) (v : AV) (K : ASt → Prop) : Prop := match σ with
  | ⟨env, H, n⟩ => K ⟨putE env o.dst v, H, n⟩

/-- the operations of a region whose order is fixed -/
def awpN (P : Program) (tab : Tab) (g nt : Nat) (ops : List Oper) : List Oper → ASt → (ASt → Prop) → Prop
  | [], σ, K => K σ
  | o :: rest, σ, K => match nilCmp tab o σ with
    | some (q, xs) => match (match o.dst with | none => true | some d => Nat.blt d nt) with
      | true => ∀ b : Bool, (b = true → xs = []) → stepN σ o (.bool (nilB q b)) fun σ' => awpN P tab g nt ops rest σ' K
      | false => False
    | none => awpG P tab g nt ops o σ (fun _ σ' => awpN P tab g nt ops rest σ' K)

theorem nilCmp_ok {P : Program} {tab : Tab} (hT : TabOK P tab) {o : Oper} {σ : ASt} {q : Bool} {xs : List (List AV)} (h : nilCmp tab o σ = some (q, xs)) {C : Ctx} {I : Nat → Prop} {a : Act} {w : World} {β : Nat → Option Hdr} {F : Nat → Prop} (hR : RelB C I σ a w β F) :
    ∃ b : Bool, (b = true → xs = []) ∧ o.guard = none ∧ (execOp a.eval o).run P w = .ok (.value (.bool (nilB q b))) w := by
  unfold nilCmp at h
  split at h
  · cases h
  · rename_i hg
    split at h
    · rename_i op t x _ ho
      split at h
      · rename_i ti ht
        obtain ⟨ii, dd, z, g1, g2, _, _, _, _, g3⟩ := ty_parts (hT t ti ht)
        have fin : ∀ (e : TypeId) (sz eb : Nat) (ez : List AV) (q' : Bool) (sz' : Nat) (ys : List (List AV)), ti.d = .slc e sz eb ez → (op = .eql ∧ q' = true ∨ op = .neq ∧ q' = false) → ev σ.env x = .lst sz' ys → ∃ b : Bool, (b = true → ys = []) ∧ o.guard = none ∧ (execOp a.eval o).run P w = .ok (.value (.bool (nilB q' b))) w := by
          intro e sz eb ez q' sz' ys hd hop hx
          rw [hd] at g3
          obtain ⟨i, zv, rfl, _⟩ := td_slc g3.symm
          have hv := hR.ev x
          rw [hx] at hv
          generalize hvx : a.eval x = vx at hv
          cases hv with
          | lst _ _ ad cap vs k1 k2 k3 k4 k5 k6 k7 =>
            refine ⟨ad.isNone, fun e => List.eq_nil_of_length_eq_zero (by
              have : ad = none := by cases ad with | none => rfl | some _ => cases e
              have := k3 this
              omega), hg, ?_⟩
            have hc : a.eval (.const (.slice none 0 0)) = .slice none 0 0 := rfl
            rcases hop with ⟨rfl, rfl⟩ | ⟨rfl, rfl⟩
            · have hgu : (eqGuard .eql t x (.const (.slice none 0 0)) (.slice ad ys.length cap) (.slice none 0 0)).run P w = .ok () w := rfl
              simp only [execOp, ho, hvx, hc, Sem.run_bind, hgu, Result.andThen_ok, Lib.run_eql_slice_nil w t e ad ys.length cap 0 0 g2, Sem.run_pure, nilB]
            · have hgu : (eqGuard .neq t x (.const (.slice none 0 0)) (.slice ad ys.length cap) (.slice none 0 0)).run P w = .ok () w := rfl
              simp only [execOp, ho, hvx, hc, Sem.run_bind, hgu, Result.andThen_ok, run_neq_slice_nil w t e ad ys.length cap g2, Sem.run_pure, nilB]
        split at h
        · rename_i hd hx; cases h; exact fin _ _ _ _ _ _ _ hd (.inl ⟨rfl, rfl⟩) hx
        · rename_i hd hx; cases h; exact fin _ _ _ _ _ _ _ hd (.inr ⟨rfl, rfl⟩) hx
        · cases h
      · cases h
    · cases h

theorem awpN_ok {P : Program} {tab : Tab} (hT : TabOK P tab) {g nt : Nat} {ops : Array Oper} {Q : Exit → Act → World → Prop} {C : Ctx} (hC : C.γ.length = g) (hnt : C.nt = nt) : ∀ {l : List Oper} {σ : ASt} {K : ASt → Prop}, awpN P tab g nt ops.toList l σ K → ∀ {a : Act} {w : World}, Rel C (Below' σ.n) σ a w →
    (∀ σ' a' w', K σ' → Rel C (Below' σ'.n) σ' a' w' → Q .normal a' w') → wpList P ops Q l a w
  | [], σ, K, h, a, w, hR, hK => hK _ _ _ h hR
  | o :: rest, σ, K, h, a, w, hR, hK => by
    simp only [awpN] at h
    split at h
    · rename_i q xs hq
      split at h
      · rename_i hd
        obtain ⟨β, F, hB⟩ := hR
        obtain ⟨b, h1, h2, h3⟩ := nilCmp_ok hT hq hB
        refine wpList_plain h2 fun K' hK' => upon_value h3 (hK' _ _ (awpN_ok hT hC hnt (h b h1) ⟨β, F, ?_⟩ hK))
        exact (hB.put o.dst (.bool (nilB q b)) _ (fun d e => by rw [e] at hd; rw [hnt]; exact Nat.blt_eq.mp hd) (.bool _)).fin rfl rfl (fun i hi => hi)
      · exact h.elim
    · obtain ⟨σr, e, h1, h2, h3, h4⟩ := awpG_ok hT h
      have hmono := h2.mono
      refine wpList_step fun K' hKK => ?_
      refine h2.run hC (fun t _ => .refl _) (fun id _ => rfl) (fun id q1 q2 q3 => ?_) (fun d e => hnt ▸ h3 d e) (hR.ref h1) (fun a' w' hR2 => hKK _ _ (awpN_ok hT hC hnt h4 ?_ hK))
      · have : id < σ.n := q3
        rw [← h1.2.2] at this
        omega
      · obtain ⟨β, F, hB⟩ := hR2
        refine ⟨β, F, hB.fin rfl rfl (fun i hi => ?_)⟩
        show i < e.n
        rcases hi with hi | hi
        · have : i < σ.n := hi
          rw [← h1.2.2] at this
          omega
        · exact hi.2

/-- from what is known, the code comes to an end of which K holds -/
def SW (P : Program) (g nt : Nat) (c : Code) (K : Exit → ASt → Prop) (σ : ASt) : Prop :=
  ∀ (C : Ctx) (a : Act) (w : World), C.γ.length = g → C.nt = nt → Rel C (Below' σ.n) σ a w → c.wp P (fun e a' w' => ∃ σ', K e σ' ∧ Rel C (Below' σ'.n) σ' a' w') a w

def thenA (k : ASt → Prop) (K : Exit → ASt → Prop) (e : Exit) (σ : ASt) : Prop := match e with
  | .normal => k σ
  | e => K e σ

def blockA (id : Nat) (K : Exit → ASt → Prop) (e : Exit) (σ : ASt) : Prop := match e with
  | .exit id' => match Nat.beq id' id with
    | true => K .normal σ
    | false => K (.exit id') σ
  | e => K e σ

def awp (P : Program) (tab : Tab) (g nt : Nat) : Code → (Exit → ASt → Prop) → ASt → Prop
  | .skip, K, σ => K .normal σ
  | .region _ ops false, K, σ => awpN P tab g nt ops.toList ops.toList σ (fun σ' => K .normal σ')
  | .region _ ops true, K, σ => awpOps P tab g nt ops.toList ops.toList σ (fun es σ' => ordOK ops (es.map Eff.fp) = true ∧ K .normal σ')
  | .seq a b, K, σ => awp P tab g nt a (thenA (awp P tab g nt b K) K) σ
  | .cond c a b, K, σ => match ev σ.env c with
    | .tru => awp P tab g nt a K σ
    | .fls => awp P tab g nt b K σ
    | .bool t => (t = true → awp P tab g nt a K σ) ∧ (t = false → awp P tab g nt b K σ)
    | _ => False
  | .block id c, K, σ => awp P tab g nt c (blockA id K) σ
  | .exit id, K, σ => K (.exit id) σ
  | .ret, K, σ => K .ret σ
  | .loop c, K, σ => SW P g nt (.loop c) K σ
  | c, K, σ => SW P g nt c K σ

theorem SW.mono {P : Program} {g nt : Nat} {c : Code} {K K' : Exit → ASt → Prop} {σ : ASt} (h : SW P g nt c K σ) (hk : ∀ e σ, K e σ → K' e σ) : SW P g nt c K' σ :=
  fun C a w h1 h2 h3 => wp_mono (h C a w h1 h2 h3) (fun e a' w' ⟨σ', q, r⟩ => ⟨σ', hk e σ' q, r⟩)

theorem SW.weak {P : Program} {g nt : Nat} {c : Code} {K : Exit → ASt → Prop} {σ σ' : ASt} {gs zs bs : List Nat} (hw : Wk g σ σ' gs zs bs) (h : SW P g nt c K σ') : SW P g nt c K σ :=
  fun C a w h1 h2 h3 => h C a w h1 h2 (hw.rel h1 h3)

theorem awp_ok {P : Program} {tab : Tab} (hT : TabOK P tab) (hP : P.follows .mixedOrders = true) {g nt : Nat} : ∀ (c : Code) {K : Exit → ASt → Prop} {σ : ASt}, awp P tab g nt c K σ → SW P g nt c K σ
  | .skip, K, σ, h => fun C a w _ _ hR => wp_skip ⟨σ, h, hR⟩
  | .region id ops false, K, σ, h => fun C a w hC hnt hR => by
    exact wp_region_list (awpN_ok (Q := fun e a' w' => ∃ σ', K e σ' ∧ Rel C (Below' σ'.n) σ' a' w') hT hC hnt h hR (fun σ' a' w' hk hr => ⟨σ', hk, hr⟩))
  | .region id ops true, K, σ, h => fun C a w hC hnt hR => by
    obtain ⟨es, σ', h1, h2, h3⟩ := awpOps_ok hT h
    exact run_draw hP h1 h2 hC hnt hR (Q := fun e a' w' => ∃ σ', K e σ' ∧ Rel C (Below' σ'.n) σ' a' w') (fun a' w' hr => ⟨σ', h3, hr⟩)
  | .seq x y, K, σ, h => fun C a w hC hnt hR => by
    refine wp_seq (wp_mono (awp_ok hT hP x h C a w hC hnt hR) (fun e a' w' ⟨σ', q, r⟩ => ?_))
    cases e with
    | normal => exact awp_ok hT hP y q C a' w' hC hnt r
    | _ => exact ⟨σ', q, r⟩
  | .cond c x y, K, σ, h => fun C a w hC hnt hR => by
    have hR' := hR
    obtain ⟨β, F, hB⟩ := hR'
    have hv := hB.ev c
    simp only [awp] at h
    split at h
    · rename_i e
      rw [e] at hv
      generalize hvc : a.eval c = v at hv
      cases hv
      exact wp_cond_true hvc (awp_ok hT hP x h C a w hC hnt hR)
    · rename_i e
      rw [e] at hv
      generalize hvc : a.eval c = v at hv
      cases hv
      exact wp_cond_false hvc (awp_ok hT hP y h C a w hC hnt hR)
    · rename_i t e
      rw [e] at hv
      generalize hvc : a.eval c = v at hv
      cases hv
      cases t with
      | true => exact wp_cond_true hvc (awp_ok hT hP x (h.1 rfl) C a w hC hnt hR)
      | false => exact wp_cond_false hvc (awp_ok hT hP y (h.2 rfl) C a w hC hnt hR)
    · exact h.elim
  | .block id c, K, σ, h => fun C a w hC hnt hR => by
    refine wp_block (wp_mono (awp_ok hT hP c h C a w hC hnt hR) (fun e a' w' ⟨σ', q, r⟩ => ?_))
    cases e with
    | exit id' =>
      simp only [Exit.inBlock]
      simp only [blockA] at q
      split
      · rename_i he
        subst he
        rw [show Nat.beq id' id' = true from by simp] at q
        exact ⟨σ', q, r⟩
      · rename_i he
        split at q
        · rename_i e2; exact absurd (Nat.eq_of_beq_eq_true e2) he
        · exact ⟨σ', q, r⟩
    | _ => exact ⟨σ', q, r⟩
  | .exit id, K, σ, h => fun C a w _ _ hR => wp_exit ⟨σ, h, hR⟩
  | .ret, K, σ, h => fun C a w _ _ hR => wp_ret ⟨σ, h, hR⟩
  | .loop c, K, σ, h => h
  | .rangeFunc .., K, σ, h => h
  | .scope c, K, σ, h => h
  | .label l, K, σ, h => h
  | .goto l, K, σ, h => h
  | .refuse s, K, σ, h => h

/-- where the code is left by an exit, what is known may be told anew -/
def outA (g : Nat) (K : Exit → ASt → Prop) (e : Exit) (σ : ASt) : Prop := match e with
  | .exit id => ∃ (σ' : ASt) (gs zs bs : List Nat), Wk g σ σ' gs zs bs ∧ K (.exit id) σ'
  | e => K e σ

theorem sw_out {P : Program} {g nt : Nat} {c : Code} {K : Exit → ASt → Prop} {σ : ASt} (h : SW P g nt c (outA g K) σ) : SW P g nt c K σ := by
  intro C a w h1 h2 h3
  refine wp_mono (h C a w h1 h2 h3) (fun e a' w' ⟨σ', q, r⟩ => ?_)
  cases e with
  | exit id =>
    obtain ⟨σ3, gs, zs, bs, hw, hk⟩ := q
    exact ⟨σ3, hk, hw.rel h1 r⟩
  | _ => exact ⟨σ', q, r⟩

/-- a loop: Inv x is what is known at its head, x gets less with every round -/
theorem sw_loop {P : Program} {tab : Tab} (hT : TabOK P tab) (hP : P.follows .mixedOrders = true) {g nt : Nat} {α : Type} {c : Code} {K : Exit → ASt → Prop} {σ : ASt} (I : α → Prop) (S : α → ASt) (μ : α → Nat) (x0 : α) (h0 : I x0) {gs zs bs : List Nat} (hw : Wk g σ (S x0) gs zs bs)
    (round : ∀ x, I x → awp P tab g nt c (thenA (fun σ' => ∃ y gs zs bs, I y ∧ μ y < μ x ∧ Wk g σ' (S y) gs zs bs) K) (S x)) : SW P g nt (.loop c) K σ := by
  intro C a w hC hnt hR b k cs
  have key : ∀ (n : Nat) (x : α) (a : Act) (w : World), μ x = n → I x → Rel C (Below' (S x).n) (S x) a w →
      ∃ e a' w', (∃ σ', K e σ' ∧ Rel C (Below' σ'.n) σ' a' w') ∧ Arrives P (lone (b.at a (.code c :: .inLoop c :: k)) cs w) b k cs e a' w' := by
    intro n
    induction n using Nat.strongRecOn with
    | _ n ih =>
      intro x a w hn hI hr
      obtain ⟨e, a₁, w₁, ⟨σ', hq, hr'⟩, harr⟩ := awp_ok hT hP c (round x hI) C a w hC hnt hr b (.inLoop c :: k) cs
      cases e with
      | normal =>
        obtain ⟨y, gs, zs, bs, hIy, hlt, hw'⟩ := hq
        obtain ⟨e₂, a₂, w₂, hq₂, harr₂⟩ := ih (μ y) (hn ▸ hlt) y a₁ w₁ rfl hIy (hw'.rel hC hr')
        exact ⟨e₂, a₂, w₂, hq₂, .of_steps (Steps.trans harr (.one step_inLoop)) harr₂⟩
      | exit id => exact ⟨_, a₁, w₁, ⟨σ', hq, hr'⟩, .pass (x := .inLoop c) rfl (fun _ _ => .inl (by simp)) harr⟩
      | goto l => exact ⟨_, a₁, w₁, ⟨σ', hq, hr'⟩, .pass (x := .inLoop c) rfl (fun _ _ => .inl (by simp)) harr⟩
      | ret => exact ⟨_, a₁, w₁, ⟨σ', hq, hr'⟩, .pass (x := .inLoop c) rfl (fun _ _ => .inl (by simp)) harr⟩
      | panic ch => exact ⟨_, a₁, w₁, ⟨σ', hq, hr'⟩, .pass (x := .inLoop c) rfl (fun _ _ => .inl (by simp)) harr⟩
      | outgrown => exact ⟨_, a₁, w₁, ⟨σ', hq, hr'⟩, .pass (x := .inLoop c) rfl (fun _ _ => .inl (by simp)) harr⟩
  obtain ⟨e, a', w', hq, harr⟩ := key _ x0 a w rfl h0 (hw.rel hC hR)
  exact ⟨e, a', w', hq, .of_steps (.one step_loop) harr⟩

/-- what a function gives back, of one result variable -/
def resV (tab : Tab) (σ : ASt) (r : ResultVar) (K : AV → Prop) : Prop := match r with
  | .tmp t => K (σ.env t)
  | .cell a ty => match tab ty with
    | some ti => match σ.env a with
      | .ptr id j => match σ.H id with
        | some (.box c) => partA c j ti.size ti.agg K
        | _ => False
      | _ => False
    | none => False

def resVs (tab : Tab) (σ : ASt) : List ResultVar → (List AV → Prop) → Prop
  | [], K => K []
  | r :: l, K => resV tab σ r (fun v => resVs tab σ l (fun vs => K (v :: vs)))

def resA (tab : Tab) (σ : ASt) (rs : List ResultVar) (K : AV → Prop) : Prop := resVs tab σ rs (fun vs => match vs with
  | [v] => K v
  | vs => K (.tup vs))

def resOf (tmps : Array Value) (r : ResultVar) : Sem Value := match r with
  | .tmp t => pure (tmps.getD t undef)
  | .cell p t => do loadVar t (← asAddr (tmps.getD p undef))

theorem resV_ok {P : Program} {tab : Tab} (hT : TabOK P tab) {C : Ctx} {I : Nat → Prop} {σ : ASt} {a : Act} {w : World} {β : Nat → Option Hdr} {F : Nat → Prop} (hR : RelB C I σ a w β F) {r : ResultVar} {K : AV → Prop} (h : resV tab σ r K) :
    ∃ v u, K v ∧ (resOf a.tmps r).run P w = .ok u w ∧ RV w F β v u := by
  unfold resV at h
  split at h
  · exact ⟨_, _, h, rfl, hR.env _⟩
  · rename_i p ty
    split at h
    · rename_i ti ht
      split at h
      · rename_i id j e
        split at h
        · rename_i c hH
          obtain ⟨v, hv, hp⟩ := partA_ok h
          obtain ⟨g, e1, hb, _⟩ := hR.live id _ hH
          have hpv := hR.env p
          rw [e] at hpv
          obtain ⟨b, _, hpe, hpt⟩ := box_points hpv e1 hb
          obtain ⟨u, h1, h2⟩ := load_run hT ht hpt hp b 0 rfl
          rw [Nat.zero_add] at h1
          refine ⟨v, u, hv, ?_, h2⟩
          simp only [resOf, hpe, asAddr, Sem.run_bind, Sem.run_pure, Result.andThen_ok, h1]
        · exact h.elim
      · exact h.elim
    · exact h.elim

theorem resVs_ok {P : Program} {tab : Tab} (hT : TabOK P tab) {C : Ctx} {I : Nat → Prop} {σ : ASt} {a : Act} {w : World} {β : Nat → Option Hdr} {F : Nat → Prop} (hR : RelB C I σ a w β F) : ∀ {l : List ResultVar} {K : List AV → Prop}, resVs tab σ l K →
    ∃ vs us, K vs ∧ (l.mapM (resOf a.tmps)).run P w = .ok us w ∧ RVs w F β vs us.toArray
  | [], K, h => ⟨[], [], h, by simp, rfl, fun j u v hu => by simp at hu⟩
  | r :: l, K, h => by
    obtain ⟨v, u, h1, h2, h3⟩ := resV_ok hT hR h
    obtain ⟨vs, us, h4, h5, h6⟩ := resVs_ok hT hR h1
    refine ⟨v :: vs, u :: us, h4, ?_, by simpa using h6.1, fun j x y hx hy => ?_⟩
    · rw [List.mapM_cons]
      simp only [Sem.run_bind, h2, Result.andThen_ok, h5, Sem.run_pure]
    · cases j with
      | zero => simp at hx hy; subst hx; subst hy; exact h3
      | succ j => exact h6.2 j x y (by simpa using hx) (by simpa using hy)

theorem resA_ok {P : Program} {tab : Tab} (hT : TabOK P tab) {C : Ctx} {I : Nat → Prop} {σ : ASt} {a : Act} {w : World} {β : Nat → Option Hdr} {F : Nat → Prop} (hR : RelB C I σ a w β F) {fn : Func} {K : AV → Prop} (h : resA tab σ fn.results.toList K) : ∃ v u, K v ∧ (results fn a.tmps).run P w = .ok u w ∧ RV w F β v u := by
  obtain ⟨vs, us, h1, h2, h3⟩ := resVs_ok hT hR h
  have hrun : (results fn a.tmps).run P w = .ok (if h : us.toArray.size = 1 then us.toArray[0] else .tuple us.toArray) w := by
    have hun : results fn a.tmps = (do let vs ← fn.results.mapM (resOf a.tmps); pure (if h : vs.size = 1 then vs[0] else .tuple vs)) := rfl
    rw [hun, Array.mapM_eq_mapM_toList]
    simp only [Sem.run_bind, Sem.run_map]
    rw [h2]
    simp
  match vs, us, h1, h3, hrun with
  | [v], [u], h1, h3, hrun => exact ⟨v, u, h1, by simpa using hrun, h3.2 0 v u rfl rfl⟩
  | [], [], h1, h3, hrun => exact ⟨.tup [], .tuple #[], h1, by simpa using hrun, .tup _ _ h3.1 h3.2⟩
  | v :: v2 :: vs, u :: u2 :: us, h1, h3, hrun => exact ⟨.tup (v :: v2 :: vs), .tuple (u :: u2 :: us).toArray, h1, by simpa using hrun, .tup _ _ h3.1 h3.2⟩
  | [], u :: us, h1, h3, hrun => exact absurd h3.1 (by simp)
  | [v], [], h1, h3, hrun => exact absurd h3.1 (by simp)
  | [v], u :: u2 :: us, h1, h3, hrun => exact absurd h3.1 (by simp)
  | v :: v2 :: vs, [], h1, h3, hrun => exact absurd h3.1 (by simp)
  | v :: v2 :: vs, [u], h1, h3, hrun => exact absurd h3.1 (by simp)

/-- one value, in slot 0 -/
def oneE (v : AV) : Nat → AV
  | 0 => v
  | _ => .any

/-- what is to be shown at the end of a function -/
def retA (tab : Tab) (g : Nat) (rs : List ResultVar) (res : AV) (G' : List ABlk) (e : Exit) (σ : ASt) : Prop := match e with
  | .normal | .ret => resA tab σ rs (fun v => ∃ gs zs bs, Wk g ⟨oneE v, σ.H, σ.n⟩ (entry [res] G') gs zs bs)
  | _ => False

/-- the state in which the body of a function begins -/
def start (args : List AV) (G : List ABlk) : ASt := entry args G

theorem ac_of {P : Program} {tab : Tab} (hT : TabOK P tab) (hP : P.follows .mixedOrders = true) {f : FuncId} {fn : Func} {c : Code} {args : List AV} {G G' : List ABlk} {res : AV} (hf : P.funcs[f]? = some fn) (hb : fn.body = some c) {nt : Nat} (hn : fn.ntmps = nt) (hle : Nat.ble args.length nt = true)
    (h : awp P tab G.length nt c (retA tab G.length fn.results.toList res G') (entry args G)) : AC P f args G res G' := by
  intro C w vals hC hw0 hnt hlen hR
  have hle' := Nat.le_of_ble_eq_true hle
  refine calls_of_wp hf hb (Code.wp_mono (fun e a' w' hq => ?_) (awp_ok hT hP c h { C with nt := nt } { tmps := vals ++ Array.replicate (fn.ntmps - vals.size) undef, defers := [] } w hC rfl ?_))
  · obtain ⟨σ', hK, hR'⟩ := hq
    have fin : resA tab σ' fn.results.toList (fun v => ∃ gs zs bs, Wk G.length ⟨oneE v, σ'.H, σ'.n⟩ (entry [res] G') gs zs bs) → a'.defers = [] ∧ ∃ v, (results fn a'.tmps).run P w' = .ok v w' ∧ ∃ v', Ending.returned v = .returned v' ∧ Rel { C with nt := 1 } (Below' G'.length) (entry [res] G') ⟨#[v'], []⟩ w' := fun hK => by
      obtain ⟨β, F, hB⟩ := hR'
      obtain ⟨v, u, ⟨gs, zs, bs, hw⟩, h2, h3⟩ := resA_ok hT hB hK
      refine ⟨hB.defers, u, h2, u, rfl, ?_⟩
      have hone : RelB { C with nt := 1 } (Below' σ'.n) ⟨oneE v, σ'.H, σ'.n⟩ ⟨#[u], []⟩ w' β F := by
        refine ⟨fun t => ?_, rfl, rfl, hB.live, hB.inj, hB.dom, hB.gr, hB.sub, hB.news, hB.os, hB.tape, hB.output, hB.grow, hB.block, hB.glo⟩
        match t with
        | 0 => exact h3
        | t + 1 => exact .any _
      exact hw.rel (C := { C with nt := 1 }) hC ⟨β, F, hone⟩
    cases e with
    | normal => exact fin hK
    | ret => exact fin hK
    | exit id => exact hK.elim
    | goto l => exact hK.elim
    | panic ch => exact hK.elim
    | outgrown => exact hK.elim
  · obtain ⟨β, F, hB⟩ := hR
    refine ⟨β, F, ⟨fun t => ?_, by simp; omega, rfl, hB.live, hB.inj, hB.dom, hB.gr, hB.sub, hB.news, hB.os, hB.tape, hB.output, hB.grow, hB.block, hB.glo⟩⟩
    have h1 := hB.env t
    by_cases ht : t < args.length
    · have : (vals ++ Array.replicate (fn.ntmps - vals.size) undef).getD t undef = vals.getD t undef := by
        simp only [Array.getD_eq_getD_getElem?]
        rw [Array.getElem?_append_left (by omega)]
      rw [this]
      exact h1
    · simp only [entry]
      rw [List.getElem?_eq_none (by omega)]
      exact .any _
end Go.Proofs.Ytkefkegknacpjaa.Ax
