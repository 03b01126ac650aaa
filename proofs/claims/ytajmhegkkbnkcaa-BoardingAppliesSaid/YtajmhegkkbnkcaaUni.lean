/- boarding.united: a range over a function that yields the union of two ascending lists. -/
import Derived.RangeFuncBox
import Derived.RangeFuncNested
import Derived.RangeFuncLeaves
import Derived.Shelf.Abstract
import Derived.OwnWalkIn
import Derived.TacticsInMore
import Derived.LoopNIn
import Derived.LoopIn
import Derived.Maps.AppendAt
import Derived.Test.YtajmhegkkbnkcaaUniD
namespace Go.Proofs.Ytajmhegkkbnkcaa.Ex
open Go.RowKit Go.Proofs.Ytajmhegkkbnkcaa.Ax Go.Shelf
set_option linter.unusedVariables false
set_option linter.unusedSimpArgs false

/-- what is known between two pieces of the iterator -/
def Kp (l : Nat) (la lb : List Int) (σ : ASt) : Prop := σ.env 0 = .val (.func (.yield l) #[] #[]) ∧ σ.env 1 = .ptr 0 0 ∧ σ.env 2 = .ptr 1 0 ∧ σ.H 0 = some (.box [.lst 1 (la.map iA)]) ∧ σ.H 1 = some (.box [.lst 1 (lb.map iA)])

def σ0 (l : Nat) (la lb : List Int) : ASt := ⟨eL [(0, .val (.func (.yield l) #[] #[])), (1, .ptr 0 0), (2, .ptr 1 0)], hL [(0, .box [.lst 1 (la.map iA)]), (1, .box [.lst 1 (lb.map iA)])], 2⟩

def KX (l : Nat) (la lb : List Int) (e : Exit) (σ : ASt) : Prop := Kp l la lb σ ∧ ((e = .normal ∧ 0 < la.length + lb.length) ∨ (e = .exit 0 ∧ la.length + lb.length = 0))

def KZ (l : Nat) (la lb : List Int) (e : Exit) (σ : ASt) : Prop := e = .normal ∧ ∃ la' lb' x, Kp l la' lb' σ ∧ σ.env 4 = .int .i64 x ∧ uniF (la.length + lb.length) la lb = x :: uniF (la'.length + lb'.length) la' lb' ∧ la'.length + lb'.length < la.length + lb.length

theorem sw_go {P : Program} {tab : Tab} (hT : TabOK P tab) (hP : P.follows .mixedOrders = true) {g nt : Nat} {c : Code} {K : Exit → ASt → Prop} {σ : ASt} {C : Ctx} {a : Act} {w : World} {Q : Exit → Act → World → Prop} (hC : C.γ.length = g) (hn : C.nt = nt) (hR : Rel C (Below' σ.n) σ a w) (h : awp P tab g nt c K σ)
    (hq : ∀ e σ' a' w', K e σ' → Rel C (Below' σ'.n) σ' a' w' → Q e a' w') : c.wp P Q a w :=
  wp_mono (awp_ok hT hP c h C a w hC hn hR) (fun e a' w' ⟨σ', h1, h2⟩ => hq e σ' a' w' h1 h2)

/-- what the iterator itself may change: its two variables -/
structure Chg (A B : Nat) (w w' : World) : Prop where
  os : w'.os = w.os
  tape : w'.tape = w.tape
  output : w'.output = w.output
  size : w.heap.size ≤ w'.heap.size
  block : ∀ b, b < w.heap.size → b ≠ A → b ≠ B → w'.heap[b]? = w.heap[b]?

theorem Chg.refl (A B : Nat) (w : World) : Chg A B w w := ⟨rfl, rfl, rfl, Nat.le_refl _, fun _ _ _ _ => rfl⟩

/-- the two variables of the iterator, and what they lead to -/
structure Vars (l A B : Nat) (F : Nat → Prop) (la lb : List Int) (a : Act) (w : World) : Prop where
  size : a.tmps.size = 63
  defers : a.defers = []
  t0 : a.tmps.getD 0 undef = .func (.yield l) #[] #[]
  t1 : a.tmps.getD 1 undef = .pointer (some ⟨A, 0, none⟩)
  t2 : a.tmps.getD 2 undef = .pointer (some ⟨B, 0, none⟩)
  bA : ∃ v ty, w.heap[A]? = some (.cells #[v] ty (0, 0)) ∧ RV w F noB (.lst 1 (la.map iA)) v
  bB : ∃ v ty, w.heap[B]? = some (.cells #[v] ty (0, 0)) ∧ RV w F noB (.lst 1 (lb.map iA)) v
  fr : ∀ b, F b → b < w.heap.size ∧ b ≠ A ∧ b ≠ B
  glo : GloR w F

def cx (A B : Nat) (F : Nat → Prop) (w : World) : Ctx := ⟨w, [⟨some A, 0, 0⟩, ⟨some B, 0, 0⟩], F, 63⟩

theorem Vars.rel {l A B : Nat} {F : Nat → Prop} {la lb : List Int} {a : Act} {w : World} (h : Vars l A B F la lb a w) (hAB : A ≠ B) : Rel (cx A B F w) (Below' 2) (σ0 l la lb) a w := by
  obtain ⟨va, ta, a1, a2⟩ := h.bA
  obtain ⟨vb, tb, b1, b2⟩ := h.bB
  have hA : A < w.heap.size := (Array.getElem?_eq_some_iff.1 a1).1
  have hB : B < w.heap.size := (Array.getElem?_eq_some_iff.1 b1).1
  refine ⟨fun i => (cx A B F w).γ[i]?, F, ?_⟩
  refine ⟨fun t => ?_, h.size, h.defers, fun id k hk => ?_, fun id id' k k' h1 h2 b e1 e2 e3 e4 e5 e6 => ?_, fun id g e => ?_, fun i g e => e, fun b hb => hb, fun b hb => ⟨(h.fr b hb).1, .inl hb⟩, rfl, rfl, rfl, Nat.le_refl _, fun _ _ _ => rfl, h.glo⟩
  · show RV w F _ (eL _ t) _
    rcases eL_cases [(0, .val (.func (.yield l) #[] #[])), (1, .ptr 0 0), (2, .ptr 1 0)] t with e | ⟨p, hp, hpt, e⟩
    · rw [e]; exact .any _
    · rw [e]
      simp only [List.mem_cons, List.not_mem_nil, or_false] at hp
      rcases hp with rfl | rfl | rfl <;> subst hpt
      · rw [h.t0]; exact .val _
      · rw [h.t1]; exact .ptr 0 0 A ⟨some A, 0, 0⟩ rfl rfl
      · rw [h.t2]; exact .ptr 1 0 B ⟨some B, 0, 0⟩ rfl rfl
  · have := hL_cases _ _ _ hk
    simp only [List.mem_cons, List.not_mem_nil, or_false] at this
    rcases this with e | e <;> cases e
    · refine ⟨⟨some A, 0, 0⟩, rfl, ⟨A, #[va], ta, rfl, a1, rfl, fun j u v hu hv => ?_⟩, fun b hb => ?_⟩
      · cases j with
        | zero => cases hu; cases hv; exact a2.up
        | succ j => simp at hu
      · cases hb; exact ⟨hA, fun hF => (h.fr _ hF).2.1 rfl, .inl ⟨_, List.mem_cons_self .., rfl⟩⟩
    · refine ⟨⟨some B, 0, 0⟩, rfl, ⟨B, #[vb], tb, rfl, b1, rfl, fun j u v hu hv => ?_⟩, fun b hb => ?_⟩
      · cases j with
        | zero => cases hu; cases hv; exact b2.up
        | succ j => simp at hu
      · cases hb; exact ⟨hB, fun hF => (h.fr _ hF).2.2 rfl, .inl ⟨⟨some B, 0, 0⟩, List.mem_cons_of_mem _ (List.mem_cons_self ..), rfl⟩⟩
  · have f1 : ∀ id g, (cx A B F w).γ[id]? = some g → (id = 0 ∧ g = ⟨some A, 0, 0⟩) ∨ (id = 1 ∧ g = ⟨some B, 0, 0⟩) := fun id g e => by
      match id, e with
      | 0, e => cases e; exact .inl ⟨rfl, rfl⟩
      | 1, e => cases e; exact .inr ⟨rfl, rfl⟩
      | id + 2, e => simp [cx] at e
    rcases f1 _ _ e3 with ⟨rfl, rfl⟩ | ⟨rfl, rfl⟩ <;> rcases f1 _ _ e4 with ⟨rfl, rfl⟩ | ⟨rfl, rfl⟩ <;> cases e5 <;> cases e6
    · rfl
    · exact absurd rfl hAB
    · exact absurd rfl hAB
    · rfl
  · have := (List.getElem?_eq_some_iff.1 e).1
    exact this

theorem Vars.of {l A B : Nat} {F0 : Nat → Prop} {la lb : List Int} {a : Act} {w0 w : World} {I : Nat → Prop} {σ : ASt} (hK : Kp l la lb σ) (hR : Rel (cx A B F0 w0) I σ a w) : ∃ F, Vars l A B F la lb a w ∧ Chg A B w0 w ∧ (∀ b, F0 b → F b) ∧ ∀ b, F b → F0 b ∨ w0.heap.size ≤ b := by
  obtain ⟨k0, k1, k2, k3, k4⟩ := hK
  obtain ⟨β, F, h⟩ := hR
  have g0 := h.gr 0 ⟨some A, 0, 0⟩ rfl
  have g1 := h.gr 1 ⟨some B, 0, 0⟩ rfl
  have e0 := h.env 0
  have e1 := h.env 1
  have e2 := h.env 2
  rw [k0] at e0
  rw [k1] at e1
  rw [k2] at e2
  have box : ∀ (id X : Nat) (xs : List Int), β id = some ⟨some X, 0, 0⟩ → σ.H id = some (.box [.lst 1 (xs.map iA)]) → (∃ v ty, w.heap[X]? = some (.cells #[v] ty (0, 0)) ∧ RV w F noB (.lst 1 (xs.map iA)) v) ∧ ¬ F X := fun id X xs hg hk => by
    obtain ⟨g, q1, q2, q3⟩ := h.live id _ hk
    rw [hg] at q1
    cases q1
    obtain ⟨b, arr, ty, r1, r2, r3, r4⟩ := q2
    cases r1
    have hs : arr.size = 1 := r3.symm
    obtain ⟨v, hv⟩ : ∃ v, arr = #[v] := ⟨arr[0], by apply Array.ext; simp [hs]; intro i h1 h2; simp at h2; subst h2; simp⟩
    subst hv
    exact ⟨⟨v, ty, r2, (r4 0 _ v rfl rfl).noIds rfl⟩, (q3 X rfl).2.1⟩
  obtain ⟨bA, nA⟩ := box 0 A la g0 k3
  obtain ⟨bB, nB⟩ := box 1 B lb g1 k4
  refine ⟨F, ⟨h.size, h.defers, ?_, ?_, ?_, bA, bB, fun b hb => ⟨(h.news b hb).1, fun e => nA (e ▸ hb), fun e => nB (e ▸ hb)⟩, h.glo⟩, ⟨h.os, h.tape, h.output, h.grow, fun b hb n1 n2 => h.block b hb (fun g hg => ?_)⟩, h.sub, fun b hb => ?_⟩
  · generalize a.tmps.getD 0 undef = v at e0
    cases e0
    rfl
  · generalize a.tmps.getD 1 undef = v at e1
    cases e1 with
    | ptr _ _ b g q1 q2 => rw [g0] at q1; cases q1; cases q2; rfl
  · generalize a.tmps.getD 2 undef = v at e2
    cases e2 with
    | ptr _ _ b g q1 q2 => rw [g1] at q1; cases q1; cases q2; rfl
  · simp only [cx, List.mem_cons, List.not_mem_nil, or_false] at hg
    rcases hg with rfl | rfl
    · exact fun e => n1 (by cases e; rfl)
    · exact fun e => n2 (by cases e; rfl)
  · rcases (h.news b hb).2 with q | ⟨g, hg, q⟩ | q
    · exact .inl q
    · simp only [cx, List.mem_cons, List.not_mem_nil, or_false] at hg
      rcases hg with rfl | rfl
      · cases q; exact absurd hb nA
      · cases q; exact absurd hb nB
    · exact .inr q

def slen : Option Value → Nat
  | some (.slice _ n _) => n
  | _ => 0
def mu (A B : Nat) (a : Act) (w : World) : Nat := slen (w.cell? ⟨A, 0, none⟩) + slen (w.cell? ⟨B, 0, none⟩)
theorem Vars.mu {l A B : Nat} {F : Nat → Prop} {la lb : List Int} {a : Act} {w : World} (h : Vars l A B F la lb a w) : mu A B a w = la.length + lb.length := by
  have one : ∀ (X : Nat) (xs : List Int), (∃ v ty, w.heap[X]? = some (.cells #[v] ty (0, 0)) ∧ RV w F noB (.lst 1 (xs.map iA)) v) → slen (w.cell? ⟨X, 0, none⟩) = xs.length := fun X xs ⟨v, ty, h1, h2⟩ => by
    have hc : w.cell? ⟨X, 0, none⟩ = some v := by simp [World.cell?, h1]
    rw [hc]
    generalize hys : xs.map iA = ys at h2
    cases h2
    simp only [slen, ← hys, List.length_map]
  unfold Ex.mu
  rw [one A la h.bA, one B lb h.bB]

theorem uni_fuel : ∀ (n : Nat) (la lb : List Int), la.length + lb.length ≤ n → uniF n la lb = uniF (la.length + lb.length) la lb
  | 0, [], [], _ => rfl
  | 0, _ :: _, _, h => by simp at h
  | 0, [], _ :: _, h => by simp at h
  | n + 1, [], [], _ => rfl
  | n + 1, x :: la, [], h => by
    simp only [List.length_cons, List.length_nil, Nat.add_zero, uniF]
    have h1 := uni_fuel n la [] (by simpa using h)
    rw [h1, List.length_nil, Nat.add_zero]
  | n + 1, [], y :: lb, h => by
    simp only [List.length_cons, List.length_nil, Nat.zero_add, uniF]
    have h1 := uni_fuel n [] lb (by simpa using h)
    rw [h1, List.length_nil, Nat.zero_add]
  | n + 1, x :: la, y :: lb, h => by
    simp only [List.length_cons] at h
    have h1 := uni_fuel n la (y :: lb) (by simp only [List.length_cons]; omega)
    have h2 := uni_fuel n (x :: la) lb (by simp only [List.length_cons]; omega)
    have h3 := uni_fuel n la lb (by omega)
    have g1 := uni_fuel (la.length + (lb.length + 1)) la lb (by omega)
    have g2 := uni_fuel (la.length + (lb.length + 1)) (x :: la) lb (by simp only [List.length_cons]; omega)
    have e : (x :: la).length + (y :: lb).length = la.length + (lb.length + 1) + 1 := by simp only [List.length_cons]; omega
    rw [e]
    simp only [uniF]
    rw [h1, h2, h3, g1, g2]
    simp only [List.length_cons]
theorem uni_lt {x y : Int} {la lb : List Int} (h : decide (x < y) = true) : uniF ((x :: la).length + (y :: lb).length) (x :: la) (y :: lb) = x :: uniF (la.length + (y :: lb).length) la (y :: lb) := by
  rw [show (x :: la).length + (y :: lb).length = la.length + (y :: lb).length + 1 by simp only [List.length_cons]; omega]
  simp only [uniF, h, cond_true]
theorem uni_gt {x y : Int} {la lb : List Int} (h : decide (x < y) = false) (h2 : decide (y < x) = true) : uniF ((x :: la).length + (y :: lb).length) (x :: la) (y :: lb) = y :: uniF ((x :: la).length + lb.length) (x :: la) lb := by
  rw [show (x :: la).length + (y :: lb).length = (x :: la).length + lb.length + 1 by simp only [List.length_cons]; omega]
  simp only [uniF, h, h2, cond_true, cond_false]
theorem uni_eq {x y : Int} {la lb : List Int} (h : decide (x < y) = false) (h2 : decide (y < x) = false) : uniF ((x :: la).length + (y :: lb).length) (x :: la) (y :: lb) = x :: uniF (la.length + lb.length) la lb := by
  rw [show (x :: la).length + (y :: lb).length = (la.length + lb.length + 1) + 1 by simp only [List.length_cons]; omega]
  simp only [uniF, h, h2, cond_false]
  rw [uni_fuel (la.length + lb.length + 1) la lb (by omega)]
theorem uni_r {x : Int} {la : List Int} : uniF ((x :: la).length + ([] : List Int).length) (x :: la) [] = x :: uniF (la.length + ([] : List Int).length) la [] := by
  rw [show (x :: la).length + ([] : List Int).length = la.length + ([] : List Int).length + 1 by simp]
  simp only [uniF]
theorem uni_l {y : Int} {lb : List Int} : uniF (([] : List Int).length + (y :: lb).length) [] (y :: lb) = y :: uniF (([] : List Int).length + lb.length) [] lb := by
  rw [show ([] : List Int).length + (y :: lb).length = ([] : List Int).length + lb.length + 1 by simp]
  simp only [uniF]
theorem tk1 (x : Int) (l : List Int) : (((x :: l).map iA).drop 1).take (((x :: l).map iA).length - 1) = l.map iA := by
  simp only [List.map_cons, List.drop_succ_cons, List.drop_zero, List.length_cons, Nat.add_sub_cancel, List.length_map]
  exact List.take_of_length_le (by simp)
theorem len0 {n : Nat} (h : (((n + 1 : Nat) : Int) == 0) = true) : False := by
  have := eq_of_beq h
  omega
theorem len1 {n : Nat} (h : decide ((0 : Int) < ((n + 1 : Nat) : Int)) = false) : False := by
  have := of_decide_eq_false h
  omega

set_option maxRecDepth 100000 in
set_option maxHeartbeats 4000000 in
theorem both1 (l A B N : Nat) (hAB : A ≠ B) (l1 l2 : List Int) (hN : l1.length + l2.length ≤ N) (hN2 : N ≤ 9223372036854775807) (m : Nat) (J : List Int → (Nat → Prop) → World → Prop)
    (hJ : ∀ pre S w w', J pre S w → Chg A B w w' → J pre S w') (hS : ∀ pre S w b, J pre S w → S b → b < w.heap.size ∧ b ≠ A ∧ b ≠ B)
    (hY : ∀ pre S x W1, J pre S W1 → pre.length < N → YieldAt Fence.wide m Try.prog l #[.int .i64 x] W1 fun e W' => e = .returned (.bool true) ∧ W1.heap.size ≤ W'.heap.size ∧ (∀ b, b < W1.heap.size → ¬ S b → W'.heap[b]? = W1.heap[b]?) ∧ ∃ S', J (pre ++ [x]) S' W' ∧ ∀ b, S' b → S b ∨ W1.heap.size ≤ b)
    (W : World) (S0 : Nat → Prop) (F0 : Nat → Prop) (hJ0 : J [] S0 W) (hF : ∀ b, F0 b → b < W.heap.size ∧ b ≠ A ∧ b ≠ B ∧ ¬ S0 b)
    (bA : ∃ v ty, W.heap[A]? = some (.cells #[v] ty (0, 0)) ∧ RV W F0 noB (.lst 1 (l1.map iA)) v) (bB : ∃ v ty, W.heap[B]? = some (.cells #[v] ty (0, 0)) ∧ RV W F0 noB (.lst 1 (l2.map iA)) v) (hgl : GloR W F0) :
    Calls Try.prog 105 #[.func (.yield l) #[] #[], .pointer (some ⟨A, 0, none⟩), .pointer (some ⟨B, 0, none⟩)] W fun e W' => (∃ v, e = .returned v) ∧ ∃ S, J (uniF (l1.length + l2.length) l1 l2) S W' := by
  refine calls_of_wp Try.func105 rfl ?_
  refine wp_block ?_
  refine wp_loop (fun a w => ∃ la lb pre F S, Vars l A B F la lb a w ∧ J pre S w ∧ (∀ b, F b → ¬ S b) ∧ pre ++ uniF (la.length + lb.length) la lb = uniF (l1.length + l2.length) l1 l2 ∧ pre.length + la.length + lb.length ≤ N)
    (mu A B) ?_ ?_
  · refine ⟨l1, l2, [], F0, S0, ⟨by simp [Try.ntmps105], rfl, ?_, ?_, ?_, bA, bB, fun b hb => ⟨(hF b hb).1, (hF b hb).2.1, (hF b hb).2.2.1⟩, hgl⟩, hJ0, fun b hb => (hF b hb).2.2.2, rfl, by simpa using hN⟩
    all_goals simp
  rintro a w ⟨la, lb, pre, F, S, hv, hj, hFS, heq, hcnt⟩
  have hmu := hv.mu
  refine wp_seq ?_
  refine sw_go (g := 2) (nt := 63) (σ := σ0 l la lb) tab_ok follows_ok (K := KX l la lb) rfl rfl (hv.rel hAB) ?_ ?_
  · conv => whnf
    refine len_q (enc := iA) (l := la) rfl ?_
    conv => whnf
    refine len_q (enc := iA) (l := lb) rfl ?_
    conv => whnf
    refine ⟨((la.length + lb.length : Nat) : Int), wrapE (by simp) (by omega) (by omega), ?_⟩
    conv => whnf
    refine ⟨fun h => ?_, fun h => ?_⟩ <;> conv => whnf
    · exact ⟨⟨rfl, rfl, rfl, rfl, rfl⟩, .inl ⟨rfl, by have := of_decide_eq_true h; omega⟩⟩
    · exact ⟨⟨rfl, rfl, rfl, rfl, rfl⟩, .inr ⟨rfl, by have := of_decide_eq_false h; omega⟩⟩
  rintro e σ' a1 w1 ⟨hK, hpos⟩ hR
  obtain ⟨F1, hv1, hc1, hF1, hF1'⟩ := Vars.of hK hR
  have hj1 := hJ _ _ _ _ hj hc1
  have hFS1 : ∀ b, F1 b → ¬ S b := fun b hb hs => by
    rcases hF1' b hb with h | h
    · exact hFS b h hs
    · have := (hS _ _ _ _ hj hs).1
      omega
  clear hv hc1 hj hFS hF1 hF1' hR hK
  rcases hpos with ⟨rfl, hpos⟩ | ⟨rfl, hpos⟩
  · refine wp_block ?_
    refine wp_seq ?_
    refine sw_go (σ := σ0 l la lb) (g := 2) (nt := 63) (K := fun e σ => e = .normal ∧ Kp l la lb σ) tab_ok follows_ok rfl rfl (hv1.rel hAB) ?_ ?_
    · conv => whnf
      exact ⟨rfl, rfl, rfl, rfl, rfl, rfl⟩
    rintro e σ' a2 w2 ⟨rfl, hK⟩ hR
    obtain ⟨F2, hv2, hc2, hF2, hF2'⟩ := Vars.of hK hR
    have hj2 := hJ _ _ _ _ hj1 hc2
    have hFS2 : ∀ b, F2 b → ¬ S b := fun b hb hs => by
      rcases hF2' b hb with h | h
      · exact hFS1 b h hs
      · have := (hS _ _ _ _ hj1 hs).1
        omega
    clear hv1 hc2 hj1 hFS1 hF2 hF2' hR hK
    refine wp_seq ?_
    refine sw_go (σ := σ0 l la lb) (g := 2) (nt := 63) (K := KZ l la lb) tab_ok follows_ok rfl rfl (hv2.rel hAB) ?_ ?_
    · rcases la with _ | ⟨x, la⟩
      · rcases lb with _ | ⟨y, lb⟩
        · simp at hpos
        · conv => whnf
          refine ⟨((lb.length + 1 : Nat) : Int), by simp, ?_⟩
          conv => whnf
          refine ⟨fun h => ?_, fun h => ?_⟩ <;> conv => whnf
          · refine ⟨0, rfl, ?_⟩
            conv => whnf
            refine ⟨fun h => absurd h (by decide), fun h => ?_⟩
            conv => whnf
            refine ⟨by kernel_rfl, ?_⟩
            conv => whnf
            refine ⟨0, rfl, ?_⟩
            conv => whnf
            refine ⟨fun h => absurd h (by decide), fun h => ?_⟩
            conv => whnf
            refine ⟨by kernel_rfl, ?_⟩
            conv => whnf
            refine ⟨0, iA y, rfl, rfl, ?_⟩
            conv => whnf
            refine ⟨1, rfl, by simp, Nat.le_refl _, lb.map iA, tk1 _ _, ?_⟩
            conv => whnf
            refine ⟨by kernel_rfl, ?_⟩
            conv => whnf
            exact ⟨rfl, [], lb, y, ⟨rfl, rfl, rfl, rfl, rfl⟩, rfl, uni_l, by simp⟩
          · exact (len0 h).elim
      · rcases lb with _ | ⟨y, lb⟩
        · conv => whnf
          refine ⟨0, rfl, ?_⟩
          conv => whnf
          refine ⟨fun h => absurd h (by decide), fun h => ?_⟩
          conv => whnf
          refine ⟨by kernel_rfl, ?_⟩
          conv => whnf
          refine ⟨0, iA x, rfl, rfl, ?_⟩
          conv => whnf
          refine ⟨1, rfl, by simp, Nat.le_refl _, la.map iA, tk1 _ _, ?_⟩
          conv => whnf
          refine ⟨by kernel_rfl, ?_⟩
          conv => whnf
          exact ⟨rfl, la, [], x, ⟨rfl, rfl, rfl, rfl, rfl⟩, rfl, uni_r, by simp⟩
        · conv => whnf
          refine ⟨((lb.length + 1 : Nat) : Int), by simp, ?_⟩
          conv => whnf
          refine ⟨fun h => ?_, fun h => (len0 h).elim⟩
          conv => whnf
          refine ⟨((la.length + 1 : Nat) : Int), by simp, ?_⟩
          conv => whnf
          refine ⟨fun h1 => ?_, fun h1 => (len1 h1).elim⟩
          conv => whnf
          refine ⟨0, iA x, rfl, rfl, ?_⟩
          conv => whnf
          refine ⟨0, iA y, rfl, rfl, ?_⟩
          conv => whnf
          refine ⟨by kernel_rfl, ?_⟩
          conv => whnf
          refine ⟨fun h2 => ?_, fun h2 => ?_⟩ <;> conv => whnf
          · refine ⟨0, iA x, rfl, rfl, ?_⟩
            conv => whnf
            refine ⟨1, rfl, by simp, Nat.le_refl _, la.map iA, tk1 _ _, ?_⟩
            conv => whnf
            refine ⟨by kernel_rfl, ?_⟩
            conv => whnf
            exact ⟨rfl, la, y :: lb, x, ⟨rfl, rfl, rfl, rfl, rfl⟩, rfl, uni_lt h2, by simp⟩
          · refine ⟨((la.length + 1 : Nat) : Int), by simp, ?_⟩
            conv => whnf
            refine ⟨fun h3 => ?_, fun h3 => (len0 h3).elim⟩
            conv => whnf
            refine ⟨0, iA y, rfl, rfl, ?_⟩
            conv => whnf
            refine ⟨0, iA x, rfl, rfl, ?_⟩
            conv => whnf
            refine ⟨by kernel_rfl, ?_⟩
            conv => whnf
            refine ⟨fun h4 => ?_, fun h4 => ?_⟩ <;> conv => whnf
            · refine ⟨0, iA y, rfl, rfl, ?_⟩
              conv => whnf
              refine ⟨1, rfl, by simp, Nat.le_refl _, lb.map iA, tk1 _ _, ?_⟩
              conv => whnf
              refine ⟨by kernel_rfl, ?_⟩
              conv => whnf
              exact ⟨rfl, x :: la, lb, y, ⟨rfl, rfl, rfl, rfl, rfl⟩, rfl, uni_gt h2 h4, by simp⟩
            · refine ⟨0, iA x, rfl, rfl, ?_⟩
              conv => whnf
              refine ⟨1, rfl, by simp, Nat.le_refl _, la.map iA, tk1 _ _, ?_⟩
              conv => whnf
              refine ⟨1, rfl, by simp, Nat.le_refl _, lb.map iA, tk1 _ _, ?_⟩
              conv => whnf
              refine ⟨by kernel_rfl, ?_⟩
              conv => whnf
              exact ⟨rfl, la, lb, x, ⟨rfl, rfl, rfl, rfl, rfl⟩, rfl, uni_eq h2 h4, by simp; omega⟩
    rintro e σ' a3 w3 ⟨rfl, la', lb', x, hK, h4, heq', hlt⟩ hR
    obtain ⟨F3, hv3, hc3, hF3, hF3'⟩ := Vars.of hK hR
    have hj3 := hJ _ _ _ _ hj2 hc3
    have hFS3 : ∀ b, F3 b → ¬ S b := fun b hb hs => by
      rcases hF3' b hb with h | h
      · exact hFS2 b h hs
      · have := (hS _ _ _ _ hj2 hs).1
        omega
    have t4 : a3.tmps.getD 4 undef = .int .i64 x := by
      obtain ⟨β, F, hB⟩ := hR
      have := hB.env 4
      rw [h4] at this
      generalize a3.tmps.getD 4 undef = v at this
      cases this
      rfl
    rw [heq'] at heq
    have hcnt3 : pre.length + 1 + la'.length + lb'.length ≤ N := by omega
    clear hv2 hc3 hj2 hFS2 hF3 hF3' hR hK h4 heq' hpos hcnt
    refine wp_seq ?_
    refine (wpIn_wide (n := m + 1)).1 ?_
    obtain ⟨fn, tmps, assign, body, hy, hround⟩ := hY pre S x w3 hj3 (by omega)
    obtain ⟨T, D⟩ := a3
    obtain ⟨v1, v2, v3, v4, v5, v6, v7, v8, v9⟩ := hv3
    dsimp only at v1 v2 v3 v4 v5 t4
    subst v2
    refine wpIn_region_list ?_
    refine wpListIn_plain rfl fun K1 hK1 => ?_
    rw [Array.getD_eq_getD_getElem?] at v3 t4
    simp [go_sem, v3]
    refine hK1 _ _ (wpListIn_plain rfl fun K2 hK2 => ?_)
    simp [go_sem, t4]
    refine hK2 _ _ (wpListIn_plain rfl fun K3 hK3 => ?_)
    simp [go_sem, t4, v1, hy]
    refine hround.mono ?_
    rintro e W' ⟨rfl, hsz, hsame, S', hj', hS'⟩
    refine hK3 _ _ (wpListIn_plain rfl fun K4 hK4 => ?_)
    simp [go_sem, v1]
    refine hK4 _ _ (wpListIn_nil ?_)
    refine wp_cond_false (by simp [Act.eval, v1]) (wp_skip ?_)
    have sA : ¬ S A := fun h => (hS _ _ _ _ hj3 h).2.1 rfl
    have sB : ¬ S B := fun h => (hS _ _ _ _ hj3 h).2.2 rfl
    obtain ⟨va, ta, a1, a2⟩ := v6
    obtain ⟨vb, tb, b1, b2⟩ := v7
    have hA : A < w3.heap.size := (Array.getElem?_eq_some_iff.1 a1).1
    have hB : B < w3.heap.size := (Array.getElem?_eq_some_iff.1 b1).1
    have hF3 : ∀ b, F3 b → W'.heap[b]? = w3.heap[b]? := fun b hb => hsame b (v8 b hb).1 (hFS3 b hb)
    have hvn : ∀ T', T'.size = 63 → T'.getD 0 undef = .func (.yield l) #[] #[] → T'.getD 1 undef = .pointer (some ⟨A, 0, none⟩) → T'.getD 2 undef = .pointer (some ⟨B, 0, none⟩) → Vars l A B F3 la' lb' ⟨T', []⟩ W' := fun T' u1 u2 u3 u4 =>
      ⟨u1, rfl, u2, u3, u4, ⟨va, ta, (hsame A hA sA).trans a1, a2.mono (fun _ h => h) hF3 (fun _ _ h => h)⟩, ⟨vb, tb, (hsame B hB sB).trans b1, b2.mono (fun _ h => h) hF3 (fun _ _ h => h)⟩, fun b hb => ⟨Nat.lt_of_lt_of_le (v8 b hb).1 hsz, (v8 b hb).2⟩, fun g => (v9 g).mono (fun _ h => h) hF3 (fun _ _ h => h)⟩
    have hvn := hvn ((((T.setIfInBounds 59 (.func (.yield l) #[] #[])).setIfInBounds 60 (.int .i64 x)).setIfInBounds 61 (.bool true)).setIfInBounds 62 (.bool false)) (by simp [v1]) (by simpa using v3) (by simpa using v4) (by simpa using v5)
    refine ⟨⟨la', lb', pre ++ [x], F3, S', hvn, hj', fun b hb hs => ?_, by rw [List.append_assoc]; exact heq, by simp; omega⟩, ?_⟩
    · rcases hS' b hs with h | h
      · exact hFS3 b hb h
      · have := (v8 b hb).1
        omega
    · rw [hvn.mu, hmu]
      exact hlt
  · have h0 : la = [] ∧ lb = [] := ⟨List.eq_nil_of_length_eq_zero (by omega), List.eq_nil_of_length_eq_zero (by omega)⟩
    obtain ⟨rfl, rfl⟩ := h0
    refine ⟨hv1.defers, _, results_none rfl _ _ _, ⟨_, rfl⟩, S, ?_⟩
    have : pre = uniF (l1.length + l2.length) l1 l2 := by rw [← heq]; simp [uniF]
    rw [← this]
    exact hj1

attribute [local go_sem] Oper.semAt_some

/-- between two rounds of the loop: the variable out, its row, the loop's record -/
structure JS (n0 : Nat) (w0 : World) (rec : Loop) (pre : List Int) (S : Nat → Prop) (W : World) : Prop where
  out : ∃ v, Boxed W n0 23 v ∧ W.ownsRow n0 3 1 v pre.length (pre.map (Value.int .i64)) ∧ (v = .slice none 0 0 ↔ pre = []) ∧ (∀ b, S b ↔ (b = n0 ∨ b = n0 + 3 ∨ b = n0 + 4 ∨ v.ownBlock = some b)) ∧ v.ownBlock ≠ some (n0 + 1) ∧ v.ownBlock ≠ some (n0 + 2)
  loop : W.heap[n0 + 4]? = some (.loop rec)
  dfr : W.heap[n0 + 3]? = some (.deferred (some []))
  below : Below n0 w0 W

theorem infoInt : (Try.prog.info? 3).map (fun i => (i.zero, i.size, i.bytes)) = some (some (.int .i64 0), 1, 8) := by kernel_rfl

theorem both_in (w : World) (a b : Option Addr) (n c n' c' : Nat) : CallsIn Fence.wide 5 Try.prog 103 #[.slice a n c, .slice b n' c'] w fun e w' => e = .returned (.func (.func 105) #[] #[.pointer (some ⟨w.heap.size, 0, none⟩), .pointer (some ⟨w.heap.size + 1, 0, none⟩)]) ∧ w' = (w.alloc (.cells #[.slice a n c] 23)).alloc (.cells #[.slice b n' c'] 23) := by
  refine callsIn_of_wp Try.func103 rfl trivial ?_ rfl
  simp only [Try.ntmps103, List.size_toArray, List.length_cons, List.length_nil, Nat.reduceAdd, Nat.reduceSub, Array.replicate_succ, Array.replicate_zero, List.push_toArray, List.append_toArray, List.nil_append, List.cons_append]
  gi_wp2
  go_ret
  exact ⟨rfl, rfl⟩

/-- what one round of the body does to the variable out -/
def RoundQ (n0 : Nat) (pre : List Int) (x : Int) (v : Value) (W : World) (e : Exit) (a' : Act) (W' : World) : Prop :=
  e = .normal ∧ ∃ v', Boxed W' n0 23 v' ∧ W'.ownsRow n0 3 1 v' (pre.length + 1) ((pre ++ [x]).map (Value.int .i64)) ∧ v' ≠ .slice none 0 0 ∧ W.heap.size ≤ W'.heap.size ∧
    (∀ k, k < W.heap.size → k ≠ n0 → v.ownBlock ≠ some k → W'.heap[k]? = W.heap[k]?) ∧ (∀ g, v'.ownBlock = some g → v.ownBlock = some g ∨ W.heap.size ≤ g) ∧ Below n0 W W'

theorem range_both {g : Operand} {ps : Array Tmp} {assign body : Code} {Q : Exit → Act → World → Prop} {a : Act} {W0 w : World} (n0 : Nat) (l1 l2 : List Int) (va vb : Value) (hw : n0 = w.heap.size) (hN : l1.length + l2.length ≤ 16777216)
    (hs0 : W0.heap.size = n0 + 3) (hx0 : W0.heap[n0]? = some (.cells #[.slice none 0 0] 23 (0, 0))) (hx1 : W0.heap[n0 + 1]? = some (.cells #[va] 23 (0, 0))) (hx2 : W0.heap[n0 + 2]? = some (.cells #[vb] 23 (0, 0))) (hB0 : Below n0 w W0)
    (ha : RV W0 (fun b => b < n0) noB (.lst 1 (l1.map iA)) va) (hb : RV W0 (fun b => b < n0) noB (.lst 1 (l2.map iA)) vb) (hgl : GloR W0 (fun b => b < n0))
    (hg : a.eval g = .func (.func 105) #[] #[.pointer (some ⟨n0 + 1, 0, none⟩), .pointer (some ⟨n0 + 2, 0, none⟩)]) (hps : ps.size = 1) (a1 : Int → Act)
    (hassign : ∀ (l : Nat) (x : Int) (W : World) (K : Act → World → Prop), K (a1 x) W → assign.wpIn (Fence.wide.inRound l) 4 Try.prog (Exit.then K (fun _ _ _ => False)) { tmps := (ps.zip #[Value.int .i64 x]).foldl (fun t (p, v) => t.setIfInBounds p v) a.tmps, defers := [] } W)
    (hbody : ∀ (l : Nat) (pre : List Int) (x : Int) (W : World) (v : Value), Boxed W n0 23 v → W.ownsRow n0 3 1 v pre.length (pre.map (Value.int .i64)) → (v = .slice none 0 0 ↔ pre = []) → n0 + 4 < W.heap.size → pre.length < 16777216 → body.wpIn (Fence.wide.inRound l) 4 Try.prog (RoundQ n0 pre x v W) (a1 x) W)
    (hdone : ∀ (W : World) (v : Value), Boxed W n0 23 v → W.ownsRow n0 3 1 v (uniF (l1.length + l2.length) l1 l2).length ((uniF (l1.length + l2.length) l1 l2).map (Value.int .i64)) → Below n0 w W → W.heap[n0 + 3]? = some (.deferred (some [])) → Q .normal { a with defers := { target := .collected (n0 + 3), args := #[] } :: a.defers } W) :
    (Code.rangeFunc g ps assign body).wpIn Fence.wide 6 Try.prog Q a W0 := by
  refine wpIn_rangeFunc (fun fn hfn => ?_)
  obtain ⟨rec, hrec⟩ : ∃ rec : LoopState → Loop, rec = fun st => { state := st, pending := none, fn, tmps := a.tmps, params := ps, assign, body, defers := n0 + 3 } := ⟨_, rfl⟩
  obtain ⟨W1, hW1⟩ : ∃ W1, W1 = (W0.alloc (.deferred (some []))).alloc (.loop (rec .ready)) := ⟨_, rfl⟩
  have hs1 : W1.heap.size = n0 + 5 := by rw [hW1]; simp; omega
  have hold : ∀ k, k < n0 + 3 → W1.heap[k]? = W0.heap[k]? := fun k hk => by rw [hW1, Below.heap_alloc _ _ _ (by simp; omega), Below.heap_alloc _ _ _ (by omega)]
  have hL1 : W1.heap[n0 + 4]? = some (.loop (rec .ready)) := by
    rw [hW1]; have := World.alloc_heap_new (W0.alloc (.deferred (some []))) (.loop (rec .ready)); rwa [World.size_alloc, hs0] at this
  have hD1 : W1.heap[n0 + 3]? = some (.deferred (some [])) := by
    rw [hW1, Below.heap_alloc _ _ _ (by simp; omega), ← hs0]; exact World.alloc_heap_new W0 _
  have hB1 : Below n0 w W1 := by rw [hW1]; exact (hB0.alloc (by omega) _).alloc (by simp; omega) _
  refine ⟨n0 + 4, [{ target := .collected (n0 + 3), args := #[] }], W1, { target := .fn (.func 105) #[.pointer (some ⟨n0 + 1, 0, none⟩), .pointer (some ⟨n0 + 2, 0, none⟩)], args := #[.func (.yield (n0 + 4)) #[] #[]] }, W1, 105, #[.func (.yield (n0 + 4)) #[] #[], .pointer (some ⟨n0 + 1, 0, none⟩), .pointer (some ⟨n0 + 2, 0, none⟩)], W1, ?_, ?_, ?_, ?_, fun _ => by omega, ?_⟩
  · have := run_enterLoop_outer (P := Try.prog) (w := W0) fn a.tmps ps assign body
    rw [hs0] at this
    rw [hW1, hrec]
    exact this
  · simp only [resolve, hg]
    simp [go_sem]
  · intro f' hf'; trivial
  · have he := enters_of (P := Try.prog) Try.func105 (by kernel_rfl) rfl
    simp [invoke, go_sem, he]
  · refine (callsIn_wide (n := 5)).2 ?_
    have hBx : ∀ {W W' : World} {v : Value}, Boxed W n0 23 v → W'.heap[n0]? = W.heap[n0]? → Boxed W' n0 23 v := fun h e => e.trans h
    have hRow : ∀ {W W' : World} {v : Value} {k : Nat} {xs : List Value}, W.ownsRow n0 3 1 v k xs → (∀ g, v.ownBlock = some g → W'.heap[g]? = W.heap[g]?) → W'.ownsRow n0 3 1 v k xs := fun {W W' v k xs} h e => by
      obtain ⟨h1, h2⟩ := h
      refine ⟨h1, ?_⟩
      rcases h2 with h2 | ⟨g, cap, cur, rfl, q1, q2, q3⟩
      · exact .inl h2
      · exact .inr ⟨g, cap, cur, rfl, q1, (e g rfl).trans q2, q3⟩
    refine Calls.mono (both1 (n0 + 4) (n0 + 1) (n0 + 2) 16777216 (by omega) l1 l2 hN (by omega) 4 (JS n0 w (rec .ready)) ?_ ?_ ?_ W1 (fun b => b = n0 ∨ b = n0 + 3 ∨ b = n0 + 4) (fun b => b < n0) ?_ ?_ ?_ ?_ (fun g => (hgl g).mono (fun _ h => h) (fun b hb => hold b (by omega)) (fun _ _ h => h))) ?_
    · -- the iterator's own steps
      rintro pre S W W' ⟨⟨v, h1, h2, h3, h4, h5, h6⟩, h7, h8, h9⟩ hc
      have l4 : n0 + 4 < W.heap.size := (Array.getElem?_eq_some_iff.1 h7).1
      have hk : ∀ k, k < W.heap.size → k ≠ n0 + 1 → k ≠ n0 + 2 → W'.heap[k]? = W.heap[k]? := hc.block
      refine ⟨⟨v, hBx h1 (hk _ (by omega) (by omega) (by omega)), hRow h2 (fun g hg => hk g (h2.lt g hg).2 (fun e => h5 (e ▸ hg)) (fun e => h6 (e ▸ hg))), h3, h4, h5, h6⟩, (hk _ l4 (by omega) (by omega)).trans h7, (hk _ (by omega) (by omega) (by omega)).trans h8, ?_⟩
      exact ⟨hc.os.trans h9.os, hc.tape.trans h9.tape, hc.output.trans h9.output, Nat.le_trans h9.size hc.size, fun k hk' => (hk k (by omega) (by omega) (by omega)).trans (h9.block k hk')⟩
    · rintro pre S W b ⟨⟨v, h1, h2, h3, h4, h5, h6⟩, h7, h8, h9⟩ hb
      have l4 : n0 + 4 < W.heap.size := (Array.getElem?_eq_some_iff.1 h7).1
      rcases (h4 b).1 hb with rfl | rfl | rfl | hb
      · exact ⟨by omega, by omega, by omega⟩
      · exact ⟨by omega, by omega, by omega⟩
      · exact ⟨by omega, by omega, by omega⟩
      · exact ⟨(h2.lt b hb).2, fun e => h5 (e ▸ hb), fun e => h6 (e ▸ hb)⟩
    · -- a round
      rintro pre S x W ⟨⟨v, h1, h2, h3, h4, h5, h6⟩, h7, h8, h9⟩ hlen
      have l4 : n0 + 4 < W.heap.size := (Array.getElem?_eq_some_iff.1 h7).1
      have hy := run_yield (P := Try.prog) (args := #[.int .i64 x]) h7 (by rw [hrec]; exact hps.symm)
      rw [hrec] at hy
      refine ⟨fn, _, assign, body, hy, roundIn_of_wpIn trivial (hassign _ x W _ ⟨_, run_beginRound h7 (by rw [hrec]), ?_⟩)⟩
      obtain ⟨W2, hW2⟩ : ∃ W2, W2 = W.putObj (n0 + 4) (.loop { rec .ready with state := .busy }) := ⟨_, rfl⟩
      rw [← hW2]
      have g4 : W2.heap[n0 + 4]? = some (.loop { rec .ready with state := .busy }) := by rw [hW2]; exact World.putObj_heap_same l4
      have go : ∀ k, k ≠ n0 + 4 → W2.heap[k]? = W.heap[k]? := fun k hk => by rw [hW2]; exact World.putObj_heap_other hk
      have gs : W2.heap.size = W.heap.size := by rw [hW2]; simp [World.putObj]
      have v4 : v.ownBlock ≠ some (n0 + 4) := fun e => by
        obtain ⟨_, hr⟩ := h2
        rcases hr with ⟨rfl, _⟩ | ⟨g, cap, cur, rfl, _, q, _⟩
        · cases e
        · cases e; rw [h7] at q; cases q
      have v3 : v.ownBlock ≠ some (n0 + 3) := fun e => by
        obtain ⟨_, hr⟩ := h2
        rcases hr with ⟨rfl, _⟩ | ⟨g, cap, cur, rfl, _, q, _⟩
        · cases e
        · cases e; rw [h8] at q; cases q
      refine wpIn_mono (hbody _ pre x W2 v (hBx h1 (go _ (by omega))) (hRow h2 (fun g hg => go g (fun e => v4 (e ▸ hg)))) h3 (by omega) hlen) ?_
      rintro e a3 W3 ⟨rfl, v', q1, q2, q3, q4, q5, q6, q7⟩
      have r4 : W3.heap[n0 + 4]? = some (.loop { rec .ready with state := .busy }) := (q5 _ (by omega) (by omega) v4).trans g4
      have r3 : W3.heap[n0 + 3]? = some (.deferred (some [])) := (q5 _ (by omega) (by omega) v3).trans ((go _ (by omega)).trans h8)
      have hend := run_endRound (P := Try.prog) none r4
      refine ⟨_, _, hend, rfl, ?_, ?_, fun b => b = n0 ∨ b = n0 + 3 ∨ b = n0 + 4 ∨ v'.ownBlock = some b, ?_, ?_⟩
      · simp [World.putObj]; omega
      · intro b hb hS
        have n1 : b ≠ n0 ∧ b ≠ n0 + 4 ∧ v.ownBlock ≠ some b := ⟨fun e => hS ((h4 b).2 (.inl e)), fun e => hS ((h4 b).2 (.inr (.inr (.inl e)))), fun e => hS ((h4 b).2 (.inr (.inr (.inr e))))⟩
        rw [World.putObj_heap_other n1.2.1, q5 b (by omega) n1.1 n1.2.2, go b n1.2.1]
      · have w4 : v'.ownBlock ≠ some (n0 + 4) := fun e => by
          rcases q6 _ e with h | h
          · exact v4 h
          · omega
        have hrl : (W3.putObj (n0 + 4) (.loop { rec .ready with state := .ready, pending := none })).heap[n0 + 4]? = some (.loop (rec .ready)) := by
          rw [World.putObj_heap_same (Array.getElem?_eq_some_iff.1 r4).1, hrec]
        refine ⟨⟨v', hBx q1 (World.putObj_heap_other (by omega)), ?_, ⟨fun h => absurd h q3, fun h => by simp at h⟩, fun b => Iff.rfl, fun e => ?_, fun e => ?_⟩, hrl, (World.putObj_heap_other (by omega)).trans r3, ?_⟩
        · rw [List.length_append]
          exact hRow q2 (fun g hg => World.putObj_heap_other (fun e => w4 (e ▸ hg)))
        · rcases q6 _ e with h | h
          · exact h5 h
          · omega
        · rcases q6 _ e with h | h
          · exact h6 h
          · omega
        · have b2 : Below n0 W W2 := ⟨by rw [hW2]; rfl, by rw [hW2]; rfl, by rw [hW2]; rfl, by omega, fun k hk => go k (by omega)⟩
          have b3 : Below n0 W3 (W3.putObj (n0 + 4) (.loop { rec .ready with state := .ready, pending := none })) := ⟨rfl, rfl, rfl, by simp [World.putObj], fun k hk => World.putObj_heap_other (by omega)⟩
          exact ((h9.trans b2).trans q7).trans b3
      · intro b hb
        rcases hb with h | h | h | h
        · exact .inl ((h4 b).2 (.inl h))
        · exact .inl ((h4 b).2 (.inr (.inl h)))
        · exact .inl ((h4 b).2 (.inr (.inr (.inl h))))
        · rcases q6 b h with h | h
          · exact .inl ((h4 b).2 (.inr (.inr (.inr h))))
          · exact .inr (by omega)
    · exact ⟨⟨_, hBx (hold n0 (by omega) |>.trans hx0 |> fun e => e) rfl, World.ownsRow_nil _ _ _ _, ⟨fun _ => rfl, fun _ => rfl⟩, fun b => by simp [Value.ownBlock], by simp [Value.ownBlock], by simp [Value.ownBlock]⟩, hL1, hD1, hB1⟩
    · intro b hb; exact ⟨by omega, by omega, by omega, by omega⟩
    · exact ⟨va, _, (hold _ (by omega)).trans hx1, ha.mono (fun _ h => h) (fun b hb => hold b (by omega)) (fun _ _ h => h)⟩
    · exact ⟨vb, _, (hold _ (by omega)).trans hx2, hb.mono (fun _ h => h) (fun b hb => hold b (by omega)) (fun _ _ h => h)⟩
    · rintro e W' ⟨⟨u, rfl⟩, S, ⟨v, h1, h2, h3, h4, h5, h6⟩, h7, h8, h9⟩
      have v4 : v.ownBlock ≠ some (n0 + 4) := fun e => by
        obtain ⟨_, hr⟩ := h2
        rcases hr with ⟨rfl, _⟩ | ⟨g, cap, cur, rfl, _, q, _⟩
        · cases e
        · cases e; rw [h7] at q; cases q
      have hend := run_endLoop (P := Try.prog) h7 (by rw [hrec]; simp)
      refine ⟨none, _, by rw [hend, hrec], ?_⟩
      refine hdone _ v (hBx h1 (World.putObj_heap_other (by omega))) (hRow h2 (fun g hg => World.putObj_heap_other (fun e => v4 (e ▸ hg)))) (h9.trans ⟨rfl, rfl, rfl, by simp [World.putObj], fun k hk => World.putObj_heap_other (by omega)⟩) ((World.putObj_heap_other (by omega)).trans h8)

/-- behind an append the row lies where it lay, or in a new block -/
theorem app_blk {P : Program} {w w' : World} {base : Nat} {t ty e : TypeId} {i : TypeInfo} {z : Value} (ht : P.underlying t = some (.slice e)) (hi : P.info? e = some i) (hz : i.zero = some z) (hsize : i.size = 1) (hby : i.bytes = 8) {v v' : Value} {n : Nat} {xs : List Value} (hown : w.ownsRow base e 1 v n xs)
    {a : Addr} {c : Nat} {u : Value} (hu : ∀ j x, [u][j]? = some x → w.cell? (a.add j) = some x) (h1 : u.oneCell' = true) (hb : n < 16777216) (h : (Builtin.append_ #[t, t] ty #[v, .slice (some a) 1 c]).run P w = .ok v' w') : ∀ g, v'.ownBlock = some g → v.ownBlock = some g ∨ w.heap.size ≤ g := by
  obtain ⟨hl, hr⟩ := hown
  have hf : (Builtin.firstCells i.size 1 (.slice (some a) 1 c)).run P w = .ok #[u] w := by rw [hsize]; exact run_firstCells_some w 1 1 a 1 c [u] rfl hu
  intro g hg
  rcases hr with ⟨rfl, rfl⟩ | ⟨b, cap, cur, rfl, hbb, hbl, hnc, hcm, hcs, htk⟩
  · have hrun := run_append_nil (P := P) w t ty e i z ht hi hz a 1 c [u] (by simp [hsize]) hu (by omega) (by omega) (by omega)
    rw [hrun] at h
    cases h
    cases hg
    exact .inr (Nat.le_refl _)
  · by_cases hroom : n + 1 ≤ cap
    · have hrun := run_append_in (P := P) w t ty e i ht hi b n cap cur e hbl (some a) 1 c [u] hf (fun x hx => by simp at hx; subst hx; exact h1) hroom (by rw [hsize, hcs]; simp; omega)
      rw [hrun] at h
      cases h
      cases hg
      exact .inl rfl
    · have hcell : ∀ j x, xs[j]? = some x → w.cell? ((⟨b, 0, none⟩ : Addr).add j) = some x := fun j x hj => by
        rw [← htk, List.getElem?_take] at hj
        split at hj
        · rw [Addr.add_lit, Nat.zero_add]; simp [World.cell?, hbl]; simpa using hj
        · cases hj
      have hrun := run_append_grow (P := P) w t ty e i z ht hi hz ⟨b, 0, none⟩ n cap xs (by rw [hl, hsize]) hcell a 1 c [u] (by simp [hsize]) hu (by omega) (by omega) (growslice_fits (by omega) (by rw [hby]; omega))
      rw [hrun] at h
      cases h
      cases hg
      exact .inr (Nat.le_refl _)

theorem wpListIn_append_ownR {F : Fence} {n : Nat} {P : Program} (w : World) {ops : Array Oper} {rest : List Oper} {o : Oper} {a : Act} {Q : Exit → Act → World → Prop}
    (hg : o.guard = none) (s x : Operand) (t : TypeId) (hop : o.op = Op.call { callee := Callee.builtin Builtin.append, args := #[s, x], argTypes := #[t, t] })
    (base : Nat) (e : TypeId) (i : TypeInfo) (z : Value) (h1 : P.underlying t = some (.slice e)) (h2 : P.info? e = some i) (h3 : i.zero = some z) (h4 : i.size = 1) (h5 : i.bytes = 8) (h6 : z.cells.size = 1)
    (v : Value) (k : Nat) (xs : List Value) (hs : a.eval s = v) (hown : w.ownsRow base e 1 v k xs) (ad : Addr) (c : Nat) (u : Value) (hx : a.eval x = .slice (some ad) 1 c)
    (hc : ∀ j y, [u][j]? = some y → w.cell? (ad.add j) = some y) (h1c : u.oneCell' = true) (b1 : k < 16777216) (b3 : base ≤ w.heap.size)
    (hK : ∀ v' w', w'.ownsRow base e 1 v' (k + 1) (xs ++ [u]) → w.grownBy w' v.ownBlock → (∀ g, v'.ownBlock = some g → v.ownBlock = some g ∨ w.heap.size ≤ g) → wpListIn F n P ops Q rest (a.put o.dst v') w') :
    wpListIn F n P ops Q (o :: rest) a w := by
  refine wpListIn_plain hg fun K hK' => ?_
  obtain ⟨v', w', hrun, r1, r2, r3⟩ := run_append_own (P := P) w base t o.type e i z 1 8 h1 h2 h3 h4 h5 h6 (by omega) v k xs hown ad 1 c [u] rfl hc (fun y hy => by simp at hy; subst hy; exact h1c) (by unfold maxLen; omega) (by omega) b3
  have hblk := app_blk h1 h2 h3 h4 h5 hown hc h1c b1 hrun
  unfold Oper.wpIn
  refine ⟨?_, ?_⟩
  · simp [Oper.about, hop, resolve, Target.leads, Sem.run_pure]
  · rw [Oper.semAt_plain F _ _ (by rw [hop]; intro c hc'; cases hc')]
    simp [execOp, hop, resolve, invoke, builtin, hs, hx, hrun, Result.andThen]
    exact hK' _ _ (hK v' w' r1 r2 hblk)

set_option maxRecDepth 100000 in
set_option maxHeartbeats 4000000 in
theorem united_in (a b : Option Addr) (n c n' c' : Nat) (l1 l2 : List Int) (w : World) (hN : l1.length + l2.length ≤ 16777216) (ha : RV w (fun b => b < w.heap.size) noB (.lst 1 (l1.map iA)) (.slice a n c)) (hb : RV w (fun b => b < w.heap.size) noB (.lst 1 (l2.map iA)) (.slice b n' c')) (hgl : GloR w (fun b => b < w.heap.size)) :
    CallsIn Fence.wide 6 Try.prog 87 #[.slice a n c, .slice b n' c'] w fun e W' => ∃ v, e = .returned v ∧ W'.ownsRow w.heap.size 3 1 v (uniF (l1.length + l2.length) l1 l2).length ((uniF (l1.length + l2.length) l1 l2).map (Value.int .i64)) ∧ Below w.heap.size w W' := by
  obtain ⟨i0, hi, hz0, hz1, hz2⟩ := info_parts infoInt
  refine callsIn_of_wp_marks Try.func87 rfl trivial ?_ rfl
  simp only [Try.ntmps87, List.size_toArray, List.length_cons, List.length_nil, Nat.reduceAdd, Nat.reduceSub, Array.replicate_succ, Array.replicate_zero, List.push_toArray, List.append_toArray, List.nil_append, List.cons_append]
  gi_wp2
  refine ⟨trivial, (both_in _ _ _ _ _ _ _).mono ?_⟩
  rintro e w' ⟨rfl, rfl⟩
  gi_wp2
  obtain ⟨n0, hn0⟩ : ∃ n0, n0 = w.heap.size := ⟨_, rfl⟩
  obtain ⟨W0, hW0⟩ : ∃ W0, W0 = ((w.alloc (.cells #[.slice none 0 0] 23)).alloc (.cells #[.slice a n c] 23)).alloc (.cells #[.slice b n' c'] 23) := ⟨_, rfl⟩
  have hs0 : W0.heap.size = n0 + 3 := by rw [hW0, hn0]; simp
  have hx0 : W0.heap[n0]? = some (.cells #[.slice none 0 0] 23 (0, 0)) := by
    rw [hW0, hn0, Below.heap_alloc _ _ _ (by simp; omega), Below.heap_alloc _ _ _ (by simp)]; exact World.alloc_heap_new w _
  have hx1 : W0.heap[n0 + 1]? = some (.cells #[.slice a n c] 23 (0, 0)) := by
    rw [hW0, hn0, Below.heap_alloc _ _ _ (by simp)]; have := World.alloc_heap_new (w.alloc (.cells #[.slice none 0 0] 23)) (.cells #[.slice a n c] 23); rwa [World.size_alloc] at this
  have hx2 : W0.heap[n0 + 2]? = some (.cells #[.slice b n' c'] 23 (0, 0)) := by
    rw [hW0, hn0]; have := World.alloc_heap_new ((w.alloc (.cells #[.slice none 0 0] 23)).alloc (.cells #[.slice a n c] 23)) (.cells #[.slice b n' c'] 23); simp only [World.size_alloc] at this; exact this
  have hB0 : Below n0 w W0 := by rw [hW0, hn0]; exact (((Below.refl _ w).alloc (Nat.le_refl _) _).alloc (by simp) _).alloc (by simp; omega) _
  rw [← hn0] at ha hb hgl
  rw [← hW0, ← hn0]
  have hkeep : ∀ k, k < n0 → W0.heap[k]? = w.heap[k]? := hB0.block
  clear hW0
  have HN := Lib.hid hn0
  clear hn0
  refine range_both (w := w) n0 l1 l2 (.slice a n c) (.slice b n' c') HN.out hN hs0 hx0 hx1 hx2 hB0 (ha.mono (fun _ h => h) hkeep (fun _ _ h => h)) (hb.mono (fun _ h => h) hkeep (fun _ _ h => h)) (fun g => (hgl g).mono (fun _ h => h) hkeep (fun _ _ h => h)) rfl rfl
    (fun x => { tmps := #[.slice a n c, .slice b n' c', undef, undef, .slice none 0 0, .pointer (some ⟨n0, 0, none⟩), .int .i64 x, .slice a n c, .slice b n' c', .func (.func 105) #[] #[.pointer (some ⟨n0 + 1, 0, none⟩), .pointer (some ⟨n0 + 1 + 1, 0, none⟩)], .int .i64 x, undef, undef, undef, undef, undef], defers := [] }) ?_ ?_ ?_
  · intro l x W K hK
    gi_wp2
    exact hK
  · intro l pre x W v hv hrow hnil hsz hlen
    have hc := hv.cell
    have hlt := hrow.lt
    gi_wp2_with (gi_at_builtin; refine wpListIn_append_ownR _ rfl _ _ 23 rfl n0 3 i0 (.int .i64 0) Try.underlying23 hi hz0 hz1 hz2 rfl _ _ _ rfl (hrow.alloc _) ⟨W.heap.size, 0, none⟩ 1 (.int .i64 x) rfl (cell_one_new _ _ _) rfl hlen (by simp; omega) ?_; intro v' w1 hown' hgrow hblk; obtain ⟨g', cap', rfl⟩ := ownsRow_succ hown'; obtain ⟨hv1, hv2, hr2, hk2, hb2⟩ := hv.appended (by decide) hrow (by omega) (Nat.le_refl _) hown' hgrow; have hc1 := hv1.cell; have hf1 := hv1.frozen)
    refine ⟨rfl, _, hv2, ?_, by simp, ?_, ?_, ?_, hb2⟩
    · rw [List.map_append]; exact hr2
    · exact hb2.size
    · intro k hk h1 h2
      have e1 : (w1.setCell ⟨n0, 0, none⟩ (.slice (some ⟨g', 0, none⟩) (pre.length + 1) cap')).heap[k]? = w1.heap[k]? := (grownBy_setCell' w1 n0 _).block k (Nat.lt_of_lt_of_le hk (Nat.le_trans (by simp) hgrow.size)) (fun e => h1 (by cases e; rfl))
      rw [e1, hgrow.block k (by simp; omega) (fun e => h2 e.symm)]
      exact Below.heap_alloc W _ k hk
    · intro g hg
      rcases hblk g hg with h | h
      · exact .inl h
      · exact .inr (by simp at h; omega)
  · intro W v hv hrow hB hK
    have hc := hv.cell
    gi_wp2
    refine ⟨by simp, .inl ⟨_, _, rfl, run_takeDeferred hK, ?_⟩⟩
    have hB2 : Below n0 w (W.putObj (n0 + 3) (.deferred none)) := hB.trans ⟨rfl, rfl, rfl, by simp, fun k hk => World.putObj_heap_other (by omega)⟩
    have hR2 := ownsRow_putObj hrow (.deferred none) hK rfl
    rw [HN.out] at hB2 hR2
    rw [HN.out]
    exact ⟨_, results_tmp rfl _ _ _, v, rfl, hR2, hB2⟩

/-- boarding.united returns the union of two ascending lists (of any two lists: what the merge of them is) in a row of its own -/
theorem united_ac0 (x_0 x_1 : List Int) (r : List Int) (hF : unitedF x_0 x_1 = some r) : AC Try.prog 87 [.lst 1 (x_0.map iA), .lst 1 (x_1.map iA)] [] (.osl 0) [.row 1 (r.map iA)] := by
  unfold unitedF at hF
  split at hF
  case isFalse => cases hF
  rename_i hN
  cases hF
  intro C w vals hC hw0 hnt hlen hR
  obtain ⟨β, F, hB⟩ := hR
  have h0 : RV w F β (.lst 1 (x_0.map iA)) (vals.getD 0 undef) := hB.env 0
  have h1 : RV w F β (.lst 1 (x_1.map iA)) (vals.getD 1 undef) := hB.env 1
  have hs : vals.size = 2 := hlen
  have hFw : ∀ b, F b → b < w.heap.size := fun b hb => (hB.news b hb).1
  have q0 := (h0.noIds rfl).mono (F' := fun b => b < w.heap.size) hFw (fun _ _ => rfl) (fun _ _ h => h)
  have q1 := (h1.noIds rfl).mono (F' := fun b => b < w.heap.size) hFw (fun _ _ => rfl) (fun _ _ h => h)
  have sl : ∀ {xs : List (List AV)} {v : Value}, RV w (fun b => b < w.heap.size) noB (.lst 1 xs) v → ∃ a n c, v = .slice a n c := fun h => by
    cases h
    exact ⟨_, _, _, rfl⟩
  obtain ⟨a, n, c, ha⟩ := sl q0
  obtain ⟨b, n', c', hb⟩ := sl q1
  rw [ha] at q0
  rw [hb] at q1
  have hv : vals = #[.slice a n c, .slice b n' c'] := by
    apply Array.ext
    · simpa using hs
    · intro i h1 h2
      have hi : i < 2 := by omega
      match i, hi with
      | 0, _ => simpa [Array.getD, hs] using ha
      | 1, _ => simpa [Array.getD, hs] using hb
  subst hv
  refine ((callsIn_wide (n := 6)).1 (united_in a b n c n' c' x_0 x_1 w hN q0 q1 (fun g => (hB.glo g).mono (fun b hb => (hB.news b hb).1) (fun _ _ => rfl) (fun _ _ h => h)))).mono ?_
  rintro e W' ⟨v, rfl, hrow, hbel⟩
  generalize uniF (x_0.length + x_1.length) x_0 x_1 = ys at hrow ⊢
  refine ⟨v, rfl, ?_⟩
  obtain ⟨hl, hr⟩ := hrow
  have hsz := hbel.size
  obtain ⟨g, hg1, hg2, hg3⟩ : ∃ g : Hdr, v = .slice (ownBase g.blk 0) g.len g.cap ∧ BlkR W' F (fun id => if id = 0 then some g else none) g (.row 1 (ys.map iA)) ∧ ∀ b, g.blk = some b → w.heap.size ≤ b ∧ b < W'.heap.size := by
    rcases hr with ⟨rfl, hn⟩ | ⟨k, cap, cur, rfl, r1, r2, r3, r4, r5, r6⟩
    · have : ys = [] := List.eq_nil_of_length_eq_zero hn
      subst this
      exact ⟨⟨none, 0, 0⟩, rfl, ⟨rfl, Nat.le_refl _, by simp [maxLen], fun _ => rfl, fun k c hk => by simp at hk, fun b e => by cases e⟩, fun b e => by cases e⟩
    · refine ⟨⟨some k, ys.length, cap⟩, rfl, ⟨by simp, by simpa using r3, r4, (fun e => by cases e), fun k c hk => ?_, fun b e => ?_⟩, fun b e => by cases e; exact ⟨r1, (Array.getElem?_eq_some_iff.1 r2).1⟩⟩
      · rw [List.getElem?_map] at hk
        cases hy : ys[k]? with
        | none => rw [hy] at hk; cases hk
        | some y => rw [hy] at hk; cases hk; exact ⟨rfl, fun u hu => by simp [iA] at hu; subst hu; rfl⟩
      · cases e
        refine ⟨cur, _, r2, by show cap * 1 ≤ cur.size; omega, fun k c j u hk hj => ?_⟩
        rw [List.getElem?_map] at hk
        cases hy : ys[k]? with
        | none => rw [hy] at hk; cases hk
        | some y =>
          rw [hy] at hk
          cases hk
          cases j with
          | succ j => simp [iA] at hj
          | zero =>
            cases hj
            refine ⟨.int .i64 y, ?_, .int _ _⟩
            have hk' := (List.getElem?_eq_some_iff.1 hy).1
            have : (cur.toList.take (ys.length * 1))[k]? = some (.int .i64 y) := by rw [r6, List.getElem?_map, hy]; rfl
            rw [List.getElem?_take, if_pos (by omega)] at this
            simpa using this
  have hFs : ∀ b, F b → W'.heap[b]? = w.heap[b]? := fun b hb => hbel.block b (hFw b hb)
  refine ⟨fun id => if id = 0 then some g else none, F, ⟨fun t => ?_, rfl, rfl, fun id k hk => ?_, fun id id' k k' g1 g2 b e1 e2 e3 e4 e5 e6 => ?_, fun id g' e => ?_, fun i g' e => ?_, hB.sub, fun b hb => ⟨Nat.lt_of_lt_of_le (hFw b hb) hsz, (hB.news b hb).2⟩, hbel.os.trans hB.os, hbel.tape.trans hB.tape, hbel.output.trans hB.output, Nat.le_trans hB.grow hsz, fun b hb hn => ?_, fun g => (hB.glo g).mono (fun _ x => x) hFs (fun _ _ e => e)⟩⟩
  · match t with
    | 0 => show RV W' F _ (.osl 0) v; rw [hg1]; exact .osl 0 g rfl
    | t + 1 => exact .any _
  · obtain ⟨hk1, hk2⟩ := entry_H hk
    match id, hk1 with
    | 0, hk1 => cases hk1; exact ⟨g, rfl, hg2, fun b hb => ⟨(hg3 b hb).2, fun hf => by have := hFw b hf; have := (hg3 b hb).1; omega, .inr (by rw [hw0]; exact (hg3 b hb).1)⟩⟩
    | id + 1, hk1 => simp at hk1
  · have z : ∀ {id : Nat} {k : ABlk}, (entry [AV.osl 0] [.row 1 (ys.map iA)]).H id = some k → id = 0 := fun {id k} h => by
      have := (List.getElem?_eq_some_iff.1 (entry_H h).1).1
      simp at this
      exact this
    rw [z e1, z e2]
  · split at e
    · rename_i h0; show id < 1; omega
    · cases e
  · have h : i < C.γ.length := (List.getElem?_eq_some_iff.1 e).1
    rw [show C.γ.length = 0 from hC] at h
    omega
  · rw [hw0] at hb ⊢
    exact hbel.block b hb
end Go.Proofs.Ytajmhegkkbnkcaa.Ex
