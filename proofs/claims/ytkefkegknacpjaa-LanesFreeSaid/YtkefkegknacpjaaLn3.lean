/- Lanes: which bags are in a store; LanesKeeps. -/
import Derived.Test.YtkefkegknacpjaaLn2
namespace Go.Proofs.Ytkefkegknacpjaa.Ex
open Go.RowKit Go.Proofs.Ytkefkegknacpjaa.Ax
set_option linter.unusedVariables false
set_option linter.unusedSimpArgs false

/-- all bags of a store -/
def bagsL (L : List (List Stored)) : List Int := L.flatten.map Stored.Bag

theorem bags_cons (l : List Stored) (L : List (List Stored)) : bagsL (l :: L) = l.map Stored.Bag ++ bagsL L := by simp [bagsL]
theorem mem_bags {L : List (List Stored)} {b : Int} : b ∈ bagsL L ↔ ∃ l ∈ L, ∃ s ∈ l, s.Bag = b := by
  simp only [bagsL, List.mem_map, List.mem_flatten]
  constructor
  · rintro ⟨s, ⟨l, h1, h2⟩, h3⟩; exact ⟨l, h1, s, h2, h3⟩
  · rintro ⟨l, h1, s, h2, h3⟩; exact ⟨s, ⟨l, h1, h2⟩, h3⟩
theorem find_bags {L : List (List Stored)} {b : Int} : (findL b L).isSome = decide (b ∈ bagsL L) := by
  rw [Bool.eq_iff_iff, decide_eq_true_eq, mem_bags]
  cases h : findL b L with
  | none =>
    have := findL_none.1 h
    simp only [Option.isSome_none, Bool.false_eq_true, false_iff]
    rintro ⟨l, h1, s, h2, h3⟩
    exact this l h1 s h2 h3
  | some p =>
    obtain ⟨l, h1, h2⟩ := findL_some h
    obtain ⟨s, h3, h4⟩ := idxL_some h2
    simp only [Option.isSome_some, true_iff]
    exact ⟨l, List.mem_of_getElem? h1, s, List.mem_of_getElem? h3, h4⟩
theorem idxL_at : ∀ {l : List Stored} {i : Nat} {s : Stored}, (l.map Stored.Bag).Nodup → l[i]? = some s → idxL s.Bag l = some i
  | t :: l, 0, s, _, h => by
    simp at h
    subst h
    simp [idxL]
  | t :: l, i + 1, s, hn, h => by
    simp only [List.map_cons, List.nodup_cons] at hn
    have h' : l[i]? = some s := by simpa using h
    have hne : ¬ t.Bag = s.Bag := fun e => hn.1 (e ▸ List.mem_map_of_mem (List.mem_of_getElem? h'))
    simp only [idxL]
    rw [if_neg hne, idxL_at hn.2 h']
    rfl
theorem findL_at : ∀ {L : List (List Stored)} {n i : Nat} {l : List Stored} {s : Stored}, (bagsL L).Nodup → L[n]? = some l → l[i]? = some s → findL s.Bag L = some (n, i)
  | l0 :: L, 0, i, l, s, hn, h1, h2 => by
    simp at h1
    subst h1
    rw [bags_cons, List.nodup_append] at hn
    simp only [findL]
    rw [idxL_at hn.1 h2]
  | l0 :: L, n + 1, i, l, s, hn, h1, h2 => by
    have h1' : L[n]? = some l := by simpa using h1
    rw [bags_cons, List.nodup_append] at hn
    have hm : s.Bag ∈ bagsL L := mem_bags.2 ⟨l, List.mem_of_getElem? h1', s, List.mem_of_getElem? h2, rfl⟩
    have h0 : idxL s.Bag l0 = none := idxL_none.2 fun t ht e => hn.2.2 _ (List.mem_map_of_mem ht) _ hm e
    simp only [findL]
    rw [h0, findL_at hn.2.1 h1' h2]
    rfl
theorem set_bags : ∀ {L : List (List Stored)} {n : Nat} {l : List Stored} (l' : List Stored), L[n]? = some l → (l.map Stored.Bag ++ bagsL (L.set n l')).Perm (l'.map Stored.Bag ++ bagsL L)
  | l0 :: L, 0, l, l', h => by
    simp at h
    subst h
    rw [List.set_cons_zero, bags_cons, bags_cons, ← List.append_assoc, ← List.append_assoc]
    exact List.Perm.append_right _ (List.perm_append_comm)
  | l0 :: L, n + 1, l, l', h => by
    have h' : L[n]? = some l := by simpa using h
    rw [List.set_cons_succ, bags_cons, bags_cons]
    have e1 : (l.map Stored.Bag ++ (l0.map Stored.Bag ++ bagsL (L.set n l'))).Perm (l0.map Stored.Bag ++ (l.map Stored.Bag ++ bagsL (L.set n l'))) := by
      rw [← List.append_assoc, ← List.append_assoc]
      exact List.Perm.append_right _ List.perm_append_comm
    have e2 : (l'.map Stored.Bag ++ (l0.map Stored.Bag ++ bagsL L)).Perm (l0.map Stored.Bag ++ (l'.map Stored.Bag ++ bagsL L)) := by
      rw [← List.append_assoc, ← List.append_assoc]
      exact List.Perm.append_right _ List.perm_append_comm
    exact e1.trans ((List.Perm.append_left _ (set_bags l' h')).trans e2.symm)
theorem put_bags {L : List (List Stored)} {n : Nat} {l : List Stored} (s : Stored) (h : L[n]? = some l) : (bagsL (L.set n (l ++ [s]))).Perm (s.Bag :: bagsL L) := by
  have h1 := set_bags (l ++ [s]) h
  rw [List.map_append, List.append_assoc] at h1
  exact (List.perm_append_left_iff _).1 h1
theorem take_bags {L : List (List Stored)} {n i : Nat} {l : List Stored} {s : Stored} (h : L[n]? = some l) (hs : l[i]? = some s) : (s.Bag :: bagsL (L.set n (l.drop (i + 1) ++ l.take i))).Perm (bagsL L) := by
  have h1 := set_bags (l.drop (i + 1) ++ l.take i) h
  have h2 : (l.map Stored.Bag).Perm (s.Bag :: (l.drop (i + 1) ++ l.take i).map Stored.Bag) := by
    have e : l = l.take i ++ s :: l.drop (i + 1) := by
      rw [← drop_cons hs, List.take_append_drop]
    conv => lhs; rw [e]
    rw [List.map_append, List.map_append, List.map_cons]
    exact List.perm_middle.trans (List.Perm.cons _ List.perm_append_comm)
  have h3 := (List.Perm.append_right (bagsL (L.set n (l.drop (i + 1) ++ l.take i))) h2).symm.trans h1
  rw [List.cons_append] at h3
  have h4 : ((l.drop (i + 1) ++ l.take i).map Stored.Bag ++ (s.Bag :: bagsL (L.set n (l.drop (i + 1) ++ l.take i)))).Perm ((l.drop (i + 1) ++ l.take i).map Stored.Bag ++ bagsL L) := List.perm_middle.trans h3
  exact (List.perm_append_left_iff _).1 h4

theorem in_eq (x : Lanes) (b : Int) : ref17_In x b = some (decide (b ∈ bagsL x.L)) := by
  unfold ref17_In
  rw [rfind_eq]
  simp only [Option.bind_some]
  rw [fR_ge, find_bags]
theorem kin_L (b : Int) : ∀ (l : List Int) (k : Nat), keep_In_L1 b l k = some (if b ∈ l then .ret true else .brk ())
  | [], k => rfl
  | x :: l, k => by
    rw [keep_In_L1]
    by_cases h : x = b
    · subst h
      simp
    · rw [show (x == b) = false from by simpa using h, cond_false, kin_L b l (k + 1)]
      have : ¬ b = x := fun e => h e.symm
      simp [this]
theorem kin_eq (l : List Int) (b : Int) : keep_In l b = some (decide (b ∈ l)) := by
  unfold keep_In
  rw [kin_L]
  by_cases h : b ∈ l
  · simp [h, Ctl.fin]
  · simp [h, Ctl.fin]

/-- where no lane is found, all are full -/
theorem best_full {d due : Int} {L : List (List Stored)} : ∀ k, bestL d due L k < 0 → ∀ j < k, d ≤ ((laneF L (j : Int)).length : Int)
  | 0, _, j, hj => by omega
  | k + 1, h, j, hj => by
    rw [bestL] at h
    split at h
    · omega
    · rename_i c
      have hk : bestL d due L k < 0 := h
      by_cases e : j = k
      · subst e
        have : ¬ ((laneF L (j : Int)).length : Int) < d := fun h => c ⟨h, .inl hk⟩
        omega
      · exact best_full k hk j (by omega)

/-- the store of LanesKeeps with the bags 1 to i - 1 -/
structure KOk (x : Lanes) (i : Nat) : Prop where
  ok : LOk x
  d : x.Depth = 6
  n : x.L.length = 2
  nd : (bagsL x.L).Nodup
  mem : ∀ b : Int, b ∈ bagsL x.L ↔ 1 ≤ b ∧ b < i
  len : (bagsL x.L).length + 1 = i

theorem keeps_put {x : Lanes} {i : Nat} (h : KOk x i) (hi : i ≤ 10) {due : Int} (h0 : 0 ≤ due) (h1 : due ≤ 4) : (putR x ⟨(i : Int), due⟩).2.2 = 0 ∧ KOk (putR x ⟨(i : Int), due⟩).1 (i + 1) := by
  obtain ⟨ok, hd, hn, hnd, hm, hl⟩ := h
  have hb := bestL_in x.Depth due x.L x.L.length
  have hge : ¬ bestL x.Depth due x.L x.L.length < 0 := fun hlt => by
    have hf := best_full x.L.length hlt
    rw [hn] at hf
    have f0 := hf 0 (by omega)
    have f1 := hf 1 (by omega)
    rw [hd] at f0 f1
    obtain ⟨a, b, hab⟩ : ∃ a b, x.L = [a, b] := by
      match x.L, hn with
      | [a, b], _ => exact ⟨a, b, rfl⟩
    rw [hab] at f0 f1 hl
    simp only [bagsL, List.flatten_cons, List.flatten_nil, List.append_nil, List.length_map, List.length_append] at hl
    have g0 : laneF [a, b] ((0 : Nat) : Int) = a := rfl
    have g1 : laneF [a, b] ((1 : Nat) : Int) = b := rfl
    rw [g0] at f0
    rw [g1] at f1
    omega
  have hnone : ¬ (findL (i : Int) x.L).isSome = true := by
    rw [find_bags, decide_eq_true_eq, hm]
    omega
  have he : putR x ⟨(i : Int), due⟩ = (⟨x.Depth, x.L.set (bestL x.Depth due x.L x.L.length).toNat (laneF x.L (bestL x.Depth due x.L x.L.length) ++ [⟨(i : Int), due⟩])⟩, bestL x.Depth due x.L x.L.length, 0) := by
    unfold putR
    have h1i : 1 ≤ i := by omega
    have hc : ¬ ((i : Int) < 1 ∨ 40 < (i : Int) ∨ due < 0 ∨ 1048576 < due) := by omega
    exact (if_neg hc).trans ((if_neg hnone).trans (if_neg hge))
  have hok := put_ok ok ⟨(i : Int), due⟩ (by rw [he])
  rw [he] at hok ⊢
  have ha := lane_at (L := x.L) (i := bestL x.Depth due x.L x.L.length) (by omega) (by omega)
  have hp : (bagsL (x.L.set (bestL x.Depth due x.L x.L.length).toNat (laneF x.L (bestL x.Depth due x.L x.L.length) ++ [⟨(i : Int), due⟩]))).Perm ((i : Int) :: bagsL x.L) := put_bags ⟨(i : Int), due⟩ ha
  refine ⟨rfl, hok, hd, by simpa using hn, ?_, fun b => ?_, ?_⟩
  · exact hp.nodup_iff.2 (List.nodup_cons.2 ⟨fun hi' => by have : (i : Int) < i := ((hm _).1 hi').2
                                                           omega, hnd⟩)
  · rw [hp.mem_iff, List.mem_cons, hm]
    have : 1 ≤ i := by omega
    constructor
    · rintro (h | h) <;> omega
    · intro h
      by_cases e : b = (i : Int)
      · exact .inl e
      · exact .inr (by omega)
  · rw [hp.length_eq]
    simp
    omega

theorem keeps_L1 (r : Int × Src) (n : Nat) (hr : r.1 = n) (hn : n ≤ 10) : ∀ (fuel : Nat) (a : List Int) (at_ : Int) (x : Lanes) (i : Nat), i ≤ n + 1 → n + 1 - i < fuel → SrcOk ⟨a, at_⟩ → KOk x i →
    okP (law17_LanesKeeps_L1 r fuel a at_ x.Depth x.L (i : Int)) (ctlQ (fun _ => False) (fun z => KOk ⟨z.1, z.2⟩ (n + 1)))
  | 0, a, at_, x, i, _, h, _, _ => by omega
  | fuel + 1, a, at_, x, i, hi, hf, hs, hx => by
    rw [law17_LanesKeeps_L1, hr]
    refine okP_cond (fun h => ?_) (fun h => ?_)
    · have h := of_decide_eq_true h
      refine okP_bind (N_ok _ 5 hs (by omega) (by omega)) fun r9 h9 => ?_
      have hp := keeps_put hx (by omega) h9.1 (by have := h9.2.1; omega)
      have e := put_eq hx.ok ⟨(i : Int), r9.1⟩
      refine okP_bindE e ?_
      rw [hp.1]
      simp only [bne_self_eq_false, cond_false]
      rw [w64_id (by omega) (by omega), show (i : Int) + 1 = ((i + 1 : Nat) : Int) by omega]
      exact keeps_L1 r n hr hn fuel r9.2.L r9.2.At _ (i + 1) (by omega) (by omega) h9.2.2 hp.2
    · have h := of_decide_eq_false h
      obtain rfl : i = n + 1 := by omega
      exact okP_some hx

theorem keeps_L2 (r3 : Int × Src) (z : Int × List (List Stored)) (r13 : Int) (r14 : Lanes × List Int × Int) (n : Nat) (hr : r3.1 = n) (hn : n ≤ 10) (hz : ∀ b : Int, b ∈ bagsL z.2 ↔ 1 ≤ b ∧ b < ((n + 1 : Nat) : Int)) (hb : ∀ b : Int, 1 ≤ b → b ≤ n → b ≠ w64 (1 + r13) → b ∈ bagsL r14.1.L) :
    ∀ (fuel i : Nat), 1 ≤ i → i ≤ n + 1 → n + 1 - i < fuel → law17_LanesKeeps_L2 r3 z r13 r14 fuel (i : Int) = some (.brk ())
  | 0, i, _, _, h => by omega
  | fuel + 1, i, h1, hi, hf => by
    rw [law17_LanesKeeps_L2, hr]
    by_cases c : i ≤ n
    · rw [decide_eq_true (by omega), cond_true]
      have ih : law17_LanesKeeps_L2 r3 z r13 r14 fuel (w64 ((i : Int) + 1)) = some (.brk ()) := by
        rw [w64_id (by omega) (by omega), show (i : Int) + 1 = ((i + 1 : Nat) : Int) by omega]
        exact keeps_L2 r3 z r13 r14 n hr hn hz hb fuel (i + 1) (by omega) (by omega) (by omega)
      have hx : decide ((i : Int) ∈ bagsL z.2) = true := decide_eq_true ((hz _).2 ⟨by omega, by omega⟩)
      by_cases e : (i : Int) = w64 (1 + r13)
      · rw [show ((i : Int) != w64 (1 + r13)) = false from by simp [e], cond_false, kin_eq]
        simp only [Option.bind_some]
        cases decide ((i : Int) ∈ r14.2.1)
        · exact ih
        · rw [cond_true, in_eq, hx]; exact ih
      · rw [show ((i : Int) != w64 (1 + r13)) = true from by simp [e], cond_true, in_eq, decide_eq_true (hb _ (by omega) (by omega) e)]
        simp only [Option.bind_some, Bool.not_true, cond_false]
        rw [kin_eq]
        simp only [Option.bind_some]
        cases decide ((i : Int) ∈ r14.2.1)
        · exact ih
        · rw [cond_true, in_eq, hx]; exact ih
    · rw [decide_eq_false (by omega)]; rfl

theorem keeps_L3 (n : Nat) (B : List Stored) : ∀ (A : List Stored) (k : Nat) (x : Lanes), LOk x → (bagsL x.L).Nodup → x.L[n]? = some (A ++ B) → law17_LanesKeeps_L3 (A.map Stored.Bag) k x.Depth x.L = some (.brk ())
  | [], k, x, _, _, _ => rfl
  | s :: A, k, x, hx, hn, hl => by
    rw [List.map_cons, law17_LanesKeeps_L3]
    have he := take_eq hx s.Bag
    have hf : findL s.Bag x.L = some (n, 0) := findL_at hn hl (i := 0) rfl
    have ht : takeR x s.Bag = (⟨x.Depth, x.L.set n (A ++ B)⟩, [], 0) := by
      unfold takeR
      rw [hf]
      simp only [lane_get hl]
      simp
    have hok := take_ok hx s.Bag (by rw [ht])
    rw [he, ht]
    rw [ht] at hok
    simp only [Option.bind_some, bne_self_eq_false, cond_false, List.length_nil]
    have hp := take_bags (i := 0) (s := s) hl rfl
    have hd : (s :: A ++ B).drop (0 + 1) ++ (s :: A ++ B).take 0 = A ++ B := by simp
    rw [hd] at hp
    have hn2 := hp.nodup_iff.2 hn
    have hlt := (List.getElem?_eq_some_iff.1 hl).1
    refine (keeps_L3 n B A (k + 1) ⟨x.Depth, x.L.set n (A ++ B)⟩ hok (List.nodup_cons.1 hn2).2 ?_)
    simp only [List.getElem?_set_self hlt]

theorem keeps_ok (l : List Int) (bag : Int) : law17_LanesKeeps l bag = some true := by
  refine okP_eq ?_
  unfold law17_LanesKeeps
  refine okP_bind (New_ok l) fun r1 h1 => ?_
  rw [new_eq (by omega) (by omega) (by omega) (by omega)]
  simp only [Option.bind_some, bne_self_eq_false, cond_false]
  refine okP_bind (Range_ok r1 1 10 h1 (by omega) (by omega) (by omega)) fun r3 h3 => ?_
  have h31 := h3.1
  have h32 := h3.2.1
  have k0 : KOk ⟨6, List.replicate (2 : Int).toNat []⟩ 1 := by
    refine ⟨new_ok (by omega) (by omega) (by omega) (by omega), rfl, rfl, ?_, fun b => ?_, ?_⟩
    · exact List.nodup_nil
    · show b ∈ ([] : List Int) ↔ _
      simp
    · rfl
  refine okP_finB (keeps_L1 r3 r3.1.toNat (by omega) (by omega) 9223372036854775807 r3.2.L r3.2.At ⟨6, List.replicate (2 : Int).toNat []⟩ 1 (by omega) (by omega) h3.2.2 k0) fun z hz => ?_
  obtain ⟨zok, zd, zn, znd, zm, zl⟩ := hz
  rw [mod_eq _ _ (by omega) (by omega)]
  simp only [Option.bind_some]
  have m1 := Int.emod_nonneg bag (show r3.1 ≠ 0 by omega)
  have m2 := Int.emod_lt_of_pos bag (show 0 < r3.1 by omega)
  obtain ⟨m, hm⟩ : ∃ m, m = bag % r3.1 := ⟨_, rfl⟩
  rw [← hm] at m1 m2 ⊢
  have hw : w64 (1 + m) = 1 + m := w64_id (by omega) (by omega)
  have hbm : (1 + m) ∈ bagsL z.2 := (zm _).2 ⟨by omega, by omega⟩
  obtain ⟨la, hla, s, hs, hsb⟩ := mem_bags.1 hbm
  obtain ⟨n, hn⟩ := List.getElem?_of_mem hla
  obtain ⟨i, hi⟩ := List.getElem?_of_mem hs
  have hfind : findL (1 + m) z.2 = some (n, i) := by rw [← hsb]; exact findL_at znd hn hi
  rw [hw, take_eq zok]
  simp only [Option.bind_some]
  have ht : takeR ⟨z.1, z.2⟩ (1 + m) = (⟨z.1, z.2.set n (la.drop (i + 1) ++ la.take i)⟩, (la.take i).map Stored.Bag, 0) := by
    unfold takeR
    rw [hfind]
    simp only [lane_get hn]
  rw [ht]
  simp only [bne_self_eq_false, cond_false]
  have hp := take_bags (i := i) (s := s) hn hi
  have hnd2 := hp.nodup_iff.2 znd
  rw [hsb] at hp hnd2
  have hnot : ¬ (1 + m) ∈ bagsL (z.2.set n (la.drop (i + 1) ++ la.take i)) := (List.nodup_cons.1 hnd2).1
  rw [in_eq, decide_eq_false hnot]
  simp only [Option.bind_some, cond_false]
  have h2 := keeps_L2 r3 z m (⟨z.1, z.2.set n (la.drop (i + 1) ++ la.take i)⟩, (la.take i).map Stored.Bag, 0) r3.1.toNat (by omega) (by omega) zm (fun b b1 b2 b3 => by
    have hb : b ∈ bagsL z.2 := (zm _).2 ⟨b1, by omega⟩
    rw [← hp.mem_iff, List.mem_cons] at hb
    rcases hb with hb | hb
    · rw [hw] at b3; exact absurd hb b3
    · exact hb) 9223372036854775807 1 (by omega) (by omega) (by omega)
  rw [show ((1 : Nat) : Int) = 1 from rfl] at h2
  rw [h2]
  simp only [Ctl.fin]
  have hll := zok.l _ hla
  rw [apL_eq (by simp; omega)]
  simp only [List.nil_append, Option.bind_some]
  rw [apL_eq (by simp; omega)]
  simp only [Option.bind_some]
  have e : la = (la.take i ++ [s]) ++ la.drop (i + 1) := by
    rw [List.append_assoc, List.singleton_append, ← drop_cons hi, List.take_append_drop]
  have h3' := keeps_L3 n (la.drop (i + 1)) (la.take i ++ [s]) 0 ⟨z.1, z.2⟩ zok znd (by rw [← e]; exact hn)
  rw [List.map_append, List.map_cons, List.map_nil, hsb] at h3'
  rw [h3', awake17]
  exact okP_some rfl
end Go.Proofs.Ytkefkegknacpjaa.Ex
