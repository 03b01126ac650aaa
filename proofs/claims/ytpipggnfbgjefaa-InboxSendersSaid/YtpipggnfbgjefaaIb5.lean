/- The law InboxConflicts. -/
import Derived.Test.YtpipggnfbgjefaaIb4
namespace Go.Proofs.Ytpipggnfbgjefaa.Ex.Ib
open Go.RowKit Go.Proofs.Ytpipggnfbgjefaa.Ax
set_option linter.unusedVariables false
set_option linter.unusedSimpArgs false

theorem recv_val {x : Inbox} (hx : IOk x) {m : Message} (hm : Ig.Val m) : inbox_Receive x m = some (recvM x m) :=
  precv_eq x hx m (by rw [Mv.mval_eq m (Ig.val_msg hm)]; exact Ig.val_ok hm) ⟨by have := hm.onl; omega, by have := hm.lln; omega⟩ hm.num
theorem val_small {m : Message} (hm : Ig.Val m) : smallMs m := ⟨by have := hm.onl; omega, by have := hm.lln; omega⟩
theorem conf {m o : Message} (hm : Ig.Val m) (ho : Ig.Val o) (hp : o.Port = m.Port) (hn : o.Number = m.Number) (h2 : 2 ≤ m.Number) (h8 : m.Number ≤ 8) (hs : ref04_Same m o = some false) :
    ∃ y, inbox_Receive ⟨8, []⟩ m = some (y, [], 2, 0) ∧ inbox_Receive y o = some (y, [], 5, 0) ∧ inbox_Receive y m = some (y, [], 3, 0) := by
  have h0 : IOk ⟨8, []⟩ := inew_ok (by omega) (by omega)
  have e1 : recvM ⟨8, []⟩ m = (⟨8, [⟨m.Port, 1, [m]⟩]⟩, [], 2, 0) := by
    unfold recvM
    have g : getS ([] : List Sender) m.Port = newS m.Port := rfl
    have gn : (newS m.Port).Next = 1 := rfl
    have gh : (newS m.Port).Held = [] := rfl
    simp only [g, gn, gh, List.find?_nil]
    rw [if_neg (by omega), if_neg (by omega), if_neg (by simp)]
    have hi : insH m [] = [m] := rfl
    have hr : runL 1 [m] = 0 := by rw [runL, if_neg (by omega)]
    rw [hi, if_neg (by omega)]
    unfold relS
    rw [hr]
    rfl
  have hy : IOk ⟨8, [⟨m.Port, 1, [m]⟩]⟩ := by
    have := recv_ok h0 (val_small hm) hm.num (by rw [e1])
    rwa [e1] at this
  have key : ∀ q : Message, q.Port = m.Port → q.Number = m.Number → recvM ⟨8, [⟨m.Port, 1, [m]⟩]⟩ q = (⟨8, [⟨m.Port, 1, [m]⟩]⟩, [], if sameB m q = true then 3 else 5, 0) := by
    intro q q1 q2
    unfold recvM
    have g : getS ([⟨m.Port, 1, [m]⟩] : List Sender) q.Port = ⟨m.Port, 1, [m]⟩ := by
      unfold getS
      rw [q1, List.find?_cons_of_pos (by simp)]
      rfl
    simp only [g]
    rw [if_neg (by omega), if_neg (by omega), List.find?_cons_of_pos (by simpa using q2.symm)]
  refine ⟨⟨8, [⟨m.Port, 1, [m]⟩]⟩, by rw [recv_val h0 hm, e1], ?_, ?_⟩
  · rw [recv_val hy ho, key o hp hn]
    unfold sameB
    rw [hs]
    rfl
  · rw [recv_val hy hm, key m rfl rfl]
    unfold sameB
    rw [Ig.same_refl]
    rfl
theorem conf_ok (l : List Int) (k : Int) : law05_InboxConflicts l k = some true := by
  refine okP_eq ?_
  unfold law05_InboxConflicts
  refine okP_bind (New_ok l) fun r1 h1 => ?_
  rw [new_eq (by omega) (by omega)]
  simp only [Option.bind_some, bne_self_eq_false, cond_false]
  rw [mod_eq k 7 (by omega) (by omega)]
  simp only [Option.bind_some]
  have hk0 := Int.emod_nonneg k (show (7 : Int) ≠ 0 by omega)
  have hk1 := Int.emod_lt_of_pos k (show (0 : Int) < 7 by omega)
  generalize k % 7 = z at hk0 hk1
  rw [w64_id (z := 2 + z) (by omega) (by omega)]
  refine okP_bind (Ig.message_t r1 h1) fun r4 h4 => ?_
  obtain ⟨_, hg⟩ := h4
  have v := hg.val
  generalize r4.1 = m at hg v
  refine okP_cond (fun c => ?_) (fun c => ?_)
  · have c : m.Kind = 5 := by simpa using c
    rw [apL_eq (by have := hg.lst; simp; omega), Option.bind_some, List.nil_append]
    have vm : Ig.Val ⟨m.Kind, m.Do, m.Port, 2 + z, m.In, m.Out, m.Onward, m.First, m.Count, m.Load, m.Status, m.Sequence, m.Weight, m.Surname, m.Given, m.Exception, m.Node, m.List⟩ :=
      ⟨v.kind, by show 1 ≤ 2 + z ∧ 2 + z ≤ 9999; omega, v.port, v.out, v.inl, v.node, v.onw, v.onl, v.sur, v.giv, v.fst, v.bag, v.lst, v.lln, v.inc, v.zIn, v.zNode, v.zOut, v.zFst, v.zLst, v.zBag⟩
    have vo : ∀ t : List Int, (∀ x ∈ t, 1 ≤ x ∧ x ≤ 999) → t.length ≤ 40 → t.Pairwise (· < ·) → Ig.Val ⟨m.Kind, m.Do, m.Port, 2 + z, m.In, m.Out, m.Onward, m.First, m.Count, m.Load, m.Status, m.Sequence, m.Weight, m.Surname, m.Given, m.Exception, m.Node, t⟩ := fun t t1 t2 t3 =>
      ⟨v.kind, by show 1 ≤ 2 + z ∧ 2 + z ≤ 9999; omega, v.port, v.out, v.inl, v.node, v.onw, v.onl, v.sur, v.giv, v.fst, v.bag, t1, t2, t3, v.zIn, v.zNode, v.zOut, v.zFst, fun h => (h c).elim, v.zBag⟩
    have sm : ∀ t : List Int, t.length ≠ m.List.length → ref04_Same ⟨m.Kind, m.Do, m.Port, 2 + z, m.In, m.Out, m.Onward, m.First, m.Count, m.Load, m.Status, m.Sequence, m.Weight, m.Surname, m.Given, m.Exception, m.Node, m.List⟩ ⟨m.Kind, m.Do, m.Port, 2 + z, m.In, m.Out, m.Onward, m.First, m.Count, m.Load, m.Status, m.Sequence, m.Weight, m.Surname, m.Given, m.Exception, m.Node, t⟩ = some false := fun t ht => by
      unfold ref04_Same
      simp only [beq_self_eq_true, Bool.and_true, cond_true, Ig.legs_refl, Option.bind_some]
      unfold keep_Ints
      rw [show (((m.List.length : Int)) != (t.length : Int)) = true from by simp; omega]
      rfl
    refine okP_cond (fun d => ?_) (fun d => ?_)
    · have d : m.List.length = 0 := by simpa using d
      obtain ⟨y, y1, y2, y3⟩ := conf vm (vo [7] (by simp) (by simp) (by simp)) rfl rfl (by show 2 ≤ 2 + z; omega) (by show 2 + z ≤ 8; omega) (sm [7] (by simp [d]))
      rw [y1, Option.bind_some, y2, Option.bind_some, y3, Option.bind_some, awake05]
      simp only [beq_self_eq_true, cond_true, same_refl, Option.bind_some, List.length_nil]
      exact okP_some rfl
    · have d : m.List.length ≠ 0 := by
        intro e; rw [e] at d; exact absurd d (by decide)
      rw [slL_eq (by omega) (by omega) (by omega), Option.bind_some]
      have htl : (m.List.drop (1 : Int).toNat).take ((m.List.length : Int).toNat - (1 : Int).toNat) = m.List.tail := by
        rw [show (1 : Int).toNat = 1 from rfl, List.drop_one, List.take_of_length_le (by simp)]
      rw [htl]
      obtain ⟨y, y1, y2, y3⟩ := conf vm (vo m.List.tail (fun x hx => v.lst x (List.mem_of_mem_tail hx)) (by have := v.lln; simp; omega) (v.inc.sublist (List.tail_sublist _))) rfl rfl (by show 2 ≤ 2 + z; omega) (by show 2 + z ≤ 8; omega) (sm m.List.tail (by simp; omega))
      rw [y1, Option.bind_some, y2, Option.bind_some, y3, Option.bind_some, awake05]
      simp only [beq_self_eq_true, cond_true, same_refl, Option.bind_some, List.length_nil]
      exact okP_some rfl
  · have c : m.Kind ≠ 5 := by simpa using c
    have hc := hg.cnt c
    have hc0 := (v.fst c).2.1
    have et : m.Count.tmod 3 = m.Count % 3 := Int.tmod_eq_emod_of_nonneg (by omega)
    rw [et, w64_id (z := m.Count % 3 + 1) (by omega) (by omega)]
    have vm : Ig.Val ⟨m.Kind, m.Do, m.Port, 2 + z, m.In, m.Out, m.Onward, m.First, m.Count, m.Load, m.Status, m.Sequence, m.Weight, m.Surname, m.Given, m.Exception, m.Node, m.List⟩ :=
      ⟨v.kind, by show 1 ≤ 2 + z ∧ 2 + z ≤ 9999; omega, v.port, v.out, v.inl, v.node, v.onw, v.onl, v.sur, v.giv, v.fst, v.bag, v.lst, v.lln, v.inc, v.zIn, v.zNode, v.zOut, v.zFst, v.zLst, v.zBag⟩
    have vo : Ig.Val ⟨m.Kind, m.Do, m.Port, 2 + z, m.In, m.Out, m.Onward, m.First, m.Count % 3 + 1, m.Load, m.Status, m.Sequence, m.Weight, m.Surname, m.Given, m.Exception, m.Node, m.List⟩ :=
      ⟨v.kind, by show 1 ≤ 2 + z ∧ 2 + z ≤ 9999; omega, v.port, v.out, v.inl, v.node, v.onw, v.onl, v.sur, v.giv, fun h => ⟨(v.fst h).1, by show 1 ≤ m.Count % 3 + 1 ∧ m.Count % 3 + 1 ≤ 99; omega⟩, v.bag, v.lst, v.lln, v.inc, v.zIn, v.zNode, v.zOut, fun h => (c h).elim, v.zLst, v.zBag⟩
    have sm : ref04_Same ⟨m.Kind, m.Do, m.Port, 2 + z, m.In, m.Out, m.Onward, m.First, m.Count, m.Load, m.Status, m.Sequence, m.Weight, m.Surname, m.Given, m.Exception, m.Node, m.List⟩ ⟨m.Kind, m.Do, m.Port, 2 + z, m.In, m.Out, m.Onward, m.First, m.Count % 3 + 1, m.Load, m.Status, m.Sequence, m.Weight, m.Surname, m.Given, m.Exception, m.Node, m.List⟩ = some false := by
      unfold ref04_Same
      simp only [beq_self_eq_true, Bool.and_true, cond_true, Ig.legs_refl, Option.bind_some]
      rw [show (m.Count == m.Count % 3 + 1) = false from by simp; omega]
      rfl
    obtain ⟨y, y1, y2, y3⟩ := conf vm vo rfl rfl (by show 2 ≤ 2 + z; omega) (by show 2 + z ≤ 8; omega) sm
    rw [y1, Option.bind_some, y2, Option.bind_some, y3, Option.bind_some, awake05]
    simp only [beq_self_eq_true, cond_true, same_refl, Option.bind_some, List.length_nil]
    exact okP_some rfl
end Go.Proofs.Ytpipggnfbgjefaa.Ex.Ib
