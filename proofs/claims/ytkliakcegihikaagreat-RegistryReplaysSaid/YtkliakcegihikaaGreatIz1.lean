/- The law RegistryReplays: the inbox restores the order of the messages. -/
import Derived.Test.YtkliakcegihikaaGreatIc2
import Derived.Test.YtkliakcegihikaaGreatIh
import Derived.Test.YtkliakcegihikaaGreatRz3
namespace Go.Proofs.YtkliakcegihikaaGreat.Ex.Iz
open Go.RowKit Go.Proofs.YtkliakcegihikaaGreat.Ax Ib
set_option linter.unusedVariables false
set_option linter.unusedSimpArgs false

theorem new_eq {w : Int} (h1 : 1 ≤ w) (h2 : w ≤ 8) : inbox_New w = some (⟨w, []⟩, 0) := by
 unfold inbox_New
 rw [decide_eq_false (by omega), decide_eq_false (by omega)]
 rfl
theorem inew_ok {w : Int} (h1 : 1 ≤ w) (h2 : w ≤ 8) : IOk ⟨w, []⟩ := ⟨⟨h1, h2⟩, by simp, List.Pairwise.nil, by simp⟩
theorem val_small {m : Message} (hm : Ig.Val m) : smallMs m := ⟨by have := hm.onl; omega, by have := hm.lln; omega⟩
theorem recv_val {x : Inbox} (hx : IOk x) {m : Message} (hm : Ig.Val m) : inbox_Receive x m = some (recvM x m) :=
 precv_eq x hx m (by rw [Mv.mval_eq m (Ig.val_msg hm)]; exact Ig.val_ok hm) (val_small hm) hm.num
theorem msg_ok {m : Message} (h : Ig.Val m) : MsgOk m := by
 have := Ig.val_msg h
 exact ⟨this.s, this.g⟩

theorem sb_L (y : Bag) : ∀ (l : List Leg) (k : Nat), y.Onward.drop k = l → ref06_SameBag_L1 y l k = some (Ctl.brk ())
 | [], k, h => rfl
 | x :: l, k, h => by
  have hx : y.Onward[k]? = some x := by rw [← List.head?_drop, h]; rfl
  rw [ref06_SameBag_L1, ixL_at' k rfl hx, Option.bind_some]
  simp only [beq_self_eq_true, Bool.and_true, Bool.and_self, Bool.not_true, cond_false]
  exact sb_L y l (k + 1) (by rw [← List.drop_drop, h]; rfl)
theorem samebag_self (b : Bag) : ref06_SameBag b b = some true := by
 unfold ref06_SameBag
 have hL := sb_L b b.Onward 0 rfl
 simp only [beq_self_eq_true, bne_self_eq_false, Bool.and_true, Bool.and_self, Bool.not_true, cond_false, cond_true, fin_brkE hL]
theorem regSelf_L (y : Registry) : ∀ (l : List Bag) (k : Nat), y.L.drop k = l → ref06_Same_L1 y l k = some (Ctl.brk ())
 | [], k, h => rfl
 | x :: l, k, h => by
  have hx : y.L[k]? = some x := by rw [← List.head?_drop, h]; rfl
  rw [ref06_Same_L1, ixL_at' k rfl hx, Option.bind_some, samebag_self, Option.bind_some, Bool.not_true, cond_false]
  exact regSelf_L y l (k + 1) (by rw [← List.drop_drop, h]; rfl)
theorem regSelf (y : Registry) : ref06_Same y y = some true := by
 unfold ref06_Same
 rw [bne_self_eq_false, cond_false, fin_brkE (regSelf_L y y.L 0 rfl)]
/-- the registry after messages -/
def app1 (l : List Bag) (m : Message) : List Bag :=
 match ref06_Apply ⟨l⟩ m with
 | some r => if r.2 = 0 then r.1.L else l
 | none => l
def appL (l : List Bag) (ms : List Message) : List Bag := ms.foldl app1 l
theorem app1_ok {l : List Bag} {m : Message} (h : Ig.Val m) (hw : onwOk l) : ∃ r : Registry × Int, registry_Apply ⟨l⟩ m = some r ∧ ref06_Apply ⟨l⟩ m = some r ∧ app1 l m = (if r.2 = 0 then r.1.L else l) ∧ onwOk (app1 l m) := by
 obtain ⟨r, r1, r2, _, r4⟩ := apply_eq l m (msg_ok h) hw
 have e : app1 l m = (if r.2 = 0 then r.1.L else l) := by unfold app1; rw [r2]
 refine ⟨r, r1, r2, e, ?_⟩
 rw [e]
 by_cases c : r.2 = 0
 ·
  rw [if_pos c]; exact (r4 c).2.2.2.1
 ·
  rw [if_neg c]; exact hw
/-- the messages that were sent -/
structure Sent (l : List Message) : Prop where
 val : ∀ m ∈ l, Ig.Val m
 num : ∀ (k : Nat) (m : Message), l[k]? = some m → m.Number = (k : Int) + 1
 port : ∀ m ∈ l, m.Port = Ig.arn
theorem sent_L1 : ∀ (n : Nat) (s : Src) (l : List Message) (a : List Bag) (i : Int), SrcOk s → Sent l → a = appL [] l → onwOk a → (l.length : Int) = i - 1 → 1 ≤ i → i ≤ 9 → 9 - i < n →
  okP (law06_RegistryReplays_L1 n s.L s.At l a i) (ctlQ (fun _ => False) (fun z => Sent z.1 ∧ z.1.length = 8 ∧ z.2 = appL [] z.1))
 | 0, s, l, a, i, _, _, _, _, _, _, _, h => by omega
 | n + 1, s, l, a, i, hs, hl, ha, hw, hn, h0, h1, h2 => by
  rw [law06_RegistryReplays_L1]
  refine okP_cond (fun c => ?_) (fun c => okP_some ⟨hl, ?_, ha⟩)
  ·
   have c := of_decide_eq_true c
   refine okP_bind (Ig.message_t s hs) (fun r hr => ?_)
   obtain ⟨hr1, hg⟩ := hr
   have v := hg.val
   have vm : Ig.Val ⟨r.1.Kind, r.1.Do, Ig.arn, i, r.1.In, r.1.Out, r.1.Onward, r.1.First, r.1.Count, r.1.Load, r.1.Status, r.1.Sequence, r.1.Weight, r.1.Surname, r.1.Given, r.1.Exception, r.1.Node, r.1.List⟩ :=
    ⟨v.kind, by show 1 ≤ i ∧ i ≤ 9999; omega, Ig.portV (.inl rfl), v.out, v.inl, v.node, v.onw, v.onl, v.sur, v.giv, v.fst, v.bag, v.lst, v.lln, v.inc, v.zIn, v.zNode, v.zOut, v.zFst, v.zLst, v.zBag⟩
   have vp : (⟨r.1.Kind, r.1.Do, Ig.arn, i, r.1.In, r.1.Out, r.1.Onward, r.1.First, r.1.Count, r.1.Load, r.1.Status, r.1.Sequence, r.1.Weight, r.1.Surname, r.1.Given, r.1.Exception, r.1.Node, r.1.List⟩ : Message).Number = i ∧ (⟨r.1.Kind, r.1.Do, Ig.arn, i, r.1.In, r.1.Out, r.1.Onward, r.1.First, r.1.Count, r.1.Load, r.1.Status, r.1.Sequence, r.1.Weight, r.1.Surname, r.1.Given, r.1.Exception, r.1.Node, r.1.List⟩ : Message).Port = Ig.arn := ⟨rfl, rfl⟩
   show okP ((apL l [(⟨r.1.Kind, r.1.Do, Ig.arn, i, r.1.In, r.1.Out, r.1.Onward, r.1.First, r.1.Count, r.1.Load, r.1.Status, r.1.Sequence, r.1.Weight, r.1.Surname, r.1.Given, r.1.Exception, r.1.Node, r.1.List⟩ : Message)]).bind fun l_8 => (ref06_Apply ⟨a⟩ (⟨r.1.Kind, r.1.Do, Ig.arn, i, r.1.In, r.1.Out, r.1.Onward, r.1.First, r.1.Count, r.1.Load, r.1.Status, r.1.Sequence, r.1.Weight, r.1.Surname, r.1.Given, r.1.Exception, r.1.Node, r.1.List⟩ : Message)).bind _) _
   generalize (⟨r.1.Kind, r.1.Do, Ig.arn, i, r.1.In, r.1.Out, r.1.Onward, r.1.First, r.1.Count, r.1.Load, r.1.Status, r.1.Sequence, r.1.Weight, r.1.Surname, r.1.Given, r.1.Exception, r.1.Node, r.1.List⟩ : Message) = m at vm vp
   rw [apL_eq (by simp; omega), Option.bind_some]
   obtain ⟨b, b1, b2, b3, b4⟩ := app1_ok vm hw
   rw [b2, Option.bind_some, w64_id (by omega) (by omega)]
   have hsn : Sent (l ++ [m]) := ⟨fun x hx => by
     rcases List.mem_append.1 hx with hx | hx
     ·
      exact hl.val x hx
     ·
      have : x = m := by simpa using hx
      rw [this]; exact vm, fun k x hx => by
     by_cases q : k < l.length
     ·
      rw [List.getElem?_append_left q] at hx
      exact hl.num k x hx
     ·
      rw [List.getElem?_append_right (by omega)] at hx
      have q2 : k - l.length = 0 := by have := (List.getElem?_eq_some_iff.1 hx).1; simp at this; omega
      rw [q2] at hx
      have : m = x := by simpa using hx
      rw [← this, vp.1]; omega, fun x hx => by
     rcases List.mem_append.1 hx with hx | hx
     ·
      exact hl.port x hx
     ·
      have : x = m := by simpa using hx
      rw [this]; exact vp.2⟩
   have ha2 : app1 a m = appL [] (l ++ [m]) := by unfold appL; rw [List.foldl_append, List.foldl_cons, List.foldl_nil, ha]; rfl
   refine okP_cond (fun d => ?_) (fun d => ?_)
   ·
    have d : b.2 = 0 := by simpa using d
    rw [if_pos d] at b3
    rw [← b3]
    exact sent_L1 n r.2 (l ++ [m]) (app1 a m) (i + 1) hr1 hsn ha2 b4 (by simp; omega) (by omega) (by omega) (by omega)
   ·
    have d : b.2 ≠ 0 := by simpa using d
    rw [if_neg d] at b3
    rw [b3] at ha2 b4
    exact sent_L1 n r.2 (l ++ [m]) a (i + 1) hr1 hsn ha2 b4 (by simp; omega) (by omega) (by omega) (by omega)
  ·
   have c := of_decide_eq_false c
   show l.length = 8
   omega
theorem app_L3 : ∀ (ms : List Message) (k : Nat) (a : List Bag) (i : Int), (∀ m ∈ ms, Ig.Val m) → onwOk a → 0 ≤ i → i + ms.length ≤ 1000 →
  law06_RegistryReplays_L3 ms k a i = some (.brk (appL a ms, i + (ms.length : Int))) ∧ onwOk (appL a ms)
 | [], k, a, i, _, h, _, _ => ⟨by simp [law06_RegistryReplays_L3, appL], h⟩
 | m :: ms, k, a, i, hv, hw, h0, h1 => by
  simp only [List.length_cons] at h1
  obtain ⟨b, b1, b2, b3, b4⟩ := app1_ok (hv m (by simp)) hw
  have ih := app_L3 ms (k + 1) (app1 a m) (i + 1) (fun x hx => hv x (by simp [hx])) b4 (by omega) (by omega)
  have e : appL a (m :: ms) = appL (app1 a m) ms := rfl
  rw [e]
  refine ⟨?_, ih.2⟩
  rw [law06_RegistryReplays_L3, b1, Option.bind_some, w64_id (by omega) (by omega)]
  have tail : law06_RegistryReplays_L3 ms (k + 1) (app1 a m) (i + 1) = some (.brk (appL (app1 a m) ms, i + ((m :: ms).length : Int))) := by
   rw [ih.1]
   congr 3
   simp only [List.length_cons]
   omega
  by_cases d : b.2 = 0
  ·
   rw [show (b.2 == 0) = true from by simpa using d, cond_true]
   rw [if_pos d] at b3
   rw [← b3]
   exact tail
  ·
   rw [show (b.2 == 0) = false from by simpa using d, cond_false]
   rw [if_neg d] at b3
   rw [b3] at tail ⊢
   exact tail

theorem run_top : ∀ (H : List Message) (n t : Int), (∀ h ∈ H, h.Number ≤ t) → n ≤ t + 1 → n + (runL n H : Int) ≤ t + 1
 | [], n, t, _, h => by simp [runL]; omega
 | x :: r, n, t, hs, h => by
  rw [runL]
  by_cases c : x.Number = n
  ·
   rw [if_pos c]
   have := hs x (by simp)
   have := run_top r (n + 1) t (fun y hy => hs y (by simp [hy])) (by omega)
   omega
  ·
   rw [if_neg c]; simp; omega
/-- what goes out are the next messages -/
theorem run_sent {l : List Message} (hl : Sent l) : ∀ (H : List Message) (n : Nat), (∀ h ∈ H, h ∈ l) → 1 ≤ n → H.take (runL (n : Int) H) = (l.drop (n - 1)).take (runL (n : Int) H)
 | [], n, _, _ => by simp [runL]
 | h :: t, n, hm, hn => by
  rw [runL]
  by_cases c : h.Number = (n : Int)
  ·
   rw [if_pos c]
   obtain ⟨k, hk⟩ := List.getElem?_of_mem (hm h (by simp))
   have := hl.num k h hk
   have hkn : k = n - 1 := by omega
   subst hkn
   rw [drop_cons hk, List.take_succ_cons, List.take_succ_cons]
   have e : ((n : Int) + 1) = ((n + 1 : Nat) : Int) := by omega
   rw [e]
   have := run_sent hl t (n + 1) (fun x hx => hm x (by simp [hx])) (by omega)
   rw [this]
   congr 2
   congr 1
   omega
  ·
   rw [if_neg c]; simp
end Go.Proofs.YtkliakcegihikaaGreat.Ex.Iz
