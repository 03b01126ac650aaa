/- Messages that are drawn (keep.Src.Message) are valid. -/
import Derived.Test.YtkliakcegihikaaGreatMv
import Derived.Test.YtkliakcegihikaaGreatKp
namespace Go.Proofs.YtkliakcegihikaaGreat.Ex.Ig
open Go.RowKit Go.Proofs.YtkliakcegihikaaGreat.Ax
set_option linter.unusedVariables false
set_option linter.unusedSimpArgs false

theorem bytes_data (l : List Int) : ∀ s : ByteArray, (l.foldl (fun r n => r.push (UInt8.ofNat n.toNat)) s).data.toList = s.data.toList ++ l.map (fun n => UInt8.ofNat n.toNat) := by
 induction l with
 | nil => intro s; simp
 | cons x l ih =>
  intro s
  rw [List.foldl_cons, ih]
  show (s.data.push _).toList ++ _ = _
  simp
theorem byL_bytes (l : List Int) : Mv.byL (bytesF l) = l.map (fun n => ((UInt8.ofNat n.toNat).toNat : Int)) := by
 unfold Mv.byL bytesF
 rw [bytes_data]
 simp [List.map_map, Function.comp_def]
theorem bytes_size (l : List Int) : (bytesF l).size = l.length := by
 rw [← Mv.byL_len, byL_bytes, List.length_map]
theorem bytes_all {l : List Int} (h : ∀ x ∈ l, Mv.isL x) : Mv.allL (bytesF l) := by
 unfold Mv.allL
 rw [byL_bytes]
 intro b hb
 obtain ⟨x, hx, rfl⟩ := List.mem_map.1 hb
 have h1 := h x hx
 unfold Mv.isL at h1 ⊢
 have : (UInt8.ofNat x.toNat).toNat = x.toNat := by
  show x.toNat % 256 = x.toNat
  omega
 rw [this]
 omega

theorem lettersL_t : ∀ (n : Nat) (s : Src) (l : List Int) (i : Int), SrcOk s → l.length ≤ 1000 → 0 ≤ i → i ≤ l.length → (l.length : Int) - i < n → (∀ k : Nat, (k : Int) < i → ∀ x, l[k]? = some x → Mv.isL x) →
  okP (keep_Src_Letters_L1 n s.L s.At l i) (ctlQ (fun _ => False) (fun z => SrcOk ⟨z.1, z.2.1⟩ ∧ z.2.2.length = l.length ∧ ∀ x ∈ z.2.2, Mv.isL x))
 | 0, s, l, i, hs, hl, h0, h1, h2, hi => by omega
 | n + 1, s, l, i, hs, hl, h0, h1, h2, hi => by
  rw [keep_Src_Letters_L1]
  refine okP_cond (fun h => ?_) (fun h => okP_some ⟨hs, rfl, fun x hx => ?_⟩)
  ·
   have h := of_decide_eq_true h
   refine okP_bind (N_ok s 26 hs (by decide) (by decide)) (fun r ⟨r1, r2, r3⟩ => ?_)
   refine okP_bind (okP_ixL (Q := fun _ => True) h0 h (fun _ _ _ => trivial)) (fun _ _ => ?_)
   rw [w64_id (z := i + 1) (by omega) (by omega)]
   have e : IntKind.u8.wrap (w64 (65 + r.1)) = 65 + r.1 := by
    rw [w64_id (z := 65 + r.1) (by omega) (by omega)]
    unfold IntKind.wrap
    simp only [IntKind.bits, IntKind.signed]
    first
     | omega
     | (simp; omega)
   have ih := lettersL_t n r.2 (l.set i.toNat (IntKind.u8.wrap (w64 (65 + r.1)))) (i + 1) r3 (by simpa using hl) (by omega) (by simp; omega) (by simp; omega) (fun k hk x hx => by
    by_cases c : k = i.toNat
    ·
     subst c
     rw [List.getElem?_set_self (by omega)] at hx
     cases hx
     rw [e]
     unfold Mv.isL
     omega
    ·
     rw [List.getElem?_set_ne (fun e => c e.symm)] at hx
     exact hi k (by omega) x hx)
   rw [List.length_set] at ih
   exact ih
  ·
   have h := of_decide_eq_false h
   obtain ⟨k, hk⟩ := List.getElem?_of_mem hx
   have : k < l.length := (List.getElem?_eq_some_iff.1 hk).1
   exact hi k (by omega) x hk
/-- drawn letters -/
theorem letters_gen (s : Src) (lo hi : Int) (hs : SrcOk s) (h0 : 0 ≤ lo) (h1 : lo ≤ hi) (h2 : hi ≤ 1000) : okP (keep_Src_Letters s lo hi) (fun r => SrcOk r.2 ∧ lo ≤ (r.1.size : Int) ∧ (r.1.size : Int) ≤ hi ∧ Mv.allL r.1) := by
 unfold keep_Src_Letters
 refine okP_bind (Range_ok s lo hi hs h1 (by omega) (by omega)) (fun r ⟨r1, r2, r3⟩ => ?_)
 rw [mkL_eq (by omega) (by omega), Option.bind_some]
 refine okP_finB (lettersL_t 9223372036854775807 r.2 (List.replicate r.1.toNat 0) 0 r3 (by simp; omega) (by omega) (by rw [List.length_replicate]; omega) (by rw [List.length_replicate]; omega) (fun k hk => by omega)) (fun z ⟨z1, z2, z3⟩ => okP_some ⟨z1, ?_, ?_, bytes_all z3⟩)
 ·
  show lo ≤ ((bytesF _).size : Int)
  rw [bytes_size, z2, List.length_replicate]
  omega
 ·
  show ((bytesF _).size : Int) ≤ hi
  rw [bytes_size, z2, List.length_replicate]
  omega
theorem anyPlate_t (s : Src) (hs : SrcOk s) : okP (keep_Src_AnyPlate s) (fun r => SrcOk r.2 ∧ ref01_Valid r.1 = some true) := by
 unfold keep_Src_AnyPlate
 refine okP_bind (N_ok s 2 hs (by decide) (by decide)) (fun r hr => okP_bind (N_ok _ 2 hr.2.2 (by decide) (by decide)) (fun r2 hr2 => ?_))
 refine okP_bind (Pick_ok _ _ hr2.2.2 (by decide) (by decide)) (fun r3 hr3 => okP_some ⟨hr3.2, ?_⟩)
 rw [Mv.refvalid_eq, w64_id (by omega) (by omega)]
 have h3 : 0 ≤ r3.1 ∧ r3.1 ≤ 999999 := by
  have := hr3.1
  simp only [List.mem_cons, List.not_mem_nil, or_false] at this
  omega
 congr 1
 exact decide_eq_true ⟨by show 0 ≤ r.1; omega, by show r.1 ≤ 9; omega, by show 1 ≤ 117 + r2.1; omega, by show 117 + r2.1 ≤ 999; omega, h3⟩
theorem carriers : ∀ s ∈ ([(⟨#[83, 75]⟩ : ByteArray), (⟨#[65, 89]⟩ : ByteArray), (⟨#[52, 85]⟩ : ByteArray)] : List ByteArray), ref02_Carrier s = some true := by
 intro s hs
 simp only [List.mem_cons, List.not_mem_nil, or_false] at hs
 rcases hs with rfl | rfl | rfl <;> kernel_rfl
theorem suffixes : ∀ s ∈ ([(⟨#[]⟩ : ByteArray), (⟨#[]⟩ : ByteArray), (⟨#[65]⟩ : ByteArray)] : List ByteArray), ref02_Suffix s = some true := by
 intro s hs
 simp only [List.mem_cons, List.not_mem_nil, or_false] at hs
 rcases hs with rfl | rfl | rfl <;> kernel_rfl
theorem ports : ∀ s ∈ ([(⟨#[67, 80, 72]⟩ : ByteArray), (⟨#[65, 82, 78]⟩ : ByteArray), (⟨#[79, 83, 76]⟩ : ByteArray)] : List ByteArray), ref02_ValidPort s = some true := by
 intro s hs
 simp only [List.mem_cons, List.not_mem_nil, or_false] at hs
 rcases hs with rfl | rfl | rfl <;> kernel_rfl
theorem classes : ∀ s ∈ ([(⟨#[89]⟩ : ByteArray), (⟨#[67]⟩ : ByteArray), (⟨#[70]⟩ : ByteArray)] : List ByteArray), ref02_ValidClass s = some true := by
 intro s hs
 simp only [List.mem_cons, List.not_mem_nil, or_false] at hs
 rcases hs with rfl | rfl | rfl <;> kernel_rfl
theorem anyFlight_t (s : Src) (hs : SrcOk s) : okP (keep_Src_AnyFlight s) (fun r => SrcOk r.2 ∧ ref02_Valid r.1 = some true) := by
 unfold keep_Src_AnyFlight
 refine okP_bind (Text_ok s _ hs (by decide) (by decide)) (fun r hr => okP_bind (Pick_ok _ _ hr.2 (by decide) (by decide)) (fun r2 hr2 => ?_))
 refine okP_bind (Text_ok _ _ hr2.2 (by decide) (by decide)) (fun r3 hr3 => okP_bind (Pick_ok _ _ hr3.2 (by decide) (by decide)) (fun r4 hr4 => okP_some ⟨hr4.2, ?_⟩))
 have h2 : 1 ≤ r2.1 ∧ r2.1 ≤ 9999 := by have := hr2.1; simp only [List.mem_cons, List.not_mem_nil, or_false] at this; omega
 have h4 : 0 ≤ r4.1 ∧ r4.1 ≤ 99 := by have := hr4.1; simp only [List.mem_cons, List.not_mem_nil, or_false] at this; omega
 unfold ref02_Valid
 simp only [carriers _ hr.1, suffixes _ hr3.1, Option.bind_some, cond_true, decide_eq_true h2.1, decide_eq_true h2.2, decide_eq_true h4.1, decide_eq_true h4.2]
theorem legG_t (s : Src) (hs : SrcOk s) : okP (keep_Src_Leg s) (fun r => SrcOk r.2 ∧ ref02_ValidLeg r.1 = some true) := by
 unfold keep_Src_Leg
 refine okP_bind (anyFlight_t s hs) (fun r hr => okP_bind (Text_ok _ _ hr.1 (by decide) (by decide)) (fun r2 hr2 => ?_))
 refine okP_bind (Text_ok _ _ hr2.2 (by decide) (by decide)) (fun r3 hr3 => okP_some ⟨hr3.2, ?_⟩)
 unfold ref02_ValidLeg
 simp only [hr.2, ports _ hr2.1, classes _ hr3.1, Option.bind_some, cond_true]

/-! a message is the same as itself -/
theorem legs_refl (x : List Leg) : ref04_legs x x = some true := by
 have key : ∀ (l pre : List Leg), x = pre ++ l → ref04_legs_L1 x l pre.length = some (.brk ()) := by
  intro l
  induction l with
  | nil => intro pre _; rfl
  | cons e l ih =>
   intro pre h
   rw [ref04_legs_L1, ixL_at' pre.length rfl (show x[pre.length]? = some e by rw [h]; simp)]
   simp only [Option.bind_some, beq_self_eq_true, Bool.and_true, Bool.not_true, bne_self_eq_false, cond_false]
   have := ih (pre ++ [e]) (by rw [h]; simp)
   rw [List.length_append] at this
   exact this
 unfold ref04_legs
 simp only [bne_self_eq_false, cond_false]
 exact fin_brkE (key x [] rfl)
theorem ints_refl (x : List Int) : keep_Ints x x = some true := by
 have key : ∀ (l pre : List Int), x = pre ++ l → keep_Ints_L1 x l pre.length = some (.brk ()) := by
  intro l
  induction l with
  | nil => intro pre _; rfl
  | cons e l ih =>
   intro pre h
   rw [keep_Ints_L1, ixL_at' pre.length rfl (show x[pre.length]? = some e by rw [h]; simp)]
   simp only [Option.bind_some, bne_self_eq_false, cond_false]
   have := ih (pre ++ [e]) (by rw [h]; simp)
   rw [List.length_append] at this
   exact this
 unfold keep_Ints
 simp only [bne_self_eq_false, cond_false]
 exact fin_brkE (key x [] rfl)
theorem same_refl (m : Message) : ref04_Same m m = some true := by
 unfold ref04_Same
 simp only [beq_self_eq_true, Bool.and_true, cond_true, legs_refl, ints_refl, Option.bind_some]

theorem name_ok {s : ByteArray} (h : Mv.allL s) (h1 : 1 ≤ (s.size : Int)) (h2 : (s.size : Int) ≤ 12) : ref04_Name s = some true := by
 have loop : ∀ (n k : Nat), k ≤ s.size → s.size < n + k → ref04_Name_L1 s n (k : Int) = some (.brk ()) := by
  intro n
  induction n with
  | zero => intro k h1 h2; omega
  | succ n ih =>
   intro k hk hn
   rw [ref04_Name_L1]
   by_cases c : k < s.size
   ·
    obtain ⟨x, hx, hm⟩ := Mv.by_at s c
    rw [decide_eq_true (by omega), cond_true, Mv.ixS_by s k hx rfl]
    simp only [Option.bind_some, Mv.rl_eq, decide_eq_true (h x hm), Bool.not_true, cond_false]
    rw [w64_id (by omega) (by omega), show (k : Int) + 1 = ((k + 1 : Nat) : Int) by omega]
    exact ih (k + 1) (by omega) (by omega)
   ·
    rw [decide_eq_false (by omega), cond_false]
 obtain ⟨x, hx, hm⟩ := Mv.by_at s (k := 0) (by omega)
 unfold ref04_Name
 rw [decide_eq_false (by omega), cond_false, decide_eq_false (by omega), cond_false, show ixS s (0 : Int) = some x from Mv.ixS_by s 0 hx rfl]
 simp only [Option.bind_some, Mv.rl_eq, decide_eq_true (h x hm), Bool.not_true, cond_false]
 rw [show (0 : Int) = ((0 : Nat) : Int) from rfl, fin_brkE (loop 9223372036854775807 0 (by omega) (by omega))]

def zLeg : Leg := ⟨⟨⟨#[]⟩, 0, ⟨#[]⟩, 0⟩, ⟨#[]⟩, ⟨#[]⟩⟩
def isBag (m : Message) : Prop := m.Kind = 1 ∨ m.Kind = 2
/-- a valid message -/
structure Val (m : Message) : Prop where
 kind : 1 ≤ m.Kind ∧ m.Kind ≤ 5
 num : 1 ≤ m.Number ∧ m.Number ≤ 9999
 port : ref02_ValidPort m.Port = some true
 out : m.Kind ≠ 3 → ref02_ValidLeg m.Out = some true
 inl : m.Kind = 2 → ref02_ValidLeg m.In = some true
 node : m.Kind = 3 → ref04_Name m.Node = some true
 onw : ∀ g ∈ m.Onward, ref02_ValidLeg g = some true
 onl : m.Onward.length ≤ 3
 sur : isBag m → 1 ≤ (m.Surname.size : Int) ∧ (m.Surname.size : Int) ≤ 20 ∧ Mv.allL m.Surname
 giv : isBag m → (m.Given.size : Int) ≤ 20 ∧ Mv.allL m.Given
 fst : m.Kind ≠ 5 → ref01_Valid m.First = some true ∧ 1 ≤ m.Count ∧ m.Count ≤ 99
 bag : isBag m → (0 ≤ m.Do ∧ m.Do ≤ 2) ∧ (1 ≤ m.Status ∧ m.Status ≤ 4) ∧ (1 ≤ m.Sequence ∧ m.Sequence ≤ 999) ∧ (0 ≤ m.Weight ∧ m.Weight ≤ 999) ∧ (0 ≤ m.Exception ∧ m.Exception ≤ 3)
 lst : ∀ x ∈ m.List, 1 ≤ x ∧ x ≤ 999
 lln : m.List.length ≤ 40
 inc : m.List.Pairwise (· < ·)
 zIn : m.Kind ≠ 2 → m.In = zLeg
 zNode : m.Kind ≠ 3 → m.Node = ⟨#[]⟩
 zOut : m.Kind = 3 → m.Out = zLeg
 zFst : m.Kind = 5 → m.First = ⟨0, 0, 0⟩ ∧ m.Count = 0
 zLst : m.Kind ≠ 5 → m.List = []
 zBag : ¬ isBag m → m.Do = 0 ∧ m.Onward = [] ∧ m.Load = false ∧ m.Status = 0 ∧ m.Sequence = 0 ∧ m.Weight = 0 ∧ m.Surname = ⟨#[]⟩ ∧ m.Given = ⟨#[]⟩ ∧ m.Exception = 0
theorem val_own {m : Message} (h : Val m) : ref04_own m = some m := by
 obtain ⟨kind, num, port, out, inl, node, onw, onl, sur, giv, fst, bag, lst, lln, inc, zIn, zNode, zOut, zFst, zLst, zBag⟩ := h
 clear num port out inl node onw onl sur giv fst bag lst lln inc
 obtain ⟨a1, a2, a3, a4, a5, a6, a7, a8, a9, a10, a11, a12, a13, a14, a15, a16, a17, a18⟩ := m
 simp only [isBag, zLeg] at kind zIn zNode zOut zFst zLst zBag
 have hk : a1 = 1 ∨ a1 = 2 ∨ a1 = 3 ∨ a1 = 4 ∨ a1 = 5 := by omega
 unfold ref04_own
 simp only [Mv.bag_eq, Option.bind_some]
 rcases hk with h | h | h | h | h <;> subst h
 ·
  have q1 := zIn (by decide)
  have q2 := zNode (by decide)
  have q3 := zLst (by decide)
  subst q1 q2 q3
  rfl
 ·
  have q2 := zNode (by decide)
  have q3 := zLst (by decide)
  subst q2 q3
  rfl
 ·
  have q1 := zIn (by decide)
  have q2 := zOut rfl
  have q3 := zLst (by decide)
  obtain ⟨q4, q5, q6, q7, q8, q9, q10, q11, q12⟩ := zBag (by decide)
  subst q1 q2 q3 q4 q5 q6 q7 q8 q9 q10 q11 q12
  rfl
 ·
  have q1 := zIn (by decide)
  have q2 := zNode (by decide)
  have q3 := zLst (by decide)
  obtain ⟨q4, q5, q6, q7, q8, q9, q10, q11, q12⟩ := zBag (by decide)
  subst q1 q2 q3 q4 q5 q6 q7 q8 q9 q10 q11 q12
  rfl
 ·
  have q1 := zIn (by decide)
  have q2 := zNode (by decide)
  obtain ⟨q3, q13⟩ := zFst rfl
  obtain ⟨q4, q5, q6, q7, q8, q9, q10, q11, q12⟩ := zBag (by decide)
  subst q1 q2 q3 q4 q5 q6 q7 q8 q9 q10 q11 q12 q13
  rfl
theorem spelledL_ok : ∀ (l : List Leg) (k : Nat), (∀ g ∈ l, ref02_ValidLeg g = some true) → ref04_spelled_L1 l k = some (.brk ())
 | [], k, _ => rfl
 | g :: l, k, h => by
  rw [ref04_spelled_L1, h g (by simp)]
  simp only [Option.bind_some, Bool.not_true, cond_false]
  exact spelledL_ok l (k + 1) (fun x hx => h x (by simp [hx]))
theorem val_spelled {m : Message} (h : Val m) : ref04_spelled m = some true := by
 have hL := spelledL_ok m.Onward 0 h.onw
 have hs : isBag m → ref04_letters m.Surname 1 = some true ∧ ref04_letters m.Given 0 = some true := fun hb => by
  have h1 := h.sur hb
  have h2 := h.giv hb
  rw [Mv.rLetters _ (by omega), Mv.rLetters _ (by omega)]
  exact ⟨by rw [decide_eq_true ⟨h1.1, h1.2.1, h1.2.2⟩], by rw [decide_eq_true ⟨by omega, h2.1, h2.2⟩]⟩
 have k0 := h.kind
 have hk : m.Kind = 1 ∨ m.Kind = 2 ∨ m.Kind = 3 ∨ m.Kind = 4 ∨ m.Kind = 5 := by omega
 unfold ref04_spelled
 simp only [h.port, Option.bind_some, Bool.not_true, cond_false, hL, Ctl.fin, Mv.bag_eq]
 rcases hk with e | e | e | e | e
 ·
  have q1 := h.out (by omega)
  have q2 := hs (.inl e)
  simp [e, q1, q2]
 ·
  have q1 := h.out (by omega)
  have q2 := hs (.inr e)
  have q3 := h.inl e
  simp [e, q1, q2, q3]
 ·
  have q3 := h.node e
  simp [e, q3]
 ·
  have q1 := h.out (by omega)
  simp [e, q1]
 ·
  have q1 := h.out (by omega)
  simp [e, q1]
theorem val_counted {m : Message} (h : Val m) : ref04_counted m = some true := by
 have hL : ref04_counted_L1 m.List 0 = some (.brk ()) := by rw [Mv.countedL_v, if_pos h.lst]
 have k0 := h.kind
 have hk : m.Kind = 1 ∨ m.Kind = 2 ∨ m.Kind = 3 ∨ m.Kind = 4 ∨ m.Kind = 5 := by omega
 unfold ref04_counted
 simp only [Mv.in_eq, decide_eq_true h.num, Option.bind_some, Bool.not_true, cond_false, hL, Ctl.fin, Mv.bag_eq]
 rcases hk with e | e | e | e | e
 ·
  have q1 := h.fst (by omega)
  obtain ⟨b1, b2, b3, b4, b5⟩ := h.bag (.inl e)
  simp [e, q1, b1, b2, b3, b4, b5]
 ·
  have q1 := h.fst (by omega)
  obtain ⟨b1, b2, b3, b4, b5⟩ := h.bag (.inr e)
  simp [e, q1, b1, b2, b3, b4, b5]
 ·
  have q1 := h.fst (by omega)
  simp [e, q1]
 ·
  have q1 := h.fst (by omega)
  simp [e, q1]
 ·
  simp [e]
theorem valL_ok (m : Message) (hl : m.List.length ≤ 1000) (hi : m.List.Pairwise (· < ·)) : ∀ (n k : Nat), 1 ≤ k → k ≤ m.List.length + 1 → m.List.length + 1 < n + k → ref04_Validate_L1 m n (k : Int) = some (.brk ()) := by
 intro n
 induction n with
 | zero => intro k _ h1 h2; omega
 | succ n ih =>
  intro k h0 h1 h2
  rw [ref04_Validate_L1]
  by_cases c : k < m.List.length
  ·
   rw [decide_eq_true (by omega), cond_true, ixL_at' k rfl (List.getElem?_eq_getElem c)]
   simp only [Option.bind_some]
   rw [w64_id (by omega) (by omega), ixL_at' (k - 1) (by omega) (List.getElem?_eq_getElem (show k - 1 < m.List.length by omega))]
   simp only [Option.bind_some]
   have := List.pairwise_iff_getElem.1 hi (k - 1) k (by omega) c (by omega)
   rw [decide_eq_false (by omega), cond_false, w64_id (by omega) (by omega), show (k : Int) + 1 = ((k + 1 : Nat) : Int) by omega]
   exact ih (k + 1) (by omega) (by omega) (by omega)
  ·
   rw [decide_eq_false (by omega), cond_false]
theorem val_ok {m : Message} (h : Val m) : ref04_Validate m = some 0 := by
 unfold ref04_Validate
 have h1 := h.onl
 have h2 := h.lln
 have hL := valL_ok m (by omega) h.inc 9223372036854775807 1 (Nat.le_refl _) (by omega) (by omega)
 rw [show ((1 : Nat) : Int) = 1 from rfl] at hL
 simp only [Mv.in_eq, decide_eq_true h.kind, val_own h, same_refl, val_spelled h, val_counted h, Option.bind_some, Bool.not_true, cond_false, decide_eq_false (show ¬ (3 : Int) < (m.Onward.length : Int) by omega), decide_eq_false (show ¬ (40 : Int) < (m.List.length : Int) by omega)]
 rw [fin_brkE hL]
theorem val_msg {m : Message} (h : Val m) : Mv.MsgOk m := by
 have k0 := h.kind
 by_cases c : isBag m
 ·
  exact ⟨by have := h.sur c; omega, by have := h.giv c; omega⟩
 ·
  obtain ⟨_, _, _, _, _, _, e1, e2, _⟩ := h.zBag c
  exact ⟨by rw [e1]; decide, by rw [e2]; decide⟩
end Go.Proofs.YtkliakcegihikaaGreat.Ex.Ig
