/- What the functions of the program compute; printed by a program from their code. -/
import Derived.Test.YtkefkegknacpjaaExT
namespace Go.Proofs.Ytkefkegknacpjaa.Ex
open Go.RowKit Go.Proofs.Ytkefkegknacpjaa.Ax
set_option linter.unusedVariables false
set_option linter.unusedSimpArgs false
def keep_New (x_0 : (List Int)) : Option (Src) :=
  cond (decide ((2000 : Int) < (x_0.length : Int)))
    ((slL x_0 0 (2000 : Int)).bind fun l_1 =>
    some (⟨l_1, (0 : Int)⟩ : Src))
    (some (⟨x_0, (0 : Int)⟩ : Src))

def lanes_New (x_0 : Int) (x_1 : Int) : Option (Lanes × Int) :=
  cond (decide (x_0 < (1 : Int)))
    (some ((⟨(0 : Int), ([] : (List (List Stored)))⟩ : Lanes), (1 : Int)))
    (cond (decide ((20 : Int) < x_0))
    (some ((⟨(0 : Int), ([] : (List (List Stored)))⟩ : Lanes), (1 : Int)))
    (cond (decide (x_1 < (1 : Int)))
    (some ((⟨(0 : Int), ([] : (List (List Stored)))⟩ : Lanes), (1 : Int)))
    (cond (decide ((20 : Int) < x_1))
    (some ((⟨(0 : Int), ([] : (List (List Stored)))⟩ : Lanes), (1 : Int)))
    ((mkL x_0 ([] : (List Stored))).bind fun l_1 =>
    some ((⟨x_1, l_1⟩ : Lanes), (0 : Int))))))

def ref17_New (x_0 : Int) (x_1 : Int) : Option (Lanes × Int) :=
  cond (decide (x_0 < (1 : Int)))
    (some ((⟨(0 : Int), ([] : (List (List Stored)))⟩ : Lanes), (1 : Int)))
    (cond (decide ((20 : Int) < x_0))
    (some ((⟨(0 : Int), ([] : (List (List Stored)))⟩ : Lanes), (1 : Int)))
    (cond (decide (x_1 < (1 : Int)))
    (some ((⟨(0 : Int), ([] : (List (List Stored)))⟩ : Lanes), (1 : Int)))
    (cond (decide ((20 : Int) < x_1))
    (some ((⟨(0 : Int), ([] : (List (List Stored)))⟩ : Lanes), (1 : Int)))
    ((mkL x_0 ([] : (List Stored))).bind fun l_1 =>
    some ((⟨x_1, l_1⟩ : Lanes), (0 : Int))))))

def ref17_Same_L2 (x_1 : Lanes) (k_2 : Nat) : (List Stored) → Nat → Option (Ctl (Bool) (Unit))
  | [], k_6 => some (Ctl.brk ())
  | e_7 :: q_10, k_6 => (ixL x_1.L (k_2 : Int)).bind fun e_8 =>
    (ixL e_8 (k_6 : Int)).bind fun e_9 =>
    cond (!((e_7.Bag == e_9.Bag) && ((e_7.Due == e_9.Due) && true)))
    (some (Ctl.ret false))
    (ref17_Same_L2 x_1 k_2 q_10 (k_6 + 1))
def ref17_Same_L1 (x_1 : Lanes) : (List (List Stored)) → Nat → Option (Ctl (Bool) (Unit))
  | [], k_2 => some (Ctl.brk ())
  | e_3 :: q_12, k_2 => (ixL x_1.L (k_2 : Int)).bind fun e_4 =>
    cond ((e_3.length : Int) != (e_4.length : Int))
    (some (Ctl.ret false))
    (Ctl.sub (ref17_Same_L2 x_1 k_2 e_3 0) fun z_11 =>
    ref17_Same_L1 x_1 q_12 (k_2 + 1))
def ref17_Same (x_0 : Lanes) (x_1 : Lanes) : Option (Bool) :=
  cond (x_0.Depth != x_1.Depth)
    (some false)
    (cond ((x_0.L.length : Int) != (x_1.L.length : Int))
    (some false)
    (Ctl.fin (ref17_Same_L1 x_1 x_0.L 0) fun z_13 =>
    some true))

def keep_Src_Raw (x_0 : Src) : Option (Int × Src) :=
  cond (decide ((x_0.L.length : Int) ≤ x_0.At))
    (some ((0 : Int), x_0))
    ((ixL x_0.L (w64 ((w64 (x_0.At + (1 : Int))) - (1 : Int)))).bind fun e_1 =>
    some (e_1, (⟨x_0.L, (w64 (x_0.At + (1 : Int)))⟩ : Src)))

def keep_Mod (x_0 : Int) (x_1 : Int) : Option (Int) :=
  cond (decide (x_1 < (1 : Int)))
    (some (0 : Int))
    ((nz x_1).bind fun u_1 =>
    cond (decide ((x_0.tmod x_1) < (0 : Int)))
    (some (w64 ((x_0.tmod x_1) + x_1)))
    (some (x_0.tmod x_1)))

def keep_Src_N (x_0 : Src) (x_1 : Int) : Option (Int × Src) :=
  (keep_Src_Raw x_0).bind fun r_1 =>
    (keep_Mod r_1.1 x_1).bind fun r_2 =>
    some (r_2, r_1.2)

def keep_Src_Range (x_0 : Src) (x_1 : Int) (x_2 : Int) : Option (Int × Src) :=
  (keep_Src_N x_0 (w64 ((w64 (x_2 - x_1)) + (1 : Int)))).bind fun r_1 =>
    some ((w64 (x_1 + r_1.1)), r_1.2)

def lanes_find_f1 (x_0 : Stored) (x_1 : Int) : Option (Bool) :=
  some (x_0.Bag == x_1)

def slices_IndexFunc_Stored_L1 (x_1 : Int) : (List Stored) → Nat → Option (Ctl (Int) (Unit))
  | [], k_2 => some (Ctl.brk ())
  | e_3 :: q_5, k_2 => (lanes_find_f1 e_3 x_1).bind fun r_4 =>
    cond r_4
    (some (Ctl.ret (k_2 : Int)))
    (slices_IndexFunc_Stored_L1 x_1 q_5 (k_2 + 1))
def slices_IndexFunc_Stored (x_0 : (List Stored)) (x_1 : Int) : Option (Int) :=
  Ctl.fin (slices_IndexFunc_Stored_L1 x_1 x_0 0) fun z_6 =>
    some (-1 : Int)

def lanes_find_L1 (x_1 : Int) : (List (List Stored)) → Nat → Option (Ctl (Int × Int) (Unit))
  | [], k_2 => some (Ctl.brk ())
  | e_3 :: q_5, k_2 => (slices_IndexFunc_Stored e_3 x_1).bind fun r_4 =>
    cond (decide ((0 : Int) ≤ r_4))
    (some (Ctl.ret ((k_2 : Int), r_4)))
    (lanes_find_L1 x_1 q_5 (k_2 + 1))
def lanes_find (x_0 : Lanes) (x_1 : Int) : Option (Int × Int) :=
  Ctl.fin (lanes_find_L1 x_1 x_0.L 0) fun z_6 =>
    some ((-1 : Int), (-1 : Int))

def slices_Clone_Stored (x_0 : (List Stored)) : Option ((List Stored)) :=
  apL [] x_0

def lanes_clone_L1 : (List (List Stored)) → Nat → (List (List Stored)) → Option (Ctl (Lanes) ((List (List Stored))))
  | [], k_3, a_1 => some (Ctl.brk a_1)
  | e_4 :: q_7, k_3, a_1 => (slices_Clone_Stored e_4).bind fun r_5 =>
    (apL a_1 ([r_5] : List (List Stored))).bind fun l_6 =>
    lanes_clone_L1 q_7 (k_3 + 1) l_6
def lanes_clone (x_0 : Lanes) : Option (Lanes) :=
  Ctl.fin (lanes_clone_L1 x_0.L 0 ([] : List (List Stored))) fun z_8 =>
    some (⟨x_0.Depth, z_8⟩ : Lanes)

def slices_Grow_Stored (x_0 : Int) : Option ((List Stored)) :=
  growL x_0

def slices_Concat_Stored_L1 : (List (List Stored)) → Nat → Int → Option (Ctl ((List Stored)) (Int))
  | [], k_3, i_1 => some (Ctl.brk i_1)
  | e_4 :: q_5, k_3, i_1 => cond (decide ((w64 (i_1 + (e_4.length : Int))) < (0 : Int)))
    (none)
    (slices_Concat_Stored_L1 q_5 (k_3 + 1) (w64 (i_1 + (e_4.length : Int))))
def slices_Concat_Stored_L2 : (List (List Stored)) → Nat → (List Stored) → Option (Ctl ((List Stored)) ((List Stored)))
  | [], k_10, a_8 => some (Ctl.brk a_8)
  | e_11 :: q_13, k_10, a_8 => (apL a_8 e_11).bind fun l_12 =>
    slices_Concat_Stored_L2 q_13 (k_10 + 1) l_12
def slices_Concat_Stored (x_0 : (List (List Stored))) : Option ((List Stored)) :=
  Ctl.fin (slices_Concat_Stored_L1 x_0 0 (0 : Int)) fun z_6 =>
    (slices_Grow_Stored z_6).bind fun r_7 =>
    Ctl.fin (slices_Concat_Stored_L2 x_0 0 r_7) fun z_14 =>
    some z_14

def lanes_Take_L1 : (List Stored) → Nat → (List Int) → Option (Ctl (Lanes × (List Int) × Int) ((List Int)))
  | [], k_7, a_5 => some (Ctl.brk a_5)
  | e_8 :: q_10, k_7, a_5 => (apL a_5 ([e_8.Bag] : List Int)).bind fun l_9 =>
    lanes_Take_L1 q_10 (k_7 + 1) l_9
def lanes_Take (x_0 : Lanes) (x_1 : Int) : Option (Lanes × (List Int) × Int) :=
  (lanes_find x_0 x_1).bind fun r_1 =>
    cond (decide (r_1.1 < (0 : Int)))
    (some ((⟨(0 : Int), ([] : (List (List Stored)))⟩ : Lanes), ([] : (List Int)), (6 : Int)))
    ((lanes_clone x_0).bind fun r_2 =>
    (ixL x_0.L r_1.1).bind fun e_3 =>
    (slL e_3 0 r_1.2).bind fun l_4 =>
    Ctl.fin (lanes_Take_L1 l_4 0 ([] : List Int)) fun z_11 =>
    (ixL x_0.L r_1.1).bind fun e_12 =>
    (slL e_12 (w64 (r_1.2 + (1 : Int))) (e_12.length : Int)).bind fun l_13 =>
    (ixL x_0.L r_1.1).bind fun e_14 =>
    (slL e_14 0 r_1.2).bind fun l_15 =>
    (slices_Concat_Stored ([l_13, l_15] : List (List Stored))).bind fun r_16 =>
    (ixL r_2.L r_1.1).bind fun e_17 =>
    some ((⟨r_2.Depth, (r_2.L.set r_1.1.toNat r_16)⟩ : Lanes), z_11, (0 : Int)))

def ref17_find_L2 (x_1 : Int) (k_2 : Nat) : (List Stored) → Nat → Option (Ctl (Int × Int) (Unit))
  | [], k_5 => some (Ctl.brk ())
  | e_6 :: q_7, k_5 => cond (e_6.Bag == x_1)
    (some (Ctl.ret ((k_2 : Int), (k_5 : Int))))
    (ref17_find_L2 x_1 k_2 q_7 (k_5 + 1))
def ref17_find_L1 (x_1 : Int) : (List (List Stored)) → Nat → Option (Ctl (Int × Int) (Unit))
  | [], k_2 => some (Ctl.brk ())
  | e_3 :: q_9, k_2 => Ctl.sub (ref17_find_L2 x_1 k_2 e_3 0) fun z_8 =>
    ref17_find_L1 x_1 q_9 (k_2 + 1)
def ref17_find (x_0 : Lanes) (x_1 : Int) : Option (Int × Int) :=
  Ctl.fin (ref17_find_L1 x_1 x_0.L 0) fun z_10 =>
    some ((-1 : Int), (-1 : Int))

def ref17_with_L1 (x_1 : Int) (x_2 : (List Stored)) : (List (List Stored)) → Nat → (List (List Stored)) → Option (Ctl (Lanes) ((List (List Stored))))
  | [], k_3, a_1 => some (Ctl.brk a_1)
  | e_4 :: q_8, k_3, a_1 => cond ((k_3 : Int) == x_1)
    ((apL a_1 ([x_2] : List (List Stored))).bind fun l_5 =>
    ref17_with_L1 x_1 x_2 q_8 (k_3 + 1) l_5)
    ((apL ([] : List Stored) e_4).bind fun l_6 =>
    (apL a_1 ([l_6] : List (List Stored))).bind fun l_7 =>
    ref17_with_L1 x_1 x_2 q_8 (k_3 + 1) l_7)
def ref17_with (x_0 : Lanes) (x_1 : Int) (x_2 : (List Stored)) : Option (Lanes) :=
  Ctl.fin (ref17_with_L1 x_1 x_2 x_0.L 0 ([] : List (List Stored))) fun z_9 =>
    some (⟨x_0.Depth, z_9⟩ : Lanes)

def ref17_Take_L1 (x_0 : Lanes) (r_1 : Int × Int) : Nat → (List Int) → (List Stored) → Int → Option (Ctl (Lanes × (List Int) × Int) ((List Int) × (List Stored)))
  | 0, _, _, _ => none
  | q_14 + 1, a_6, a_5, i_7 => cond (decide (i_7 < r_1.2))
    ((ixL x_0.L r_1.1).bind fun e_8 =>
    (ixL e_8 i_7).bind fun e_9 =>
    (apL a_6 ([e_9.Bag] : List Int)).bind fun l_10 =>
    (ixL x_0.L r_1.1).bind fun e_11 =>
    (ixL e_11 i_7).bind fun e_12 =>
    (apL a_5 ([e_12] : List Stored)).bind fun l_13 =>
    ref17_Take_L1 x_0 r_1 q_14 l_10 l_13 (w64 (i_7 + (1 : Int))))
    (some (Ctl.brk (a_6, a_5)))
def ref17_Take (x_0 : Lanes) (x_1 : Int) : Option (Lanes × (List Int) × Int) :=
  (ref17_find x_0 x_1).bind fun r_1 =>
    cond (decide (r_1.1 < (0 : Int)))
    (some ((⟨(0 : Int), ([] : (List (List Stored)))⟩ : Lanes), ([] : (List Int)), (6 : Int)))
    ((ixL x_0.L r_1.1).bind fun e_2 =>
    (slL e_2 (w64 (r_1.2 + (1 : Int))) (e_2.length : Int)).bind fun l_3 =>
    (apL ([] : List Stored) l_3).bind fun l_4 =>
    Ctl.fin (ref17_Take_L1 x_0 r_1 9223372036854775807 ([] : List Int) l_4 (0 : Int)) fun z_15 =>
    (ref17_with x_0 r_1.1 z_15.2).bind fun r_16 =>
    some (r_16, z_15.1, (0 : Int)))

def keep_Ints_L1 (x_1 : (List Int)) : (List Int) → Nat → Option (Ctl (Bool) (Unit))
  | [], k_2 => some (Ctl.brk ())
  | e_3 :: q_5, k_2 => (ixL x_1 (k_2 : Int)).bind fun e_4 =>
    cond (e_3 != e_4)
    (some (Ctl.ret false))
    (keep_Ints_L1 x_1 q_5 (k_2 + 1))
def keep_Ints (x_0 : (List Int)) (x_1 : (List Int)) : Option (Bool) :=
  cond ((x_0.length : Int) != (x_1.length : Int))
    (some false)
    (Ctl.fin (keep_Ints_L1 x_1 x_0 0) fun z_6 =>
    some true)

def lanes_choose_f1 (x_0 : Int) (x_1 : Lanes) : Option (Int) :=
  (ixL x_1.L x_0).bind fun e_1 =>
    (ixL x_1.L x_0).bind fun e_2 =>
    (ixL e_1 (w64 ((e_2.length : Int) - (1 : Int)))).bind fun e_3 =>
    some e_3.Due

def lanes_choose_L1 (x_0 : Lanes) (x_1 : Int) : (List (List Stored)) → Nat → Int → Int → Int → Option (Ctl (Int) (Int × Int × Int))
  | [], k_5, i_2, i_1, i_3 => some (Ctl.brk (i_1, i_2, i_3))
  | e_6 :: q_18, k_5, i_2, i_1, i_3 => cond (decide (x_0.Depth ≤ (e_6.length : Int)))
    (lanes_choose_L1 x_0 x_1 q_18 (k_5 + 1) i_2 i_1 i_3)
    (cond ((e_6.length : Int) == (0 : Int))
    (cond (decide (i_2 < (0 : Int)))
    (lanes_choose_L1 x_0 x_1 q_18 (k_5 + 1) (k_5 : Int) i_1 i_3)
    (lanes_choose_L1 x_0 x_1 q_18 (k_5 + 1) i_2 i_1 i_3))
    ((lanes_choose_f1 (k_5 : Int) x_0).bind fun r_7 =>
    cond (decide (r_7 ≤ x_1))
    (cond (decide (i_1 < (0 : Int)))
    (cond (decide (i_3 < (0 : Int)))
    (lanes_choose_L1 x_0 x_1 q_18 (k_5 + 1) i_2 (k_5 : Int) (k_5 : Int))
    ((lanes_choose_f1 (k_5 : Int) x_0).bind fun r_8 =>
    (lanes_choose_f1 i_3 x_0).bind fun r_9 =>
    cond (decide (r_8 < r_9))
    (lanes_choose_L1 x_0 x_1 q_18 (k_5 + 1) i_2 (k_5 : Int) (k_5 : Int))
    (lanes_choose_L1 x_0 x_1 q_18 (k_5 + 1) i_2 (k_5 : Int) i_3)))
    ((lanes_choose_f1 (k_5 : Int) x_0).bind fun r_10 =>
    (lanes_choose_f1 i_1 x_0).bind fun r_11 =>
    cond (decide (r_11 < r_10))
    (cond (decide (i_3 < (0 : Int)))
    (lanes_choose_L1 x_0 x_1 q_18 (k_5 + 1) i_2 (k_5 : Int) (k_5 : Int))
    ((lanes_choose_f1 (k_5 : Int) x_0).bind fun r_12 =>
    (lanes_choose_f1 i_3 x_0).bind fun r_13 =>
    cond (decide (r_12 < r_13))
    (lanes_choose_L1 x_0 x_1 q_18 (k_5 + 1) i_2 (k_5 : Int) (k_5 : Int))
    (lanes_choose_L1 x_0 x_1 q_18 (k_5 + 1) i_2 (k_5 : Int) i_3)))
    (cond (decide (i_3 < (0 : Int)))
    (lanes_choose_L1 x_0 x_1 q_18 (k_5 + 1) i_2 i_1 (k_5 : Int))
    ((lanes_choose_f1 (k_5 : Int) x_0).bind fun r_14 =>
    (lanes_choose_f1 i_3 x_0).bind fun r_15 =>
    cond (decide (r_14 < r_15))
    (lanes_choose_L1 x_0 x_1 q_18 (k_5 + 1) i_2 i_1 (k_5 : Int))
    (lanes_choose_L1 x_0 x_1 q_18 (k_5 + 1) i_2 i_1 i_3)))))
    (cond (decide (i_3 < (0 : Int)))
    (lanes_choose_L1 x_0 x_1 q_18 (k_5 + 1) i_2 i_1 (k_5 : Int))
    ((lanes_choose_f1 (k_5 : Int) x_0).bind fun r_16 =>
    (lanes_choose_f1 i_3 x_0).bind fun r_17 =>
    cond (decide (r_16 < r_17))
    (lanes_choose_L1 x_0 x_1 q_18 (k_5 + 1) i_2 i_1 (k_5 : Int))
    (lanes_choose_L1 x_0 x_1 q_18 (k_5 + 1) i_2 i_1 i_3)))))
def lanes_choose (x_0 : Lanes) (x_1 : Int) : Option (Int) :=
  Ctl.fin (lanes_choose_L1 x_0 x_1 x_0.L 0 (-1 : Int) (-1 : Int) (-1 : Int)) fun z_19 =>
    cond (decide ((0 : Int) ≤ z_19.1))
    (some z_19.1)
    (cond (decide ((0 : Int) ≤ z_19.2.1))
    (some z_19.2.1)
    (some z_19.2.2))

def lanes_Put (x_0 : Lanes) (x_1 : Stored) : Option (Lanes × Int × Int) :=
  cond (decide (x_1.Bag < (1 : Int)))
    (some ((⟨(0 : Int), ([] : (List (List Stored)))⟩ : Lanes), (0 : Int), (1 : Int)))
    (cond (decide ((40 : Int) < x_1.Bag))
    (some ((⟨(0 : Int), ([] : (List (List Stored)))⟩ : Lanes), (0 : Int), (1 : Int)))
    (cond (decide (x_1.Due < (0 : Int)))
    (some ((⟨(0 : Int), ([] : (List (List Stored)))⟩ : Lanes), (0 : Int), (1 : Int)))
    (cond (decide ((1048576 : Int) < x_1.Due))
    (some ((⟨(0 : Int), ([] : (List (List Stored)))⟩ : Lanes), (0 : Int), (1 : Int)))
    ((lanes_find x_0 x_1.Bag).bind fun r_1 =>
    cond (decide ((0 : Int) ≤ r_1.1))
    (some ((⟨(0 : Int), ([] : (List (List Stored)))⟩ : Lanes), (0 : Int), (5 : Int)))
    ((lanes_choose x_0 x_1.Due).bind fun r_2 =>
    cond (decide (r_2 < (0 : Int)))
    (some ((⟨(0 : Int), ([] : (List (List Stored)))⟩ : Lanes), (0 : Int), (8 : Int)))
    ((focE (lanes_clone x_0) (fun r => r.L) r_2).bind fun r_3 =>
    (apL r_3.2 ([x_1] : List Stored)).bind fun l_4 =>
    some ((⟨r_3.1.Depth, (r_3.1.L.set r_2.toNat l_4)⟩ : Lanes), r_2, (0 : Int))))))))

def ref17_rank (x_0 : (List Stored)) (x_1 : Int) : Option (Int) :=
  cond ((x_0.length : Int) == (0 : Int))
    (some (1 : Int))
    ((ixL x_0 (w64 ((x_0.length : Int) - (1 : Int)))).bind fun e_1 =>
    cond (decide (e_1.Due ≤ x_1))
    (some (0 : Int))
    (some (2 : Int)))

def ref17_better (x_0 : (List Stored)) (x_1 : (List Stored)) (x_2 : Int) : Option (Bool) :=
  (ref17_rank x_0 x_2).bind fun r_1 =>
    (ref17_rank x_1 x_2).bind fun r_2 =>
    cond (r_1 != r_2)
    (some (decide (r_1 < r_2)))
    (cond (r_1 == (1 : Int))
    (some (decide (r_1 < r_2)))
    (cond (r_1 == (0 : Int))
    ((ixL x_0 (w64 ((x_0.length : Int) - (1 : Int)))).bind fun e_3 =>
    (ixL x_1 (w64 ((x_1.length : Int) - (1 : Int)))).bind fun e_4 =>
    some (decide (e_4.Due < e_3.Due)))
    ((ixL x_0 (w64 ((x_0.length : Int) - (1 : Int)))).bind fun e_5 =>
    (ixL x_1 (w64 ((x_1.length : Int) - (1 : Int)))).bind fun e_6 =>
    some (decide (e_5.Due < e_6.Due)))))

def ref17_Put_L1 (x_0 : Lanes) (x_1 : Stored) : (List (List Stored)) → Nat → Int → Option (Ctl (Lanes × Int × Int) (Int))
  | [], k_4, i_2 => some (Ctl.brk i_2)
  | e_5 :: q_8, k_4, i_2 => cond (decide ((e_5.length : Int) < x_0.Depth))
    (cond (decide (i_2 < (0 : Int)))
    (ref17_Put_L1 x_0 x_1 q_8 (k_4 + 1) (k_4 : Int))
    ((ixL x_0.L i_2).bind fun e_6 =>
    (ref17_better e_5 e_6 x_1.Due).bind fun r_7 =>
    cond r_7
    (ref17_Put_L1 x_0 x_1 q_8 (k_4 + 1) (k_4 : Int))
    (ref17_Put_L1 x_0 x_1 q_8 (k_4 + 1) i_2)))
    (ref17_Put_L1 x_0 x_1 q_8 (k_4 + 1) i_2)
def ref17_Put (x_0 : Lanes) (x_1 : Stored) : Option (Lanes × Int × Int) :=
  cond (decide (x_1.Bag < (1 : Int)))
    (some ((⟨(0 : Int), ([] : (List (List Stored)))⟩ : Lanes), (0 : Int), (1 : Int)))
    (cond (decide ((40 : Int) < x_1.Bag))
    (some ((⟨(0 : Int), ([] : (List (List Stored)))⟩ : Lanes), (0 : Int), (1 : Int)))
    (cond (decide (x_1.Due < (0 : Int)))
    (some ((⟨(0 : Int), ([] : (List (List Stored)))⟩ : Lanes), (0 : Int), (1 : Int)))
    (cond (decide ((1048576 : Int) < x_1.Due))
    (some ((⟨(0 : Int), ([] : (List (List Stored)))⟩ : Lanes), (0 : Int), (1 : Int)))
    ((ref17_find x_0 x_1.Bag).bind fun r_1 =>
    cond (decide ((0 : Int) ≤ r_1.1))
    (some ((⟨(0 : Int), ([] : (List (List Stored)))⟩ : Lanes), (0 : Int), (5 : Int)))
    (Ctl.fin (ref17_Put_L1 x_0 x_1 x_0.L 0 (-1 : Int)) fun z_9 =>
    cond (decide (z_9 < (0 : Int)))
    (some ((⟨(0 : Int), ([] : (List (List Stored)))⟩ : Lanes), (0 : Int), (8 : Int)))
    ((ixL x_0.L z_9).bind fun e_10 =>
    (apL ([] : List Stored) e_10).bind fun l_11 =>
    (apL l_11 ([x_1] : List Stored)).bind fun l_12 =>
    (ref17_with x_0 z_9 l_12).bind fun r_13 =>
    some (r_13, z_9, (0 : Int))))))))

def keep_Src_More (x_0 : Src) : Option (Bool) :=
  some (decide (x_0.At < (x_0.L.length : Int)))

def lanes_checked_L1 : (List Int) → Nat → Option (Ctl (Int) (Unit))
  | [], k_2 => some (Ctl.brk ())
  | e_3 :: q_4, k_2 => cond (decide (e_3 < (0 : Int)))
    (some (Ctl.ret (1 : Int)))
    (cond (decide ((1048576 : Int) < e_3))
    (some (Ctl.ret (1 : Int)))
    (lanes_checked_L1 q_4 (k_2 + 1)))
def lanes_checked (x_0 : (List Int)) : Option (Int) :=
  cond (decide ((200 : Int) < (x_0.length : Int)))
    (some (2 : Int))
    (Ctl.fin (lanes_checked_L1 x_0 0) fun z_5 =>
    some (0 : Int))

def lanes_assigned_f1 (x_0 : Int) (x_1 : (List Int)) (x_2 : (List Int)) (x_3 : Int) (x_4 : Int) : Option ((List Int) × (List Int) × Int × Int) :=
  (ixL x_2 x_0).bind fun e_1 =>
    (ixL x_1 e_1).bind fun e_2 =>
    cond (decide (e_2 ≤ x_3))
    (cond (decide (x_4 < (0 : Int)))
    (some (x_1, x_2, x_3, x_0))
    ((ixL x_2 x_0).bind fun e_3 =>
    (ixL x_1 e_3).bind fun e_4 =>
    (ixL x_2 x_4).bind fun e_5 =>
    (ixL x_1 e_5).bind fun e_6 =>
    cond (decide (e_6 < e_4))
    (some (x_1, x_2, x_3, x_0))
    (some (x_1, x_2, x_3, x_4))))
    (some (x_1, x_2, x_3, x_4))

def lanes_assigned_L2 : (List Int) → Nat → (List Int) → (List Int) → Int → Int → Option (Ctl ((List Int) × (List Int) × Int) ((List Int) × (List Int) × Int))
  | [], k_13, a_8, a_9, i_10, i_11 => some (Ctl.brk (a_8, a_9, i_10))
  | e_14 :: q_16, k_13, a_8, a_9, i_10, i_11 => (lanes_assigned_f1 (k_13 : Int) a_8 a_9 i_11 i_10).bind fun r_15 =>
    lanes_assigned_L2 q_16 (k_13 + 1) r_15.1 r_15.2.1 r_15.2.2.2 r_15.2.2.1
def lanes_assigned_L1 : (List Int) → Nat → (List Int) → (List Int) → (List Int) → (List Int) → Option (Ctl ((List Int) × (List Int) × Int) ((List Int) × (List Int) × (List Int)))
  | [], k_6, a_3, a_4, a_2, a_1 => some (Ctl.brk (a_3, a_4, a_2))
  | e_7 :: q_29, k_6, a_3, a_4, a_2, a_1 => Ctl.sub (lanes_assigned_L2 a_2 0 a_1 a_2 (-1 : Int) e_7) fun z_17 =>
    cond (decide (z_17.2.2 < (0 : Int)))
    ((apL z_17.2.1 ([(k_6 : Int)] : List Int)).bind fun l_18 =>
    (ixL l_18 (z_17.2.1.length : Int)).bind fun e_19 =>
    (apL a_3 ([(z_17.2.1.length : Int)] : List Int)).bind fun l_20 =>
    (apL a_4 ([(-1 : Int)] : List Int)).bind fun l_21 =>
    cond (decide ((0 : Int) < (z_17.2.1.length : Int)))
    ((ixL (l_18.set (z_17.2.1.length : Int).toNat (k_6 : Int)) (w64 ((z_17.2.1.length : Int) - (1 : Int)))).bind fun e_22 =>
    (ixL l_21 (k_6 : Int)).bind fun e_23 =>
    lanes_assigned_L1 q_29 (k_6 + 1) l_20 (l_21.set (k_6 : Int).toNat e_22) (l_18.set (z_17.2.1.length : Int).toNat (k_6 : Int)) z_17.1)
    (lanes_assigned_L1 q_29 (k_6 + 1) l_20 l_21 (l_18.set (z_17.2.1.length : Int).toNat (k_6 : Int)) z_17.1))
    ((ixL z_17.2.1 z_17.2.2).bind fun e_24 =>
    (apL a_3 ([z_17.2.2] : List Int)).bind fun l_25 =>
    (apL a_4 ([(-1 : Int)] : List Int)).bind fun l_26 =>
    cond (decide ((0 : Int) < z_17.2.2))
    ((ixL (z_17.2.1.set z_17.2.2.toNat (k_6 : Int)) (w64 (z_17.2.2 - (1 : Int)))).bind fun e_27 =>
    (ixL l_26 (k_6 : Int)).bind fun e_28 =>
    lanes_assigned_L1 q_29 (k_6 + 1) l_25 (l_26.set (k_6 : Int).toNat e_27) (z_17.2.1.set z_17.2.2.toNat (k_6 : Int)) z_17.1)
    (lanes_assigned_L1 q_29 (k_6 + 1) l_25 l_26 (z_17.2.1.set z_17.2.2.toNat (k_6 : Int)) z_17.1))
def lanes_assigned (x_0 : (List Int)) : Option ((List Int) × (List Int) × Int) :=
  Ctl.fin (lanes_assigned_L1 x_0 0 ([] : List Int) ([] : List Int) ([] : List Int) x_0) fun z_30 =>
    some (z_30.1, z_30.2.1, (z_30.2.2.length : Int))

def lanes_Assign (x_0 : (List Int)) : Option ((List Int) × Int) :=
  (lanes_checked x_0).bind fun r_1 =>
    cond (r_1 != (0 : Int))
    (some (([] : (List Int)), r_1))
    ((lanes_assigned x_0).bind fun r_2 =>
    some (r_2.1, (0 : Int)))

def slices_Index_int_L1 (x_1 : Int) : (List Int) → Nat → Option (Ctl (Int) (Unit))
  | [], k_2 => some (Ctl.brk ())
  | e_3 :: q_4, k_2 => cond (x_1 == e_3)
    (some (Ctl.ret (k_2 : Int)))
    (slices_Index_int_L1 x_1 q_4 (k_2 + 1))
def slices_Index_int (x_0 : (List Int)) (x_1 : Int) : Option (Int) :=
  Ctl.fin (slices_Index_int_L1 x_1 x_0 0) fun z_5 =>
    some (-1 : Int)

def slices_Reverse_int_L1 : Nat → (List Int) → Int → Int → Option (Ctl ((List Int)) ((List Int)))
  | 0, _, _, _ => none
  | q_8 + 1, a_1, i_2, i_3 => cond (decide (i_2 < i_3))
    ((ixL a_1 i_3).bind fun e_4 =>
    (ixL a_1 i_2).bind fun e_5 =>
    (ixL a_1 i_2).bind fun e_6 =>
    (ixL (a_1.set i_2.toNat e_4) i_3).bind fun e_7 =>
    slices_Reverse_int_L1 q_8 ((a_1.set i_2.toNat e_4).set i_3.toNat e_5) (w64 (i_2 + (1 : Int))) (w64 (i_3 - (1 : Int))))
    (some (Ctl.brk a_1))
def slices_Reverse_int (x_0 : (List Int)) : Option ((List Int)) :=
  Ctl.fin (slices_Reverse_int_L1 9223372036854775807 x_0 (0 : Int) (w64 ((x_0.length : Int) - (1 : Int)))) fun z_9 =>
    some z_9

def lanes_Chain_L1 (r_2 : (List Int) × (List Int) × Int) : Nat → (List Int) → Int → Option (Ctl ((List Int)) ((List Int)))
  | 0, _, _ => none
  | q_8 + 1, a_4, i_5 => cond (decide ((0 : Int) ≤ i_5))
    ((apL a_4 ([i_5] : List Int)).bind fun l_6 =>
    (ixL r_2.2.1 i_5).bind fun e_7 =>
    lanes_Chain_L1 r_2 q_8 l_6 e_7)
    (some (Ctl.brk a_4))
def lanes_Chain (x_0 : (List Int)) : Option ((List Int)) :=
  cond ((x_0.length : Int) == (0 : Int))
    (some ([] : (List Int)))
    ((lanes_checked x_0).bind fun r_1 =>
    cond (r_1 != (0 : Int))
    (some ([] : (List Int)))
    ((lanes_assigned x_0).bind fun r_2 =>
    (slices_Index_int r_2.1 (w64 (r_2.2.2 - (1 : Int)))).bind fun r_3 =>
    Ctl.fin (lanes_Chain_L1 r_2 9223372036854775807 ([] : List Int) r_3) fun z_9 =>
    (slices_Reverse_int z_9).bind fun r_10 =>
    some r_10))

def lanes_Count (x_0 : (List Int)) : Option (Int) :=
  (lanes_checked x_0).bind fun r_1 =>
    cond (r_1 != (0 : Int))
    (some (0 : Int))
    ((lanes_assigned x_0).bind fun r_2 =>
    some r_2.2.2)

def law17_awake : Option (Bool) :=
  (lanes_Assign ([(5 : Int), (3 : Int), (4 : Int), (1 : Int)] : List Int)).bind fun r_1 =>
    cond (r_1.2 == (0 : Int))
    ((keep_Ints r_1.1 ([(0 : Int), (1 : Int), (1 : Int), (2 : Int)] : List Int)).bind fun r_2 =>
    cond r_2
    ((lanes_Chain ([(5 : Int), (3 : Int), (4 : Int), (1 : Int)] : List Int)).bind fun r_3 =>
    (keep_Ints r_3 ([(0 : Int), (2 : Int), (3 : Int)] : List Int)).bind fun r_4 =>
    cond r_4
    ((lanes_Count ([(5 : Int), (3 : Int), (4 : Int), (1 : Int)] : List Int)).bind fun r_5 =>
    some (r_5 == (3 : Int)))
    (some false))
    (some false))
    (some false)

def law17_LanesStore_L1 (x_3 : Stored) : Nat → (List Int) → Int → Int → (List (List Stored)) → Int → (List (List Stored)) → Int → Option (Ctl (Bool) (Unit))
  | 0, _, _, _, _, _, _, _ => none
  | q_54 + 1, a_10, i_11, i_12, a_13, i_14, a_15, i_16 => cond (decide (i_16 < (30 : Int)))
    (cond (decide (i_16 < (4 : Int)))
    ((keep_Src_Range (⟨a_10, i_11⟩ : Src) (0 : Int) (14 : Int)).bind fun r_17 =>
    (keep_Src_N r_17.2 (9 : Int)).bind fun r_18 =>
    cond (i_16 == (3 : Int))
    ((keep_Src_N r_18.2 (3 : Int)).bind fun r_19 =>
    cond (r_19.1 == (0 : Int))
    ((lanes_Take (⟨i_12, a_13⟩ : Lanes) x_3.Bag).bind fun r_20 =>
    (ref17_Take (⟨i_14, a_15⟩ : Lanes) x_3.Bag).bind fun r_21 =>
    cond (r_20.2.2 != r_21.2.2)
    (some (Ctl.ret false))
    ((ref17_Same r_20.1 r_21.1).bind fun r_22 =>
    cond (!r_22)
    (some (Ctl.ret false))
    ((keep_Ints r_20.2.1 r_21.2.1).bind fun r_23 =>
    cond (!r_23)
    (some (Ctl.ret false))
    (cond (r_21.2.2 == (0 : Int))
    (law17_LanesStore_L1 x_3 q_54 r_19.2.L r_19.2.At r_20.1.Depth r_20.1.L r_21.1.Depth r_21.1.L (w64 (i_16 + (1 : Int))))
    (law17_LanesStore_L1 x_3 q_54 r_19.2.L r_19.2.At i_12 a_13 i_14 a_15 (w64 (i_16 + (1 : Int))))))))
    ((lanes_Put (⟨i_12, a_13⟩ : Lanes) x_3).bind fun r_24 =>
    (ref17_Put (⟨i_14, a_15⟩ : Lanes) x_3).bind fun r_25 =>
    cond (r_24.2.2 != r_25.2.2)
    (some (Ctl.ret false))
    (cond (r_24.2.1 != r_25.2.1)
    (some (Ctl.ret false))
    ((ref17_Same r_24.1 r_25.1).bind fun r_26 =>
    cond (!r_26)
    (some (Ctl.ret false))
    (cond (r_25.2.2 == (0 : Int))
    (law17_LanesStore_L1 x_3 q_54 r_19.2.L r_19.2.At r_24.1.Depth r_24.1.L r_25.1.Depth r_25.1.L (w64 (i_16 + (1 : Int))))
    (law17_LanesStore_L1 x_3 q_54 r_19.2.L r_19.2.At i_12 a_13 i_14 a_15 (w64 (i_16 + (1 : Int)))))))))
    ((keep_Src_N r_18.2 (3 : Int)).bind fun r_27 =>
    cond (r_27.1 == (0 : Int))
    ((lanes_Take (⟨i_12, a_13⟩ : Lanes) r_17.1).bind fun r_28 =>
    (ref17_Take (⟨i_14, a_15⟩ : Lanes) r_17.1).bind fun r_29 =>
    cond (r_28.2.2 != r_29.2.2)
    (some (Ctl.ret false))
    ((ref17_Same r_28.1 r_29.1).bind fun r_30 =>
    cond (!r_30)
    (some (Ctl.ret false))
    ((keep_Ints r_28.2.1 r_29.2.1).bind fun r_31 =>
    cond (!r_31)
    (some (Ctl.ret false))
    (cond (r_29.2.2 == (0 : Int))
    (law17_LanesStore_L1 x_3 q_54 r_27.2.L r_27.2.At r_28.1.Depth r_28.1.L r_29.1.Depth r_29.1.L (w64 (i_16 + (1 : Int))))
    (law17_LanesStore_L1 x_3 q_54 r_27.2.L r_27.2.At i_12 a_13 i_14 a_15 (w64 (i_16 + (1 : Int))))))))
    ((lanes_Put (⟨i_12, a_13⟩ : Lanes) (⟨r_17.1, r_18.1⟩ : Stored)).bind fun r_32 =>
    (ref17_Put (⟨i_14, a_15⟩ : Lanes) (⟨r_17.1, r_18.1⟩ : Stored)).bind fun r_33 =>
    cond (r_32.2.2 != r_33.2.2)
    (some (Ctl.ret false))
    (cond (r_32.2.1 != r_33.2.1)
    (some (Ctl.ret false))
    ((ref17_Same r_32.1 r_33.1).bind fun r_34 =>
    cond (!r_34)
    (some (Ctl.ret false))
    (cond (r_33.2.2 == (0 : Int))
    (law17_LanesStore_L1 x_3 q_54 r_27.2.L r_27.2.At r_32.1.Depth r_32.1.L r_33.1.Depth r_33.1.L (w64 (i_16 + (1 : Int))))
    (law17_LanesStore_L1 x_3 q_54 r_27.2.L r_27.2.At i_12 a_13 i_14 a_15 (w64 (i_16 + (1 : Int))))))))))
    ((keep_Src_More (⟨a_10, i_11⟩ : Src)).bind fun r_35 =>
    cond r_35
    ((keep_Src_Range (⟨a_10, i_11⟩ : Src) (0 : Int) (14 : Int)).bind fun r_36 =>
    (keep_Src_N r_36.2 (9 : Int)).bind fun r_37 =>
    cond (i_16 == (3 : Int))
    ((keep_Src_N r_37.2 (3 : Int)).bind fun r_38 =>
    cond (r_38.1 == (0 : Int))
    ((lanes_Take (⟨i_12, a_13⟩ : Lanes) x_3.Bag).bind fun r_39 =>
    (ref17_Take (⟨i_14, a_15⟩ : Lanes) x_3.Bag).bind fun r_40 =>
    cond (r_39.2.2 != r_40.2.2)
    (some (Ctl.ret false))
    ((ref17_Same r_39.1 r_40.1).bind fun r_41 =>
    cond (!r_41)
    (some (Ctl.ret false))
    ((keep_Ints r_39.2.1 r_40.2.1).bind fun r_42 =>
    cond (!r_42)
    (some (Ctl.ret false))
    (cond (r_40.2.2 == (0 : Int))
    (law17_LanesStore_L1 x_3 q_54 r_38.2.L r_38.2.At r_39.1.Depth r_39.1.L r_40.1.Depth r_40.1.L (w64 (i_16 + (1 : Int))))
    (law17_LanesStore_L1 x_3 q_54 r_38.2.L r_38.2.At i_12 a_13 i_14 a_15 (w64 (i_16 + (1 : Int))))))))
    ((lanes_Put (⟨i_12, a_13⟩ : Lanes) x_3).bind fun r_43 =>
    (ref17_Put (⟨i_14, a_15⟩ : Lanes) x_3).bind fun r_44 =>
    cond (r_43.2.2 != r_44.2.2)
    (some (Ctl.ret false))
    (cond (r_43.2.1 != r_44.2.1)
    (some (Ctl.ret false))
    ((ref17_Same r_43.1 r_44.1).bind fun r_45 =>
    cond (!r_45)
    (some (Ctl.ret false))
    (cond (r_44.2.2 == (0 : Int))
    (law17_LanesStore_L1 x_3 q_54 r_38.2.L r_38.2.At r_43.1.Depth r_43.1.L r_44.1.Depth r_44.1.L (w64 (i_16 + (1 : Int))))
    (law17_LanesStore_L1 x_3 q_54 r_38.2.L r_38.2.At i_12 a_13 i_14 a_15 (w64 (i_16 + (1 : Int)))))))))
    ((keep_Src_N r_37.2 (3 : Int)).bind fun r_46 =>
    cond (r_46.1 == (0 : Int))
    ((lanes_Take (⟨i_12, a_13⟩ : Lanes) r_36.1).bind fun r_47 =>
    (ref17_Take (⟨i_14, a_15⟩ : Lanes) r_36.1).bind fun r_48 =>
    cond (r_47.2.2 != r_48.2.2)
    (some (Ctl.ret false))
    ((ref17_Same r_47.1 r_48.1).bind fun r_49 =>
    cond (!r_49)
    (some (Ctl.ret false))
    ((keep_Ints r_47.2.1 r_48.2.1).bind fun r_50 =>
    cond (!r_50)
    (some (Ctl.ret false))
    (cond (r_48.2.2 == (0 : Int))
    (law17_LanesStore_L1 x_3 q_54 r_46.2.L r_46.2.At r_47.1.Depth r_47.1.L r_48.1.Depth r_48.1.L (w64 (i_16 + (1 : Int))))
    (law17_LanesStore_L1 x_3 q_54 r_46.2.L r_46.2.At i_12 a_13 i_14 a_15 (w64 (i_16 + (1 : Int))))))))
    ((lanes_Put (⟨i_12, a_13⟩ : Lanes) (⟨r_36.1, r_37.1⟩ : Stored)).bind fun r_51 =>
    (ref17_Put (⟨i_14, a_15⟩ : Lanes) (⟨r_36.1, r_37.1⟩ : Stored)).bind fun r_52 =>
    cond (r_51.2.2 != r_52.2.2)
    (some (Ctl.ret false))
    (cond (r_51.2.1 != r_52.2.1)
    (some (Ctl.ret false))
    ((ref17_Same r_51.1 r_52.1).bind fun r_53 =>
    cond (!r_53)
    (some (Ctl.ret false))
    (cond (r_52.2.2 == (0 : Int))
    (law17_LanesStore_L1 x_3 q_54 r_46.2.L r_46.2.At r_51.1.Depth r_51.1.L r_52.1.Depth r_52.1.L (w64 (i_16 + (1 : Int))))
    (law17_LanesStore_L1 x_3 q_54 r_46.2.L r_46.2.At i_12 a_13 i_14 a_15 (w64 (i_16 + (1 : Int))))))))))
    (some (Ctl.brk ()))))
    (some (Ctl.brk ()))
def law17_LanesStore (x_0 : (List Int)) (x_1 : Int) (x_2 : Int) (x_3 : Stored) : Option (Bool) :=
  (keep_New x_0).bind fun r_1 =>
    (lanes_New x_1 x_2).bind fun r_2 =>
    (ref17_New x_1 x_2).bind fun r_3 =>
    cond (r_2.2 != r_3.2)
    (some false)
    ((ref17_Same r_2.1 r_3.1).bind fun r_4 =>
    cond (!r_4)
    (some false)
    ((keep_Src_Range r_1 (1 : Int) (4 : Int)).bind fun r_5 =>
    (keep_Src_Range r_5.2 (1 : Int) (4 : Int)).bind fun r_6 =>
    (lanes_New r_5.1 r_6.1).bind fun r_7 =>
    (ref17_New r_5.1 r_6.1).bind fun r_8 =>
    cond (r_7.2 != r_8.2)
    (some false)
    ((ref17_Same r_7.1 r_8.1).bind fun r_9 =>
    cond (!r_9)
    (some false)
    (Ctl.fin (law17_LanesStore_L1 x_3 9223372036854775807 r_6.2.L r_6.2.At r_7.1.Depth r_7.1.L r_8.1.Depth r_8.1.L (0 : Int)) fun z_55 =>
    (law17_awake).bind fun r_56 =>
    some r_56))))

def law17_times_L1 : Nat → (List Int) → Int → (List Int) → Int → Option (Ctl ((List Int)) ((List Int)))
  | 0, _, _, _, _ => none
  | q_9 + 1, a_3, i_4, a_5, i_6 => cond (decide ((0 : Int) < i_6))
    ((keep_Src_N (⟨a_3, i_4⟩ : Src) (12 : Int)).bind fun r_7 =>
    (apL a_5 ([r_7.1] : List Int)).bind fun l_8 =>
    law17_times_L1 q_9 r_7.2.L r_7.2.At l_8 (w64 (i_6 - (1 : Int))))
    (some (Ctl.brk a_5))
def law17_times (x_0 : (List Int)) : Option ((List Int)) :=
  (keep_New x_0).bind fun r_1 =>
    (keep_Src_N r_1 (30 : Int)).bind fun r_2 =>
    Ctl.fin (law17_times_L1 9223372036854775807 r_2.2.L r_2.2.At ([] : List Int) r_2.1) fun z_10 =>
    some z_10

def law17_LanesFree_L1 : (List Int) → Nat → Int → (List (List Stored)) → Option (Ctl (Bool) (Int × (List (List Stored))))
  | [], k_7, i_4, a_5 => some (Ctl.brk (i_4, a_5))
  | e_8 :: q_10, k_7, i_4, a_5 => (lanes_Put (⟨i_4, a_5⟩ : Lanes) (⟨(w64 ((1 : Int) + (k_7 : Int))), e_8⟩ : Stored)).bind fun r_9 =>
    cond (r_9.2.2 != (0 : Int))
    (some (Ctl.ret false))
    (law17_LanesFree_L1 q_10 (k_7 + 1) r_9.1.Depth r_9.1.L)
def law17_LanesFree_L3 (a_15 : (List Bool)) : (List Int) → Nat → Int → Option (Ctl (Bool) (Int))
  | [], k_21, i_19 => some (Ctl.brk i_19)
  | e_22 :: q_25, k_21, i_19 => (ixL a_15 (k_21 : Int)).bind fun e_23 =>
    cond (!e_23)
    (cond (decide (i_19 < (0 : Int)))
    (law17_LanesFree_L3 a_15 q_25 (k_21 + 1) (k_21 : Int))
    ((ixL ([(3 : Int), (1 : Int), (2 : Int)] : List Int) i_19).bind fun e_24 =>
    cond (decide (e_22 < e_24))
    (law17_LanesFree_L3 a_15 q_25 (k_21 + 1) (k_21 : Int))
    (law17_LanesFree_L3 a_15 q_25 (k_21 + 1) i_19)))
    (law17_LanesFree_L3 a_15 q_25 (k_21 + 1) i_19)
def law17_LanesFree_L2 : (List Int) → Nat → Int → (List (List Stored)) → (List Bool) → Option (Ctl (Bool) (Unit))
  | [], k_17, i_13, a_14, a_15 => some (Ctl.brk ())
  | e_18 :: q_29, k_17, i_13, a_14, a_15 => Ctl.sub (law17_LanesFree_L3 a_15 ([(3 : Int), (1 : Int), (2 : Int)] : List Int) 0 (-1 : Int)) fun z_26 =>
    (lanes_Take (⟨i_13, a_14⟩ : Lanes) (w64 ((1 : Int) + z_26))).bind fun r_27 =>
    cond (r_27.2.2 != (0 : Int))
    (some (Ctl.ret false))
    (cond (decide ((0 : Int) < (r_27.2.1.length : Int)))
    (some (Ctl.ret false))
    ((ixL a_15 z_26).bind fun e_28 =>
    law17_LanesFree_L2 q_29 (k_17 + 1) r_27.1.Depth r_27.1.L (a_15.set z_26.toNat true)))
def law17_LanesFree_L9 (r_1 : (List Int)) (a_75 : (List Bool)) : (List Int) → Nat → Int → Option (Ctl (Bool) (Int))
  | [], k_81, i_79 => some (Ctl.brk i_79)
  | e_82 :: q_85, k_81, i_79 => (ixL a_75 (k_81 : Int)).bind fun e_83 =>
    cond (!e_83)
    (cond (decide (i_79 < (0 : Int)))
    (law17_LanesFree_L9 r_1 a_75 q_85 (k_81 + 1) (k_81 : Int))
    ((ixL r_1 i_79).bind fun e_84 =>
    cond (decide (e_82 < e_84))
    (law17_LanesFree_L9 r_1 a_75 q_85 (k_81 + 1) (k_81 : Int))
    (law17_LanesFree_L9 r_1 a_75 q_85 (k_81 + 1) i_79)))
    (law17_LanesFree_L9 r_1 a_75 q_85 (k_81 + 1) i_79)
def law17_LanesFree_L8 (r_1 : (List Int)) : (List Int) → Nat → Int → (List (List Stored)) → (List Bool) → Option (Ctl (Bool) (Unit))
  | [], k_77, i_73, a_74, a_75 => some (Ctl.brk ())
  | e_78 :: q_89, k_77, i_73, a_74, a_75 => Ctl.sub (law17_LanesFree_L9 r_1 a_75 r_1 0 (-1 : Int)) fun z_86 =>
    (lanes_Take (⟨i_73, a_74⟩ : Lanes) (w64 ((1 : Int) + z_86))).bind fun r_87 =>
    cond (r_87.2.2 != (0 : Int))
    (some (Ctl.ret false))
    (cond (decide ((0 : Int) < (r_87.2.1.length : Int)))
    (some (Ctl.ret false))
    ((ixL a_75 z_86).bind fun e_88 =>
    law17_LanesFree_L8 r_1 q_89 (k_77 + 1) r_87.1.Depth r_87.1.L (a_75.set z_86.toNat true)))
def law17_LanesFree (x_0 : (List Int)) : Option (Bool) :=
  (law17_times x_0).bind fun r_1 =>
    cond (decide ((20 : Int) < (r_1.length : Int)))
    ((lanes_Count ([(3 : Int), (1 : Int), (2 : Int)] : List Int)).bind fun r_2 =>
    cond (decide (r_2 < (1 : Int)))
    (some false)
    (cond (decide ((20 : Int) < r_2))
    (some false)
    ((lanes_New r_2 (20 : Int)).bind fun r_3 =>
    cond (r_3.2 != (0 : Int))
    (some false)
    (Ctl.fin (law17_LanesFree_L1 ([(3 : Int), (1 : Int), (2 : Int)] : List Int) 0 r_3.1.Depth r_3.1.L) fun z_11 =>
    (mkL (([(3 : Int), (1 : Int), (2 : Int)] : List Int).length : Int) false).bind fun l_12 =>
    Ctl.fin (law17_LanesFree_L2 ([(3 : Int), (1 : Int), (2 : Int)] : List Int) 0 z_11.1 z_11.2 l_12) fun z_30 =>
    (law17_awake).bind fun r_31 =>
    some r_31))))
    (cond ((r_1.length : Int) == (0 : Int))
    ((lanes_Count ([(3 : Int), (1 : Int), (2 : Int)] : List Int)).bind fun r_32 =>
    cond (decide (r_32 < (1 : Int)))
    (some false)
    (cond (decide ((20 : Int) < r_32))
    (some false)
    ((lanes_New r_32 (20 : Int)).bind fun r_33 =>
    cond (r_33.2 != (0 : Int))
    (some false)
    (Ctl.fin (law17_LanesFree_L1 ([(3 : Int), (1 : Int), (2 : Int)] : List Int) 0 r_33.1.Depth r_33.1.L) fun z_41 =>
    (mkL (([(3 : Int), (1 : Int), (2 : Int)] : List Int).length : Int) false).bind fun l_42 =>
    Ctl.fin (law17_LanesFree_L2 ([(3 : Int), (1 : Int), (2 : Int)] : List Int) 0 z_41.1 z_41.2 l_42) fun z_60 =>
    (law17_awake).bind fun r_61 =>
    some r_61))))
    ((lanes_Count r_1).bind fun r_62 =>
    cond (decide (r_62 < (1 : Int)))
    (some false)
    (cond (decide ((20 : Int) < r_62))
    (some false)
    ((lanes_New r_62 (20 : Int)).bind fun r_63 =>
    cond (r_63.2 != (0 : Int))
    (some false)
    (Ctl.fin (law17_LanesFree_L1 r_1 0 r_63.1.Depth r_63.1.L) fun z_71 =>
    (mkL (r_1.length : Int) false).bind fun l_72 =>
    Ctl.fin (law17_LanesFree_L8 r_1 r_1 0 z_71.1 z_71.2 l_72) fun z_90 =>
    (law17_awake).bind fun r_91 =>
    some r_91)))))

def ref17_In (x_0 : Lanes) (x_1 : Int) : Option (Bool) :=
  (ref17_find x_0 x_1).bind fun r_1 =>
    some (decide ((0 : Int) ≤ r_1.1))

def keep_In_L1 (x_1 : Int) : (List Int) → Nat → Option (Ctl (Bool) (Unit))
  | [], k_2 => some (Ctl.brk ())
  | e_3 :: q_4, k_2 => cond (e_3 == x_1)
    (some (Ctl.ret true))
    (keep_In_L1 x_1 q_4 (k_2 + 1))
def keep_In (x_0 : (List Int)) (x_1 : Int) : Option (Bool) :=
  Ctl.fin (keep_In_L1 x_1 x_0 0) fun z_5 =>
    some false

def law17_LanesKeeps_L1 (r_3 : Int × Src) : Nat → (List Int) → Int → Int → (List (List Stored)) → Int → Option (Ctl (Bool) (Int × (List (List Stored))))
  | 0, _, _, _, _, _ => none
  | q_11 + 1, a_4, i_5, i_6, a_7, i_8 => cond (decide (i_8 ≤ r_3.1))
    ((keep_Src_N (⟨a_4, i_5⟩ : Src) (5 : Int)).bind fun r_9 =>
    (lanes_Put (⟨i_6, a_7⟩ : Lanes) (⟨i_8, r_9.1⟩ : Stored)).bind fun r_10 =>
    cond (r_10.2.2 != (0 : Int))
    (some (Ctl.ret false))
    (law17_LanesKeeps_L1 r_3 q_11 r_9.2.L r_9.2.At r_10.1.Depth r_10.1.L (w64 (i_8 + (1 : Int)))))
    (some (Ctl.brk (i_6, a_7)))
def law17_LanesKeeps_L2 (r_3 : Int × Src) (z_12 : Int × (List (List Stored))) (r_13 : Int) (r_14 : Lanes × (List Int) × Int) : Nat → Int → Option (Ctl (Bool) (Unit))
  | 0, _ => none
  | q_22 + 1, i_16 => cond (decide (i_16 ≤ r_3.1))
    (cond (i_16 != (w64 ((1 : Int) + r_13)))
    ((ref17_In r_14.1 i_16).bind fun r_17 =>
    cond (!r_17)
    (some (Ctl.ret false))
    ((keep_In r_14.2.1 i_16).bind fun r_18 =>
    cond r_18
    ((ref17_In (⟨z_12.1, z_12.2⟩ : Lanes) i_16).bind fun r_19 =>
    cond (!r_19)
    (some (Ctl.ret false))
    (law17_LanesKeeps_L2 r_3 z_12 r_13 r_14 q_22 (w64 (i_16 + (1 : Int)))))
    (law17_LanesKeeps_L2 r_3 z_12 r_13 r_14 q_22 (w64 (i_16 + (1 : Int))))))
    ((keep_In r_14.2.1 i_16).bind fun r_20 =>
    cond r_20
    ((ref17_In (⟨z_12.1, z_12.2⟩ : Lanes) i_16).bind fun r_21 =>
    cond (!r_21)
    (some (Ctl.ret false))
    (law17_LanesKeeps_L2 r_3 z_12 r_13 r_14 q_22 (w64 (i_16 + (1 : Int)))))
    (law17_LanesKeeps_L2 r_3 z_12 r_13 r_14 q_22 (w64 (i_16 + (1 : Int))))))
    (some (Ctl.brk ()))
def law17_LanesKeeps_L3 : (List Int) → Nat → Int → (List (List Stored)) → Option (Ctl (Bool) (Unit))
  | [], k_29, i_26, a_27 => some (Ctl.brk ())
  | e_30 :: q_32, k_29, i_26, a_27 => (lanes_Take (⟨i_26, a_27⟩ : Lanes) e_30).bind fun r_31 =>
    cond (r_31.2.2 != (0 : Int))
    (some (Ctl.ret false))
    (cond (decide ((0 : Int) < (r_31.2.1.length : Int)))
    (some (Ctl.ret false))
    (law17_LanesKeeps_L3 q_32 (k_29 + 1) r_31.1.Depth r_31.1.L))
def law17_LanesKeeps (x_0 : (List Int)) (x_1 : Int) : Option (Bool) :=
  (keep_New x_0).bind fun r_1 =>
    (lanes_New (2 : Int) (6 : Int)).bind fun r_2 =>
    cond (r_2.2 != (0 : Int))
    (some false)
    ((keep_Src_Range r_1 (1 : Int) (10 : Int)).bind fun r_3 =>
    Ctl.fin (law17_LanesKeeps_L1 r_3 9223372036854775807 r_3.2.L r_3.2.At r_2.1.Depth r_2.1.L (1 : Int)) fun z_12 =>
    (keep_Mod x_1 r_3.1).bind fun r_13 =>
    (lanes_Take (⟨z_12.1, z_12.2⟩ : Lanes) (w64 ((1 : Int) + r_13))).bind fun r_14 =>
    cond (r_14.2.2 != (0 : Int))
    (some false)
    ((ref17_In r_14.1 (w64 ((1 : Int) + r_13))).bind fun r_15 =>
    cond r_15
    (some false)
    (Ctl.fin (law17_LanesKeeps_L2 r_3 z_12 r_13 r_14 9223372036854775807 (1 : Int)) fun z_23 =>
    (apL ([] : List Int) r_14.2.1).bind fun l_24 =>
    (apL l_24 ([(w64 ((1 : Int) + r_13))] : List Int)).bind fun l_25 =>
    Ctl.fin (law17_LanesKeeps_L3 l_25 0 z_12.1 z_12.2) fun z_33 =>
    (law17_awake).bind fun r_34 =>
    some r_34)))
end Go.Proofs.Ytkefkegknacpjaa.Ex
