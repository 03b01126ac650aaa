/- What the functions of the program compute; printed by a program from their code. -/
import Derived.Test.YtkajegjghfbgaaaExT
import Derived.Test.YtkajegjghfbgaaaMpD
import Derived.Test.YtkajegjghfbgaaaStdLate
namespace Go.Proofs.Ytkajegjghfbgaaa.Ex
open Go.RowKit Go.Proofs.Ytkajegjghfbgaaa.Ax
set_option linter.unusedVariables false
set_option linter.unusedSimpArgs false
def keep_New (x_0 : (List Int)) : Option (Src) :=
  cond (decide ((2000 : Int) < (x_0.length : Int)))
    ((slL x_0 0 (2000 : Int)).bind fun l_1 =>
    some (⟨l_1, (0 : Int)⟩ : Src))
    (some (⟨x_0, (0 : Int)⟩ : Src))

def keep_Src_Raw (x_0 : Src) : Option (Int × Src) :=
  cond (decide ((x_0.L.length : Int) ≤ x_0.At))
    (some ((0 : Int), x_0))
    ((ixL x_0.L (w64 ((w64 (x_0.At + (1 : Int))) - (1 : Int)))).bind fun e_1 =>
    some (e_1, (⟨x_0.L, (w64 (x_0.At + (1 : Int)))⟩ : Src)))

def keep_Mod (x_0 : Int) (x_1 : Int) : Option (Int) :=
  cond (decide (x_1 < (1 : Int)))
    (some (0 : Int))
    ((nz x_1).bind fun u_1 =>
    cond (decide ((x_0.tmod x_1) < (0 : Int)))
    (some (w64 ((x_0.tmod x_1) + x_1)))
    (some (x_0.tmod x_1)))

def keep_Src_N (x_0 : Src) (x_1 : Int) : Option (Int × Src) :=
  (keep_Src_Raw x_0).bind fun r_1 =>
    (keep_Mod r_1.1 x_1).bind fun r_2 =>
    some (r_2, r_1.2)

def keep_Src_Minimums_L2 (i_4 : Int) : Nat → (List Int) → Int → (List Minimum) → Int → Option (Ctl ((List Minimum) × Src) ((List Int) × Int × (List Int) × Int × (List Minimum)))
  | 0, _, _, _, _ => none
  | q_12 + 1, a_5, i_6, a_7, i_8 => cond (decide (i_8 ≤ (5 : Int)))
    ((keep_Src_N (⟨a_5, i_6⟩ : Src) (3 : Int)).bind fun r_9 =>
    cond (r_9.1 == (1 : Int))
    ((keep_Src_N r_9.2 (12 : Int)).bind fun r_10 =>
    (apL a_7 ([(⟨i_4, i_8, r_10.1⟩ : Minimum)] : List Minimum)).bind fun l_11 =>
    keep_Src_Minimums_L2 i_4 q_12 r_10.2.L r_10.2.At l_11 (w64 (i_8 + (1 : Int))))
    (keep_Src_Minimums_L2 i_4 q_12 r_9.2.L r_9.2.At a_7 (w64 (i_8 + (1 : Int)))))
    (some (Ctl.brk (a_5, i_6, a_5, i_6, a_7)))
def keep_Src_Minimums_L1 : Nat → (List Int) → Int → (List Minimum) → Int → Option (Ctl ((List Minimum) × Src) ((List Int) × Int × (List Minimum)))
  | 0, _, _, _, _ => none
  | q_14 + 1, a_1, i_2, a_3, i_4 => cond (decide (i_4 ≤ (5 : Int)))
    (Ctl.sub (keep_Src_Minimums_L2 i_4 9223372036854775807 a_1 i_2 a_3 (0 : Int)) fun z_13 =>
    keep_Src_Minimums_L1 q_14 z_13.2.2.1 z_13.2.2.2.1 z_13.2.2.2.2 (w64 (i_4 + (1 : Int))))
    (some (Ctl.brk (a_1, i_2, a_3)))
def keep_Src_Minimums (x_0 : Src) : Option ((List Minimum) × Src) :=
  Ctl.fin (keep_Src_Minimums_L1 9223372036854775807 x_0.L x_0.At ([] : List Minimum) (0 : Int)) fun z_15 =>
    some (z_15.2.2, (⟨z_15.1, z_15.2.1⟩ : Src))

def keep_Src_Pick (x_0 : Src) (x_1 : (List Int)) : Option (Int × Src) :=
  (keep_Src_N x_0 (x_1.length : Int)).bind fun r_1 =>
    (ixL x_1 r_1.1).bind fun e_2 =>
    some (e_2, r_1.2)

def law24_spoilt (x_0 : Src) (x_1 : (List Minimum)) : Option ((List Minimum) × Src) :=
  (apL ([] : List Minimum) x_1).bind fun l_1 =>
    cond ((l_1.length : Int) == (0 : Int))
    ((keep_Src_Raw x_0).bind fun r_2 =>
    (apL l_1 ([(⟨(0 : Int), (0 : Int), r_2.1⟩ : Minimum)] : List Minimum)).bind fun l_3 =>
    some (l_3, r_2.2))
    ((keep_Src_N x_0 (l_1.length : Int)).bind fun r_4 =>
    (keep_Src_N r_4.2 (4 : Int)).bind fun r_5 =>
    cond (r_5.1 == (0 : Int))
    ((keep_Src_Pick r_5.2 ([(-1 : Int), (1048576 : Int), (1048577 : Int)] : List Int)).bind fun r_6 =>
    (ixL l_1 r_4.1).bind fun e_7 =>
    some ((l_1.set r_4.1.toNat (⟨e_7.From, e_7.To, r_6.1⟩ : Minimum)), r_6.2))
    (cond (r_5.1 == (1 : Int))
    ((keep_Src_Pick r_5.2 ([(-1 : Int), (5 : Int), (6 : Int)] : List Int)).bind fun r_8 =>
    (ixL l_1 r_4.1).bind fun e_9 =>
    some ((l_1.set r_4.1.toNat (⟨e_9.From, r_8.1, e_9.Ticks⟩ : Minimum)), r_8.2))
    (cond (r_5.1 == (2 : Int))
    ((ixL l_1 (0 : Int)).bind fun e_10 =>
    (ixL l_1 r_4.1).bind fun e_11 =>
    some ((l_1.set r_4.1.toNat e_10), r_5.2))
    ((ixL l_1 (0 : Int)).bind fun e_12 =>
    (ixL l_1 r_4.1).bind fun e_13 =>
    (ixL l_1 r_4.1).bind fun e_14 =>
    (ixL (l_1.set r_4.1.toNat e_12) (0 : Int)).bind fun e_15 =>
    some (((l_1.set r_4.1.toNat e_12).set (0 : Int).toNat e_13), r_5.2)))))

def connect_in (x_0 : Int) (x_1 : Int) (x_2 : Int) : Option (Bool) :=
  cond (decide (x_1 ≤ x_0))
    (some (decide (x_0 ≤ x_2)))
    (some false)

def connect_Validate_L1 (x_0 : (List Minimum)) : (List Minimum) → Nat → Option (Ctl (Int) (Unit))
  | [], k_2 => some (Ctl.brk ())
  | e_3 :: q_8, k_2 => (connect_in e_3.From (0 : Int) (5 : Int)).bind fun r_4 =>
    cond (!r_4)
    (some (Ctl.ret (1 : Int)))
    ((connect_in e_3.To (0 : Int) (5 : Int)).bind fun r_5 =>
    cond (!r_5)
    (some (Ctl.ret (1 : Int)))
    ((connect_in e_3.Ticks (0 : Int) (1048576 : Int)).bind fun r_6 =>
    cond (!r_6)
    (some (Ctl.ret (1 : Int)))
    (cond ((k_2 : Int) == (0 : Int))
    (connect_Validate_L1 x_0 q_8 (k_2 + 1))
    ((ixL x_0 (w64 ((k_2 : Int) - (1 : Int)))).bind fun e_7 =>
    cond (e_3.From == e_7.From)
    (cond (e_3.To == e_7.To)
    (some (Ctl.ret (5 : Int)))
    (cond (decide (e_3.From < e_7.From))
    (some (Ctl.ret (9 : Int)))
    (cond (decide (e_3.To < e_7.To))
    (some (Ctl.ret (9 : Int)))
    (connect_Validate_L1 x_0 q_8 (k_2 + 1)))))
    (cond (decide (e_3.From < e_7.From))
    (some (Ctl.ret (9 : Int)))
    (connect_Validate_L1 x_0 q_8 (k_2 + 1)))))))
def connect_Validate (x_0 : (List Minimum)) : Option (Int) :=
  Ctl.fin (connect_Validate_L1 x_0 x_0 0) fun z_9 =>
    some (0 : Int)

def ref24_terminal (x_0 : Int) : Option (Bool) :=
  cond (decide ((0 : Int) ≤ x_0))
    (some (decide (x_0 ≤ (5 : Int))))
    (some false)

def ref24_Validate_L1 (x_0 : (List Minimum)) : (List Minimum) → Nat → Option (Ctl (Int) (Unit))
  | [], k_2 => some (Ctl.brk ())
  | e_3 :: q_7, k_2 => (ref24_terminal e_3.From).bind fun r_4 =>
    cond (!r_4)
    (some (Ctl.ret (1 : Int)))
    ((ref24_terminal e_3.To).bind fun r_5 =>
    cond (!r_5)
    (some (Ctl.ret (1 : Int)))
    (cond (decide (e_3.Ticks < (0 : Int)))
    (some (Ctl.ret (1 : Int)))
    (cond (decide ((1048576 : Int) < e_3.Ticks))
    (some (Ctl.ret (1 : Int)))
    (cond ((k_2 : Int) == (0 : Int))
    (ref24_Validate_L1 x_0 q_7 (k_2 + 1))
    ((ixL x_0 (w64 ((k_2 : Int) - (1 : Int)))).bind fun e_6 =>
    cond (e_6.From == e_3.From)
    (cond (e_6.To == e_3.To)
    (some (Ctl.ret (5 : Int)))
    (cond (decide (e_3.From < e_6.From))
    (some (Ctl.ret (9 : Int)))
    (cond (decide (e_3.To < e_6.To))
    (some (Ctl.ret (9 : Int)))
    (ref24_Validate_L1 x_0 q_7 (k_2 + 1)))))
    (cond (decide (e_3.From < e_6.From))
    (some (Ctl.ret (9 : Int)))
    (ref24_Validate_L1 x_0 q_7 (k_2 + 1))))))))
def ref24_Validate (x_0 : (List Minimum)) : Option (Int) :=
  Ctl.fin (ref24_Validate_L1 x_0 x_0 0) fun z_8 =>
    some (0 : Int)

def connect_ways_L2 (i_3 : Int) : Nat → (List Int) → Int → Option (Ctl (A6_A6_Int) ((List Int)))
  | 0, _, _ => none
  | q_9 + 1, a_4, i_5 => cond (decide (i_5 < (6 : Int)))
    ((gdA 6 i_3).bind fun u_6 =>
    (gdA 6 i_5).bind fun u_7 =>
    (ixL a_4 ((i_3 * (6 : Int)) + i_5)).bind fun v_8 =>
    connect_ways_L2 i_3 q_9 (a_4.set ((i_3 * (6 : Int)) + i_5).toNat (38797349 : Int)) (w64 (i_5 + (1 : Int))))
    (some (Ctl.brk a_4))
def connect_ways_L1 : Nat → (List Int) → Int → Option (Ctl (A6_A6_Int) ((List Int)))
  | 0, _, _ => none
  | q_11 + 1, a_2, i_3 => cond (decide (i_3 < (6 : Int)))
    (Ctl.sub (connect_ways_L2 i_3 9223372036854775807 a_2 (0 : Int)) fun z_10 =>
    connect_ways_L1 q_11 z_10 (w64 (i_3 + (1 : Int))))
    (some (Ctl.brk a_2))
def connect_ways_L3 : (List Minimum) → Nat → (List Int) → Option (Ctl (A6_A6_Int) ((List Int)))
  | [], k_15, a_13 => some (Ctl.brk a_13)
  | e_16 :: q_20, k_15, a_13 => (gdA 6 e_16.From).bind fun u_17 =>
    (gdA 6 e_16.To).bind fun u_18 =>
    (ixL a_13 ((e_16.From * (6 : Int)) + e_16.To)).bind fun v_19 =>
    connect_ways_L3 q_20 (k_15 + 1) (a_13.set ((e_16.From * (6 : Int)) + e_16.To).toNat e_16.Ticks)
def connect_ways_L6 (i_23 : Int) (i_25 : Int) : Nat → (List Int) → Int → Option (Ctl (A6_A6_Int) ((List Int)))
  | 0, _, _ => none
  | q_40 + 1, a_26, i_27 => cond (decide (i_27 < (6 : Int)))
    ((gdA 6 i_25).bind fun u_28 =>
    (gdA 6 i_27).bind fun u_29 =>
    (ixL a_26 ((i_25 * (6 : Int)) + i_27)).bind fun v_30 =>
    (gdA 6 i_25).bind fun u_31 =>
    (gdA 6 i_23).bind fun u_32 =>
    (ixL a_26 ((i_25 * (6 : Int)) + i_23)).bind fun v_33 =>
    (gdA 6 i_23).bind fun u_34 =>
    (gdA 6 i_27).bind fun u_35 =>
    (ixL a_26 ((i_23 * (6 : Int)) + i_27)).bind fun v_36 =>
    (gdA 6 i_25).bind fun u_37 =>
    (gdA 6 i_27).bind fun u_38 =>
    (ixL a_26 ((i_25 * (6 : Int)) + i_27)).bind fun v_39 =>
    connect_ways_L6 i_23 i_25 q_40 (a_26.set ((i_25 * (6 : Int)) + i_27).toNat (if (w64 (v_33 + v_36)) < v_30 then (w64 (v_33 + v_36)) else v_30)) (w64 (i_27 + (1 : Int))))
    (some (Ctl.brk a_26))
def connect_ways_L5 (i_23 : Int) : Nat → (List Int) → Int → Option (Ctl (A6_A6_Int) ((List Int)))
  | 0, _, _ => none
  | q_42 + 1, a_24, i_25 => cond (decide (i_25 < (6 : Int)))
    (Ctl.sub (connect_ways_L6 i_23 i_25 9223372036854775807 a_24 (0 : Int)) fun z_41 =>
    connect_ways_L5 i_23 q_42 z_41 (w64 (i_25 + (1 : Int))))
    (some (Ctl.brk a_24))
def connect_ways_L4 : Nat → (List Int) → Int → Option (Ctl (A6_A6_Int) ((List Int)))
  | 0, _, _ => none
  | q_44 + 1, a_22, i_23 => cond (decide (i_23 < (6 : Int)))
    (Ctl.sub (connect_ways_L5 i_23 9223372036854775807 a_22 (0 : Int)) fun z_43 =>
    connect_ways_L4 q_44 z_43 (w64 (i_23 + (1 : Int))))
    (some (Ctl.brk a_22))
def connect_ways (x_0 : (List Minimum)) : Option (A6_A6_Int) :=
  (alL 36 (0 : Int)).bind fun l_1 =>
    Ctl.fin (connect_ways_L1 9223372036854775807 l_1 (0 : Int)) fun z_12 =>
    Ctl.fin (connect_ways_L3 x_0 0 z_12) fun z_21 =>
    Ctl.fin (connect_ways_L4 9223372036854775807 z_21 (0 : Int)) fun z_45 =>
    (ldL 36 z_45).bind fun u_46 =>
    some (⟨(⟨(z_45.getD 0 (0 : Int)), (z_45.getD 1 (0 : Int)), (z_45.getD 2 (0 : Int)), (z_45.getD 3 (0 : Int)), (z_45.getD 4 (0 : Int)), (z_45.getD 5 (0 : Int))⟩ : A6_Int), (⟨(z_45.getD 6 (0 : Int)), (z_45.getD 7 (0 : Int)), (z_45.getD 8 (0 : Int)), (z_45.getD 9 (0 : Int)), (z_45.getD 10 (0 : Int)), (z_45.getD 11 (0 : Int))⟩ : A6_Int), (⟨(z_45.getD 12 (0 : Int)), (z_45.getD 13 (0 : Int)), (z_45.getD 14 (0 : Int)), (z_45.getD 15 (0 : Int)), (z_45.getD 16 (0 : Int)), (z_45.getD 17 (0 : Int))⟩ : A6_Int), (⟨(z_45.getD 18 (0 : Int)), (z_45.getD 19 (0 : Int)), (z_45.getD 20 (0 : Int)), (z_45.getD 21 (0 : Int)), (z_45.getD 22 (0 : Int)), (z_45.getD 23 (0 : Int))⟩ : A6_Int), (⟨(z_45.getD 24 (0 : Int)), (z_45.getD 25 (0 : Int)), (z_45.getD 26 (0 : Int)), (z_45.getD 27 (0 : Int)), (z_45.getD 28 (0 : Int)), (z_45.getD 29 (0 : Int))⟩ : A6_Int), (⟨(z_45.getD 30 (0 : Int)), (z_45.getD 31 (0 : Int)), (z_45.getD 32 (0 : Int)), (z_45.getD 33 (0 : Int)), (z_45.getD 34 (0 : Int)), (z_45.getD 35 (0 : Int))⟩ : A6_Int)⟩ : A6_A6_Int)

def connect_Least (x_0 : (List Minimum)) (x_1 : Int) (x_2 : Int) : Option (Int × Bool) :=
  (connect_Validate x_0).bind fun r_1 =>
    cond (r_1 != (0 : Int))
    (some ((0 : Int), false))
    ((connect_in x_1 (0 : Int) (5 : Int)).bind fun r_2 =>
    cond (!r_2)
    (some ((0 : Int), false))
    ((connect_in x_2 (0 : Int) (5 : Int)).bind fun r_3 =>
    cond (!r_3)
    (some ((0 : Int), false))
    ((connect_ways x_0).bind fun r_4 =>
    cond (x_1 == (0 : Int))
    (cond (x_2 == (0 : Int))
    (cond (decide ((38797349 : Int) ≤ r_4.e0.e0))
    (some ((0 : Int), false))
    (some (r_4.e0.e0, true)))
    (cond (x_2 == (1 : Int))
    (cond (decide ((38797349 : Int) ≤ r_4.e0.e1))
    (some ((0 : Int), false))
    (some (r_4.e0.e1, true)))
    (cond (x_2 == (2 : Int))
    (cond (decide ((38797349 : Int) ≤ r_4.e0.e2))
    (some ((0 : Int), false))
    (some (r_4.e0.e2, true)))
    (cond (x_2 == (3 : Int))
    (cond (decide ((38797349 : Int) ≤ r_4.e0.e3))
    (some ((0 : Int), false))
    (some (r_4.e0.e3, true)))
    (cond (x_2 == (4 : Int))
    (cond (decide ((38797349 : Int) ≤ r_4.e0.e4))
    (some ((0 : Int), false))
    (some (r_4.e0.e4, true)))
    (cond (x_2 == (5 : Int))
    (cond (decide ((38797349 : Int) ≤ r_4.e0.e5))
    (some ((0 : Int), false))
    (some (r_4.e0.e5, true)))
    (none)))))))
    (cond (x_1 == (1 : Int))
    (cond (x_2 == (0 : Int))
    (cond (decide ((38797349 : Int) ≤ r_4.e1.e0))
    (some ((0 : Int), false))
    (some (r_4.e1.e0, true)))
    (cond (x_2 == (1 : Int))
    (cond (decide ((38797349 : Int) ≤ r_4.e1.e1))
    (some ((0 : Int), false))
    (some (r_4.e1.e1, true)))
    (cond (x_2 == (2 : Int))
    (cond (decide ((38797349 : Int) ≤ r_4.e1.e2))
    (some ((0 : Int), false))
    (some (r_4.e1.e2, true)))
    (cond (x_2 == (3 : Int))
    (cond (decide ((38797349 : Int) ≤ r_4.e1.e3))
    (some ((0 : Int), false))
    (some (r_4.e1.e3, true)))
    (cond (x_2 == (4 : Int))
    (cond (decide ((38797349 : Int) ≤ r_4.e1.e4))
    (some ((0 : Int), false))
    (some (r_4.e1.e4, true)))
    (cond (x_2 == (5 : Int))
    (cond (decide ((38797349 : Int) ≤ r_4.e1.e5))
    (some ((0 : Int), false))
    (some (r_4.e1.e5, true)))
    (none)))))))
    (cond (x_1 == (2 : Int))
    (cond (x_2 == (0 : Int))
    (cond (decide ((38797349 : Int) ≤ r_4.e2.e0))
    (some ((0 : Int), false))
    (some (r_4.e2.e0, true)))
    (cond (x_2 == (1 : Int))
    (cond (decide ((38797349 : Int) ≤ r_4.e2.e1))
    (some ((0 : Int), false))
    (some (r_4.e2.e1, true)))
    (cond (x_2 == (2 : Int))
    (cond (decide ((38797349 : Int) ≤ r_4.e2.e2))
    (some ((0 : Int), false))
    (some (r_4.e2.e2, true)))
    (cond (x_2 == (3 : Int))
    (cond (decide ((38797349 : Int) ≤ r_4.e2.e3))
    (some ((0 : Int), false))
    (some (r_4.e2.e3, true)))
    (cond (x_2 == (4 : Int))
    (cond (decide ((38797349 : Int) ≤ r_4.e2.e4))
    (some ((0 : Int), false))
    (some (r_4.e2.e4, true)))
    (cond (x_2 == (5 : Int))
    (cond (decide ((38797349 : Int) ≤ r_4.e2.e5))
    (some ((0 : Int), false))
    (some (r_4.e2.e5, true)))
    (none)))))))
    (cond (x_1 == (3 : Int))
    (cond (x_2 == (0 : Int))
    (cond (decide ((38797349 : Int) ≤ r_4.e3.e0))
    (some ((0 : Int), false))
    (some (r_4.e3.e0, true)))
    (cond (x_2 == (1 : Int))
    (cond (decide ((38797349 : Int) ≤ r_4.e3.e1))
    (some ((0 : Int), false))
    (some (r_4.e3.e1, true)))
    (cond (x_2 == (2 : Int))
    (cond (decide ((38797349 : Int) ≤ r_4.e3.e2))
    (some ((0 : Int), false))
    (some (r_4.e3.e2, true)))
    (cond (x_2 == (3 : Int))
    (cond (decide ((38797349 : Int) ≤ r_4.e3.e3))
    (some ((0 : Int), false))
    (some (r_4.e3.e3, true)))
    (cond (x_2 == (4 : Int))
    (cond (decide ((38797349 : Int) ≤ r_4.e3.e4))
    (some ((0 : Int), false))
    (some (r_4.e3.e4, true)))
    (cond (x_2 == (5 : Int))
    (cond (decide ((38797349 : Int) ≤ r_4.e3.e5))
    (some ((0 : Int), false))
    (some (r_4.e3.e5, true)))
    (none)))))))
    (cond (x_1 == (4 : Int))
    (cond (x_2 == (0 : Int))
    (cond (decide ((38797349 : Int) ≤ r_4.e4.e0))
    (some ((0 : Int), false))
    (some (r_4.e4.e0, true)))
    (cond (x_2 == (1 : Int))
    (cond (decide ((38797349 : Int) ≤ r_4.e4.e1))
    (some ((0 : Int), false))
    (some (r_4.e4.e1, true)))
    (cond (x_2 == (2 : Int))
    (cond (decide ((38797349 : Int) ≤ r_4.e4.e2))
    (some ((0 : Int), false))
    (some (r_4.e4.e2, true)))
    (cond (x_2 == (3 : Int))
    (cond (decide ((38797349 : Int) ≤ r_4.e4.e3))
    (some ((0 : Int), false))
    (some (r_4.e4.e3, true)))
    (cond (x_2 == (4 : Int))
    (cond (decide ((38797349 : Int) ≤ r_4.e4.e4))
    (some ((0 : Int), false))
    (some (r_4.e4.e4, true)))
    (cond (x_2 == (5 : Int))
    (cond (decide ((38797349 : Int) ≤ r_4.e4.e5))
    (some ((0 : Int), false))
    (some (r_4.e4.e5, true)))
    (none)))))))
    (cond (x_1 == (5 : Int))
    (cond (x_2 == (0 : Int))
    (cond (decide ((38797349 : Int) ≤ r_4.e5.e0))
    (some ((0 : Int), false))
    (some (r_4.e5.e0, true)))
    (cond (x_2 == (1 : Int))
    (cond (decide ((38797349 : Int) ≤ r_4.e5.e1))
    (some ((0 : Int), false))
    (some (r_4.e5.e1, true)))
    (cond (x_2 == (2 : Int))
    (cond (decide ((38797349 : Int) ≤ r_4.e5.e2))
    (some ((0 : Int), false))
    (some (r_4.e5.e2, true)))
    (cond (x_2 == (3 : Int))
    (cond (decide ((38797349 : Int) ≤ r_4.e5.e3))
    (some ((0 : Int), false))
    (some (r_4.e5.e3, true)))
    (cond (x_2 == (4 : Int))
    (cond (decide ((38797349 : Int) ≤ r_4.e5.e4))
    (some ((0 : Int), false))
    (some (r_4.e5.e4, true)))
    (cond (x_2 == (5 : Int))
    (cond (decide ((38797349 : Int) ≤ r_4.e5.e5))
    (some ((0 : Int), false))
    (some (r_4.e5.e5, true)))
    (none)))))))
    (none)))))))))

def ref24_Least_L1 : Nat → (List Int) → Int → Option (Ctl (Int × Bool) ((List Int)))
  | 0, _, _ => none
  | q_9 + 1, a_5, i_6 => cond (decide (i_6 < (6 : Int)))
    ((gdA 6 i_6).bind fun u_7 =>
    (ixL a_5 i_6).bind fun v_8 =>
    ref24_Least_L1 q_9 (a_5.set i_6.toNat (1099511627776 : Int)) (w64 (i_6 + (1 : Int))))
    (some (Ctl.brk a_5))
def ref24_Least_L2 (x_1 : Int) : (List Minimum) → Nat → (List Int) → Option (Ctl (Int × Bool) ((List Int)))
  | [], k_13, a_11 => some (Ctl.brk a_11)
  | e_14 :: q_17, k_13, a_11 => cond (e_14.From == x_1)
    ((gdA 6 e_14.To).bind fun u_15 =>
    (ixL a_11 e_14.To).bind fun v_16 =>
    ref24_Least_L2 x_1 q_17 (k_13 + 1) (a_11.set e_14.To.toNat e_14.Ticks))
    (ref24_Least_L2 x_1 q_17 (k_13 + 1) a_11)
def ref24_Least_L4 : (List Minimum) → Nat → (List Int) → Option (Ctl (Int × Bool) ((List Int)))
  | [], k_23, a_21 => some (Ctl.brk a_21)
  | e_24 :: q_33, k_23, a_21 => (gdA 6 e_24.From).bind fun u_25 =>
    (ixL a_21 e_24.From).bind fun v_26 =>
    cond (decide (v_26 < (1099511627776 : Int)))
    ((gdA 6 e_24.To).bind fun u_27 =>
    (ixL a_21 e_24.To).bind fun v_28 =>
    (gdA 6 e_24.From).bind fun u_29 =>
    (ixL a_21 e_24.From).bind fun v_30 =>
    (gdA 6 e_24.To).bind fun u_31 =>
    (ixL a_21 e_24.To).bind fun v_32 =>
    ref24_Least_L4 q_33 (k_23 + 1) (a_21.set e_24.To.toNat (if (w64 (v_30 + e_24.Ticks)) < v_28 then (w64 (v_30 + e_24.Ticks)) else v_28)))
    (ref24_Least_L4 q_33 (k_23 + 1) a_21)
def ref24_Least_L3 (x_0 : (List Minimum)) : Nat → (List Int) → Int → Option (Ctl (Int × Bool) ((List Int)))
  | 0, _, _ => none
  | q_35 + 1, a_19, i_20 => cond (decide (i_20 ≤ (5 : Int)))
    (Ctl.sub (ref24_Least_L4 x_0 0 a_19) fun z_34 =>
    ref24_Least_L3 x_0 q_35 z_34 (w64 (i_20 + (1 : Int))))
    (some (Ctl.brk a_19))
def ref24_Least (x_0 : (List Minimum)) (x_1 : Int) (x_2 : Int) : Option (Int × Bool) :=
  (ref24_Validate x_0).bind fun r_1 =>
    cond (r_1 != (0 : Int))
    (some ((0 : Int), false))
    ((ref24_terminal x_1).bind fun r_2 =>
    cond (!r_2)
    (some ((0 : Int), false))
    ((ref24_terminal x_2).bind fun r_3 =>
    cond (!r_3)
    (some ((0 : Int), false))
    ((alL 6 (0 : Int)).bind fun l_4 =>
    Ctl.fin (ref24_Least_L1 9223372036854775807 l_4 (0 : Int)) fun z_10 =>
    Ctl.fin (ref24_Least_L2 x_1 x_0 0 z_10) fun z_18 =>
    Ctl.fin (ref24_Least_L3 x_0 9223372036854775807 z_18 (0 : Int)) fun z_36 =>
    (gdA 6 x_2).bind fun u_37 =>
    (ixL z_36 x_2).bind fun v_38 =>
    cond (v_38 == (1099511627776 : Int))
    (some ((0 : Int), false))
    ((gdA 6 x_2).bind fun u_39 =>
    (ixL z_36 x_2).bind fun v_40 =>
    some (v_40, true)))))

def law24_table : Option ((List Minimum)) :=
  some ([(⟨(0 : Int), (1 : Int), (10 : Int)⟩ : Minimum), (⟨(0 : Int), (2 : Int), (3 : Int)⟩ : Minimum), (⟨(2 : Int), (1 : Int), (4 : Int)⟩ : Minimum)] : List Minimum)

def keep_Plates (x_0 : Int) : Option (Plate) :=
  (keep_Mod x_0 (1000 : Int)).bind fun r_1 =>
    some (⟨(w64 (r_1.tdiv (500 : Int))), (w64 ((117 : Int) + ((w64 (r_1.tdiv (100 : Int))).tmod (5 : Int)))), (w64 ((1000 : Int) + (r_1.tmod (100 : Int))))⟩ : Plate)

def law24_late : Option ((List Connecting)) :=
  (keep_Plates (1 : Int)).bind fun r_1 =>
    (keep_Plates (2 : Int)).bind fun r_2 =>
    some ([(⟨r_1, (100 : Int), (0 : Int), (1 : Int), (2 : Int)⟩ : Connecting), (⟨r_2, (104 : Int), (0 : Int), (1 : Int), (0 : Int)⟩ : Connecting)] : List Connecting)

def plate_Valid (x_0 : Plate) : Option (Bool) :=
  cond (decide ((0 : Int) ≤ x_0.Lead))
    (cond (decide (x_0.Lead ≤ (9 : Int)))
    (cond (decide ((1 : Int) ≤ x_0.Airline))
    (cond (decide (x_0.Airline ≤ (999 : Int)))
    (cond (decide ((0 : Int) ≤ x_0.Serial))
    (some (decide (x_0.Serial < (1000000 : Int))))
    (some false))
    (some false))
    (some false))
    (some false))
    (some false)

def connect_valid (x_0 : Connecting) : Option (Bool) :=
  (plate_Valid x_0.Plate).bind fun r_1 =>
    cond r_1
    ((connect_in x_0.Ready (0 : Int) (1048576 : Int)).bind fun r_2 =>
    cond r_2
    ((connect_in x_0.From (0 : Int) (5 : Int)).bind fun r_3 =>
    cond r_3
    ((connect_in x_0.To (0 : Int) (5 : Int)).bind fun r_4 =>
    cond r_4
    ((connect_in x_0.Category (0 : Int) (4 : Int)).bind fun r_5 =>
    some r_5)
    (some false))
    (some false))
    (some false))
    (some false)

def connect_Slack (x_0 : (List Minimum)) (x_1 : Connecting) (x_2 : Int) : Option (Int × Bool) :=
  (connect_valid x_1).bind fun r_1 =>
    cond (!r_1)
    (some ((0 : Int), false))
    ((connect_in x_2 (0 : Int) (1048576 : Int)).bind fun r_2 =>
    cond (!r_2)
    (some ((0 : Int), false))
    ((connect_Least x_0 x_1.From x_1.To).bind fun r_3 =>
    cond (!r_3.2)
    (some ((0 : Int), false))
    (some ((w64 ((w64 (x_2 - x_1.Ready)) - r_3.1)), true))))

def law24_rules : Option ((List HoldRule)) :=
  some ([(⟨(1 : Int), (2 : Int), (5 : Int)⟩ : HoldRule), (⟨(2 : Int), (2 : Int), (3 : Int)⟩ : HoldRule)] : List HoldRule)

def connect_possible (x_0 : HoldRule) : Option (Bool) :=
  cond (x_0.Kind == (1 : Int))
    ((connect_in x_0.N (1 : Int) (40 : Int)).bind fun r_1 =>
    cond r_1
    ((connect_in x_0.Most (1 : Int) (1048576 : Int)).bind fun r_2 =>
    some r_2)
    (some false))
    (cond (x_0.Kind == (2 : Int))
    ((connect_in x_0.N (0 : Int) (4 : Int)).bind fun r_3 =>
    cond r_3
    ((connect_in x_0.Most (1 : Int) (1048576 : Int)).bind fun r_4 =>
    some r_4)
    (some false))
    (cond (x_0.Kind == (3 : Int))
    (cond (x_0.N == (0 : Int))
    (some (x_0.Most == (0 : Int)))
    (some false))
    (some false)))

def connect_arguments_L1 : (List HoldRule) → Nat → Option (Ctl (Int) (Unit))
  | [], k_4 => some (Ctl.brk ())
  | e_5 :: q_7, k_4 => (connect_possible e_5).bind fun r_6 =>
    cond (!r_6)
    (some (Ctl.ret (4 : Int)))
    (connect_arguments_L1 q_7 (k_4 + 1))
def connect_arguments_L2 : (List Connecting) → Nat → (List Plate) → Option (Ctl (Int) ((List Plate)))
  | [], k_11, a_9 => some (Ctl.brk a_9)
  | e_12 :: q_15, k_11, a_9 => (connect_valid e_12).bind fun r_13 =>
    cond (!r_13)
    (some (Ctl.ret (1 : Int)))
    ((mpL mpW a_9 e_12.Plate).bind fun m_14 =>
    connect_arguments_L2 q_15 (k_11 + 1) m_14)
def connect_arguments (x_0 : (List Minimum)) (x_1 : (List HoldRule)) (x_2 : (List Connecting)) (x_3 : Int) : Option (Int) :=
  (connect_Validate x_0).bind fun r_1 =>
    cond (r_1 != (0 : Int))
    (some r_1)
    ((connect_in x_3 (0 : Int) (1048576 : Int)).bind fun r_2 =>
    cond (!r_2)
    (some (1 : Int))
    (cond (decide ((8 : Int) < (x_1.length : Int)))
    (some (2 : Int))
    (cond (decide ((40 : Int) < (x_2.length : Int)))
    (some (2 : Int))
    (Ctl.fin (connect_arguments_L1 x_1 0) fun z_8 =>
    Ctl.fin (connect_arguments_L2 x_2 0 ([] : List Plate)) fun z_16 =>
    cond (decide ((mpN mpK z_16) < (x_2.length : Int)))
    (some (5 : Int))
    (some (0 : Int))))))

def slices_SortFunc_late (x_0 : (List Late)) : Option ((List Late)) :=
  sortL srtOk_Late srtC_Late x_0

def connect_wait_f1 (x_0 : Late) (x_1 : HoldRule) : Option (Bool) :=
  some (x_0.category == x_1.N)

def slices_IndexFunc_late_L1 (x_1 : HoldRule) : (List Late) → Nat → Option (Ctl (Int) (Unit))
  | [], k_2 => some (Ctl.brk ())
  | e_3 :: q_5, k_2 => (connect_wait_f1 e_3 x_1).bind fun r_4 =>
    cond r_4
    (some (Ctl.ret (k_2 : Int)))
    (slices_IndexFunc_late_L1 x_1 q_5 (k_2 + 1))
def slices_IndexFunc_late (x_0 : (List Late)) (x_1 : HoldRule) : Option (Int) :=
  Ctl.fin (slices_IndexFunc_late_L1 x_1 x_0 0) fun z_6 =>
    some (-1 : Int)

def connect_wait (x_0 : HoldRule) (x_1 : (List Late)) : Option (Int × Bool) :=
  cond (x_0.Kind == (1 : Int))
    (cond (decide (x_0.N ≤ (x_1.length : Int)))
    ((ixL x_1 (w64 (x_0.N - (1 : Int)))).bind fun e_1 =>
    cond (decide (e_1.need ≤ x_0.Most))
    ((ixL x_1 (w64 (x_0.N - (1 : Int)))).bind fun e_2 =>
    some (e_2.need, true))
    (some ((0 : Int), false)))
    (some ((0 : Int), false)))
    (cond (x_0.Kind == (2 : Int))
    ((slices_IndexFunc_late x_1 x_0).bind fun r_3 =>
    cond (decide ((0 : Int) ≤ r_3))
    ((ixL x_1 r_3).bind fun e_4 =>
    cond (decide (e_4.need ≤ x_0.Most))
    ((ixL x_1 r_3).bind fun e_5 =>
    some (e_5.need, true))
    (some ((0 : Int), false)))
    (some ((0 : Int), false)))
    (some ((0 : Int), true)))

def connect_Decide_L1 (x_0 : (List Minimum)) (x_3 : Int) : (List Connecting) → Nat → (List Late) → Option (Ctl (Hold × Int) ((List Late)))
  | [], k_4, a_2 => some (Ctl.brk a_2)
  | e_5 :: q_8, k_4, a_2 => (connect_Slack x_0 e_5 x_3).bind fun r_6 =>
    cond r_6.2
    (cond (decide (r_6.1 < (0 : Int)))
    ((apL a_2 ([(⟨(IntKind.i64.wrap (0 - r_6.1)), e_5.Category⟩ : Late)] : List Late)).bind fun l_7 =>
    connect_Decide_L1 x_0 x_3 q_8 (k_4 + 1) l_7)
    (connect_Decide_L1 x_0 x_3 q_8 (k_4 + 1) a_2))
    (connect_Decide_L1 x_0 x_3 q_8 (k_4 + 1) a_2)
def connect_Decide_L2 (r_10 : (List Late)) : (List HoldRule) → Nat → Option (Ctl (Hold × Int) (Int × Int))
  | [], k_12 => some (Ctl.brk ((0 : Int), (-1 : Int)))
  | e_13 :: q_15, k_12 => (connect_wait e_13 r_10).bind fun r_14 =>
    cond r_14.2
    (some (Ctl.brk (r_14.1, (k_12 : Int))))
    (connect_Decide_L2 r_10 q_15 (k_12 + 1))
def connect_Decide_L3 (x_0 : (List Minimum)) (x_3 : Int) (z_16 : Int × Int) : (List Connecting) → Nat → (List Plate) → Option (Ctl (Hold × Int) ((List Plate)))
  | [], k_19, a_17 => some (Ctl.brk a_17)
  | e_20 :: q_24, k_19, a_17 => (connect_Slack x_0 e_20 x_3).bind fun r_21 =>
    cond (!r_21.2)
    ((apL a_17 ([e_20.Plate] : List Plate)).bind fun l_22 =>
    connect_Decide_L3 x_0 x_3 z_16 q_24 (k_19 + 1) l_22)
    (cond (decide (r_21.1 < (IntKind.i64.wrap (0 - z_16.1))))
    ((apL a_17 ([e_20.Plate] : List Plate)).bind fun l_23 =>
    connect_Decide_L3 x_0 x_3 z_16 q_24 (k_19 + 1) l_23)
    (connect_Decide_L3 x_0 x_3 z_16 q_24 (k_19 + 1) a_17))
def connect_Decide (x_0 : (List Minimum)) (x_1 : (List HoldRule)) (x_2 : (List Connecting)) (x_3 : Int) : Option (Hold × Int) :=
  (connect_arguments x_0 x_1 x_2 x_3).bind fun r_1 =>
    cond (r_1 != (0 : Int))
    (some ((⟨(0 : Int), (0 : Int), ([] : (List Plate))⟩ : Hold), r_1))
    (Ctl.fin (connect_Decide_L1 x_0 x_3 x_2 0 ([] : List Late)) fun z_9 =>
    (slices_SortFunc_late z_9).bind fun r_10 =>
    Ctl.fin (connect_Decide_L2 r_10 x_1 0) fun z_16 =>
    Ctl.fin (connect_Decide_L3 x_0 x_3 z_16 x_2 0 ([] : List Plate)) fun z_25 =>
    some ((⟨z_16.1, z_16.2, z_25⟩ : Hold), (0 : Int)))

def law24_awake : Option (Bool) :=
  (law24_table).bind fun r_1 =>
    (connect_Least r_1 (0 : Int) (1 : Int)).bind fun r_2 =>
    (law24_table).bind fun r_3 =>
    (law24_late).bind fun r_4 =>
    (ixL r_4 (0 : Int)).bind fun e_5 =>
    (connect_Slack r_3 e_5 (105 : Int)).bind fun r_6 =>
    (law24_table).bind fun r_7 =>
    (law24_rules).bind fun r_8 =>
    (law24_late).bind fun r_9 =>
    (connect_Decide r_7 r_8 r_9 (105 : Int)).bind fun r_10 =>
    cond (r_2.1 == (7 : Int))
    (cond r_2.2
    (cond (r_6.1 == (-2 : Int))
    (cond r_6.2
    (cond (r_10.2 == (0 : Int))
    (cond (r_10.1.Wait == (2 : Int))
    (cond (r_10.1.Rule == (1 : Int))
    (cond ((r_10.1.Left.length : Int) == (1 : Int))
    ((ixL r_10.1.Left (0 : Int)).bind fun e_11 =>
    (keep_Plates (2 : Int)).bind fun r_12 =>
    some ((e_11.Lead == r_12.Lead) && ((e_11.Airline == r_12.Airline) && ((e_11.Serial == r_12.Serial) && true))))
    (some false))
    (some false))
    (some false))
    (some false))
    (some false))
    (some false))
    (some false))
    (some false)

def law24_ConnectValidates_L3 (e_7 : (List Minimum)) (i_10 : Int) : Nat → Int → Option (Ctl (Bool) (Unit))
  | 0, _ => none
  | q_14 + 1, i_11 => cond (decide (i_11 ≤ (6 : Int)))
    ((connect_Least e_7 i_10 i_11).bind fun r_12 =>
    (ref24_Least e_7 i_10 i_11).bind fun r_13 =>
    cond (r_12.1 != r_13.1)
    (some (Ctl.ret false))
    (cond (!(r_12.2 == r_13.2))
    (some (Ctl.ret false))
    (law24_ConnectValidates_L3 e_7 i_10 q_14 (w64 (i_11 + (1 : Int))))))
    (some (Ctl.brk ()))
def law24_ConnectValidates_L2 (e_7 : (List Minimum)) : Nat → Int → Option (Ctl (Bool) (Unit))
  | 0, _ => none
  | q_16 + 1, i_10 => cond (decide (i_10 ≤ (6 : Int)))
    (Ctl.sub (law24_ConnectValidates_L3 e_7 i_10 9223372036854775807 (-1 : Int)) fun z_15 =>
    law24_ConnectValidates_L2 e_7 q_16 (w64 (i_10 + (1 : Int))))
    (some (Ctl.brk ()))
def law24_ConnectValidates_L1 (x_2 : Int) (x_3 : Int) : (List (List Minimum)) → Nat → Option (Ctl (Bool) (Unit))
  | [], k_6 => some (Ctl.brk ())
  | e_7 :: q_20, k_6 => (connect_Validate e_7).bind fun r_8 =>
    (ref24_Validate e_7).bind fun r_9 =>
    cond (r_8 != r_9)
    (some (Ctl.ret false))
    (Ctl.sub (law24_ConnectValidates_L2 e_7 9223372036854775807 (-1 : Int)) fun z_17 =>
    (connect_Least e_7 x_2 x_3).bind fun r_18 =>
    (ref24_Least e_7 x_2 x_3).bind fun r_19 =>
    cond (r_18.1 != r_19.1)
    (some (Ctl.ret false))
    (cond (!(r_18.2 == r_19.2))
    (some (Ctl.ret false))
    (law24_ConnectValidates_L1 x_2 x_3 q_20 (k_6 + 1))))
def law24_ConnectValidates (x_0 : (List Minimum)) (x_1 : (List Int)) (x_2 : Int) (x_3 : Int) : Option (Bool) :=
  (keep_New x_1).bind fun r_1 =>
    (keep_Src_Minimums r_1).bind fun r_2 =>
    (slL x_0 0 (if (50 : Int) < (x_0.length : Int) then (50 : Int) else (x_0.length : Int))).bind fun l_3 =>
    (law24_spoilt r_2.2 r_2.1).bind fun r_4 =>
    Ctl.fin (law24_ConnectValidates_L1 x_2 x_3 ([l_3, r_2.1, r_4.1] : List (List Minimum)) 0) fun z_21 =>
    (law24_awake).bind fun r_22 =>
    some r_22

def law24_ConnectWays_L2 (r_2 : (List Minimum) × Src) (i_7 : Int) : Nat → (List Int) → (List Bool) → Int → Option (Ctl (Bool) ((List Int) × (List Bool)))
  | 0, _, _, _ => none
  | q_18 + 1, a_8, a_9, i_10 => cond (decide (i_10 < (6 : Int)))
    ((connect_Least r_2.1 i_7 i_10).bind fun r_11 =>
    (gdA 6 i_7).bind fun u_12 =>
    (gdA 6 i_10).bind fun u_13 =>
    (ixL a_8 ((i_7 * (6 : Int)) + i_10)).bind fun v_14 =>
    (gdA 6 i_7).bind fun u_15 =>
    (gdA 6 i_10).bind fun u_16 =>
    (ixL a_9 ((i_7 * (6 : Int)) + i_10)).bind fun v_17 =>
    law24_ConnectWays_L2 r_2 i_7 q_18 (a_8.set ((i_7 * (6 : Int)) + i_10).toNat r_11.1) (a_9.set ((i_7 * (6 : Int)) + i_10).toNat r_11.2) (w64 (i_10 + (1 : Int))))
    (some (Ctl.brk (a_8, a_9)))
def law24_ConnectWays_L1 (r_2 : (List Minimum) × Src) : Nat → (List Int) → (List Bool) → Int → Option (Ctl (Bool) ((List Int) × (List Bool)))
  | 0, _, _, _ => none
  | q_20 + 1, a_5, a_6, i_7 => cond (decide (i_7 < (6 : Int)))
    (Ctl.sub (law24_ConnectWays_L2 r_2 i_7 9223372036854775807 a_5 a_6 (0 : Int)) fun z_19 =>
    law24_ConnectWays_L1 r_2 q_20 z_19.1 z_19.2 (w64 (i_7 + (1 : Int))))
    (some (Ctl.brk (a_5, a_6)))
def law24_ConnectWays_L5 (i_23 : Int) : (List Minimum) → Nat → (List Minimum) → Option (Ctl (Bool) ((List Minimum)))
  | [], k_30, a_28 => some (Ctl.brk a_28)
  | e_31 :: q_33, k_30, a_28 => cond (e_31.From == i_23)
    ((apL a_28 ([e_31] : List Minimum)).bind fun l_32 =>
    law24_ConnectWays_L5 i_23 q_33 (k_30 + 1) l_32)
    (law24_ConnectWays_L5 i_23 q_33 (k_30 + 1) a_28)
def law24_ConnectWays_L4 (r_2 : (List Minimum) × Src) (z_21 : (List Int) × (List Bool)) (i_22 : Int) : (List Int) → Nat → Int → Int → Option (Ctl (Bool) (Unit))
  | [], k_26, i_23, i_24 => some (Ctl.brk ())
  | e_27 :: q_43, k_26, i_23, i_24 => cond (decide ((k_26 : Int) < (30 : Int)))
    (Ctl.sub (law24_ConnectWays_L5 i_23 r_2.1 0 ([] : List Minimum)) fun z_34 =>
    cond ((z_34.length : Int) == (0 : Int))
    (some (Ctl.brk ()))
    ((keep_Mod e_27 (z_34.length : Int)).bind fun r_35 =>
    (ixL z_34 r_35).bind fun e_36 =>
    (gdA 6 i_22).bind fun u_37 =>
    (gdA 6 e_36.To).bind fun u_38 =>
    (ixL z_21.2 ((i_22 * (6 : Int)) + e_36.To)).bind fun v_39 =>
    cond (!v_39)
    (some (Ctl.ret false))
    ((gdA 6 i_22).bind fun u_40 =>
    (gdA 6 e_36.To).bind fun u_41 =>
    (ixL z_21.1 ((i_22 * (6 : Int)) + e_36.To)).bind fun v_42 =>
    cond (decide ((w64 (i_24 + e_36.Ticks)) < v_42))
    (some (Ctl.ret false))
    (law24_ConnectWays_L4 r_2 z_21 i_22 q_43 (k_26 + 1) e_36.To (w64 (i_24 + e_36.Ticks))))))
    (some (Ctl.brk ()))
def law24_ConnectWays_L3 (x_1 : (List Int)) (r_2 : (List Minimum) × Src) (z_21 : (List Int) × (List Bool)) : Nat → Int → Option (Ctl (Bool) (Unit))
  | 0, _ => none
  | q_45 + 1, i_22 => cond (decide (i_22 < (6 : Int)))
    (Ctl.sub (law24_ConnectWays_L4 r_2 z_21 i_22 x_1 0 i_22 (0 : Int)) fun z_44 =>
    law24_ConnectWays_L3 x_1 r_2 z_21 q_45 (w64 (i_22 + (1 : Int))))
    (some (Ctl.brk ()))
def law24_ConnectWays_L8 (z_21 : (List Int) × (List Bool)) (i_47 : Int) (i_48 : Int) : (List Minimum) → Nat → Bool → Option (Ctl (Bool) (Bool))
  | [], k_54, b_52 => some (Ctl.brk b_52)
  | e_55 :: q_77, k_54, b_52 => cond b_52
    (law24_ConnectWays_L8 z_21 i_47 i_48 q_77 (k_54 + 1) true)
    (cond (e_55.To == i_48)
    (cond (e_55.From == i_47)
    ((gdA 6 i_47).bind fun u_56 =>
    (gdA 6 i_48).bind fun u_57 =>
    (ixL z_21.1 ((i_47 * (6 : Int)) + i_48)).bind fun v_58 =>
    cond (e_55.Ticks == v_58)
    (law24_ConnectWays_L8 z_21 i_47 i_48 q_77 (k_54 + 1) true)
    ((gdA 6 i_47).bind fun u_59 =>
    (gdA 6 e_55.From).bind fun u_60 =>
    (ixL z_21.2 ((i_47 * (6 : Int)) + e_55.From)).bind fun v_61 =>
    cond v_61
    ((gdA 6 i_47).bind fun u_62 =>
    (gdA 6 e_55.From).bind fun u_63 =>
    (ixL z_21.1 ((i_47 * (6 : Int)) + e_55.From)).bind fun v_64 =>
    (gdA 6 i_47).bind fun u_65 =>
    (gdA 6 i_48).bind fun u_66 =>
    (ixL z_21.1 ((i_47 * (6 : Int)) + i_48)).bind fun v_67 =>
    law24_ConnectWays_L8 z_21 i_47 i_48 q_77 (k_54 + 1) ((w64 (v_64 + e_55.Ticks)) == v_67))
    (law24_ConnectWays_L8 z_21 i_47 i_48 q_77 (k_54 + 1) false)))
    ((gdA 6 i_47).bind fun u_68 =>
    (gdA 6 e_55.From).bind fun u_69 =>
    (ixL z_21.2 ((i_47 * (6 : Int)) + e_55.From)).bind fun v_70 =>
    cond v_70
    ((gdA 6 i_47).bind fun u_71 =>
    (gdA 6 e_55.From).bind fun u_72 =>
    (ixL z_21.1 ((i_47 * (6 : Int)) + e_55.From)).bind fun v_73 =>
    (gdA 6 i_47).bind fun u_74 =>
    (gdA 6 i_48).bind fun u_75 =>
    (ixL z_21.1 ((i_47 * (6 : Int)) + i_48)).bind fun v_76 =>
    law24_ConnectWays_L8 z_21 i_47 i_48 q_77 (k_54 + 1) ((w64 (v_73 + e_55.Ticks)) == v_76))
    (law24_ConnectWays_L8 z_21 i_47 i_48 q_77 (k_54 + 1) false)))
    (law24_ConnectWays_L8 z_21 i_47 i_48 q_77 (k_54 + 1) false))
def law24_ConnectWays_L7 (r_2 : (List Minimum) × Src) (z_21 : (List Int) × (List Bool)) (i_47 : Int) : Nat → Int → Option (Ctl (Bool) (Unit))
  | 0, _ => none
  | q_79 + 1, i_48 => cond (decide (i_48 < (6 : Int)))
    ((gdA 6 i_47).bind fun u_49 =>
    (gdA 6 i_48).bind fun u_50 =>
    (ixL z_21.2 ((i_47 * (6 : Int)) + i_48)).bind fun v_51 =>
    cond (!v_51)
    (law24_ConnectWays_L7 r_2 z_21 i_47 q_79 (w64 (i_48 + (1 : Int))))
    (Ctl.sub (law24_ConnectWays_L8 z_21 i_47 i_48 r_2.1 0 false) fun z_78 =>
    cond (!z_78)
    (some (Ctl.ret false))
    (law24_ConnectWays_L7 r_2 z_21 i_47 q_79 (w64 (i_48 + (1 : Int))))))
    (some (Ctl.brk ()))
def law24_ConnectWays_L6 (r_2 : (List Minimum) × Src) (z_21 : (List Int) × (List Bool)) : Nat → Int → Option (Ctl (Bool) (Unit))
  | 0, _ => none
  | q_81 + 1, i_47 => cond (decide (i_47 < (6 : Int)))
    (Ctl.sub (law24_ConnectWays_L7 r_2 z_21 i_47 9223372036854775807 (0 : Int)) fun z_80 =>
    law24_ConnectWays_L6 r_2 z_21 q_81 (w64 (i_47 + (1 : Int))))
    (some (Ctl.brk ()))
def law24_ConnectWays (x_0 : (List Int)) (x_1 : (List Int)) : Option (Bool) :=
  (keep_New x_0).bind fun r_1 =>
    (keep_Src_Minimums r_1).bind fun r_2 =>
    (alL 36 (0 : Int)).bind fun l_3 =>
    (alL 36 false).bind fun l_4 =>
    Ctl.fin (law24_ConnectWays_L1 r_2 9223372036854775807 l_3 l_4 (0 : Int)) fun z_21 =>
    Ctl.fin (law24_ConnectWays_L3 x_1 r_2 z_21 9223372036854775807 (0 : Int)) fun z_46 =>
    Ctl.fin (law24_ConnectWays_L6 r_2 z_21 9223372036854775807 (0 : Int)) fun z_82 =>
    (law24_awake).bind fun r_83 =>
    some r_83

def law24_ConnectTriangle_L3 (r_2 : (List Minimum) × Src) (i_3 : Int) (i_4 : Int) : Nat → Int → Option (Ctl (Bool) (Unit))
  | 0, _ => none
  | q_9 + 1, i_5 => cond (decide (i_5 ≤ (5 : Int)))
    ((connect_Least r_2.1 i_3 i_4).bind fun r_6 =>
    (connect_Least r_2.1 i_4 i_5).bind fun r_7 =>
    (connect_Least r_2.1 i_3 i_5).bind fun r_8 =>
    cond r_6.2
    (cond r_7.2
    (cond (!r_8.2)
    (some (Ctl.ret false))
    (cond (decide ((w64 (r_6.1 + r_7.1)) < r_8.1))
    (some (Ctl.ret false))
    (law24_ConnectTriangle_L3 r_2 i_3 i_4 q_9 (w64 (i_5 + (1 : Int))))))
    (law24_ConnectTriangle_L3 r_2 i_3 i_4 q_9 (w64 (i_5 + (1 : Int)))))
    (law24_ConnectTriangle_L3 r_2 i_3 i_4 q_9 (w64 (i_5 + (1 : Int)))))
    (some (Ctl.brk ()))
def law24_ConnectTriangle_L2 (r_2 : (List Minimum) × Src) (i_3 : Int) : Nat → Int → Option (Ctl (Bool) (Unit))
  | 0, _ => none
  | q_11 + 1, i_4 => cond (decide (i_4 ≤ (5 : Int)))
    (Ctl.sub (law24_ConnectTriangle_L3 r_2 i_3 i_4 9223372036854775807 (0 : Int)) fun z_10 =>
    law24_ConnectTriangle_L2 r_2 i_3 q_11 (w64 (i_4 + (1 : Int))))
    (some (Ctl.brk ()))
def law24_ConnectTriangle_L1 (r_2 : (List Minimum) × Src) : Nat → Int → Option (Ctl (Bool) (Unit))
  | 0, _ => none
  | q_13 + 1, i_3 => cond (decide (i_3 ≤ (5 : Int)))
    (Ctl.sub (law24_ConnectTriangle_L2 r_2 i_3 9223372036854775807 (0 : Int)) fun z_12 =>
    law24_ConnectTriangle_L1 r_2 q_13 (w64 (i_3 + (1 : Int))))
    (some (Ctl.brk ()))
def law24_ConnectTriangle (x_0 : (List Int)) : Option (Bool) :=
  (keep_New x_0).bind fun r_1 =>
    (keep_Src_Minimums r_1).bind fun r_2 =>
    Ctl.fin (law24_ConnectTriangle_L1 r_2 9223372036854775807 (0 : Int)) fun z_14 =>
    (law24_awake).bind fun r_15 =>
    some r_15

def keep_Src_Connections_L1 : Nat → (List Int) → Int → (List Connecting) → Int → Option (Ctl ((List Connecting) × Src) ((List Int) × Int × (List Connecting)))
  | 0, _, _, _, _ => none
  | q_12 + 1, a_2, i_3, a_4, i_5 => cond (decide ((0 : Int) < i_5))
    ((keep_Plates (a_4.length : Int)).bind fun r_6 =>
    (keep_Src_N (⟨a_2, i_3⟩ : Src) (40 : Int)).bind fun r_7 =>
    (keep_Src_N r_7.2 (4 : Int)).bind fun r_8 =>
    (keep_Src_N r_8.2 (4 : Int)).bind fun r_9 =>
    (keep_Src_N r_9.2 (5 : Int)).bind fun r_10 =>
    (apL a_4 ([(⟨r_6, (w64 ((40 : Int) + r_7.1)), r_8.1, r_9.1, r_10.1⟩ : Connecting)] : List Connecting)).bind fun l_11 =>
    keep_Src_Connections_L1 q_12 r_10.2.L r_10.2.At l_11 (w64 (i_5 - (1 : Int))))
    (some (Ctl.brk (a_2, i_3, a_4)))
def keep_Src_Connections (x_0 : Src) (x_1 : Int) : Option ((List Connecting) × Src) :=
  (keep_Src_N x_0 (w64 (x_1 + (1 : Int)))).bind fun r_1 =>
    Ctl.fin (keep_Src_Connections_L1 9223372036854775807 r_1.2.L r_1.2.At ([] : List Connecting) r_1.1) fun z_13 =>
    some (z_13.2.2, (⟨z_13.1, z_13.2.1⟩ : Src))

def keep_Src_Plate (x_0 : Src) (x_1 : Int) : Option (Plate × Src) :=
  (keep_Src_N x_0 x_1).bind fun r_1 =>
    (keep_Plates r_1.1).bind fun r_2 =>
    some (r_2, r_1.2)

def ref01_Valid (x_0 : Plate) : Option (Bool) :=
  cond (decide ((0 : Int) ≤ x_0.Lead))
    (cond (decide (x_0.Lead ≤ (9 : Int)))
    (cond (decide ((1 : Int) ≤ x_0.Airline))
    (cond (decide (x_0.Airline ≤ (999 : Int)))
    (cond (decide ((0 : Int) ≤ x_0.Serial))
    (some (decide (x_0.Serial ≤ (999999 : Int))))
    (some false))
    (some false))
    (some false))
    (some false))
    (some false)

def ref24_Valid (x_0 : Connecting) : Option (Bool) :=
  (ref01_Valid x_0.Plate).bind fun r_1 =>
    cond r_1
    (cond (decide ((0 : Int) ≤ x_0.Ready))
    (cond (decide (x_0.Ready ≤ (1048576 : Int)))
    ((ref24_terminal x_0.From).bind fun r_2 =>
    cond r_2
    ((ref24_terminal x_0.To).bind fun r_3 =>
    cond r_3
    (cond (decide ((0 : Int) ≤ x_0.Category))
    (some (decide (x_0.Category ≤ (4 : Int))))
    (some false))
    (some false))
    (some false))
    (some false))
    (some false))
    (some false)

def ref24_Slack (x_0 : (List Minimum)) (x_1 : Connecting) (x_2 : Int) : Option (Int × Bool) :=
  (ref24_Valid x_1).bind fun r_1 =>
    cond (!r_1)
    (some ((0 : Int), false))
    (cond (decide (x_2 < (0 : Int)))
    (some ((0 : Int), false))
    (cond (decide ((1048576 : Int) < x_2))
    (some ((0 : Int), false))
    ((ref24_Least x_0 x_1.From x_1.To).bind fun r_2 =>
    cond (!r_2.2)
    (some ((0 : Int), false))
    (some ((w64 ((w64 (x_2 - x_1.Ready)) - r_2.1)), true)))))

def connect_Classify (x_0 : Int) (x_1 : Int) : Option (Int) :=
  cond (decide ((0 : Int) ≤ x_0))
    (some (1 : Int))
    (cond (decide ((0 : Int) ≤ (w64 (x_0 + (if x_1 < (0 : Int) then (0 : Int) else x_1)))))
    (some (2 : Int))
    (some (3 : Int)))

def ref24_Classify (x_0 : Int) (x_1 : Int) : Option (Int) :=
  cond (decide ((0 : Int) ≤ x_0))
    (some (1 : Int))
    (cond (decide ((IntKind.i64.wrap (0 - (if (0 : Int) < x_1 then x_1 else (0 : Int)))) ≤ x_0))
    (some (2 : Int))
    (some (3 : Int)))

def law24_ConnectSlacks_L3 (e_13 : (List Minimum)) (e_18 : Connecting) : (List Int) → Nat → Option (Ctl (Bool) (Unit))
  | [], k_21 => some (Ctl.brk ())
  | e_22 :: q_25, k_21 => (connect_Slack e_13 e_18 e_22).bind fun r_23 =>
    (ref24_Slack e_13 e_18 e_22).bind fun r_24 =>
    cond (r_23.1 != r_24.1)
    (some (Ctl.ret false))
    (cond (!(r_23.2 == r_24.2))
    (some (Ctl.ret false))
    (law24_ConnectSlacks_L3 e_13 e_18 q_25 (k_21 + 1)))
def law24_ConnectSlacks_L2 (x_2 : Int) (e_13 : (List Minimum)) : (List Connecting) → Nat → (List Int) → Int → Option (Ctl (Bool) ((List Int) × Int))
  | [], k_17, a_14, i_15 => some (Ctl.brk (a_14, i_15))
  | e_18 :: q_27, k_17, a_14, i_15 => (keep_Src_N (⟨a_14, i_15⟩ : Src) (80 : Int)).bind fun r_19 =>
    Ctl.sub (law24_ConnectSlacks_L3 e_13 e_18 ([x_2, (w64 ((30 : Int) + r_19.1)), e_18.Ready] : List Int) 0) fun z_26 =>
    law24_ConnectSlacks_L2 x_2 e_13 q_27 (k_17 + 1) r_19.2.L r_19.2.At
def law24_ConnectSlacks_L1 (x_2 : Int) (l_7 : (List Connecting)) : (List (List Minimum)) → Nat → (List Int) → Int → Option (Ctl (Bool) ((List Int) × Int))
  | [], k_12, a_9, i_10 => some (Ctl.brk (a_9, i_10))
  | e_13 :: q_29, k_12, a_9, i_10 => Ctl.sub (law24_ConnectSlacks_L2 x_2 e_13 l_7 0 a_9 i_10) fun z_28 =>
    law24_ConnectSlacks_L1 x_2 l_7 q_29 (k_12 + 1) z_28.1 z_28.2
def law24_ConnectSlacks_L5 (e_36 : Int) : (List Int) → Nat → Option (Ctl (Bool) (Unit))
  | [], k_39 => some (Ctl.brk ())
  | e_40 :: q_45, k_39 => (connect_Classify e_36 e_40).bind fun r_41 =>
    (ref24_Classify e_36 e_40).bind fun r_42 =>
    cond (r_41 != r_42)
    (some (Ctl.ret false))
    ((connect_Classify e_36 e_36).bind fun r_43 =>
    (ref24_Classify e_36 e_36).bind fun r_44 =>
    cond (r_43 != r_44)
    (some (Ctl.ret false))
    (law24_ConnectSlacks_L5 e_36 q_45 (k_39 + 1)))
def law24_ConnectSlacks_L4 (x_4 : Int) : (List Int) → Nat → (List Int) → Int → Option (Ctl (Bool) (Unit))
  | [], k_35, a_32, i_33 => some (Ctl.brk ())
  | e_36 :: q_47, k_35, a_32, i_33 => (keep_Src_N (⟨a_32, i_33⟩ : Src) (10 : Int)).bind fun r_37 =>
    Ctl.sub (law24_ConnectSlacks_L5 e_36 ([x_4, r_37.1] : List Int) 0) fun z_46 =>
    law24_ConnectSlacks_L4 x_4 q_47 (k_35 + 1) r_37.2.L r_37.2.At
def law24_ConnectSlacks (x_0 : (List Int)) (x_1 : Connecting) (x_2 : Int) (x_3 : Int) (x_4 : Int) : Option (Bool) :=
  (keep_New x_0).bind fun r_1 =>
    (keep_Src_Minimums r_1).bind fun r_2 =>
    (keep_Src_Connections r_2.2 (5 : Int)).bind fun r_3 =>
    (keep_Src_Plate r_3.2 (9 : Int)).bind fun r_4 =>
    (keep_Src_N r_4.2 (6 : Int)).bind fun r_5 =>
    (keep_Src_N r_5.2 (6 : Int)).bind fun r_6 =>
    (apL r_3.1 ([x_1, (⟨r_4.1, x_1.Ready, r_5.1, r_6.1, (0 : Int)⟩ : Connecting)] : List Connecting)).bind fun l_7 =>
    (law24_spoilt r_6.2 r_2.1).bind fun r_8 =>
    Ctl.fin (law24_ConnectSlacks_L1 x_2 l_7 ([r_2.1, r_8.1] : List (List Minimum)) 0 r_8.2.L r_8.2.At) fun z_30 =>
    (keep_Src_N (⟨z_30.1, z_30.2⟩ : Src) (20 : Int)).bind fun r_31 =>
    Ctl.fin (law24_ConnectSlacks_L4 x_4 ([x_3, (w64 (r_31.1 - (10 : Int)))] : List Int) 0 r_31.2.L r_31.2.At) fun z_48 =>
    (law24_awake).bind fun r_49 =>
    some r_49

def keep_Src_Holds_L1 : Nat → (List Int) → Int → (List HoldRule) → Int → Option (Ctl ((List HoldRule) × Src) ((List Int) × Int × (List HoldRule)))
  | 0, _, _, _, _ => none
  | q_20 + 1, a_2, i_3, a_4, i_5 => cond (decide ((0 : Int) < i_5))
    ((keep_Src_N (⟨a_2, i_3⟩ : Src) (5 : Int)).bind fun r_6 =>
    cond (r_6.1 == (0 : Int))
    ((keep_Src_N r_6.2 (5 : Int)).bind fun r_7 =>
    (keep_Src_N r_7.2 (15 : Int)).bind fun r_8 =>
    (apL a_4 ([(⟨(1 : Int), (w64 ((1 : Int) + r_7.1)), (w64 ((1 : Int) + r_8.1))⟩ : HoldRule)] : List HoldRule)).bind fun l_9 =>
    keep_Src_Holds_L1 q_20 r_8.2.L r_8.2.At l_9 (w64 (i_5 - (1 : Int))))
    (cond (r_6.1 == (1 : Int))
    ((keep_Src_N r_6.2 (5 : Int)).bind fun r_10 =>
    (keep_Src_N r_10.2 (15 : Int)).bind fun r_11 =>
    (apL a_4 ([(⟨(1 : Int), (w64 ((1 : Int) + r_10.1)), (w64 ((1 : Int) + r_11.1))⟩ : HoldRule)] : List HoldRule)).bind fun l_12 =>
    keep_Src_Holds_L1 q_20 r_11.2.L r_11.2.At l_12 (w64 (i_5 - (1 : Int))))
    (cond (r_6.1 == (2 : Int))
    ((keep_Src_N r_6.2 (5 : Int)).bind fun r_13 =>
    (keep_Src_N r_13.2 (15 : Int)).bind fun r_14 =>
    (apL a_4 ([(⟨(2 : Int), r_13.1, (w64 ((1 : Int) + r_14.1))⟩ : HoldRule)] : List HoldRule)).bind fun l_15 =>
    keep_Src_Holds_L1 q_20 r_14.2.L r_14.2.At l_15 (w64 (i_5 - (1 : Int))))
    (cond (r_6.1 == (3 : Int))
    ((keep_Src_N r_6.2 (5 : Int)).bind fun r_16 =>
    (keep_Src_N r_16.2 (15 : Int)).bind fun r_17 =>
    (apL a_4 ([(⟨(2 : Int), r_16.1, (w64 ((1 : Int) + r_17.1))⟩ : HoldRule)] : List HoldRule)).bind fun l_18 =>
    keep_Src_Holds_L1 q_20 r_17.2.L r_17.2.At l_18 (w64 (i_5 - (1 : Int))))
    ((apL a_4 ([(⟨(3 : Int), (0 : Int), (0 : Int)⟩ : HoldRule)] : List HoldRule)).bind fun l_19 =>
    keep_Src_Holds_L1 q_20 r_6.2.L r_6.2.At l_19 (w64 (i_5 - (1 : Int))))))))
    (some (Ctl.brk (a_2, i_3, a_4)))
def keep_Src_Holds (x_0 : Src) (x_1 : Int) : Option ((List HoldRule) × Src) :=
  (keep_Src_N x_0 (w64 (x_1 + (1 : Int)))).bind fun r_1 =>
    Ctl.fin (keep_Src_Holds_L1 9223372036854775807 r_1.2.L r_1.2.At ([] : List HoldRule) r_1.1) fun z_21 =>
    some (z_21.2.2, (⟨z_21.1, z_21.2.1⟩ : Src))

def keep_Src_Connections_v2_L1 : Nat → (List Int) → Int → (List Connecting) → Int → Option (Ctl ((List Connecting) × Src) ((List Int) × Int × (List Connecting)))
  | 0, _, _, _, _ => none
  | q_12 + 1, a_2, i_3, a_4, i_5 => cond (decide ((0 : Int) < i_5))
    ((keep_Plates (a_4.length : Int)).bind fun r_6 =>
    (keep_Src_N (⟨a_2, i_3⟩ : Src) (40 : Int)).bind fun r_7 =>
    (keep_Src_N r_7.2 (4 : Int)).bind fun r_8 =>
    (keep_Src_N r_8.2 (4 : Int)).bind fun r_9 =>
    (keep_Src_N r_9.2 (5 : Int)).bind fun r_10 =>
    (apL a_4 ([(⟨r_6, (w64 ((40 : Int) + r_7.1)), r_8.1, r_9.1, r_10.1⟩ : Connecting)] : List Connecting)).bind fun l_11 =>
    keep_Src_Connections_v2_L1 q_12 r_10.2.L r_10.2.At l_11 (w64 (i_5 - (1 : Int))))
    (some (Ctl.brk (a_2, i_3, a_4)))
def keep_Src_Connections_v2 (x_0 : Src) (x_1 : Int) : Option ((List Connecting) × Src) :=
  (keep_Src_N x_0 (w64 (x_1 + (1 : Int)))).bind fun r_1 =>
    Ctl.fin (keep_Src_Connections_v2_L1 9223372036854775807 r_1.2.L r_1.2.At ([] : List Connecting) r_1.1) fun z_13 =>
    some (z_13.2.2, (⟨z_13.1, z_13.2.1⟩ : Src))

def ref23_SamePlates_L1 (x_1 : (List Plate)) : (List Plate) → Nat → Option (Ctl (Bool) (Unit))
  | [], k_2 => some (Ctl.brk ())
  | e_3 :: q_5, k_2 => (ixL x_1 (k_2 : Int)).bind fun e_4 =>
    cond (!((e_3.Lead == e_4.Lead) && ((e_3.Airline == e_4.Airline) && ((e_3.Serial == e_4.Serial) && true))))
    (some (Ctl.ret false))
    (ref23_SamePlates_L1 x_1 q_5 (k_2 + 1))
def ref23_SamePlates (x_0 : (List Plate)) (x_1 : (List Plate)) : Option (Bool) :=
  cond ((x_0.length : Int) != (x_1.length : Int))
    (some false)
    (Ctl.fin (ref23_SamePlates_L1 x_1 x_0 0) fun z_6 =>
    some true)

def law24_ConnectLeaves_L1 (r_2 : (List Minimum) × Src) (r_5 : Int × Src) (r_6 : Hold × Int) : (List Connecting) → Nat → (List Plate) → Option (Ctl (Bool) ((List Plate)))
  | [], k_9, a_7 => some (Ctl.brk a_7)
  | e_10 :: q_15, k_9, a_7 => (connect_Slack r_2.1 e_10 (w64 ((40 : Int) + r_5.1))).bind fun r_11 =>
    cond (!r_11.2)
    ((apL a_7 ([e_10.Plate] : List Plate)).bind fun l_12 =>
    law24_ConnectLeaves_L1 r_2 r_5 r_6 q_15 (k_9 + 1) l_12)
    ((connect_Classify r_11.1 r_6.1.Wait).bind fun r_13 =>
    cond (r_13 == (3 : Int))
    ((apL a_7 ([e_10.Plate] : List Plate)).bind fun l_14 =>
    law24_ConnectLeaves_L1 r_2 r_5 r_6 q_15 (k_9 + 1) l_14)
    (law24_ConnectLeaves_L1 r_2 r_5 r_6 q_15 (k_9 + 1) a_7))
def law24_ConnectLeaves (x_0 : (List Int)) : Option (Bool) :=
  (keep_New x_0).bind fun r_1 =>
    (keep_Src_Minimums r_1).bind fun r_2 =>
    (keep_Src_Holds r_2.2 (5 : Int)).bind fun r_3 =>
    (keep_Src_Connections_v2 r_3.2 (25 : Int)).bind fun r_4 =>
    (keep_Src_N r_4.2 (60 : Int)).bind fun r_5 =>
    (connect_Decide r_2.1 r_3.1 r_4.1 (w64 ((40 : Int) + r_5.1))).bind fun r_6 =>
    cond (r_6.2 != (0 : Int))
    (some false)
    (cond (decide (r_6.1.Wait < (0 : Int)))
    (some false)
    (cond (decide (r_6.1.Rule < (-1 : Int)))
    (some false)
    (cond (decide ((r_3.1.length : Int) ≤ r_6.1.Rule))
    (some false)
    (Ctl.fin (law24_ConnectLeaves_L1 r_2 r_5 r_6 r_4.1 0 ([] : List Plate)) fun z_16 =>
    (ref23_SamePlates z_16 r_6.1.Left).bind fun r_17 =>
    cond r_17
    ((law24_awake).bind fun r_18 =>
    some r_18)
    (some false)))))

def law24_ConnectFirst (x_0 : (List Int)) : Option (Bool) :=
  (keep_New x_0).bind fun r_1 =>
    (keep_Src_Minimums r_1).bind fun r_2 =>
    (keep_Src_Holds r_2.2 (6 : Int)).bind fun r_3 =>
    (keep_Src_Connections_v2 r_3.2 (25 : Int)).bind fun r_4 =>
    (keep_Src_N r_4.2 (60 : Int)).bind fun r_5 =>
    (connect_Decide r_2.1 r_3.1 r_4.1 (w64 ((40 : Int) + r_5.1))).bind fun r_6 =>
    cond (r_6.2 != (0 : Int))
    (some false)
    (cond (decide ((r_3.1.length : Int) ≤ r_6.1.Rule))
    (some false)
    (cond (decide (r_6.1.Rule < (0 : Int)))
    ((connect_Decide r_2.1 ([] : (List HoldRule)) r_4.1 (w64 ((40 : Int) + r_5.1))).bind fun r_7 =>
    cond (r_7.2 == (0 : Int))
    (cond (r_6.1.Wait == (0 : Int))
    (cond (r_7.1.Wait == (0 : Int))
    (cond (r_7.1.Rule == (-1 : Int))
    ((ref23_SamePlates r_6.1.Left r_7.1.Left).bind fun r_8 =>
    cond r_8
    ((law24_awake).bind fun r_9 =>
    some r_9)
    (some false))
    (some false))
    (some false))
    (some false))
    (some false))
    ((slL r_3.1 r_6.1.Rule (r_3.1.length : Int)).bind fun l_10 =>
    (connect_Decide r_2.1 l_10 r_4.1 (w64 ((40 : Int) + r_5.1))).bind fun r_11 =>
    (slL r_3.1 0 (w64 (r_6.1.Rule + (1 : Int)))).bind fun l_12 =>
    (connect_Decide r_2.1 l_12 r_4.1 (w64 ((40 : Int) + r_5.1))).bind fun r_13 =>
    (slL r_3.1 0 r_6.1.Rule).bind fun l_14 =>
    (connect_Decide r_2.1 l_14 r_4.1 (w64 ((40 : Int) + r_5.1))).bind fun r_15 =>
    cond (r_11.2 == (0 : Int))
    (cond (r_13.2 == (0 : Int))
    (cond (r_15.2 == (0 : Int))
    (cond (r_11.1.Rule == (0 : Int))
    (cond (r_13.1.Rule == r_6.1.Rule)
    (cond (r_15.1.Rule == (-1 : Int))
    (cond (r_11.1.Wait == r_6.1.Wait)
    (cond (r_13.1.Wait == r_6.1.Wait)
    ((ref23_SamePlates r_6.1.Left r_11.1.Left).bind fun r_16 =>
    cond r_16
    ((ref23_SamePlates r_6.1.Left r_13.1.Left).bind fun r_17 =>
    cond r_17
    ((law24_awake).bind fun r_18 =>
    some r_18)
    (some false))
    (some false))
    (some false))
    (some false))
    (some false))
    (some false))
    (some false))
    (some false))
    (some false))
    (some false))))

def law24_ConnectWaits_L2 (e_10 : Plate) : (List Plate) → Nat → Bool → Option (Ctl (Bool) (Bool))
  | [], k_13, b_11 => some (Ctl.brk b_11)
  | e_14 :: q_15, k_13, b_11 => cond b_11
    (law24_ConnectWaits_L2 e_10 q_15 (k_13 + 1) true)
    (law24_ConnectWaits_L2 e_10 q_15 (k_13 + 1) ((e_10.Lead == e_14.Lead) && ((e_10.Airline == e_14.Airline) && ((e_10.Serial == e_14.Serial) && true))))
def law24_ConnectWaits_L1 (r_7 : Hold × Int) : (List Plate) → Nat → Option (Ctl (Bool) (Unit))
  | [], k_9 => some (Ctl.brk ())
  | e_10 :: q_17, k_9 => Ctl.sub (law24_ConnectWaits_L2 e_10 r_7.1.Left 0 false) fun z_16 =>
    cond (!z_16)
    (some (Ctl.ret false))
    (law24_ConnectWaits_L1 r_7 q_17 (k_9 + 1))
def law24_ConnectWaits_L3 (r_2 : (List Minimum) × Src) (r_4 : Int × Src) (r_5 : (List HoldRule) × Src) (r_6 : Hold × Int) : (List Connecting) → Nat → Int → Int → Option (Ctl (Bool) (Int × Int))
  | [], k_27, i_24, i_25 => some (Ctl.brk (i_24, i_25))
  | e_28 :: q_32, k_27, i_24, i_25 => (connect_Slack r_2.1 e_28 (w64 ((40 : Int) + r_4.1))).bind fun r_29 =>
    cond r_29.2
    (cond (decide (r_29.1 < (0 : Int)))
    ((ixL r_5.1 (0 : Int)).bind fun e_30 =>
    cond (e_30.Kind != (2 : Int))
    (cond (decide ((IntKind.i64.wrap (0 - r_6.1.Wait)) ≤ r_29.1))
    (cond (decide ((w64 ((1 : Int) - r_6.1.Wait)) ≤ r_29.1))
    (law24_ConnectWaits_L3 r_2 r_4 r_5 r_6 q_32 (k_27 + 1) (w64 (i_24 + (1 : Int))) (w64 (i_25 + (1 : Int))))
    (law24_ConnectWaits_L3 r_2 r_4 r_5 r_6 q_32 (k_27 + 1) (w64 (i_24 + (1 : Int))) i_25))
    (cond (decide ((w64 ((1 : Int) - r_6.1.Wait)) ≤ r_29.1))
    (law24_ConnectWaits_L3 r_2 r_4 r_5 r_6 q_32 (k_27 + 1) i_24 (w64 (i_25 + (1 : Int))))
    (law24_ConnectWaits_L3 r_2 r_4 r_5 r_6 q_32 (k_27 + 1) i_24 i_25)))
    ((ixL r_5.1 (0 : Int)).bind fun e_31 =>
    cond (e_28.Category == e_31.N)
    (cond (decide ((IntKind.i64.wrap (0 - r_6.1.Wait)) ≤ r_29.1))
    (cond (decide ((w64 ((1 : Int) - r_6.1.Wait)) ≤ r_29.1))
    (law24_ConnectWaits_L3 r_2 r_4 r_5 r_6 q_32 (k_27 + 1) (w64 (i_24 + (1 : Int))) (w64 (i_25 + (1 : Int))))
    (law24_ConnectWaits_L3 r_2 r_4 r_5 r_6 q_32 (k_27 + 1) (w64 (i_24 + (1 : Int))) i_25))
    (cond (decide ((w64 ((1 : Int) - r_6.1.Wait)) ≤ r_29.1))
    (law24_ConnectWaits_L3 r_2 r_4 r_5 r_6 q_32 (k_27 + 1) i_24 (w64 (i_25 + (1 : Int))))
    (law24_ConnectWaits_L3 r_2 r_4 r_5 r_6 q_32 (k_27 + 1) i_24 i_25)))
    (law24_ConnectWaits_L3 r_2 r_4 r_5 r_6 q_32 (k_27 + 1) i_24 i_25)))
    (law24_ConnectWaits_L3 r_2 r_4 r_5 r_6 q_32 (k_27 + 1) i_24 i_25))
    (law24_ConnectWaits_L3 r_2 r_4 r_5 r_6 q_32 (k_27 + 1) i_24 i_25)
def law24_ConnectWaits (x_0 : (List Int)) : Option (Bool) :=
  (keep_New x_0).bind fun r_1 =>
    (keep_Src_Minimums r_1).bind fun r_2 =>
    (keep_Src_Connections_v2 r_2.2 (25 : Int)).bind fun r_3 =>
    (keep_Src_N r_3.2 (60 : Int)).bind fun r_4 =>
    (keep_Src_Holds r_4.2 (1 : Int)).bind fun r_5 =>
    (connect_Decide r_2.1 r_5.1 r_3.1 (w64 ((40 : Int) + r_4.1))).bind fun r_6 =>
    (connect_Decide r_2.1 ([] : (List HoldRule)) r_3.1 (w64 ((40 : Int) + r_4.1))).bind fun r_7 =>
    cond (r_6.2 != (0 : Int))
    (some false)
    (cond (r_7.2 != (0 : Int))
    (some false)
    (Ctl.fin (law24_ConnectWaits_L1 r_7 r_6.1.Left 0) fun z_18 =>
    cond (decide (r_6.1.Rule < (0 : Int)))
    ((ref23_SamePlates r_6.1.Left r_7.1.Left).bind fun r_19 =>
    cond r_19
    ((law24_awake).bind fun r_20 =>
    some r_20)
    (some false))
    (cond (r_6.1.Wait == (0 : Int))
    ((ref23_SamePlates r_6.1.Left r_7.1.Left).bind fun r_21 =>
    cond r_21
    ((law24_awake).bind fun r_22 =>
    some r_22)
    (some false))
    (cond ((r_5.1.length : Int) != (1 : Int))
    (some false)
    ((ixL r_5.1 (0 : Int)).bind fun e_23 =>
    cond (decide (e_23.Most < r_6.1.Wait))
    (some false)
    (Ctl.fin (law24_ConnectWaits_L3 r_2 r_4 r_5 r_6 r_3.1 0 (0 : Int) (0 : Int)) fun z_33 =>
    (ixL r_5.1 (0 : Int)).bind fun e_34 =>
    (ixL r_5.1 (0 : Int)).bind fun e_35 =>
    cond (e_35.Kind == (2 : Int))
    (cond (decide ((1 : Int) ≤ z_33.1))
    (cond (decide (z_33.2 < (1 : Int)))
    ((law24_awake).bind fun r_36 =>
    some r_36)
    (some false))
    (some false))
    (cond (decide (e_34.N ≤ z_33.1))
    (cond (decide (z_33.2 < e_34.N))
    ((law24_awake).bind fun r_37 =>
    some r_37)
    (some false))
    (some false))))))))

def ref24_rule (x_0 : HoldRule) : Option (Bool) :=
  cond (decide ((1 : Int) ≤ x_0.Most))
    (cond (x_0.Kind == (1 : Int))
    (cond (decide ((1 : Int) ≤ x_0.N))
    (cond (decide (x_0.N ≤ (40 : Int)))
    (some (decide (x_0.Most ≤ (1048576 : Int))))
    (some false))
    (some false))
    (cond (x_0.Kind == (2 : Int))
    (cond (decide ((0 : Int) ≤ x_0.N))
    (cond (decide (x_0.N ≤ (4 : Int)))
    (some (decide (x_0.Most ≤ (1048576 : Int))))
    (some false))
    (some false))
    (cond (x_0.Kind == (3 : Int))
    (cond (x_0.N == (0 : Int))
    (some (x_0.Most == (0 : Int)))
    (some false))
    (some false))))
    (cond (x_0.Kind == (1 : Int))
    (cond (decide ((1 : Int) ≤ x_0.N))
    (cond (decide (x_0.N ≤ (40 : Int)))
    (some false)
    (some false))
    (some false))
    (cond (x_0.Kind == (2 : Int))
    (cond (decide ((0 : Int) ≤ x_0.N))
    (cond (decide (x_0.N ≤ (4 : Int)))
    (some false)
    (some false))
    (some false))
    (cond (x_0.Kind == (3 : Int))
    (cond (x_0.N == (0 : Int))
    (some (x_0.Most == (0 : Int)))
    (some false))
    (some false))))

def ref24_Check_L1 : (List HoldRule) → Nat → Option (Ctl (Int) (Unit))
  | [], k_3 => some (Ctl.brk ())
  | e_4 :: q_6, k_3 => (ref24_rule e_4).bind fun r_5 =>
    cond (!r_5)
    (some (Ctl.ret (4 : Int)))
    (ref24_Check_L1 q_6 (k_3 + 1))
def ref24_Check_L2 : (List Connecting) → Nat → Option (Ctl (Int) (Unit))
  | [], k_9 => some (Ctl.brk ())
  | e_10 :: q_12, k_9 => (ref24_Valid e_10).bind fun r_11 =>
    cond (!r_11)
    (some (Ctl.ret (1 : Int)))
    (ref24_Check_L2 q_12 (k_9 + 1))
def ref24_Check_L4 (x_2 : (List Connecting)) (k_15 : Nat) (e_16 : Connecting) : Nat → Int → Option (Ctl (Int) (Unit))
  | 0, _ => none
  | q_19 + 1, i_17 => cond (decide (i_17 < (k_15 : Int)))
    ((ixL x_2 i_17).bind fun e_18 =>
    cond ((e_16.Plate.Lead == e_18.Plate.Lead) && ((e_16.Plate.Airline == e_18.Plate.Airline) && ((e_16.Plate.Serial == e_18.Plate.Serial) && true)))
    (some (Ctl.ret (5 : Int)))
    (ref24_Check_L4 x_2 k_15 e_16 q_19 (w64 (i_17 + (1 : Int)))))
    (some (Ctl.brk ()))
def ref24_Check_L3 (x_2 : (List Connecting)) : (List Connecting) → Nat → Option (Ctl (Int) (Unit))
  | [], k_15 => some (Ctl.brk ())
  | e_16 :: q_21, k_15 => Ctl.sub (ref24_Check_L4 x_2 k_15 e_16 9223372036854775807 (0 : Int)) fun z_20 =>
    ref24_Check_L3 x_2 q_21 (k_15 + 1)
def ref24_Check (x_0 : (List Minimum)) (x_1 : (List HoldRule)) (x_2 : (List Connecting)) (x_3 : Int) : Option (Int) :=
  (ref24_Validate x_0).bind fun r_1 =>
    cond (r_1 != (0 : Int))
    (some r_1)
    (cond (decide (x_3 < (0 : Int)))
    (some (1 : Int))
    (cond (decide ((1048576 : Int) < x_3))
    (some (1 : Int))
    (cond (decide ((8 : Int) < (x_1.length : Int)))
    (some (2 : Int))
    (cond (decide ((40 : Int) < (x_2.length : Int)))
    (some (2 : Int))
    (Ctl.fin (ref24_Check_L1 x_1 0) fun z_7 =>
    Ctl.fin (ref24_Check_L2 x_2 0) fun z_13 =>
    Ctl.fin (ref24_Check_L3 x_2 x_2 0) fun z_22 =>
    some (0 : Int))))))

def ref24_Makes (x_0 : (List Minimum)) (x_1 : Connecting) (x_2 : Int) (x_3 : Int) : Option (Bool) :=
  (ref24_Slack x_0 x_1 x_2).bind fun r_1 =>
    cond r_1.2
    (some (decide ((IntKind.i64.wrap (0 - x_3)) ≤ r_1.1)))
    (some false)

def ref24_applies_L1 (x_0 : (List Minimum)) (x_1 : HoldRule) (x_3 : Int) (x_4 : Int) : (List Connecting) → Nat → Int → Option (Ctl (Bool) (Int))
  | [], k_3, i_1 => some (Ctl.brk i_1)
  | e_4 :: q_7, k_3, i_1 => (ref24_Makes x_0 e_4 x_3 (0 : Int)).bind fun r_5 =>
    cond r_5
    (ref24_applies_L1 x_0 x_1 x_3 x_4 q_7 (k_3 + 1) i_1)
    ((ref24_Makes x_0 e_4 x_3 x_4).bind fun r_6 =>
    cond (!r_6)
    (ref24_applies_L1 x_0 x_1 x_3 x_4 q_7 (k_3 + 1) i_1)
    (cond (x_1.Kind == (2 : Int))
    (cond (e_4.Category == x_1.N)
    (some (Ctl.ret true))
    (ref24_applies_L1 x_0 x_1 x_3 x_4 q_7 (k_3 + 1) (w64 (i_1 + (1 : Int)))))
    (ref24_applies_L1 x_0 x_1 x_3 x_4 q_7 (k_3 + 1) (w64 (i_1 + (1 : Int))))))
def ref24_applies (x_0 : (List Minimum)) (x_1 : HoldRule) (x_2 : (List Connecting)) (x_3 : Int) (x_4 : Int) : Option (Bool) :=
  Ctl.fin (ref24_applies_L1 x_0 x_1 x_3 x_4 x_2 0 (0 : Int)) fun z_8 =>
    cond (x_1.Kind == (1 : Int))
    (some (decide (x_1.N ≤ z_8)))
    (some false)

def ref24_Decide_L2 (x_0 : (List Minimum)) (x_2 : (List Connecting)) (x_3 : Int) (k_5 : Nat) (e_6 : HoldRule) : (List Connecting) → Nat → Int → Int → Option (Ctl (Hold × Int) (Int × Int))
  | [], k_10, i_7, i_8 => some (Ctl.brk (i_7, i_8))
  | e_11 :: q_14, k_10, i_7, i_8 => (ref24_Slack x_0 e_11 x_3).bind fun r_12 =>
    cond (!r_12.2)
    (ref24_Decide_L2 x_0 x_2 x_3 k_5 e_6 q_14 (k_10 + 1) i_7 i_8)
    (cond (decide ((0 : Int) ≤ r_12.1))
    (ref24_Decide_L2 x_0 x_2 x_3 k_5 e_6 q_14 (k_10 + 1) i_7 i_8)
    (cond (decide (e_6.Most < (IntKind.i64.wrap (0 - r_12.1))))
    (ref24_Decide_L2 x_0 x_2 x_3 k_5 e_6 q_14 (k_10 + 1) i_7 i_8)
    ((ref24_applies x_0 e_6 x_2 x_3 (IntKind.i64.wrap (0 - r_12.1))).bind fun r_13 =>
    cond (!r_13)
    (ref24_Decide_L2 x_0 x_2 x_3 k_5 e_6 q_14 (k_10 + 1) i_7 i_8)
    (cond (decide (i_8 < (0 : Int)))
    (ref24_Decide_L2 x_0 x_2 x_3 k_5 e_6 q_14 (k_10 + 1) (IntKind.i64.wrap (0 - r_12.1)) (k_5 : Int))
    (cond (decide ((IntKind.i64.wrap (0 - r_12.1)) < i_7))
    (ref24_Decide_L2 x_0 x_2 x_3 k_5 e_6 q_14 (k_10 + 1) (IntKind.i64.wrap (0 - r_12.1)) (k_5 : Int))
    (ref24_Decide_L2 x_0 x_2 x_3 k_5 e_6 q_14 (k_10 + 1) i_7 i_8))))))
def ref24_Decide_L1 (x_0 : (List Minimum)) (x_2 : (List Connecting)) (x_3 : Int) : (List HoldRule) → Nat → Int → Int → Option (Ctl (Hold × Int) (Int × Int))
  | [], k_5, i_2, i_3 => some (Ctl.brk (i_2, i_3))
  | e_6 :: q_16, k_5, i_2, i_3 => cond (decide (i_3 < (0 : Int)))
    (cond (e_6.Kind == (3 : Int))
    (some (Ctl.brk (i_2, (k_5 : Int))))
    (Ctl.sub (ref24_Decide_L2 x_0 x_2 x_3 k_5 e_6 x_2 0 i_2 i_3) fun z_15 =>
    ref24_Decide_L1 x_0 x_2 x_3 q_16 (k_5 + 1) z_15.1 z_15.2))
    (some (Ctl.brk (i_2, i_3)))
def ref24_Decide_L3 (x_0 : (List Minimum)) (x_3 : Int) (z_17 : Int × Int) : (List Connecting) → Nat → (List Plate) → Option (Ctl (Hold × Int) ((List Plate)))
  | [], k_20, a_18 => some (Ctl.brk a_18)
  | e_21 :: q_24, k_20, a_18 => (ref24_Makes x_0 e_21 x_3 z_17.1).bind fun r_22 =>
    cond (!r_22)
    ((apL a_18 ([e_21.Plate] : List Plate)).bind fun l_23 =>
    ref24_Decide_L3 x_0 x_3 z_17 q_24 (k_20 + 1) l_23)
    (ref24_Decide_L3 x_0 x_3 z_17 q_24 (k_20 + 1) a_18)
def ref24_Decide (x_0 : (List Minimum)) (x_1 : (List HoldRule)) (x_2 : (List Connecting)) (x_3 : Int) : Option (Hold × Int) :=
  (ref24_Check x_0 x_1 x_2 x_3).bind fun r_1 =>
    cond (r_1 != (0 : Int))
    (some ((⟨(0 : Int), (0 : Int), ([] : (List Plate))⟩ : Hold), r_1))
    (Ctl.fin (ref24_Decide_L1 x_0 x_2 x_3 x_1 0 (0 : Int) (-1 : Int)) fun z_17 =>
    Ctl.fin (ref24_Decide_L3 x_0 x_3 z_17 x_2 0 ([] : List Plate)) fun z_25 =>
    some ((⟨z_17.1, z_17.2, z_25⟩ : Hold), (0 : Int)))

def law24_ConnectDecides_L4 (e_20 : (List Minimum)) (e_28 : (List HoldRule)) (e_37 : (List Connecting)) : (List Int) → Nat → (List Int) → Option (Ctl (Bool) (Unit))
  | [], k_41, a_39 => some (Ctl.brk ())
  | e_42 :: q_47, k_41, a_39 => (ixL a_39 (k_41 : Int)).bind fun e_43 =>
    (connect_Decide e_20 e_28 e_37 e_43).bind fun r_44 =>
    (ref24_Decide e_20 e_28 e_37 e_43).bind fun r_45 =>
    cond (r_44.2 != r_45.2)
    (some (Ctl.ret false))
    (cond (r_44.1.Wait != r_45.1.Wait)
    (some (Ctl.ret false))
    (cond (r_44.1.Rule != r_45.1.Rule)
    (some (Ctl.ret false))
    ((ref23_SamePlates r_44.1.Left r_45.1.Left).bind fun r_46 =>
    cond (!r_46)
    (some (Ctl.ret false))
    (law24_ConnectDecides_L4 e_20 e_28 e_37 q_47 (k_41 + 1) a_39))))
def law24_ConnectDecides_L3 (x_3 : Int) (e_20 : (List Minimum)) (e_28 : (List HoldRule)) : (List (List Connecting)) → Nat → (List (List Connecting)) → (List Int) → Int → Option (Ctl (Bool) ((List Int) × Int))
  | [], k_35, a_33, a_31, i_32 => some (Ctl.brk (a_31, i_32))
  | e_36 :: q_49, k_35, a_33, a_31, i_32 => (ixL a_33 (k_35 : Int)).bind fun e_37 =>
    (keep_Src_N (⟨a_31, i_32⟩ : Src) (60 : Int)).bind fun r_38 =>
    Ctl.sub (law24_ConnectDecides_L4 e_20 e_28 e_37 ([x_3, (w64 ((40 : Int) + r_38.1))] : List Int) 0 ([x_3, (w64 ((40 : Int) + r_38.1))] : List Int)) fun z_48 =>
    law24_ConnectDecides_L3 x_3 e_20 e_28 q_49 (k_35 + 1) a_33 r_38.2.L r_38.2.At
def law24_ConnectDecides_L5 (x_3 : Int) (e_20 : (List Minimum)) (e_28 : (List HoldRule)) : Nat → (List Int) → Int → (List (List Connecting)) → Int → Option (Ctl (Bool) ((List Int) × Int))
  | 0, _, _, _, _ => none
  | q_68 + 1, a_52, i_53, a_54, i_55 => cond (decide (i_55 < (3 : Int)))
    ((ixL a_54 i_55).bind fun e_56 =>
    (keep_Src_N (⟨a_52, i_53⟩ : Src) (60 : Int)).bind fun r_57 =>
    Ctl.sub (law24_ConnectDecides_L4 e_20 e_28 e_56 ([x_3, (w64 ((40 : Int) + r_57.1))] : List Int) 0 ([x_3, (w64 ((40 : Int) + r_57.1))] : List Int)) fun z_67 =>
    law24_ConnectDecides_L5 x_3 e_20 e_28 q_68 r_57.2.L r_57.2.At a_54 (w64 (i_55 + (1 : Int))))
    (some (Ctl.brk (a_52, i_53)))
def law24_ConnectDecides_L2 (x_3 : Int) (r_4 : (List Connecting) × Src) (a_15 : (List Connecting)) (e_20 : (List Minimum)) : (List (List HoldRule)) → Nat → (List (List HoldRule)) → (List Int) → Int → Option (Ctl (Bool) ((List Int) × Int))
  | [], k_26, a_24, a_22, i_23 => some (Ctl.brk (a_22, i_23))
  | e_27 :: q_70, k_26, a_24, a_22, i_23 => (ixL a_24 (k_26 : Int)).bind fun e_28 =>
    (slL r_4.1 0 (r_4.1.length : Int)).bind fun l_29 =>
    (keep_Src_Connections_v2 (⟨a_22, i_23⟩ : Src) (2 : Int)).bind fun r_30 =>
    cond r_30.1.isEmpty
    (Ctl.sub (law24_ConnectDecides_L3 x_3 e_20 e_28 ([r_4.1, a_15, l_29] : List (List Connecting)) 0 ([r_4.1, a_15, l_29] : List (List Connecting)) r_30.2.L r_30.2.At) fun z_50 =>
    law24_ConnectDecides_L2 x_3 r_4 a_15 e_20 q_70 (k_26 + 1) a_24 z_50.1 z_50.2)
    ((apL l_29 r_30.1).bind fun l_51 =>
    Ctl.sub (law24_ConnectDecides_L5 x_3 e_20 e_28 9223372036854775807 r_30.2.L r_30.2.At ([r_4.1, a_15, l_51] : List (List Connecting)) (0 : Int)) fun z_69 =>
    law24_ConnectDecides_L2 x_3 r_4 a_15 e_20 q_70 (k_26 + 1) a_24 z_69.1 z_69.2)
def law24_ConnectDecides_L1 (x_3 : Int) (r_3 : (List HoldRule) × Src) (r_4 : (List Connecting) × Src) : (List (List Minimum)) → Nat → (List HoldRule) → (List Connecting) → (List (List Minimum)) → (List Int) → Int → Option (Ctl (Bool) (Unit))
  | [], k_18, a_14, a_15, a_16, a_12, i_13 => some (Ctl.brk ())
  | e_19 :: q_72, k_18, a_14, a_15, a_16, a_12, i_13 => (ixL a_16 (k_18 : Int)).bind fun e_20 =>
    (keep_Src_Holds (⟨a_12, i_13⟩ : Src) (3 : Int)).bind fun r_21 =>
    Ctl.sub (law24_ConnectDecides_L2 x_3 r_4 a_15 e_20 ([r_3.1, a_14, r_21.1] : List (List HoldRule)) 0 ([r_3.1, a_14, r_21.1] : List (List HoldRule)) r_21.2.L r_21.2.At) fun z_71 =>
    law24_ConnectDecides_L1 x_3 r_3 r_4 q_72 (k_18 + 1) a_14 a_15 a_16 z_71.1 z_71.2
def law24_ConnectDecides (x_0 : (List Int)) (x_1 : (List HoldRule)) (x_2 : (List Connecting)) (x_3 : Int) : Option (Bool) :=
  (keep_New x_0).bind fun r_1 =>
    (keep_Src_Minimums r_1).bind fun r_2 =>
    (keep_Src_Holds r_2.2 (8 : Int)).bind fun r_3 =>
    (keep_Src_Connections_v2 r_3.2 (25 : Int)).bind fun r_4 =>
    (apL ([] : List HoldRule) r_3.1).bind fun l_5 =>
    (slL x_1 0 (if (6 : Int) < (x_1.length : Int) then (6 : Int) else (x_1.length : Int))).bind fun l_6 =>
    (apL l_5 l_6).bind fun l_7 =>
    (apL ([] : List Connecting) r_4.1).bind fun l_8 =>
    (slL x_2 0 (if (20 : Int) < (x_2.length : Int) then (20 : Int) else (x_2.length : Int))).bind fun l_9 =>
    (apL l_8 l_9).bind fun l_10 =>
    (law24_spoilt r_4.2 r_2.1).bind fun r_11 =>
    Ctl.fin (law24_ConnectDecides_L1 x_3 r_3 r_4 ([r_2.1, r_11.1] : List (List Minimum)) 0 l_7 l_10 ([r_2.1, r_11.1] : List (List Minimum)) r_11.2.L r_11.2.At) fun z_73 =>
    (law24_awake).bind fun r_74 =>
    some r_74
end Go.Proofs.Ytkajegjghfbgaaa.Ex
