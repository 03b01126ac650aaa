/- What the functions of the program compute; printed by a program from their code. -/
import Derived.Test.YtidhgcgbdjjdlaaExT
import Derived.Test.YtidhgcgbdjjdlaaStdAlarm
namespace Go.Proofs.Ytidhgcgbdjjdlaa.Ex
open Go.RowKit Go.Proofs.Ytidhgcgbdjjdlaa.Ax
set_option linter.unusedVariables false
set_option linter.unusedSimpArgs false
def keep_New (x_0 : (List Int)) : Option (Src) :=
  cond (decide ((2000 : Int) < (x_0.length : Int)))
    ((slL x_0 0 (2000 : Int)).bind fun l_1 =>
    some (⟨l_1, (0 : Int)⟩ : Src))
    (some (⟨x_0, (0 : Int)⟩ : Src))

def screen_New_L1 (x_0 : A4_Int) : Nat → Int → Option (Ctl (Screening × Int) (Unit))
  | 0, _ => none
  | q_2 + 1, i_1 => cond (decide (i_1 < (4 : Int)))
    (cond (i_1 == (0 : Int))
    (cond (decide (x_0.e0 < (0 : Int)))
    (some (Ctl.ret ((⟨(⟨(0 : Int), (0 : Int), (0 : Int), (0 : Int)⟩ : A4_Int), (0 : Int), ([] : (List Check))⟩ : Screening), (1 : Int))))
    (cond (decide ((1000 : Int) < x_0.e0))
    (some (Ctl.ret ((⟨(⟨(0 : Int), (0 : Int), (0 : Int), (0 : Int)⟩ : A4_Int), (0 : Int), ([] : (List Check))⟩ : Screening), (1 : Int))))
    (screen_New_L1 x_0 q_2 (w64 (i_1 + (1 : Int))))))
    (cond (i_1 == (1 : Int))
    (cond (decide (x_0.e1 < (0 : Int)))
    (some (Ctl.ret ((⟨(⟨(0 : Int), (0 : Int), (0 : Int), (0 : Int)⟩ : A4_Int), (0 : Int), ([] : (List Check))⟩ : Screening), (1 : Int))))
    (cond (decide ((1000 : Int) < x_0.e1))
    (some (Ctl.ret ((⟨(⟨(0 : Int), (0 : Int), (0 : Int), (0 : Int)⟩ : A4_Int), (0 : Int), ([] : (List Check))⟩ : Screening), (1 : Int))))
    (screen_New_L1 x_0 q_2 (w64 (i_1 + (1 : Int))))))
    (cond (i_1 == (2 : Int))
    (cond (decide (x_0.e2 < (0 : Int)))
    (some (Ctl.ret ((⟨(⟨(0 : Int), (0 : Int), (0 : Int), (0 : Int)⟩ : A4_Int), (0 : Int), ([] : (List Check))⟩ : Screening), (1 : Int))))
    (cond (decide ((1000 : Int) < x_0.e2))
    (some (Ctl.ret ((⟨(⟨(0 : Int), (0 : Int), (0 : Int), (0 : Int)⟩ : A4_Int), (0 : Int), ([] : (List Check))⟩ : Screening), (1 : Int))))
    (screen_New_L1 x_0 q_2 (w64 (i_1 + (1 : Int))))))
    (cond (i_1 == (3 : Int))
    (cond (decide (x_0.e3 < (0 : Int)))
    (some (Ctl.ret ((⟨(⟨(0 : Int), (0 : Int), (0 : Int), (0 : Int)⟩ : A4_Int), (0 : Int), ([] : (List Check))⟩ : Screening), (1 : Int))))
    (cond (decide ((1000 : Int) < x_0.e3))
    (some (Ctl.ret ((⟨(⟨(0 : Int), (0 : Int), (0 : Int), (0 : Int)⟩ : A4_Int), (0 : Int), ([] : (List Check))⟩ : Screening), (1 : Int))))
    (screen_New_L1 x_0 q_2 (w64 (i_1 + (1 : Int))))))
    (none)))))
    (some (Ctl.brk ()))
def screen_New (x_0 : A4_Int) : Option (Screening × Int) :=
  Ctl.fin (screen_New_L1 x_0 9223372036854775807 (0 : Int)) fun z_3 =>
    some ((⟨x_0, (1 : Int), ([] : (List Check))⟩ : Screening), (0 : Int))

def ref15_New_L1 (x_0 : A4_Int) : Nat → Int → Option (Ctl (Screening × Int) (Unit))
  | 0, _ => none
  | q_2 + 1, i_1 => cond (decide (i_1 < (4 : Int)))
    (cond (i_1 == (0 : Int))
    (cond (decide (x_0.e0 < (0 : Int)))
    (some (Ctl.ret ((⟨(⟨(0 : Int), (0 : Int), (0 : Int), (0 : Int)⟩ : A4_Int), (0 : Int), ([] : (List Check))⟩ : Screening), (1 : Int))))
    (cond (i_1 == (0 : Int))
    (cond (decide ((1000 : Int) < x_0.e0))
    (some (Ctl.ret ((⟨(⟨(0 : Int), (0 : Int), (0 : Int), (0 : Int)⟩ : A4_Int), (0 : Int), ([] : (List Check))⟩ : Screening), (1 : Int))))
    (ref15_New_L1 x_0 q_2 (w64 (i_1 + (1 : Int)))))
    (cond (i_1 == (1 : Int))
    (cond (decide ((1000 : Int) < x_0.e1))
    (some (Ctl.ret ((⟨(⟨(0 : Int), (0 : Int), (0 : Int), (0 : Int)⟩ : A4_Int), (0 : Int), ([] : (List Check))⟩ : Screening), (1 : Int))))
    (ref15_New_L1 x_0 q_2 (w64 (i_1 + (1 : Int)))))
    (cond (i_1 == (2 : Int))
    (cond (decide ((1000 : Int) < x_0.e2))
    (some (Ctl.ret ((⟨(⟨(0 : Int), (0 : Int), (0 : Int), (0 : Int)⟩ : A4_Int), (0 : Int), ([] : (List Check))⟩ : Screening), (1 : Int))))
    (ref15_New_L1 x_0 q_2 (w64 (i_1 + (1 : Int)))))
    (cond (i_1 == (3 : Int))
    (cond (decide ((1000 : Int) < x_0.e3))
    (some (Ctl.ret ((⟨(⟨(0 : Int), (0 : Int), (0 : Int), (0 : Int)⟩ : A4_Int), (0 : Int), ([] : (List Check))⟩ : Screening), (1 : Int))))
    (ref15_New_L1 x_0 q_2 (w64 (i_1 + (1 : Int)))))
    (none))))))
    (cond (i_1 == (1 : Int))
    (cond (decide (x_0.e1 < (0 : Int)))
    (some (Ctl.ret ((⟨(⟨(0 : Int), (0 : Int), (0 : Int), (0 : Int)⟩ : A4_Int), (0 : Int), ([] : (List Check))⟩ : Screening), (1 : Int))))
    (cond (i_1 == (0 : Int))
    (cond (decide ((1000 : Int) < x_0.e0))
    (some (Ctl.ret ((⟨(⟨(0 : Int), (0 : Int), (0 : Int), (0 : Int)⟩ : A4_Int), (0 : Int), ([] : (List Check))⟩ : Screening), (1 : Int))))
    (ref15_New_L1 x_0 q_2 (w64 (i_1 + (1 : Int)))))
    (cond (i_1 == (1 : Int))
    (cond (decide ((1000 : Int) < x_0.e1))
    (some (Ctl.ret ((⟨(⟨(0 : Int), (0 : Int), (0 : Int), (0 : Int)⟩ : A4_Int), (0 : Int), ([] : (List Check))⟩ : Screening), (1 : Int))))
    (ref15_New_L1 x_0 q_2 (w64 (i_1 + (1 : Int)))))
    (cond (i_1 == (2 : Int))
    (cond (decide ((1000 : Int) < x_0.e2))
    (some (Ctl.ret ((⟨(⟨(0 : Int), (0 : Int), (0 : Int), (0 : Int)⟩ : A4_Int), (0 : Int), ([] : (List Check))⟩ : Screening), (1 : Int))))
    (ref15_New_L1 x_0 q_2 (w64 (i_1 + (1 : Int)))))
    (cond (i_1 == (3 : Int))
    (cond (decide ((1000 : Int) < x_0.e3))
    (some (Ctl.ret ((⟨(⟨(0 : Int), (0 : Int), (0 : Int), (0 : Int)⟩ : A4_Int), (0 : Int), ([] : (List Check))⟩ : Screening), (1 : Int))))
    (ref15_New_L1 x_0 q_2 (w64 (i_1 + (1 : Int)))))
    (none))))))
    (cond (i_1 == (2 : Int))
    (cond (decide (x_0.e2 < (0 : Int)))
    (some (Ctl.ret ((⟨(⟨(0 : Int), (0 : Int), (0 : Int), (0 : Int)⟩ : A4_Int), (0 : Int), ([] : (List Check))⟩ : Screening), (1 : Int))))
    (cond (i_1 == (0 : Int))
    (cond (decide ((1000 : Int) < x_0.e0))
    (some (Ctl.ret ((⟨(⟨(0 : Int), (0 : Int), (0 : Int), (0 : Int)⟩ : A4_Int), (0 : Int), ([] : (List Check))⟩ : Screening), (1 : Int))))
    (ref15_New_L1 x_0 q_2 (w64 (i_1 + (1 : Int)))))
    (cond (i_1 == (1 : Int))
    (cond (decide ((1000 : Int) < x_0.e1))
    (some (Ctl.ret ((⟨(⟨(0 : Int), (0 : Int), (0 : Int), (0 : Int)⟩ : A4_Int), (0 : Int), ([] : (List Check))⟩ : Screening), (1 : Int))))
    (ref15_New_L1 x_0 q_2 (w64 (i_1 + (1 : Int)))))
    (cond (i_1 == (2 : Int))
    (cond (decide ((1000 : Int) < x_0.e2))
    (some (Ctl.ret ((⟨(⟨(0 : Int), (0 : Int), (0 : Int), (0 : Int)⟩ : A4_Int), (0 : Int), ([] : (List Check))⟩ : Screening), (1 : Int))))
    (ref15_New_L1 x_0 q_2 (w64 (i_1 + (1 : Int)))))
    (cond (i_1 == (3 : Int))
    (cond (decide ((1000 : Int) < x_0.e3))
    (some (Ctl.ret ((⟨(⟨(0 : Int), (0 : Int), (0 : Int), (0 : Int)⟩ : A4_Int), (0 : Int), ([] : (List Check))⟩ : Screening), (1 : Int))))
    (ref15_New_L1 x_0 q_2 (w64 (i_1 + (1 : Int)))))
    (none))))))
    (cond (i_1 == (3 : Int))
    (cond (decide (x_0.e3 < (0 : Int)))
    (some (Ctl.ret ((⟨(⟨(0 : Int), (0 : Int), (0 : Int), (0 : Int)⟩ : A4_Int), (0 : Int), ([] : (List Check))⟩ : Screening), (1 : Int))))
    (cond (i_1 == (0 : Int))
    (cond (decide ((1000 : Int) < x_0.e0))
    (some (Ctl.ret ((⟨(⟨(0 : Int), (0 : Int), (0 : Int), (0 : Int)⟩ : A4_Int), (0 : Int), ([] : (List Check))⟩ : Screening), (1 : Int))))
    (ref15_New_L1 x_0 q_2 (w64 (i_1 + (1 : Int)))))
    (cond (i_1 == (1 : Int))
    (cond (decide ((1000 : Int) < x_0.e1))
    (some (Ctl.ret ((⟨(⟨(0 : Int), (0 : Int), (0 : Int), (0 : Int)⟩ : A4_Int), (0 : Int), ([] : (List Check))⟩ : Screening), (1 : Int))))
    (ref15_New_L1 x_0 q_2 (w64 (i_1 + (1 : Int)))))
    (cond (i_1 == (2 : Int))
    (cond (decide ((1000 : Int) < x_0.e2))
    (some (Ctl.ret ((⟨(⟨(0 : Int), (0 : Int), (0 : Int), (0 : Int)⟩ : A4_Int), (0 : Int), ([] : (List Check))⟩ : Screening), (1 : Int))))
    (ref15_New_L1 x_0 q_2 (w64 (i_1 + (1 : Int)))))
    (cond (i_1 == (3 : Int))
    (cond (decide ((1000 : Int) < x_0.e3))
    (some (Ctl.ret ((⟨(⟨(0 : Int), (0 : Int), (0 : Int), (0 : Int)⟩ : A4_Int), (0 : Int), ([] : (List Check))⟩ : Screening), (1 : Int))))
    (ref15_New_L1 x_0 q_2 (w64 (i_1 + (1 : Int)))))
    (none))))))
    (none)))))
    (some (Ctl.brk ()))
def ref15_New (x_0 : A4_Int) : Option (Screening × Int) :=
  Ctl.fin (ref15_New_L1 x_0 9223372036854775807 (0 : Int)) fun z_3 =>
    some ((⟨x_0, (1 : Int), ([] : (List Check))⟩ : Screening), (0 : Int))

def ref15_Same_L1 (x_1 : Screening) : (List Check) → Nat → Option (Ctl (Bool) (Unit))
  | [], k_2 => some (Ctl.brk ())
  | e_3 :: q_5, k_2 => (ixL x_1.L (k_2 : Int)).bind fun e_4 =>
    cond (!((e_3.Bag == e_4.Bag) && ((e_3.Level == e_4.Level) && ((e_3.Since == e_4.Since) && ((e_3.Image == e_4.Image) && ((e_3.State == e_4.State) && true))))))
    (some (Ctl.ret false))
    (ref15_Same_L1 x_1 q_5 (k_2 + 1))
def ref15_Same (x_0 : Screening) (x_1 : Screening) : Option (Bool) :=
  cond (!((x_0.Limits.e0 == x_1.Limits.e0) && ((x_0.Limits.e1 == x_1.Limits.e1) && ((x_0.Limits.e2 == x_1.Limits.e2) && ((x_0.Limits.e3 == x_1.Limits.e3) && true)))))
    (some false)
    (cond (x_0.Next != x_1.Next)
    (some false)
    (cond ((x_0.L.length : Int) != (x_1.L.length : Int))
    (some false)
    (Ctl.fin (ref15_Same_L1 x_1 x_0.L 0) fun z_6 =>
    some true)))

def keep_Src_Raw (x_0 : Src) : Option (Int × Src) :=
  cond (decide ((x_0.L.length : Int) ≤ x_0.At))
    (some ((0 : Int), x_0))
    ((ixL x_0.L (w64 ((w64 (x_0.At + (1 : Int))) - (1 : Int)))).bind fun e_1 =>
    some (e_1, (⟨x_0.L, (w64 (x_0.At + (1 : Int)))⟩ : Src)))

def keep_Mod (x_0 : Int) (x_1 : Int) : Option (Int) :=
  cond (decide (x_1 < (1 : Int)))
    (some (0 : Int))
    ((nz x_1).bind fun u_1 =>
    cond (decide ((x_0.tmod x_1) < (0 : Int)))
    (some (w64 ((x_0.tmod x_1) + x_1)))
    (some (x_0.tmod x_1)))

def keep_Src_N (x_0 : Src) (x_1 : Int) : Option (Int × Src) :=
  (keep_Src_Raw x_0).bind fun r_1 =>
    (keep_Mod r_1.1 x_1).bind fun r_2 =>
    some (r_2, r_1.2)

def keep_Src_Pick (x_0 : Src) (x_1 : (List Int)) : Option (Int × Src) :=
  (keep_Src_N x_0 (x_1.length : Int)).bind fun r_1 =>
    (ixL x_1 r_1.1).bind fun e_2 =>
    some (e_2, r_1.2)

def keep_Src_Range (x_0 : Src) (x_1 : Int) (x_2 : Int) : Option (Int × Src) :=
  (keep_Src_N x_0 (w64 ((w64 (x_2 - x_1)) + (1 : Int)))).bind fun r_1 =>
    some ((w64 (x_1 + r_1.1)), r_1.2)

def screen_timed (x_0 : Int) : Option (Bool) :=
  cond (decide ((0 : Int) ≤ x_0))
    (some (decide (x_0 ≤ (1048576 : Int))))
    (some false)

def cmp_isNaN_int (x_0 : Int) : Option (Bool) :=
  some (x_0 != x_0)

def cmp_Compare_int (x_0 : Int) (x_1 : Int) : Option (Int) :=
  (cmp_isNaN_int x_0).bind fun r_1 =>
    (cmp_isNaN_int x_1).bind fun r_2 =>
    cond r_1
    (cond r_2
    (some (0 : Int))
    (some (-1 : Int)))
    (cond r_2
    (some (1 : Int))
    (cond (decide (x_0 < x_1))
    (some (-1 : Int))
    (cond (decide (x_1 < x_0))
    (some (1 : Int))
    (some (0 : Int)))))

def screen_at_f1 (x_0 : Check) (x_1 : Int) : Option (Int) :=
  (cmp_Compare_int x_0.Bag x_1).bind fun r_1 =>
    some r_1

def slices_BinarySearchFunc_int_L1 (x_0 : (List Check)) (x_1 : Int) : Nat → Int → Int → Option (Ctl (Int × Bool) (Int))
  | 0, _, _ => none
  | q_5 + 1, i_1, i_2 => cond (decide (i_1 < i_2))
    ((ixL x_0 (IntKind.i64.wrap (shrF .u64 (IntKind.u64.wrap (w64 (i_1 + i_2))) (1 : Int)))).bind fun e_3 =>
    (screen_at_f1 e_3 x_1).bind fun r_4 =>
    cond (decide (r_4 < (0 : Int)))
    (slices_BinarySearchFunc_int_L1 x_0 x_1 q_5 (w64 ((IntKind.i64.wrap (shrF .u64 (IntKind.u64.wrap (w64 (i_1 + i_2))) (1 : Int))) + (1 : Int))) i_2)
    (slices_BinarySearchFunc_int_L1 x_0 x_1 q_5 i_1 (IntKind.i64.wrap (shrF .u64 (IntKind.u64.wrap (w64 (i_1 + i_2))) (1 : Int)))))
    (some (Ctl.brk i_1))
def slices_BinarySearchFunc_int (x_0 : (List Check)) (x_1 : Int) : Option (Int × Bool) :=
  Ctl.fin (slices_BinarySearchFunc_int_L1 x_0 x_1 9223372036854775807 (0 : Int) (x_0.length : Int)) fun z_6 =>
    cond (decide (z_6 < (x_0.length : Int)))
    ((ixL x_0 z_6).bind fun e_7 =>
    (screen_at_f1 e_7 x_1).bind fun r_8 =>
    some (z_6, (r_8 == (0 : Int))))
    (some (z_6, false))

def screen_at (x_0 : Screening) (x_1 : Int) : Option (Int × Bool) :=
  (slices_BinarySearchFunc_int x_0.L x_1).bind fun r_1 =>
    some (r_1.1, r_1.2)

def slices_Clone_Check (x_0 : (List Check)) : Option ((List Check)) :=
  apL [] x_0

def screen_clone (x_0 : Screening) : Option (Screening) :=
  (slices_Clone_Check x_0.L).bind fun r_1 =>
    some (⟨x_0.Limits, x_0.Next, r_1⟩ : Screening)

def slices_Insert_Check (x_0 : (List Check)) (x_1 : Int) (x_2 : (List Check)) : Option ((List Check)) :=
  insL x_0 x_1 x_2

def screen_Start (x_0 : Screening) (x_1 : Int) (x_2 : Int) : Option (Screening × Int) :=
  cond (decide (x_1 < (1 : Int)))
    (some ((⟨(⟨(0 : Int), (0 : Int), (0 : Int), (0 : Int)⟩ : A4_Int), (0 : Int), ([] : (List Check))⟩ : Screening), (1 : Int)))
    (cond (decide ((40 : Int) < x_1))
    (some ((⟨(⟨(0 : Int), (0 : Int), (0 : Int), (0 : Int)⟩ : A4_Int), (0 : Int), ([] : (List Check))⟩ : Screening), (1 : Int)))
    ((screen_timed x_2).bind fun r_1 =>
    cond (!r_1)
    (some ((⟨(⟨(0 : Int), (0 : Int), (0 : Int), (0 : Int)⟩ : A4_Int), (0 : Int), ([] : (List Check))⟩ : Screening), (1 : Int)))
    ((screen_at x_0 x_1).bind fun r_2 =>
    cond r_2.2
    (some ((⟨(⟨(0 : Int), (0 : Int), (0 : Int), (0 : Int)⟩ : A4_Int), (0 : Int), ([] : (List Check))⟩ : Screening), (5 : Int)))
    (cond (decide ((1048576 : Int) < x_0.Next))
    (some ((⟨(⟨(0 : Int), (0 : Int), (0 : Int), (0 : Int)⟩ : A4_Int), (0 : Int), ([] : (List Check))⟩ : Screening), (2 : Int)))
    ((screen_clone x_0).bind fun r_3 =>
    (slices_Insert_Check r_3.L r_2.1 ([(⟨x_1, (1 : Int), x_2, x_0.Next, (1 : Int)⟩ : Check)] : List Check)).bind fun r_4 =>
    some ((⟨r_3.Limits, (w64 (r_3.Next + (1 : Int))), r_4⟩ : Screening), (0 : Int)))))))

def ref15_Find_L1 (x_1 : Int) : (List Check) → Nat → Option (Ctl (Check × Bool) (Unit))
  | [], k_2 => some (Ctl.brk ())
  | e_3 :: q_4, k_2 => cond (e_3.Bag == x_1)
    (some (Ctl.ret (e_3, true)))
    (ref15_Find_L1 x_1 q_4 (k_2 + 1))
def ref15_Find (x_0 : Screening) (x_1 : Int) : Option (Check × Bool) :=
  Ctl.fin (ref15_Find_L1 x_1 x_0.L 0) fun z_5 =>
    some ((⟨(0 : Int), (0 : Int), (0 : Int), (0 : Int), (0 : Int)⟩ : Check), false)

def ref15_Start_L1 (x_1 : Int) : (List Check) → Nat → Option (Ctl (Screening × Int) (Int))
  | [], k_3 => some (Ctl.brk (k_3 : Int))
  | e_4 :: q_5, k_3 => cond (decide (e_4.Bag < x_1))
    (ref15_Start_L1 x_1 q_5 (k_3 + 1))
    (some (Ctl.brk (k_3 : Int)))
def ref15_Start (x_0 : Screening) (x_1 : Int) (x_2 : Int) : Option (Screening × Int) :=
  cond (decide (x_1 < (1 : Int)))
    (some ((⟨(⟨(0 : Int), (0 : Int), (0 : Int), (0 : Int)⟩ : A4_Int), (0 : Int), ([] : (List Check))⟩ : Screening), (1 : Int)))
    (cond (decide ((40 : Int) < x_1))
    (some ((⟨(⟨(0 : Int), (0 : Int), (0 : Int), (0 : Int)⟩ : A4_Int), (0 : Int), ([] : (List Check))⟩ : Screening), (1 : Int)))
    (cond (decide (x_2 < (0 : Int)))
    (some ((⟨(⟨(0 : Int), (0 : Int), (0 : Int), (0 : Int)⟩ : A4_Int), (0 : Int), ([] : (List Check))⟩ : Screening), (1 : Int)))
    (cond (decide ((1048576 : Int) < x_2))
    (some ((⟨(⟨(0 : Int), (0 : Int), (0 : Int), (0 : Int)⟩ : A4_Int), (0 : Int), ([] : (List Check))⟩ : Screening), (1 : Int)))
    ((ref15_Find x_0 x_1).bind fun r_1 =>
    cond r_1.2
    (some ((⟨(⟨(0 : Int), (0 : Int), (0 : Int), (0 : Int)⟩ : A4_Int), (0 : Int), ([] : (List Check))⟩ : Screening), (5 : Int)))
    (cond (decide ((1048576 : Int) < x_0.Next))
    (some ((⟨(⟨(0 : Int), (0 : Int), (0 : Int), (0 : Int)⟩ : A4_Int), (0 : Int), ([] : (List Check))⟩ : Screening), (2 : Int)))
    (Ctl.fin (ref15_Start_L1 x_1 x_0.L 0) fun z_6 =>
    (slL x_0.L 0 z_6).bind fun l_7 =>
    (apL ([] : List Check) l_7).bind fun l_8 =>
    (apL l_8 ([(⟨x_1, (1 : Int), x_2, x_0.Next, (1 : Int)⟩ : Check)] : List Check)).bind fun l_9 =>
    (slL x_0.L z_6 (x_0.L.length : Int)).bind fun l_10 =>
    (apL l_9 l_10).bind fun l_11 =>
    some ((⟨x_0.Limits, (w64 (x_0.Next + (1 : Int))), l_11⟩ : Screening), (0 : Int))))))))

def screen_deadline (x_0 : Screening) (x_1 : Check) : Option (Int) :=
  cond ((w64 ((if (4 : Int) < (if x_1.Level < (1 : Int) then (1 : Int) else x_1.Level) then (4 : Int) else (if x_1.Level < (1 : Int) then (1 : Int) else x_1.Level)) - (1 : Int))) == (0 : Int))
    (some (w64 (x_1.Since + x_0.Limits.e0)))
    (cond ((w64 ((if (4 : Int) < (if x_1.Level < (1 : Int) then (1 : Int) else x_1.Level) then (4 : Int) else (if x_1.Level < (1 : Int) then (1 : Int) else x_1.Level)) - (1 : Int))) == (1 : Int))
    (some (w64 (x_1.Since + x_0.Limits.e1)))
    (cond ((w64 ((if (4 : Int) < (if x_1.Level < (1 : Int) then (1 : Int) else x_1.Level) then (4 : Int) else (if x_1.Level < (1 : Int) then (1 : Int) else x_1.Level)) - (1 : Int))) == (2 : Int))
    (some (w64 (x_1.Since + x_0.Limits.e2)))
    (cond ((w64 ((if (4 : Int) < (if x_1.Level < (1 : Int) then (1 : Int) else x_1.Level) then (4 : Int) else (if x_1.Level < (1 : Int) then (1 : Int) else x_1.Level)) - (1 : Int))) == (3 : Int))
    (some (w64 (x_1.Since + x_0.Limits.e3)))
    (none))))

def screen_keeper_fail (x_0 : Keeper) (x_1 : Int) (x_2 : Int) : Option (Keeper) :=
  (ixL x_0.s.L x_1).bind fun e_1 =>
    cond (decide ((4 : Int) ≤ e_1.Level))
    (some (⟨(⟨x_0.s.Limits, x_0.s.Next, (x_0.s.L.set x_1.toNat (⟨e_1.Bag, e_1.Level, e_1.Since, e_1.Image, (3 : Int)⟩ : Check))⟩ : Screening)⟩ : Keeper))
    (some (⟨(⟨x_0.s.Limits, (w64 (x_0.s.Next + (1 : Int))), (((x_0.s.L.set x_1.toNat (⟨e_1.Bag, (w64 (e_1.Level + (1 : Int))), e_1.Since, e_1.Image, e_1.State⟩ : Check)).set x_1.toNat (⟨(⟨e_1.Bag, (w64 (e_1.Level + (1 : Int))), e_1.Since, e_1.Image, e_1.State⟩ : Check).Bag, (⟨e_1.Bag, (w64 (e_1.Level + (1 : Int))), e_1.Since, e_1.Image, e_1.State⟩ : Check).Level, x_2, (⟨e_1.Bag, (w64 (e_1.Level + (1 : Int))), e_1.Since, e_1.Image, e_1.State⟩ : Check).Image, (⟨e_1.Bag, (w64 (e_1.Level + (1 : Int))), e_1.Since, e_1.Image, e_1.State⟩ : Check).State⟩ : Check)).set x_1.toNat (⟨(⟨(⟨e_1.Bag, (w64 (e_1.Level + (1 : Int))), e_1.Since, e_1.Image, e_1.State⟩ : Check).Bag, (⟨e_1.Bag, (w64 (e_1.Level + (1 : Int))), e_1.Since, e_1.Image, e_1.State⟩ : Check).Level, x_2, (⟨e_1.Bag, (w64 (e_1.Level + (1 : Int))), e_1.Since, e_1.Image, e_1.State⟩ : Check).Image, (⟨e_1.Bag, (w64 (e_1.Level + (1 : Int))), e_1.Since, e_1.Image, e_1.State⟩ : Check).State⟩ : Check).Bag, (⟨(⟨e_1.Bag, (w64 (e_1.Level + (1 : Int))), e_1.Since, e_1.Image, e_1.State⟩ : Check).Bag, (⟨e_1.Bag, (w64 (e_1.Level + (1 : Int))), e_1.Since, e_1.Image, e_1.State⟩ : Check).Level, x_2, (⟨e_1.Bag, (w64 (e_1.Level + (1 : Int))), e_1.Since, e_1.Image, e_1.State⟩ : Check).Image, (⟨e_1.Bag, (w64 (e_1.Level + (1 : Int))), e_1.Since, e_1.Image, e_1.State⟩ : Check).State⟩ : Check).Level, (⟨(⟨e_1.Bag, (w64 (e_1.Level + (1 : Int))), e_1.Since, e_1.Image, e_1.State⟩ : Check).Bag, (⟨e_1.Bag, (w64 (e_1.Level + (1 : Int))), e_1.Since, e_1.Image, e_1.State⟩ : Check).Level, x_2, (⟨e_1.Bag, (w64 (e_1.Level + (1 : Int))), e_1.Since, e_1.Image, e_1.State⟩ : Check).Image, (⟨e_1.Bag, (w64 (e_1.Level + (1 : Int))), e_1.Since, e_1.Image, e_1.State⟩ : Check).State⟩ : Check).Since, x_0.s.Next, (⟨(⟨e_1.Bag, (w64 (e_1.Level + (1 : Int))), e_1.Since, e_1.Image, e_1.State⟩ : Check).Bag, (⟨e_1.Bag, (w64 (e_1.Level + (1 : Int))), e_1.Since, e_1.Image, e_1.State⟩ : Check).Level, x_2, (⟨e_1.Bag, (w64 (e_1.Level + (1 : Int))), e_1.Since, e_1.Image, e_1.State⟩ : Check).Image, (⟨e_1.Bag, (w64 (e_1.Level + (1 : Int))), e_1.Since, e_1.Image, e_1.State⟩ : Check).State⟩ : Check).State⟩ : Check))⟩ : Screening)⟩ : Keeper))

def screen_Expire_L1 (x_0 : Screening) (x_1 : Int) : (List Check) → Nat → Int → Int → Int → Int → Int → (List Check) → Option (Ctl (Screening × Int) (Int × Int × Int × Int × Int × (List Check)))
  | [], k_10, i_3, i_4, i_5, i_6, i_7, a_8 => some (Ctl.brk (i_3, i_4, i_5, i_6, i_7, a_8))
  | e_11 :: q_15, k_10, i_3, i_4, i_5, i_6, i_7, a_8 => (ixL a_8 (k_10 : Int)).bind fun e_12 =>
    cond (e_12.State == (1 : Int))
    ((screen_deadline x_0 e_12).bind fun r_13 =>
    cond (decide (r_13 < x_1))
    ((screen_keeper_fail (⟨(⟨(⟨i_3, i_4, i_5, i_6⟩ : A4_Int), i_7, a_8⟩ : Screening)⟩ : Keeper) (k_10 : Int) x_1).bind fun r_14 =>
    screen_Expire_L1 x_0 x_1 q_15 (k_10 + 1) r_14.s.Limits.e0 r_14.s.Limits.e1 r_14.s.Limits.e2 r_14.s.Limits.e3 r_14.s.Next r_14.s.L)
    (screen_Expire_L1 x_0 x_1 q_15 (k_10 + 1) i_3 i_4 i_5 i_6 i_7 a_8))
    (screen_Expire_L1 x_0 x_1 q_15 (k_10 + 1) i_3 i_4 i_5 i_6 i_7 a_8)
def screen_Expire (x_0 : Screening) (x_1 : Int) : Option (Screening × Int) :=
  (screen_timed x_1).bind fun r_1 =>
    cond (!r_1)
    (some ((⟨(⟨(0 : Int), (0 : Int), (0 : Int), (0 : Int)⟩ : A4_Int), (0 : Int), ([] : (List Check))⟩ : Screening), (1 : Int)))
    ((screen_clone x_0).bind fun r_2 =>
    Ctl.fin (screen_Expire_L1 x_0 x_1 r_2.L 0 r_2.Limits.e0 r_2.Limits.e1 r_2.Limits.e2 r_2.Limits.e3 r_2.Next r_2.L) fun z_16 =>
    cond (decide ((if x_0.Next < (1048577 : Int) then (1048577 : Int) else x_0.Next) < z_16.2.2.2.2.1))
    (some ((⟨(⟨(0 : Int), (0 : Int), (0 : Int), (0 : Int)⟩ : A4_Int), (0 : Int), ([] : (List Check))⟩ : Screening), (2 : Int)))
    (some ((⟨(⟨z_16.1, z_16.2.1, z_16.2.2.1, z_16.2.2.2.1⟩ : A4_Int), z_16.2.2.2.2.1, z_16.2.2.2.2.2⟩ : Screening), (0 : Int))))

def ref15_deadline (x_0 : Screening) (x_1 : Check) : Option (Int) :=
  cond ((w64 (x_1.Level - (1 : Int))) == (0 : Int))
    (some (w64 (x_1.Since + x_0.Limits.e0)))
    (cond ((w64 (x_1.Level - (1 : Int))) == (1 : Int))
    (some (w64 (x_1.Since + x_0.Limits.e1)))
    (cond ((w64 (x_1.Level - (1 : Int))) == (2 : Int))
    (some (w64 (x_1.Since + x_0.Limits.e2)))
    (cond ((w64 (x_1.Level - (1 : Int))) == (3 : Int))
    (some (w64 (x_1.Since + x_0.Limits.e3)))
    (none))))

def ref15_fail (x_0 : Check) (x_1 : Int) (x_2 : Int) : Option (Check × Int) :=
  cond (x_0.Level == (4 : Int))
    (some ((⟨x_0.Bag, x_0.Level, x_0.Since, x_0.Image, (3 : Int)⟩ : Check), x_1))
    (some ((⟨x_0.Bag, (w64 (x_0.Level + (1 : Int))), x_2, x_1, x_0.State⟩ : Check), (w64 (x_1 + (1 : Int)))))

def ref15_Expire_L1 (x_0 : Screening) (x_1 : Int) : (List Check) → Nat → Int → (List Check) → Option (Ctl (Screening × Int) (Int × (List Check)))
  | [], k_4, i_1, a_2 => some (Ctl.brk (i_1, a_2))
  | e_5 :: q_11, k_4, i_1, a_2 => cond (e_5.State == (1 : Int))
    ((ref15_deadline x_0 e_5).bind fun r_6 =>
    cond (decide (r_6 < x_1))
    ((ref15_fail e_5 i_1 x_1).bind fun r_7 =>
    (apL a_2 ([r_7.1] : List Check)).bind fun l_8 =>
    ref15_Expire_L1 x_0 x_1 q_11 (k_4 + 1) r_7.2 l_8)
    ((apL a_2 ([e_5] : List Check)).bind fun l_9 =>
    ref15_Expire_L1 x_0 x_1 q_11 (k_4 + 1) i_1 l_9))
    ((apL a_2 ([e_5] : List Check)).bind fun l_10 =>
    ref15_Expire_L1 x_0 x_1 q_11 (k_4 + 1) i_1 l_10)
def ref15_Expire (x_0 : Screening) (x_1 : Int) : Option (Screening × Int) :=
  cond (decide (x_1 < (0 : Int)))
    (some ((⟨(⟨(0 : Int), (0 : Int), (0 : Int), (0 : Int)⟩ : A4_Int), (0 : Int), ([] : (List Check))⟩ : Screening), (1 : Int)))
    (cond (decide ((1048576 : Int) < x_1))
    (some ((⟨(⟨(0 : Int), (0 : Int), (0 : Int), (0 : Int)⟩ : A4_Int), (0 : Int), ([] : (List Check))⟩ : Screening), (1 : Int)))
    (Ctl.fin (ref15_Expire_L1 x_0 x_1 x_0.L 0 x_0.Next ([] : List Check)) fun z_12 =>
    cond (decide ((1048577 : Int) < z_12.1))
    (some ((⟨(⟨(0 : Int), (0 : Int), (0 : Int), (0 : Int)⟩ : A4_Int), (0 : Int), ([] : (List Check))⟩ : Screening), (2 : Int)))
    (some ((⟨x_0.Limits, z_12.1, z_12.2⟩ : Screening), (0 : Int)))))

def screen_Expire_v2_L1 (x_0 : Screening) (x_1 : Int) : (List Check) → Nat → Int → Int → Int → Int → Int → (List Check) → Option (Ctl (Screening × Int) (Int × Int × Int × Int × Int × (List Check)))
  | [], k_10, i_3, i_4, i_5, i_6, i_7, a_8 => some (Ctl.brk (i_3, i_4, i_5, i_6, i_7, a_8))
  | e_11 :: q_15, k_10, i_3, i_4, i_5, i_6, i_7, a_8 => (ixL a_8 (k_10 : Int)).bind fun e_12 =>
    cond (e_12.State == (1 : Int))
    ((screen_deadline x_0 e_12).bind fun r_13 =>
    cond (decide (r_13 < x_1))
    ((screen_keeper_fail (⟨(⟨(⟨i_3, i_4, i_5, i_6⟩ : A4_Int), i_7, a_8⟩ : Screening)⟩ : Keeper) (k_10 : Int) x_1).bind fun r_14 =>
    screen_Expire_v2_L1 x_0 x_1 q_15 (k_10 + 1) r_14.s.Limits.e0 r_14.s.Limits.e1 r_14.s.Limits.e2 r_14.s.Limits.e3 r_14.s.Next r_14.s.L)
    (screen_Expire_v2_L1 x_0 x_1 q_15 (k_10 + 1) i_3 i_4 i_5 i_6 i_7 a_8))
    (screen_Expire_v2_L1 x_0 x_1 q_15 (k_10 + 1) i_3 i_4 i_5 i_6 i_7 a_8)
def screen_Expire_v2 (x_0 : Screening) (x_1 : Int) : Option (Screening × Int) :=
  (screen_timed x_1).bind fun r_1 =>
    cond (!r_1)
    (some ((⟨(⟨(0 : Int), (0 : Int), (0 : Int), (0 : Int)⟩ : A4_Int), (0 : Int), ([] : (List Check))⟩ : Screening), (1 : Int)))
    ((screen_clone x_0).bind fun r_2 =>
    Ctl.fin (screen_Expire_v2_L1 x_0 x_1 r_2.L 0 r_2.Limits.e0 r_2.Limits.e1 r_2.Limits.e2 r_2.Limits.e3 r_2.Next r_2.L) fun z_16 =>
    cond (decide ((if x_0.Next < (1048577 : Int) then (1048577 : Int) else x_0.Next) < z_16.2.2.2.2.1))
    (some ((⟨(⟨(0 : Int), (0 : Int), (0 : Int), (0 : Int)⟩ : A4_Int), (0 : Int), ([] : (List Check))⟩ : Screening), (2 : Int)))
    (some ((⟨(⟨z_16.1, z_16.2.1, z_16.2.2.1, z_16.2.2.2.1⟩ : A4_Int), z_16.2.2.2.2.1, z_16.2.2.2.2.2⟩ : Screening), (0 : Int))))

def screen_Verdict_f1 (x_0 : Check) (x_1 : Int) (x_2 : Screening) : Option (Bool) :=
  cond (x_0.State == (1 : Int))
    (cond (x_0.Image == x_1)
    (some (decide (x_1 < x_2.Next)))
    (some false))
    (some false)

def slices_IndexFunc_Check_L1 (x_1 : Int) (x_2 : Screening) : (List Check) → Nat → Option (Ctl (Int) (Unit))
  | [], k_2 => some (Ctl.brk ())
  | e_3 :: q_5, k_2 => (screen_Verdict_f1 e_3 x_1 x_2).bind fun r_4 =>
    cond r_4
    (some (Ctl.ret (k_2 : Int)))
    (slices_IndexFunc_Check_L1 x_1 x_2 q_5 (k_2 + 1))
def slices_IndexFunc_Check (x_0 : (List Check)) (x_1 : Int) (x_2 : Screening) : Option (Int) :=
  Ctl.fin (slices_IndexFunc_Check_L1 x_1 x_2 x_0 0) fun z_6 =>
    some (-1 : Int)

def screen_Verdict (x_0 : Screening) (x_1 : Int) (x_2 : Bool) (x_3 : Int) : Option (Screening × Int × Int) :=
  (screen_Expire_v2 x_0 x_3).bind fun r_1 =>
    cond (r_1.2 != (0 : Int))
    (some ((⟨(⟨(0 : Int), (0 : Int), (0 : Int), (0 : Int)⟩ : A4_Int), (0 : Int), ([] : (List Check))⟩ : Screening), (0 : Int), r_1.2))
    ((slices_IndexFunc_Check r_1.1.L x_1 x_0).bind fun r_2 =>
    cond (decide (r_2 < (0 : Int)))
    (some ((⟨(⟨(0 : Int), (0 : Int), (0 : Int), (0 : Int)⟩ : A4_Int), (0 : Int), ([] : (List Check))⟩ : Screening), (0 : Int), (6 : Int)))
    ((ixL r_1.1.L r_2).bind fun e_3 =>
    cond x_2
    ((ixL r_1.1.L r_2).bind fun e_4 =>
    some ((⟨r_1.1.Limits, r_1.1.Next, (r_1.1.L.set r_2.toNat (⟨e_4.Bag, e_4.Level, e_4.Since, e_4.Image, (2 : Int)⟩ : Check))⟩ : Screening), e_3.Bag, (0 : Int)))
    ((screen_keeper_fail (⟨r_1.1⟩ : Keeper) r_2 x_3).bind fun r_5 =>
    cond (decide ((if r_1.1.Next < (1048577 : Int) then (1048577 : Int) else r_1.1.Next) < r_5.s.Next))
    (some ((⟨(⟨(0 : Int), (0 : Int), (0 : Int), (0 : Int)⟩ : A4_Int), (0 : Int), ([] : (List Check))⟩ : Screening), (0 : Int), (2 : Int)))
    (some (r_5.s, e_3.Bag, (0 : Int))))))

def ref15_Expire_v2_L1 (x_0 : Screening) (x_1 : Int) : (List Check) → Nat → Int → (List Check) → Option (Ctl (Screening × Int) (Int × (List Check)))
  | [], k_4, i_1, a_2 => some (Ctl.brk (i_1, a_2))
  | e_5 :: q_11, k_4, i_1, a_2 => cond (e_5.State == (1 : Int))
    ((ref15_deadline x_0 e_5).bind fun r_6 =>
    cond (decide (r_6 < x_1))
    ((ref15_fail e_5 i_1 x_1).bind fun r_7 =>
    (apL a_2 ([r_7.1] : List Check)).bind fun l_8 =>
    ref15_Expire_v2_L1 x_0 x_1 q_11 (k_4 + 1) r_7.2 l_8)
    ((apL a_2 ([e_5] : List Check)).bind fun l_9 =>
    ref15_Expire_v2_L1 x_0 x_1 q_11 (k_4 + 1) i_1 l_9))
    ((apL a_2 ([e_5] : List Check)).bind fun l_10 =>
    ref15_Expire_v2_L1 x_0 x_1 q_11 (k_4 + 1) i_1 l_10)
def ref15_Expire_v2 (x_0 : Screening) (x_1 : Int) : Option (Screening × Int) :=
  cond (decide (x_1 < (0 : Int)))
    (some ((⟨(⟨(0 : Int), (0 : Int), (0 : Int), (0 : Int)⟩ : A4_Int), (0 : Int), ([] : (List Check))⟩ : Screening), (1 : Int)))
    (cond (decide ((1048576 : Int) < x_1))
    (some ((⟨(⟨(0 : Int), (0 : Int), (0 : Int), (0 : Int)⟩ : A4_Int), (0 : Int), ([] : (List Check))⟩ : Screening), (1 : Int)))
    (Ctl.fin (ref15_Expire_v2_L1 x_0 x_1 x_0.L 0 x_0.Next ([] : List Check)) fun z_12 =>
    cond (decide ((1048577 : Int) < z_12.1))
    (some ((⟨(⟨(0 : Int), (0 : Int), (0 : Int), (0 : Int)⟩ : A4_Int), (0 : Int), ([] : (List Check))⟩ : Screening), (2 : Int)))
    (some ((⟨x_0.Limits, z_12.1, z_12.2⟩ : Screening), (0 : Int)))))

def ref15_Verdict_L1 (x_0 : Screening) (x_1 : Int) (x_2 : Bool) (x_3 : Int) (r_1 : Screening × Int) : (List Check) → Nat → Option (Ctl (Screening × Int × Int) (Unit))
  | [], k_3 => some (Ctl.brk ())
  | e_4 :: q_6, k_3 => cond (e_4.State != (1 : Int))
    (ref15_Verdict_L1 x_0 x_1 x_2 x_3 r_1 q_6 (k_3 + 1))
    (cond (e_4.Image != x_1)
    (ref15_Verdict_L1 x_0 x_1 x_2 x_3 r_1 q_6 (k_3 + 1))
    (cond (decide (x_0.Next ≤ x_1))
    (ref15_Verdict_L1 x_0 x_1 x_2 x_3 r_1 q_6 (k_3 + 1))
    (cond x_2
    (cond (decide ((1048577 : Int) < r_1.1.Next))
    (some (Ctl.ret ((⟨(⟨(0 : Int), (0 : Int), (0 : Int), (0 : Int)⟩ : A4_Int), (0 : Int), ([] : (List Check))⟩ : Screening), (0 : Int), (2 : Int))))
    (some (Ctl.ret ((⟨r_1.1.Limits, r_1.1.Next, (r_1.1.L.set (k_3 : Int).toNat (⟨e_4.Bag, e_4.Level, e_4.Since, e_4.Image, (2 : Int)⟩ : Check))⟩ : Screening), e_4.Bag, (0 : Int)))))
    ((ref15_fail e_4 r_1.1.Next x_3).bind fun r_5 =>
    cond (decide ((1048577 : Int) < r_5.2))
    (some (Ctl.ret ((⟨(⟨(0 : Int), (0 : Int), (0 : Int), (0 : Int)⟩ : A4_Int), (0 : Int), ([] : (List Check))⟩ : Screening), (0 : Int), (2 : Int))))
    (some (Ctl.ret ((⟨r_1.1.Limits, r_5.2, (r_1.1.L.set (k_3 : Int).toNat r_5.1)⟩ : Screening), r_5.1.Bag, (0 : Int))))))))
def ref15_Verdict (x_0 : Screening) (x_1 : Int) (x_2 : Bool) (x_3 : Int) : Option (Screening × Int × Int) :=
  (ref15_Expire_v2 x_0 x_3).bind fun r_1 =>
    cond (r_1.2 != (0 : Int))
    (some ((⟨(⟨(0 : Int), (0 : Int), (0 : Int), (0 : Int)⟩ : A4_Int), (0 : Int), ([] : (List Check))⟩ : Screening), (0 : Int), r_1.2))
    (Ctl.fin (ref15_Verdict_L1 x_0 x_1 x_2 x_3 r_1 r_1.1.L 0) fun z_7 =>
    some ((⟨(⟨(0 : Int), (0 : Int), (0 : Int), (0 : Int)⟩ : A4_Int), (0 : Int), ([] : (List Check))⟩ : Screening), (0 : Int), (6 : Int)))

def screen_Find (x_0 : Screening) (x_1 : Int) : Option (Check × Bool) :=
  (screen_at x_0 x_1).bind fun r_1 =>
    cond (!r_1.2)
    (some ((⟨(0 : Int), (0 : Int), (0 : Int), (0 : Int), (0 : Int)⟩ : Check), false))
    ((ixL x_0.L r_1.1).bind fun e_2 =>
    some (e_2, true))

def screen_Cleared_L1 : (List Check) → Nat → (List Int) → Option (Ctl ((List Int)) ((List Int)))
  | [], k_3, a_1 => some (Ctl.brk a_1)
  | e_4 :: q_6, k_3, a_1 => cond (e_4.State == (2 : Int))
    ((apL a_1 ([e_4.Bag] : List Int)).bind fun l_5 =>
    screen_Cleared_L1 q_6 (k_3 + 1) l_5)
    (screen_Cleared_L1 q_6 (k_3 + 1) a_1)
def screen_Cleared (x_0 : Screening) : Option ((List Int)) :=
  Ctl.fin (screen_Cleared_L1 x_0.L 0 ([] : List Int)) fun z_7 =>
    some z_7

def ref15_Cleared_L1 : (List Check) → Nat → (List Int) → Option (Ctl ((List Int)) ((List Int)))
  | [], k_3, a_1 => some (Ctl.brk a_1)
  | e_4 :: q_6, k_3, a_1 => cond (e_4.State == (2 : Int))
    ((apL a_1 ([e_4.Bag] : List Int)).bind fun l_5 =>
    ref15_Cleared_L1 q_6 (k_3 + 1) l_5)
    (ref15_Cleared_L1 q_6 (k_3 + 1) a_1)
def ref15_Cleared (x_0 : Screening) : Option ((List Int)) :=
  Ctl.fin (ref15_Cleared_L1 x_0.L 0 ([] : List Int)) fun z_7 =>
    some z_7

def keep_Ints_L1 (x_1 : (List Int)) : (List Int) → Nat → Option (Ctl (Bool) (Unit))
  | [], k_2 => some (Ctl.brk ())
  | e_3 :: q_5, k_2 => (ixL x_1 (k_2 : Int)).bind fun e_4 =>
    cond (e_3 != e_4)
    (some (Ctl.ret false))
    (keep_Ints_L1 x_1 q_5 (k_2 + 1))
def keep_Ints (x_0 : (List Int)) (x_1 : (List Int)) : Option (Bool) :=
  cond ((x_0.length : Int) != (x_1.length : Int))
    (some false)
    (Ctl.fin (keep_Ints_L1 x_1 x_0 0) fun z_6 =>
    some true)

def slices_SortFunc_Alarm (x_0 : (List Alarm)) : Option ((List Alarm)) :=
  sortL srtOk_Alarm srtC_Alarm x_0

def screen_Alarms_L1 (x_0 : Screening) : (List Check) → Nat → (List Alarm) → Option (Ctl ((List Alarm)) ((List Alarm)))
  | [], k_3, a_1 => some (Ctl.brk a_1)
  | e_4 :: q_7, k_3, a_1 => cond (e_4.State == (1 : Int))
    ((screen_deadline x_0 e_4).bind fun r_5 =>
    (apL a_1 ([(⟨e_4.Image, e_4.Bag, e_4.Level, r_5⟩ : Alarm)] : List Alarm)).bind fun l_6 =>
    screen_Alarms_L1 x_0 q_7 (k_3 + 1) l_6)
    (screen_Alarms_L1 x_0 q_7 (k_3 + 1) a_1)
def screen_Alarms (x_0 : Screening) : Option ((List Alarm)) :=
  Ctl.fin (screen_Alarms_L1 x_0 x_0.L 0 ([] : List Alarm)) fun z_8 =>
    (slices_SortFunc_Alarm z_8).bind fun r_9 =>
    some r_9

def ref15_Alarms_L2 (e_4 : Check) (r_5 : Int) : (List Alarm) → Nat → Option (Ctl ((List Alarm)) (Int))
  | [], k_7 => some (Ctl.brk (k_7 : Int))
  | e_8 :: q_9, k_7 => cond (decide (e_8.Deadline < r_5))
    (ref15_Alarms_L2 e_4 r_5 q_9 (k_7 + 1))
    (cond (e_8.Deadline == r_5)
    (cond (decide (e_8.Image < e_4.Image))
    (ref15_Alarms_L2 e_4 r_5 q_9 (k_7 + 1))
    (some (Ctl.brk (k_7 : Int))))
    (some (Ctl.brk (k_7 : Int))))
def ref15_Alarms_L1 (x_0 : Screening) : (List Check) → Nat → (List Alarm) → Option (Ctl ((List Alarm)) ((List Alarm)))
  | [], k_3, a_1 => some (Ctl.brk a_1)
  | e_4 :: q_16, k_3, a_1 => cond (e_4.State != (1 : Int))
    (ref15_Alarms_L1 x_0 q_16 (k_3 + 1) a_1)
    ((ref15_deadline x_0 e_4).bind fun r_5 =>
    Ctl.sub (ref15_Alarms_L2 e_4 r_5 a_1 0) fun z_10 =>
    (slL a_1 z_10 (a_1.length : Int)).bind fun l_11 =>
    (apL ([] : List Alarm) l_11).bind fun l_12 =>
    (slL a_1 0 z_10).bind fun l_13 =>
    (apL l_13 ([(⟨e_4.Image, e_4.Bag, e_4.Level, r_5⟩ : Alarm)] : List Alarm)).bind fun l_14 =>
    (apL l_14 l_12).bind fun l_15 =>
    ref15_Alarms_L1 x_0 q_16 (k_3 + 1) l_15)
def ref15_Alarms (x_0 : Screening) : Option ((List Alarm)) :=
  Ctl.fin (ref15_Alarms_L1 x_0 x_0.L 0 ([] : List Alarm)) fun z_17 =>
    some z_17

def law15_same_L1 (x_1 : (List Alarm)) : (List Alarm) → Nat → Option (Ctl (Bool) (Unit))
  | [], k_2 => some (Ctl.brk ())
  | e_3 :: q_5, k_2 => (ixL x_1 (k_2 : Int)).bind fun e_4 =>
    cond (!((e_3.Image == e_4.Image) && ((e_3.Bag == e_4.Bag) && ((e_3.Level == e_4.Level) && ((e_3.Deadline == e_4.Deadline) && true)))))
    (some (Ctl.ret false))
    (law15_same_L1 x_1 q_5 (k_2 + 1))
def law15_same (x_0 : (List Alarm)) (x_1 : (List Alarm)) : Option (Bool) :=
  cond ((x_0.length : Int) != (x_1.length : Int))
    (some false)
    (Ctl.fin (law15_same_L1 x_1 x_0 0) fun z_6 =>
    some true)

def keep_Src_More (x_0 : Src) : Option (Bool) :=
  some (decide (x_0.At < (x_0.L.length : Int)))

def law15_awake : Option (Bool) :=
  (screen_New (⟨(5 : Int), (5 : Int), (5 : Int), (5 : Int)⟩ : A4_Int)).bind fun r_1 =>
    (screen_Start r_1.1 (3 : Int) (10 : Int)).bind fun r_2 =>
    (screen_Verdict r_2.1 (1 : Int) true (15 : Int)).bind fun r_3 =>
    (screen_Expire r_2.1 (16 : Int)).bind fun r_4 =>
    (screen_Find r_4.1 (3 : Int)).bind fun r_5 =>
    cond (r_1.2 == (0 : Int))
    (cond (r_2.2 == (0 : Int))
    (cond (r_3.2.2 == (0 : Int))
    (cond (r_4.2 == (0 : Int))
    (cond (r_3.2.1 == (3 : Int))
    (cond r_5.2
    (some ((r_5.1.Bag == (3 : Int)) && ((r_5.1.Level == (2 : Int)) && ((r_5.1.Since == (16 : Int)) && ((r_5.1.Image == (2 : Int)) && ((r_5.1.State == (1 : Int)) && true))))))
    (some false))
    (some false))
    (some false))
    (some false))
    (some false))
    (some false)

def law15_ScreenScript_L1 (x_2 : Int) (x_3 : Int) (x_4 : Int) : Nat → (List Int) → Int → Int → Int → Int → Int → Int → (List Check) → Int → Int → Int → Int → Int → (List Check) → Int → Int → Option (Ctl (Bool) (Unit))
  | 0, _, _, _, _, _, _, _, _, _, _, _, _, _, _, _, _ => none
  | q_388 + 1, a_13, i_14, i_15, i_16, i_17, i_18, i_19, a_20, i_21, i_22, i_23, i_24, i_25, a_26, i_27, i_28 => cond (decide (i_28 < (25 : Int)))
    (cond (decide (i_28 < (4 : Int)))
    ((keep_Src_Pick (⟨a_13, i_14⟩ : Src) ([(0 : Int), (1 : Int), (0 : Int), (2 : Int), (7 : Int)] : List Int)).bind fun r_29 =>
    (keep_Src_Range r_29.2 (0 : Int) (6 : Int)).bind fun r_30 =>
    (keep_Src_N r_30.2 (10 : Int)).bind fun r_31 =>
    cond (i_28 == (3 : Int))
    (cond (decide (x_4 < (0 : Int)))
    ((keep_Src_N r_31.2 (4 : Int)).bind fun r_32 =>
    Ctl.sub (cond (r_32.1 == (0 : Int))
    ((screen_Start (⟨(⟨i_15, i_16, i_17, i_18⟩ : A4_Int), i_19, a_20⟩ : Screening) x_2 x_4).bind fun r_33 =>
    (ref15_Start (⟨(⟨i_21, i_22, i_23, i_24⟩ : A4_Int), i_25, a_26⟩ : Screening) x_2 x_4).bind fun r_34 =>
    some (Ctl.brk (r_33.2, r_34.2, r_33.1.Limits.e0, r_33.1.Limits.e1, r_33.1.Limits.e2, r_33.1.Limits.e3, r_33.1.Next, r_33.1.L, r_34.1.Limits.e0, r_34.1.Limits.e1, r_34.1.Limits.e2, r_34.1.Limits.e3, r_34.1.Next, r_34.1.L, r_32.2.L, r_32.2.At, (0 : Int), (0 : Int))))
    (cond (r_32.1 == (1 : Int))
    ((screen_Expire (⟨(⟨i_15, i_16, i_17, i_18⟩ : A4_Int), i_19, a_20⟩ : Screening) x_4).bind fun r_35 =>
    (ref15_Expire (⟨(⟨i_21, i_22, i_23, i_24⟩ : A4_Int), i_25, a_26⟩ : Screening) x_4).bind fun r_36 =>
    some (Ctl.brk (r_35.2, r_36.2, r_35.1.Limits.e0, r_35.1.Limits.e1, r_35.1.Limits.e2, r_35.1.Limits.e3, r_35.1.Next, r_35.1.L, r_36.1.Limits.e0, r_36.1.Limits.e1, r_36.1.Limits.e2, r_36.1.Limits.e3, r_36.1.Next, r_36.1.L, r_32.2.L, r_32.2.At, (0 : Int), (0 : Int))))
    ((keep_Src_N r_32.2 (3 : Int)).bind fun r_37 =>
    (screen_Verdict (⟨(⟨i_15, i_16, i_17, i_18⟩ : A4_Int), i_19, a_20⟩ : Screening) x_3 (r_37.1 == (0 : Int)) x_4).bind fun r_38 =>
    (ref15_Verdict (⟨(⟨i_21, i_22, i_23, i_24⟩ : A4_Int), i_25, a_26⟩ : Screening) x_3 (r_37.1 == (0 : Int)) x_4).bind fun r_39 =>
    some (Ctl.brk (r_38.2.2, r_39.2.2, r_38.1.Limits.e0, r_38.1.Limits.e1, r_38.1.Limits.e2, r_38.1.Limits.e3, r_38.1.Next, r_38.1.L, r_39.1.Limits.e0, r_39.1.Limits.e1, r_39.1.Limits.e2, r_39.1.Limits.e3, r_39.1.Next, r_39.1.L, r_37.2.L, r_37.2.At, r_38.2.1, r_39.2.1))))) fun (z_58 : Int × Int × Int × Int × Int × Int × Int × (List Check) × Int × Int × Int × Int × Int × (List Check) × (List Int) × Int × Int × Int) =>
    cond (z_58.1 != z_58.2.1)
    (some (Ctl.ret false))
    (cond (z_58.2.2.2.2.2.2.2.2.2.2.2.2.2.2.2.2.1 != z_58.2.2.2.2.2.2.2.2.2.2.2.2.2.2.2.2.2)
    (some (Ctl.ret false))
    ((ref15_Same (⟨(⟨z_58.2.2.1, z_58.2.2.2.1, z_58.2.2.2.2.1, z_58.2.2.2.2.2.1⟩ : A4_Int), z_58.2.2.2.2.2.2.1, z_58.2.2.2.2.2.2.2.1⟩ : Screening) (⟨(⟨z_58.2.2.2.2.2.2.2.2.1, z_58.2.2.2.2.2.2.2.2.2.1, z_58.2.2.2.2.2.2.2.2.2.2.1, z_58.2.2.2.2.2.2.2.2.2.2.2.1⟩ : A4_Int), z_58.2.2.2.2.2.2.2.2.2.2.2.2.1, z_58.2.2.2.2.2.2.2.2.2.2.2.2.2.1⟩ : Screening)).bind fun r_59 =>
    cond (!r_59)
    (some (Ctl.ret false))
    (cond (z_58.1 == (0 : Int))
    ((screen_Find (⟨(⟨z_58.2.2.1, z_58.2.2.2.1, z_58.2.2.2.2.1, z_58.2.2.2.2.2.1⟩ : A4_Int), z_58.2.2.2.2.2.2.1, z_58.2.2.2.2.2.2.2.1⟩ : Screening) x_2).bind fun r_60 =>
    (ref15_Find (⟨(⟨z_58.2.2.2.2.2.2.2.2.1, z_58.2.2.2.2.2.2.2.2.2.1, z_58.2.2.2.2.2.2.2.2.2.2.1, z_58.2.2.2.2.2.2.2.2.2.2.2.1⟩ : A4_Int), z_58.2.2.2.2.2.2.2.2.2.2.2.2.1, z_58.2.2.2.2.2.2.2.2.2.2.2.2.2.1⟩ : Screening) x_2).bind fun r_61 =>
    cond (!((r_60.1.Bag == r_61.1.Bag) && ((r_60.1.Level == r_61.1.Level) && ((r_60.1.Since == r_61.1.Since) && ((r_60.1.Image == r_61.1.Image) && ((r_60.1.State == r_61.1.State) && true))))))
    (some (Ctl.ret false))
    (cond (!(r_60.2 == r_61.2))
    (some (Ctl.ret false))
    ((screen_Cleared (⟨(⟨z_58.2.2.1, z_58.2.2.2.1, z_58.2.2.2.2.1, z_58.2.2.2.2.2.1⟩ : A4_Int), z_58.2.2.2.2.2.2.1, z_58.2.2.2.2.2.2.2.1⟩ : Screening)).bind fun r_62 =>
    (ref15_Cleared (⟨(⟨z_58.2.2.2.2.2.2.2.2.1, z_58.2.2.2.2.2.2.2.2.2.1, z_58.2.2.2.2.2.2.2.2.2.2.1, z_58.2.2.2.2.2.2.2.2.2.2.2.1⟩ : A4_Int), z_58.2.2.2.2.2.2.2.2.2.2.2.2.1, z_58.2.2.2.2.2.2.2.2.2.2.2.2.2.1⟩ : Screening)).bind fun r_63 =>
    (keep_Ints r_62 r_63).bind fun r_64 =>
    cond (!r_64)
    (some (Ctl.ret false))
    ((screen_Alarms (⟨(⟨z_58.2.2.1, z_58.2.2.2.1, z_58.2.2.2.2.1, z_58.2.2.2.2.2.1⟩ : A4_Int), z_58.2.2.2.2.2.2.1, z_58.2.2.2.2.2.2.2.1⟩ : Screening)).bind fun r_65 =>
    (ref15_Alarms (⟨(⟨z_58.2.2.2.2.2.2.2.2.1, z_58.2.2.2.2.2.2.2.2.2.1, z_58.2.2.2.2.2.2.2.2.2.2.1, z_58.2.2.2.2.2.2.2.2.2.2.2.1⟩ : A4_Int), z_58.2.2.2.2.2.2.2.2.2.2.2.2.1, z_58.2.2.2.2.2.2.2.2.2.2.2.2.2.1⟩ : Screening)).bind fun r_66 =>
    (law15_same r_65 r_66).bind fun r_67 =>
    cond (!r_67)
    (some (Ctl.ret false))
    (law15_ScreenScript_L1 x_2 x_3 x_4 q_388 z_58.2.2.2.2.2.2.2.2.2.2.2.2.2.2.1 z_58.2.2.2.2.2.2.2.2.2.2.2.2.2.2.2.1 z_58.2.2.1 z_58.2.2.2.1 z_58.2.2.2.2.1 z_58.2.2.2.2.2.1 z_58.2.2.2.2.2.2.1 z_58.2.2.2.2.2.2.2.1 z_58.2.2.2.2.2.2.2.2.1 z_58.2.2.2.2.2.2.2.2.2.1 z_58.2.2.2.2.2.2.2.2.2.2.1 z_58.2.2.2.2.2.2.2.2.2.2.2.1 z_58.2.2.2.2.2.2.2.2.2.2.2.2.1 z_58.2.2.2.2.2.2.2.2.2.2.2.2.2.1 (w64 (i_27 + r_29.1)) (w64 (i_28 + (1 : Int))))))))
    ((screen_Find (⟨(⟨i_15, i_16, i_17, i_18⟩ : A4_Int), i_19, a_20⟩ : Screening) x_2).bind fun r_68 =>
    (ref15_Find (⟨(⟨i_21, i_22, i_23, i_24⟩ : A4_Int), i_25, a_26⟩ : Screening) x_2).bind fun r_69 =>
    cond (!((r_68.1.Bag == r_69.1.Bag) && ((r_68.1.Level == r_69.1.Level) && ((r_68.1.Since == r_69.1.Since) && ((r_68.1.Image == r_69.1.Image) && ((r_68.1.State == r_69.1.State) && true))))))
    (some (Ctl.ret false))
    (cond (!(r_68.2 == r_69.2))
    (some (Ctl.ret false))
    ((screen_Cleared (⟨(⟨i_15, i_16, i_17, i_18⟩ : A4_Int), i_19, a_20⟩ : Screening)).bind fun r_70 =>
    (ref15_Cleared (⟨(⟨i_21, i_22, i_23, i_24⟩ : A4_Int), i_25, a_26⟩ : Screening)).bind fun r_71 =>
    (keep_Ints r_70 r_71).bind fun r_72 =>
    cond (!r_72)
    (some (Ctl.ret false))
    ((screen_Alarms (⟨(⟨i_15, i_16, i_17, i_18⟩ : A4_Int), i_19, a_20⟩ : Screening)).bind fun r_73 =>
    (ref15_Alarms (⟨(⟨i_21, i_22, i_23, i_24⟩ : A4_Int), i_25, a_26⟩ : Screening)).bind fun r_74 =>
    (law15_same r_73 r_74).bind fun r_75 =>
    cond (!r_75)
    (some (Ctl.ret false))
    (law15_ScreenScript_L1 x_2 x_3 x_4 q_388 z_58.2.2.2.2.2.2.2.2.2.2.2.2.2.2.1 z_58.2.2.2.2.2.2.2.2.2.2.2.2.2.2.2.1 i_15 i_16 i_17 i_18 i_19 a_20 i_21 i_22 i_23 i_24 i_25 a_26 (w64 (i_27 + r_29.1)) (w64 (i_28 + (1 : Int))))))))))))
    (cond (decide ((1048576 : Int) < x_4))
    ((keep_Src_N r_31.2 (4 : Int)).bind fun r_76 =>
    Ctl.sub (cond (r_76.1 == (0 : Int))
    ((screen_Start (⟨(⟨i_15, i_16, i_17, i_18⟩ : A4_Int), i_19, a_20⟩ : Screening) x_2 x_4).bind fun r_77 =>
    (ref15_Start (⟨(⟨i_21, i_22, i_23, i_24⟩ : A4_Int), i_25, a_26⟩ : Screening) x_2 x_4).bind fun r_78 =>
    some (Ctl.brk (r_77.2, r_78.2, r_77.1.Limits.e0, r_77.1.Limits.e1, r_77.1.Limits.e2, r_77.1.Limits.e3, r_77.1.Next, r_77.1.L, r_78.1.Limits.e0, r_78.1.Limits.e1, r_78.1.Limits.e2, r_78.1.Limits.e3, r_78.1.Next, r_78.1.L, r_76.2.L, r_76.2.At, (0 : Int), (0 : Int))))
    (cond (r_76.1 == (1 : Int))
    ((screen_Expire (⟨(⟨i_15, i_16, i_17, i_18⟩ : A4_Int), i_19, a_20⟩ : Screening) x_4).bind fun r_79 =>
    (ref15_Expire (⟨(⟨i_21, i_22, i_23, i_24⟩ : A4_Int), i_25, a_26⟩ : Screening) x_4).bind fun r_80 =>
    some (Ctl.brk (r_79.2, r_80.2, r_79.1.Limits.e0, r_79.1.Limits.e1, r_79.1.Limits.e2, r_79.1.Limits.e3, r_79.1.Next, r_79.1.L, r_80.1.Limits.e0, r_80.1.Limits.e1, r_80.1.Limits.e2, r_80.1.Limits.e3, r_80.1.Next, r_80.1.L, r_76.2.L, r_76.2.At, (0 : Int), (0 : Int))))
    ((keep_Src_N r_76.2 (3 : Int)).bind fun r_81 =>
    (screen_Verdict (⟨(⟨i_15, i_16, i_17, i_18⟩ : A4_Int), i_19, a_20⟩ : Screening) x_3 (r_81.1 == (0 : Int)) x_4).bind fun r_82 =>
    (ref15_Verdict (⟨(⟨i_21, i_22, i_23, i_24⟩ : A4_Int), i_25, a_26⟩ : Screening) x_3 (r_81.1 == (0 : Int)) x_4).bind fun r_83 =>
    some (Ctl.brk (r_82.2.2, r_83.2.2, r_82.1.Limits.e0, r_82.1.Limits.e1, r_82.1.Limits.e2, r_82.1.Limits.e3, r_82.1.Next, r_82.1.L, r_83.1.Limits.e0, r_83.1.Limits.e1, r_83.1.Limits.e2, r_83.1.Limits.e3, r_83.1.Next, r_83.1.L, r_81.2.L, r_81.2.At, r_82.2.1, r_83.2.1))))) fun (z_102 : Int × Int × Int × Int × Int × Int × Int × (List Check) × Int × Int × Int × Int × Int × (List Check) × (List Int) × Int × Int × Int) =>
    cond (z_102.1 != z_102.2.1)
    (some (Ctl.ret false))
    (cond (z_102.2.2.2.2.2.2.2.2.2.2.2.2.2.2.2.2.1 != z_102.2.2.2.2.2.2.2.2.2.2.2.2.2.2.2.2.2)
    (some (Ctl.ret false))
    ((ref15_Same (⟨(⟨z_102.2.2.1, z_102.2.2.2.1, z_102.2.2.2.2.1, z_102.2.2.2.2.2.1⟩ : A4_Int), z_102.2.2.2.2.2.2.1, z_102.2.2.2.2.2.2.2.1⟩ : Screening) (⟨(⟨z_102.2.2.2.2.2.2.2.2.1, z_102.2.2.2.2.2.2.2.2.2.1, z_102.2.2.2.2.2.2.2.2.2.2.1, z_102.2.2.2.2.2.2.2.2.2.2.2.1⟩ : A4_Int), z_102.2.2.2.2.2.2.2.2.2.2.2.2.1, z_102.2.2.2.2.2.2.2.2.2.2.2.2.2.1⟩ : Screening)).bind fun r_103 =>
    cond (!r_103)
    (some (Ctl.ret false))
    (cond (z_102.1 == (0 : Int))
    ((screen_Find (⟨(⟨z_102.2.2.1, z_102.2.2.2.1, z_102.2.2.2.2.1, z_102.2.2.2.2.2.1⟩ : A4_Int), z_102.2.2.2.2.2.2.1, z_102.2.2.2.2.2.2.2.1⟩ : Screening) x_2).bind fun r_104 =>
    (ref15_Find (⟨(⟨z_102.2.2.2.2.2.2.2.2.1, z_102.2.2.2.2.2.2.2.2.2.1, z_102.2.2.2.2.2.2.2.2.2.2.1, z_102.2.2.2.2.2.2.2.2.2.2.2.1⟩ : A4_Int), z_102.2.2.2.2.2.2.2.2.2.2.2.2.1, z_102.2.2.2.2.2.2.2.2.2.2.2.2.2.1⟩ : Screening) x_2).bind fun r_105 =>
    cond (!((r_104.1.Bag == r_105.1.Bag) && ((r_104.1.Level == r_105.1.Level) && ((r_104.1.Since == r_105.1.Since) && ((r_104.1.Image == r_105.1.Image) && ((r_104.1.State == r_105.1.State) && true))))))
    (some (Ctl.ret false))
    (cond (!(r_104.2 == r_105.2))
    (some (Ctl.ret false))
    ((screen_Cleared (⟨(⟨z_102.2.2.1, z_102.2.2.2.1, z_102.2.2.2.2.1, z_102.2.2.2.2.2.1⟩ : A4_Int), z_102.2.2.2.2.2.2.1, z_102.2.2.2.2.2.2.2.1⟩ : Screening)).bind fun r_106 =>
    (ref15_Cleared (⟨(⟨z_102.2.2.2.2.2.2.2.2.1, z_102.2.2.2.2.2.2.2.2.2.1, z_102.2.2.2.2.2.2.2.2.2.2.1, z_102.2.2.2.2.2.2.2.2.2.2.2.1⟩ : A4_Int), z_102.2.2.2.2.2.2.2.2.2.2.2.2.1, z_102.2.2.2.2.2.2.2.2.2.2.2.2.2.1⟩ : Screening)).bind fun r_107 =>
    (keep_Ints r_106 r_107).bind fun r_108 =>
    cond (!r_108)
    (some (Ctl.ret false))
    ((screen_Alarms (⟨(⟨z_102.2.2.1, z_102.2.2.2.1, z_102.2.2.2.2.1, z_102.2.2.2.2.2.1⟩ : A4_Int), z_102.2.2.2.2.2.2.1, z_102.2.2.2.2.2.2.2.1⟩ : Screening)).bind fun r_109 =>
    (ref15_Alarms (⟨(⟨z_102.2.2.2.2.2.2.2.2.1, z_102.2.2.2.2.2.2.2.2.2.1, z_102.2.2.2.2.2.2.2.2.2.2.1, z_102.2.2.2.2.2.2.2.2.2.2.2.1⟩ : A4_Int), z_102.2.2.2.2.2.2.2.2.2.2.2.2.1, z_102.2.2.2.2.2.2.2.2.2.2.2.2.2.1⟩ : Screening)).bind fun r_110 =>
    (law15_same r_109 r_110).bind fun r_111 =>
    cond (!r_111)
    (some (Ctl.ret false))
    (law15_ScreenScript_L1 x_2 x_3 x_4 q_388 z_102.2.2.2.2.2.2.2.2.2.2.2.2.2.2.1 z_102.2.2.2.2.2.2.2.2.2.2.2.2.2.2.2.1 z_102.2.2.1 z_102.2.2.2.1 z_102.2.2.2.2.1 z_102.2.2.2.2.2.1 z_102.2.2.2.2.2.2.1 z_102.2.2.2.2.2.2.2.1 z_102.2.2.2.2.2.2.2.2.1 z_102.2.2.2.2.2.2.2.2.2.1 z_102.2.2.2.2.2.2.2.2.2.2.1 z_102.2.2.2.2.2.2.2.2.2.2.2.1 z_102.2.2.2.2.2.2.2.2.2.2.2.2.1 z_102.2.2.2.2.2.2.2.2.2.2.2.2.2.1 (w64 (i_27 + r_29.1)) (w64 (i_28 + (1 : Int))))))))
    ((screen_Find (⟨(⟨i_15, i_16, i_17, i_18⟩ : A4_Int), i_19, a_20⟩ : Screening) x_2).bind fun r_112 =>
    (ref15_Find (⟨(⟨i_21, i_22, i_23, i_24⟩ : A4_Int), i_25, a_26⟩ : Screening) x_2).bind fun r_113 =>
    cond (!((r_112.1.Bag == r_113.1.Bag) && ((r_112.1.Level == r_113.1.Level) && ((r_112.1.Since == r_113.1.Since) && ((r_112.1.Image == r_113.1.Image) && ((r_112.1.State == r_113.1.State) && true))))))
    (some (Ctl.ret false))
    (cond (!(r_112.2 == r_113.2))
    (some (Ctl.ret false))
    ((screen_Cleared (⟨(⟨i_15, i_16, i_17, i_18⟩ : A4_Int), i_19, a_20⟩ : Screening)).bind fun r_114 =>
    (ref15_Cleared (⟨(⟨i_21, i_22, i_23, i_24⟩ : A4_Int), i_25, a_26⟩ : Screening)).bind fun r_115 =>
    (keep_Ints r_114 r_115).bind fun r_116 =>
    cond (!r_116)
    (some (Ctl.ret false))
    ((screen_Alarms (⟨(⟨i_15, i_16, i_17, i_18⟩ : A4_Int), i_19, a_20⟩ : Screening)).bind fun r_117 =>
    (ref15_Alarms (⟨(⟨i_21, i_22, i_23, i_24⟩ : A4_Int), i_25, a_26⟩ : Screening)).bind fun r_118 =>
    (law15_same r_117 r_118).bind fun r_119 =>
    cond (!r_119)
    (some (Ctl.ret false))
    (law15_ScreenScript_L1 x_2 x_3 x_4 q_388 z_102.2.2.2.2.2.2.2.2.2.2.2.2.2.2.1 z_102.2.2.2.2.2.2.2.2.2.2.2.2.2.2.2.1 i_15 i_16 i_17 i_18 i_19 a_20 i_21 i_22 i_23 i_24 i_25 a_26 (w64 (i_27 + r_29.1)) (w64 (i_28 + (1 : Int))))))))))))
    ((keep_Src_N r_31.2 (4 : Int)).bind fun r_120 =>
    Ctl.sub (cond (r_120.1 == (0 : Int))
    ((screen_Start (⟨(⟨i_15, i_16, i_17, i_18⟩ : A4_Int), i_19, a_20⟩ : Screening) x_2 (w64 (i_27 + r_29.1))).bind fun r_121 =>
    (ref15_Start (⟨(⟨i_21, i_22, i_23, i_24⟩ : A4_Int), i_25, a_26⟩ : Screening) x_2 (w64 (i_27 + r_29.1))).bind fun r_122 =>
    some (Ctl.brk (r_121.2, r_122.2, r_121.1.Limits.e0, r_121.1.Limits.e1, r_121.1.Limits.e2, r_121.1.Limits.e3, r_121.1.Next, r_121.1.L, r_122.1.Limits.e0, r_122.1.Limits.e1, r_122.1.Limits.e2, r_122.1.Limits.e3, r_122.1.Next, r_122.1.L, r_120.2.L, r_120.2.At, (0 : Int), (0 : Int))))
    (cond (r_120.1 == (1 : Int))
    ((screen_Expire (⟨(⟨i_15, i_16, i_17, i_18⟩ : A4_Int), i_19, a_20⟩ : Screening) (w64 (i_27 + r_29.1))).bind fun r_123 =>
    (ref15_Expire (⟨(⟨i_21, i_22, i_23, i_24⟩ : A4_Int), i_25, a_26⟩ : Screening) (w64 (i_27 + r_29.1))).bind fun r_124 =>
    some (Ctl.brk (r_123.2, r_124.2, r_123.1.Limits.e0, r_123.1.Limits.e1, r_123.1.Limits.e2, r_123.1.Limits.e3, r_123.1.Next, r_123.1.L, r_124.1.Limits.e0, r_124.1.Limits.e1, r_124.1.Limits.e2, r_124.1.Limits.e3, r_124.1.Next, r_124.1.L, r_120.2.L, r_120.2.At, (0 : Int), (0 : Int))))
    ((keep_Src_N r_120.2 (3 : Int)).bind fun r_125 =>
    (screen_Verdict (⟨(⟨i_15, i_16, i_17, i_18⟩ : A4_Int), i_19, a_20⟩ : Screening) x_3 (r_125.1 == (0 : Int)) (w64 (i_27 + r_29.1))).bind fun r_126 =>
    (ref15_Verdict (⟨(⟨i_21, i_22, i_23, i_24⟩ : A4_Int), i_25, a_26⟩ : Screening) x_3 (r_125.1 == (0 : Int)) (w64 (i_27 + r_29.1))).bind fun r_127 =>
    some (Ctl.brk (r_126.2.2, r_127.2.2, r_126.1.Limits.e0, r_126.1.Limits.e1, r_126.1.Limits.e2, r_126.1.Limits.e3, r_126.1.Next, r_126.1.L, r_127.1.Limits.e0, r_127.1.Limits.e1, r_127.1.Limits.e2, r_127.1.Limits.e3, r_127.1.Next, r_127.1.L, r_125.2.L, r_125.2.At, r_126.2.1, r_127.2.1))))) fun (z_146 : Int × Int × Int × Int × Int × Int × Int × (List Check) × Int × Int × Int × Int × Int × (List Check) × (List Int) × Int × Int × Int) =>
    cond (z_146.1 != z_146.2.1)
    (some (Ctl.ret false))
    (cond (z_146.2.2.2.2.2.2.2.2.2.2.2.2.2.2.2.2.1 != z_146.2.2.2.2.2.2.2.2.2.2.2.2.2.2.2.2.2)
    (some (Ctl.ret false))
    ((ref15_Same (⟨(⟨z_146.2.2.1, z_146.2.2.2.1, z_146.2.2.2.2.1, z_146.2.2.2.2.2.1⟩ : A4_Int), z_146.2.2.2.2.2.2.1, z_146.2.2.2.2.2.2.2.1⟩ : Screening) (⟨(⟨z_146.2.2.2.2.2.2.2.2.1, z_146.2.2.2.2.2.2.2.2.2.1, z_146.2.2.2.2.2.2.2.2.2.2.1, z_146.2.2.2.2.2.2.2.2.2.2.2.1⟩ : A4_Int), z_146.2.2.2.2.2.2.2.2.2.2.2.2.1, z_146.2.2.2.2.2.2.2.2.2.2.2.2.2.1⟩ : Screening)).bind fun r_147 =>
    cond (!r_147)
    (some (Ctl.ret false))
    (cond (z_146.1 == (0 : Int))
    ((screen_Find (⟨(⟨z_146.2.2.1, z_146.2.2.2.1, z_146.2.2.2.2.1, z_146.2.2.2.2.2.1⟩ : A4_Int), z_146.2.2.2.2.2.2.1, z_146.2.2.2.2.2.2.2.1⟩ : Screening) x_2).bind fun r_148 =>
    (ref15_Find (⟨(⟨z_146.2.2.2.2.2.2.2.2.1, z_146.2.2.2.2.2.2.2.2.2.1, z_146.2.2.2.2.2.2.2.2.2.2.1, z_146.2.2.2.2.2.2.2.2.2.2.2.1⟩ : A4_Int), z_146.2.2.2.2.2.2.2.2.2.2.2.2.1, z_146.2.2.2.2.2.2.2.2.2.2.2.2.2.1⟩ : Screening) x_2).bind fun r_149 =>
    cond (!((r_148.1.Bag == r_149.1.Bag) && ((r_148.1.Level == r_149.1.Level) && ((r_148.1.Since == r_149.1.Since) && ((r_148.1.Image == r_149.1.Image) && ((r_148.1.State == r_149.1.State) && true))))))
    (some (Ctl.ret false))
    (cond (!(r_148.2 == r_149.2))
    (some (Ctl.ret false))
    ((screen_Cleared (⟨(⟨z_146.2.2.1, z_146.2.2.2.1, z_146.2.2.2.2.1, z_146.2.2.2.2.2.1⟩ : A4_Int), z_146.2.2.2.2.2.2.1, z_146.2.2.2.2.2.2.2.1⟩ : Screening)).bind fun r_150 =>
    (ref15_Cleared (⟨(⟨z_146.2.2.2.2.2.2.2.2.1, z_146.2.2.2.2.2.2.2.2.2.1, z_146.2.2.2.2.2.2.2.2.2.2.1, z_146.2.2.2.2.2.2.2.2.2.2.2.1⟩ : A4_Int), z_146.2.2.2.2.2.2.2.2.2.2.2.2.1, z_146.2.2.2.2.2.2.2.2.2.2.2.2.2.1⟩ : Screening)).bind fun r_151 =>
    (keep_Ints r_150 r_151).bind fun r_152 =>
    cond (!r_152)
    (some (Ctl.ret false))
    ((screen_Alarms (⟨(⟨z_146.2.2.1, z_146.2.2.2.1, z_146.2.2.2.2.1, z_146.2.2.2.2.2.1⟩ : A4_Int), z_146.2.2.2.2.2.2.1, z_146.2.2.2.2.2.2.2.1⟩ : Screening)).bind fun r_153 =>
    (ref15_Alarms (⟨(⟨z_146.2.2.2.2.2.2.2.2.1, z_146.2.2.2.2.2.2.2.2.2.1, z_146.2.2.2.2.2.2.2.2.2.2.1, z_146.2.2.2.2.2.2.2.2.2.2.2.1⟩ : A4_Int), z_146.2.2.2.2.2.2.2.2.2.2.2.2.1, z_146.2.2.2.2.2.2.2.2.2.2.2.2.2.1⟩ : Screening)).bind fun r_154 =>
    (law15_same r_153 r_154).bind fun r_155 =>
    cond (!r_155)
    (some (Ctl.ret false))
    (law15_ScreenScript_L1 x_2 x_3 x_4 q_388 z_146.2.2.2.2.2.2.2.2.2.2.2.2.2.2.1 z_146.2.2.2.2.2.2.2.2.2.2.2.2.2.2.2.1 z_146.2.2.1 z_146.2.2.2.1 z_146.2.2.2.2.1 z_146.2.2.2.2.2.1 z_146.2.2.2.2.2.2.1 z_146.2.2.2.2.2.2.2.1 z_146.2.2.2.2.2.2.2.2.1 z_146.2.2.2.2.2.2.2.2.2.1 z_146.2.2.2.2.2.2.2.2.2.2.1 z_146.2.2.2.2.2.2.2.2.2.2.2.1 z_146.2.2.2.2.2.2.2.2.2.2.2.2.1 z_146.2.2.2.2.2.2.2.2.2.2.2.2.2.1 (w64 (i_27 + r_29.1)) (w64 (i_28 + (1 : Int))))))))
    ((screen_Find (⟨(⟨i_15, i_16, i_17, i_18⟩ : A4_Int), i_19, a_20⟩ : Screening) x_2).bind fun r_156 =>
    (ref15_Find (⟨(⟨i_21, i_22, i_23, i_24⟩ : A4_Int), i_25, a_26⟩ : Screening) x_2).bind fun r_157 =>
    cond (!((r_156.1.Bag == r_157.1.Bag) && ((r_156.1.Level == r_157.1.Level) && ((r_156.1.Since == r_157.1.Since) && ((r_156.1.Image == r_157.1.Image) && ((r_156.1.State == r_157.1.State) && true))))))
    (some (Ctl.ret false))
    (cond (!(r_156.2 == r_157.2))
    (some (Ctl.ret false))
    ((screen_Cleared (⟨(⟨i_15, i_16, i_17, i_18⟩ : A4_Int), i_19, a_20⟩ : Screening)).bind fun r_158 =>
    (ref15_Cleared (⟨(⟨i_21, i_22, i_23, i_24⟩ : A4_Int), i_25, a_26⟩ : Screening)).bind fun r_159 =>
    (keep_Ints r_158 r_159).bind fun r_160 =>
    cond (!r_160)
    (some (Ctl.ret false))
    ((screen_Alarms (⟨(⟨i_15, i_16, i_17, i_18⟩ : A4_Int), i_19, a_20⟩ : Screening)).bind fun r_161 =>
    (ref15_Alarms (⟨(⟨i_21, i_22, i_23, i_24⟩ : A4_Int), i_25, a_26⟩ : Screening)).bind fun r_162 =>
    (law15_same r_161 r_162).bind fun r_163 =>
    cond (!r_163)
    (some (Ctl.ret false))
    (law15_ScreenScript_L1 x_2 x_3 x_4 q_388 z_146.2.2.2.2.2.2.2.2.2.2.2.2.2.2.1 z_146.2.2.2.2.2.2.2.2.2.2.2.2.2.2.2.1 i_15 i_16 i_17 i_18 i_19 a_20 i_21 i_22 i_23 i_24 i_25 a_26 (w64 (i_27 + r_29.1)) (w64 (i_28 + (1 : Int))))))))))))))
    ((keep_Src_N r_31.2 (4 : Int)).bind fun r_164 =>
    Ctl.sub (cond (r_164.1 == (0 : Int))
    ((screen_Start (⟨(⟨i_15, i_16, i_17, i_18⟩ : A4_Int), i_19, a_20⟩ : Screening) r_30.1 (w64 (i_27 + r_29.1))).bind fun r_165 =>
    (ref15_Start (⟨(⟨i_21, i_22, i_23, i_24⟩ : A4_Int), i_25, a_26⟩ : Screening) r_30.1 (w64 (i_27 + r_29.1))).bind fun r_166 =>
    some (Ctl.brk (r_165.2, r_166.2, r_165.1.Limits.e0, r_165.1.Limits.e1, r_165.1.Limits.e2, r_165.1.Limits.e3, r_165.1.Next, r_165.1.L, r_166.1.Limits.e0, r_166.1.Limits.e1, r_166.1.Limits.e2, r_166.1.Limits.e3, r_166.1.Next, r_166.1.L, r_164.2.L, r_164.2.At, (0 : Int), (0 : Int))))
    (cond (r_164.1 == (1 : Int))
    ((screen_Expire (⟨(⟨i_15, i_16, i_17, i_18⟩ : A4_Int), i_19, a_20⟩ : Screening) (w64 (i_27 + r_29.1))).bind fun r_167 =>
    (ref15_Expire (⟨(⟨i_21, i_22, i_23, i_24⟩ : A4_Int), i_25, a_26⟩ : Screening) (w64 (i_27 + r_29.1))).bind fun r_168 =>
    some (Ctl.brk (r_167.2, r_168.2, r_167.1.Limits.e0, r_167.1.Limits.e1, r_167.1.Limits.e2, r_167.1.Limits.e3, r_167.1.Next, r_167.1.L, r_168.1.Limits.e0, r_168.1.Limits.e1, r_168.1.Limits.e2, r_168.1.Limits.e3, r_168.1.Next, r_168.1.L, r_164.2.L, r_164.2.At, (0 : Int), (0 : Int))))
    ((keep_Src_N r_164.2 (3 : Int)).bind fun r_169 =>
    (screen_Verdict (⟨(⟨i_15, i_16, i_17, i_18⟩ : A4_Int), i_19, a_20⟩ : Screening) r_31.1 (r_169.1 == (0 : Int)) (w64 (i_27 + r_29.1))).bind fun r_170 =>
    (ref15_Verdict (⟨(⟨i_21, i_22, i_23, i_24⟩ : A4_Int), i_25, a_26⟩ : Screening) r_31.1 (r_169.1 == (0 : Int)) (w64 (i_27 + r_29.1))).bind fun r_171 =>
    some (Ctl.brk (r_170.2.2, r_171.2.2, r_170.1.Limits.e0, r_170.1.Limits.e1, r_170.1.Limits.e2, r_170.1.Limits.e3, r_170.1.Next, r_170.1.L, r_171.1.Limits.e0, r_171.1.Limits.e1, r_171.1.Limits.e2, r_171.1.Limits.e3, r_171.1.Next, r_171.1.L, r_169.2.L, r_169.2.At, r_170.2.1, r_171.2.1))))) fun (z_190 : Int × Int × Int × Int × Int × Int × Int × (List Check) × Int × Int × Int × Int × Int × (List Check) × (List Int) × Int × Int × Int) =>
    cond (z_190.1 != z_190.2.1)
    (some (Ctl.ret false))
    (cond (z_190.2.2.2.2.2.2.2.2.2.2.2.2.2.2.2.2.1 != z_190.2.2.2.2.2.2.2.2.2.2.2.2.2.2.2.2.2)
    (some (Ctl.ret false))
    ((ref15_Same (⟨(⟨z_190.2.2.1, z_190.2.2.2.1, z_190.2.2.2.2.1, z_190.2.2.2.2.2.1⟩ : A4_Int), z_190.2.2.2.2.2.2.1, z_190.2.2.2.2.2.2.2.1⟩ : Screening) (⟨(⟨z_190.2.2.2.2.2.2.2.2.1, z_190.2.2.2.2.2.2.2.2.2.1, z_190.2.2.2.2.2.2.2.2.2.2.1, z_190.2.2.2.2.2.2.2.2.2.2.2.1⟩ : A4_Int), z_190.2.2.2.2.2.2.2.2.2.2.2.2.1, z_190.2.2.2.2.2.2.2.2.2.2.2.2.2.1⟩ : Screening)).bind fun r_191 =>
    cond (!r_191)
    (some (Ctl.ret false))
    (cond (z_190.1 == (0 : Int))
    ((screen_Find (⟨(⟨z_190.2.2.1, z_190.2.2.2.1, z_190.2.2.2.2.1, z_190.2.2.2.2.2.1⟩ : A4_Int), z_190.2.2.2.2.2.2.1, z_190.2.2.2.2.2.2.2.1⟩ : Screening) r_30.1).bind fun r_192 =>
    (ref15_Find (⟨(⟨z_190.2.2.2.2.2.2.2.2.1, z_190.2.2.2.2.2.2.2.2.2.1, z_190.2.2.2.2.2.2.2.2.2.2.1, z_190.2.2.2.2.2.2.2.2.2.2.2.1⟩ : A4_Int), z_190.2.2.2.2.2.2.2.2.2.2.2.2.1, z_190.2.2.2.2.2.2.2.2.2.2.2.2.2.1⟩ : Screening) r_30.1).bind fun r_193 =>
    cond (!((r_192.1.Bag == r_193.1.Bag) && ((r_192.1.Level == r_193.1.Level) && ((r_192.1.Since == r_193.1.Since) && ((r_192.1.Image == r_193.1.Image) && ((r_192.1.State == r_193.1.State) && true))))))
    (some (Ctl.ret false))
    (cond (!(r_192.2 == r_193.2))
    (some (Ctl.ret false))
    ((screen_Cleared (⟨(⟨z_190.2.2.1, z_190.2.2.2.1, z_190.2.2.2.2.1, z_190.2.2.2.2.2.1⟩ : A4_Int), z_190.2.2.2.2.2.2.1, z_190.2.2.2.2.2.2.2.1⟩ : Screening)).bind fun r_194 =>
    (ref15_Cleared (⟨(⟨z_190.2.2.2.2.2.2.2.2.1, z_190.2.2.2.2.2.2.2.2.2.1, z_190.2.2.2.2.2.2.2.2.2.2.1, z_190.2.2.2.2.2.2.2.2.2.2.2.1⟩ : A4_Int), z_190.2.2.2.2.2.2.2.2.2.2.2.2.1, z_190.2.2.2.2.2.2.2.2.2.2.2.2.2.1⟩ : Screening)).bind fun r_195 =>
    (keep_Ints r_194 r_195).bind fun r_196 =>
    cond (!r_196)
    (some (Ctl.ret false))
    ((screen_Alarms (⟨(⟨z_190.2.2.1, z_190.2.2.2.1, z_190.2.2.2.2.1, z_190.2.2.2.2.2.1⟩ : A4_Int), z_190.2.2.2.2.2.2.1, z_190.2.2.2.2.2.2.2.1⟩ : Screening)).bind fun r_197 =>
    (ref15_Alarms (⟨(⟨z_190.2.2.2.2.2.2.2.2.1, z_190.2.2.2.2.2.2.2.2.2.1, z_190.2.2.2.2.2.2.2.2.2.2.1, z_190.2.2.2.2.2.2.2.2.2.2.2.1⟩ : A4_Int), z_190.2.2.2.2.2.2.2.2.2.2.2.2.1, z_190.2.2.2.2.2.2.2.2.2.2.2.2.2.1⟩ : Screening)).bind fun r_198 =>
    (law15_same r_197 r_198).bind fun r_199 =>
    cond (!r_199)
    (some (Ctl.ret false))
    (law15_ScreenScript_L1 x_2 x_3 x_4 q_388 z_190.2.2.2.2.2.2.2.2.2.2.2.2.2.2.1 z_190.2.2.2.2.2.2.2.2.2.2.2.2.2.2.2.1 z_190.2.2.1 z_190.2.2.2.1 z_190.2.2.2.2.1 z_190.2.2.2.2.2.1 z_190.2.2.2.2.2.2.1 z_190.2.2.2.2.2.2.2.1 z_190.2.2.2.2.2.2.2.2.1 z_190.2.2.2.2.2.2.2.2.2.1 z_190.2.2.2.2.2.2.2.2.2.2.1 z_190.2.2.2.2.2.2.2.2.2.2.2.1 z_190.2.2.2.2.2.2.2.2.2.2.2.2.1 z_190.2.2.2.2.2.2.2.2.2.2.2.2.2.1 (w64 (i_27 + r_29.1)) (w64 (i_28 + (1 : Int))))))))
    ((screen_Find (⟨(⟨i_15, i_16, i_17, i_18⟩ : A4_Int), i_19, a_20⟩ : Screening) r_30.1).bind fun r_200 =>
    (ref15_Find (⟨(⟨i_21, i_22, i_23, i_24⟩ : A4_Int), i_25, a_26⟩ : Screening) r_30.1).bind fun r_201 =>
    cond (!((r_200.1.Bag == r_201.1.Bag) && ((r_200.1.Level == r_201.1.Level) && ((r_200.1.Since == r_201.1.Since) && ((r_200.1.Image == r_201.1.Image) && ((r_200.1.State == r_201.1.State) && true))))))
    (some (Ctl.ret false))
    (cond (!(r_200.2 == r_201.2))
    (some (Ctl.ret false))
    ((screen_Cleared (⟨(⟨i_15, i_16, i_17, i_18⟩ : A4_Int), i_19, a_20⟩ : Screening)).bind fun r_202 =>
    (ref15_Cleared (⟨(⟨i_21, i_22, i_23, i_24⟩ : A4_Int), i_25, a_26⟩ : Screening)).bind fun r_203 =>
    (keep_Ints r_202 r_203).bind fun r_204 =>
    cond (!r_204)
    (some (Ctl.ret false))
    ((screen_Alarms (⟨(⟨i_15, i_16, i_17, i_18⟩ : A4_Int), i_19, a_20⟩ : Screening)).bind fun r_205 =>
    (ref15_Alarms (⟨(⟨i_21, i_22, i_23, i_24⟩ : A4_Int), i_25, a_26⟩ : Screening)).bind fun r_206 =>
    (law15_same r_205 r_206).bind fun r_207 =>
    cond (!r_207)
    (some (Ctl.ret false))
    (law15_ScreenScript_L1 x_2 x_3 x_4 q_388 z_190.2.2.2.2.2.2.2.2.2.2.2.2.2.2.1 z_190.2.2.2.2.2.2.2.2.2.2.2.2.2.2.2.1 i_15 i_16 i_17 i_18 i_19 a_20 i_21 i_22 i_23 i_24 i_25 a_26 (w64 (i_27 + r_29.1)) (w64 (i_28 + (1 : Int)))))))))))))
    ((keep_Src_More (⟨a_13, i_14⟩ : Src)).bind fun r_208 =>
    cond r_208
    ((keep_Src_Pick (⟨a_13, i_14⟩ : Src) ([(0 : Int), (1 : Int), (0 : Int), (2 : Int), (7 : Int)] : List Int)).bind fun r_209 =>
    (keep_Src_Range r_209.2 (0 : Int) (6 : Int)).bind fun r_210 =>
    (keep_Src_N r_210.2 (10 : Int)).bind fun r_211 =>
    cond (i_28 == (3 : Int))
    (cond (decide (x_4 < (0 : Int)))
    ((keep_Src_N r_211.2 (4 : Int)).bind fun r_212 =>
    Ctl.sub (cond (r_212.1 == (0 : Int))
    ((screen_Start (⟨(⟨i_15, i_16, i_17, i_18⟩ : A4_Int), i_19, a_20⟩ : Screening) x_2 x_4).bind fun r_213 =>
    (ref15_Start (⟨(⟨i_21, i_22, i_23, i_24⟩ : A4_Int), i_25, a_26⟩ : Screening) x_2 x_4).bind fun r_214 =>
    some (Ctl.brk (r_213.2, r_214.2, r_213.1.Limits.e0, r_213.1.Limits.e1, r_213.1.Limits.e2, r_213.1.Limits.e3, r_213.1.Next, r_213.1.L, r_214.1.Limits.e0, r_214.1.Limits.e1, r_214.1.Limits.e2, r_214.1.Limits.e3, r_214.1.Next, r_214.1.L, r_212.2.L, r_212.2.At, (0 : Int), (0 : Int))))
    (cond (r_212.1 == (1 : Int))
    ((screen_Expire (⟨(⟨i_15, i_16, i_17, i_18⟩ : A4_Int), i_19, a_20⟩ : Screening) x_4).bind fun r_215 =>
    (ref15_Expire (⟨(⟨i_21, i_22, i_23, i_24⟩ : A4_Int), i_25, a_26⟩ : Screening) x_4).bind fun r_216 =>
    some (Ctl.brk (r_215.2, r_216.2, r_215.1.Limits.e0, r_215.1.Limits.e1, r_215.1.Limits.e2, r_215.1.Limits.e3, r_215.1.Next, r_215.1.L, r_216.1.Limits.e0, r_216.1.Limits.e1, r_216.1.Limits.e2, r_216.1.Limits.e3, r_216.1.Next, r_216.1.L, r_212.2.L, r_212.2.At, (0 : Int), (0 : Int))))
    ((keep_Src_N r_212.2 (3 : Int)).bind fun r_217 =>
    (screen_Verdict (⟨(⟨i_15, i_16, i_17, i_18⟩ : A4_Int), i_19, a_20⟩ : Screening) x_3 (r_217.1 == (0 : Int)) x_4).bind fun r_218 =>
    (ref15_Verdict (⟨(⟨i_21, i_22, i_23, i_24⟩ : A4_Int), i_25, a_26⟩ : Screening) x_3 (r_217.1 == (0 : Int)) x_4).bind fun r_219 =>
    some (Ctl.brk (r_218.2.2, r_219.2.2, r_218.1.Limits.e0, r_218.1.Limits.e1, r_218.1.Limits.e2, r_218.1.Limits.e3, r_218.1.Next, r_218.1.L, r_219.1.Limits.e0, r_219.1.Limits.e1, r_219.1.Limits.e2, r_219.1.Limits.e3, r_219.1.Next, r_219.1.L, r_217.2.L, r_217.2.At, r_218.2.1, r_219.2.1))))) fun (z_238 : Int × Int × Int × Int × Int × Int × Int × (List Check) × Int × Int × Int × Int × Int × (List Check) × (List Int) × Int × Int × Int) =>
    cond (z_238.1 != z_238.2.1)
    (some (Ctl.ret false))
    (cond (z_238.2.2.2.2.2.2.2.2.2.2.2.2.2.2.2.2.1 != z_238.2.2.2.2.2.2.2.2.2.2.2.2.2.2.2.2.2)
    (some (Ctl.ret false))
    ((ref15_Same (⟨(⟨z_238.2.2.1, z_238.2.2.2.1, z_238.2.2.2.2.1, z_238.2.2.2.2.2.1⟩ : A4_Int), z_238.2.2.2.2.2.2.1, z_238.2.2.2.2.2.2.2.1⟩ : Screening) (⟨(⟨z_238.2.2.2.2.2.2.2.2.1, z_238.2.2.2.2.2.2.2.2.2.1, z_238.2.2.2.2.2.2.2.2.2.2.1, z_238.2.2.2.2.2.2.2.2.2.2.2.1⟩ : A4_Int), z_238.2.2.2.2.2.2.2.2.2.2.2.2.1, z_238.2.2.2.2.2.2.2.2.2.2.2.2.2.1⟩ : Screening)).bind fun r_239 =>
    cond (!r_239)
    (some (Ctl.ret false))
    (cond (z_238.1 == (0 : Int))
    ((screen_Find (⟨(⟨z_238.2.2.1, z_238.2.2.2.1, z_238.2.2.2.2.1, z_238.2.2.2.2.2.1⟩ : A4_Int), z_238.2.2.2.2.2.2.1, z_238.2.2.2.2.2.2.2.1⟩ : Screening) x_2).bind fun r_240 =>
    (ref15_Find (⟨(⟨z_238.2.2.2.2.2.2.2.2.1, z_238.2.2.2.2.2.2.2.2.2.1, z_238.2.2.2.2.2.2.2.2.2.2.1, z_238.2.2.2.2.2.2.2.2.2.2.2.1⟩ : A4_Int), z_238.2.2.2.2.2.2.2.2.2.2.2.2.1, z_238.2.2.2.2.2.2.2.2.2.2.2.2.2.1⟩ : Screening) x_2).bind fun r_241 =>
    cond (!((r_240.1.Bag == r_241.1.Bag) && ((r_240.1.Level == r_241.1.Level) && ((r_240.1.Since == r_241.1.Since) && ((r_240.1.Image == r_241.1.Image) && ((r_240.1.State == r_241.1.State) && true))))))
    (some (Ctl.ret false))
    (cond (!(r_240.2 == r_241.2))
    (some (Ctl.ret false))
    ((screen_Cleared (⟨(⟨z_238.2.2.1, z_238.2.2.2.1, z_238.2.2.2.2.1, z_238.2.2.2.2.2.1⟩ : A4_Int), z_238.2.2.2.2.2.2.1, z_238.2.2.2.2.2.2.2.1⟩ : Screening)).bind fun r_242 =>
    (ref15_Cleared (⟨(⟨z_238.2.2.2.2.2.2.2.2.1, z_238.2.2.2.2.2.2.2.2.2.1, z_238.2.2.2.2.2.2.2.2.2.2.1, z_238.2.2.2.2.2.2.2.2.2.2.2.1⟩ : A4_Int), z_238.2.2.2.2.2.2.2.2.2.2.2.2.1, z_238.2.2.2.2.2.2.2.2.2.2.2.2.2.1⟩ : Screening)).bind fun r_243 =>
    (keep_Ints r_242 r_243).bind fun r_244 =>
    cond (!r_244)
    (some (Ctl.ret false))
    ((screen_Alarms (⟨(⟨z_238.2.2.1, z_238.2.2.2.1, z_238.2.2.2.2.1, z_238.2.2.2.2.2.1⟩ : A4_Int), z_238.2.2.2.2.2.2.1, z_238.2.2.2.2.2.2.2.1⟩ : Screening)).bind fun r_245 =>
    (ref15_Alarms (⟨(⟨z_238.2.2.2.2.2.2.2.2.1, z_238.2.2.2.2.2.2.2.2.2.1, z_238.2.2.2.2.2.2.2.2.2.2.1, z_238.2.2.2.2.2.2.2.2.2.2.2.1⟩ : A4_Int), z_238.2.2.2.2.2.2.2.2.2.2.2.2.1, z_238.2.2.2.2.2.2.2.2.2.2.2.2.2.1⟩ : Screening)).bind fun r_246 =>
    (law15_same r_245 r_246).bind fun r_247 =>
    cond (!r_247)
    (some (Ctl.ret false))
    (law15_ScreenScript_L1 x_2 x_3 x_4 q_388 z_238.2.2.2.2.2.2.2.2.2.2.2.2.2.2.1 z_238.2.2.2.2.2.2.2.2.2.2.2.2.2.2.2.1 z_238.2.2.1 z_238.2.2.2.1 z_238.2.2.2.2.1 z_238.2.2.2.2.2.1 z_238.2.2.2.2.2.2.1 z_238.2.2.2.2.2.2.2.1 z_238.2.2.2.2.2.2.2.2.1 z_238.2.2.2.2.2.2.2.2.2.1 z_238.2.2.2.2.2.2.2.2.2.2.1 z_238.2.2.2.2.2.2.2.2.2.2.2.1 z_238.2.2.2.2.2.2.2.2.2.2.2.2.1 z_238.2.2.2.2.2.2.2.2.2.2.2.2.2.1 (w64 (i_27 + r_209.1)) (w64 (i_28 + (1 : Int))))))))
    ((screen_Find (⟨(⟨i_15, i_16, i_17, i_18⟩ : A4_Int), i_19, a_20⟩ : Screening) x_2).bind fun r_248 =>
    (ref15_Find (⟨(⟨i_21, i_22, i_23, i_24⟩ : A4_Int), i_25, a_26⟩ : Screening) x_2).bind fun r_249 =>
    cond (!((r_248.1.Bag == r_249.1.Bag) && ((r_248.1.Level == r_249.1.Level) && ((r_248.1.Since == r_249.1.Since) && ((r_248.1.Image == r_249.1.Image) && ((r_248.1.State == r_249.1.State) && true))))))
    (some (Ctl.ret false))
    (cond (!(r_248.2 == r_249.2))
    (some (Ctl.ret false))
    ((screen_Cleared (⟨(⟨i_15, i_16, i_17, i_18⟩ : A4_Int), i_19, a_20⟩ : Screening)).bind fun r_250 =>
    (ref15_Cleared (⟨(⟨i_21, i_22, i_23, i_24⟩ : A4_Int), i_25, a_26⟩ : Screening)).bind fun r_251 =>
    (keep_Ints r_250 r_251).bind fun r_252 =>
    cond (!r_252)
    (some (Ctl.ret false))
    ((screen_Alarms (⟨(⟨i_15, i_16, i_17, i_18⟩ : A4_Int), i_19, a_20⟩ : Screening)).bind fun r_253 =>
    (ref15_Alarms (⟨(⟨i_21, i_22, i_23, i_24⟩ : A4_Int), i_25, a_26⟩ : Screening)).bind fun r_254 =>
    (law15_same r_253 r_254).bind fun r_255 =>
    cond (!r_255)
    (some (Ctl.ret false))
    (law15_ScreenScript_L1 x_2 x_3 x_4 q_388 z_238.2.2.2.2.2.2.2.2.2.2.2.2.2.2.1 z_238.2.2.2.2.2.2.2.2.2.2.2.2.2.2.2.1 i_15 i_16 i_17 i_18 i_19 a_20 i_21 i_22 i_23 i_24 i_25 a_26 (w64 (i_27 + r_209.1)) (w64 (i_28 + (1 : Int))))))))))))
    (cond (decide ((1048576 : Int) < x_4))
    ((keep_Src_N r_211.2 (4 : Int)).bind fun r_256 =>
    Ctl.sub (cond (r_256.1 == (0 : Int))
    ((screen_Start (⟨(⟨i_15, i_16, i_17, i_18⟩ : A4_Int), i_19, a_20⟩ : Screening) x_2 x_4).bind fun r_257 =>
    (ref15_Start (⟨(⟨i_21, i_22, i_23, i_24⟩ : A4_Int), i_25, a_26⟩ : Screening) x_2 x_4).bind fun r_258 =>
    some (Ctl.brk (r_257.2, r_258.2, r_257.1.Limits.e0, r_257.1.Limits.e1, r_257.1.Limits.e2, r_257.1.Limits.e3, r_257.1.Next, r_257.1.L, r_258.1.Limits.e0, r_258.1.Limits.e1, r_258.1.Limits.e2, r_258.1.Limits.e3, r_258.1.Next, r_258.1.L, r_256.2.L, r_256.2.At, (0 : Int), (0 : Int))))
    (cond (r_256.1 == (1 : Int))
    ((screen_Expire (⟨(⟨i_15, i_16, i_17, i_18⟩ : A4_Int), i_19, a_20⟩ : Screening) x_4).bind fun r_259 =>
    (ref15_Expire (⟨(⟨i_21, i_22, i_23, i_24⟩ : A4_Int), i_25, a_26⟩ : Screening) x_4).bind fun r_260 =>
    some (Ctl.brk (r_259.2, r_260.2, r_259.1.Limits.e0, r_259.1.Limits.e1, r_259.1.Limits.e2, r_259.1.Limits.e3, r_259.1.Next, r_259.1.L, r_260.1.Limits.e0, r_260.1.Limits.e1, r_260.1.Limits.e2, r_260.1.Limits.e3, r_260.1.Next, r_260.1.L, r_256.2.L, r_256.2.At, (0 : Int), (0 : Int))))
    ((keep_Src_N r_256.2 (3 : Int)).bind fun r_261 =>
    (screen_Verdict (⟨(⟨i_15, i_16, i_17, i_18⟩ : A4_Int), i_19, a_20⟩ : Screening) x_3 (r_261.1 == (0 : Int)) x_4).bind fun r_262 =>
    (ref15_Verdict (⟨(⟨i_21, i_22, i_23, i_24⟩ : A4_Int), i_25, a_26⟩ : Screening) x_3 (r_261.1 == (0 : Int)) x_4).bind fun r_263 =>
    some (Ctl.brk (r_262.2.2, r_263.2.2, r_262.1.Limits.e0, r_262.1.Limits.e1, r_262.1.Limits.e2, r_262.1.Limits.e3, r_262.1.Next, r_262.1.L, r_263.1.Limits.e0, r_263.1.Limits.e1, r_263.1.Limits.e2, r_263.1.Limits.e3, r_263.1.Next, r_263.1.L, r_261.2.L, r_261.2.At, r_262.2.1, r_263.2.1))))) fun (z_282 : Int × Int × Int × Int × Int × Int × Int × (List Check) × Int × Int × Int × Int × Int × (List Check) × (List Int) × Int × Int × Int) =>
    cond (z_282.1 != z_282.2.1)
    (some (Ctl.ret false))
    (cond (z_282.2.2.2.2.2.2.2.2.2.2.2.2.2.2.2.2.1 != z_282.2.2.2.2.2.2.2.2.2.2.2.2.2.2.2.2.2)
    (some (Ctl.ret false))
    ((ref15_Same (⟨(⟨z_282.2.2.1, z_282.2.2.2.1, z_282.2.2.2.2.1, z_282.2.2.2.2.2.1⟩ : A4_Int), z_282.2.2.2.2.2.2.1, z_282.2.2.2.2.2.2.2.1⟩ : Screening) (⟨(⟨z_282.2.2.2.2.2.2.2.2.1, z_282.2.2.2.2.2.2.2.2.2.1, z_282.2.2.2.2.2.2.2.2.2.2.1, z_282.2.2.2.2.2.2.2.2.2.2.2.1⟩ : A4_Int), z_282.2.2.2.2.2.2.2.2.2.2.2.2.1, z_282.2.2.2.2.2.2.2.2.2.2.2.2.2.1⟩ : Screening)).bind fun r_283 =>
    cond (!r_283)
    (some (Ctl.ret false))
    (cond (z_282.1 == (0 : Int))
    ((screen_Find (⟨(⟨z_282.2.2.1, z_282.2.2.2.1, z_282.2.2.2.2.1, z_282.2.2.2.2.2.1⟩ : A4_Int), z_282.2.2.2.2.2.2.1, z_282.2.2.2.2.2.2.2.1⟩ : Screening) x_2).bind fun r_284 =>
    (ref15_Find (⟨(⟨z_282.2.2.2.2.2.2.2.2.1, z_282.2.2.2.2.2.2.2.2.2.1, z_282.2.2.2.2.2.2.2.2.2.2.1, z_282.2.2.2.2.2.2.2.2.2.2.2.1⟩ : A4_Int), z_282.2.2.2.2.2.2.2.2.2.2.2.2.1, z_282.2.2.2.2.2.2.2.2.2.2.2.2.2.1⟩ : Screening) x_2).bind fun r_285 =>
    cond (!((r_284.1.Bag == r_285.1.Bag) && ((r_284.1.Level == r_285.1.Level) && ((r_284.1.Since == r_285.1.Since) && ((r_284.1.Image == r_285.1.Image) && ((r_284.1.State == r_285.1.State) && true))))))
    (some (Ctl.ret false))
    (cond (!(r_284.2 == r_285.2))
    (some (Ctl.ret false))
    ((screen_Cleared (⟨(⟨z_282.2.2.1, z_282.2.2.2.1, z_282.2.2.2.2.1, z_282.2.2.2.2.2.1⟩ : A4_Int), z_282.2.2.2.2.2.2.1, z_282.2.2.2.2.2.2.2.1⟩ : Screening)).bind fun r_286 =>
    (ref15_Cleared (⟨(⟨z_282.2.2.2.2.2.2.2.2.1, z_282.2.2.2.2.2.2.2.2.2.1, z_282.2.2.2.2.2.2.2.2.2.2.1, z_282.2.2.2.2.2.2.2.2.2.2.2.1⟩ : A4_Int), z_282.2.2.2.2.2.2.2.2.2.2.2.2.1, z_282.2.2.2.2.2.2.2.2.2.2.2.2.2.1⟩ : Screening)).bind fun r_287 =>
    (keep_Ints r_286 r_287).bind fun r_288 =>
    cond (!r_288)
    (some (Ctl.ret false))
    ((screen_Alarms (⟨(⟨z_282.2.2.1, z_282.2.2.2.1, z_282.2.2.2.2.1, z_282.2.2.2.2.2.1⟩ : A4_Int), z_282.2.2.2.2.2.2.1, z_282.2.2.2.2.2.2.2.1⟩ : Screening)).bind fun r_289 =>
    (ref15_Alarms (⟨(⟨z_282.2.2.2.2.2.2.2.2.1, z_282.2.2.2.2.2.2.2.2.2.1, z_282.2.2.2.2.2.2.2.2.2.2.1, z_282.2.2.2.2.2.2.2.2.2.2.2.1⟩ : A4_Int), z_282.2.2.2.2.2.2.2.2.2.2.2.2.1, z_282.2.2.2.2.2.2.2.2.2.2.2.2.2.1⟩ : Screening)).bind fun r_290 =>
    (law15_same r_289 r_290).bind fun r_291 =>
    cond (!r_291)
    (some (Ctl.ret false))
    (law15_ScreenScript_L1 x_2 x_3 x_4 q_388 z_282.2.2.2.2.2.2.2.2.2.2.2.2.2.2.1 z_282.2.2.2.2.2.2.2.2.2.2.2.2.2.2.2.1 z_282.2.2.1 z_282.2.2.2.1 z_282.2.2.2.2.1 z_282.2.2.2.2.2.1 z_282.2.2.2.2.2.2.1 z_282.2.2.2.2.2.2.2.1 z_282.2.2.2.2.2.2.2.2.1 z_282.2.2.2.2.2.2.2.2.2.1 z_282.2.2.2.2.2.2.2.2.2.2.1 z_282.2.2.2.2.2.2.2.2.2.2.2.1 z_282.2.2.2.2.2.2.2.2.2.2.2.2.1 z_282.2.2.2.2.2.2.2.2.2.2.2.2.2.1 (w64 (i_27 + r_209.1)) (w64 (i_28 + (1 : Int))))))))
    ((screen_Find (⟨(⟨i_15, i_16, i_17, i_18⟩ : A4_Int), i_19, a_20⟩ : Screening) x_2).bind fun r_292 =>
    (ref15_Find (⟨(⟨i_21, i_22, i_23, i_24⟩ : A4_Int), i_25, a_26⟩ : Screening) x_2).bind fun r_293 =>
    cond (!((r_292.1.Bag == r_293.1.Bag) && ((r_292.1.Level == r_293.1.Level) && ((r_292.1.Since == r_293.1.Since) && ((r_292.1.Image == r_293.1.Image) && ((r_292.1.State == r_293.1.State) && true))))))
    (some (Ctl.ret false))
    (cond (!(r_292.2 == r_293.2))
    (some (Ctl.ret false))
    ((screen_Cleared (⟨(⟨i_15, i_16, i_17, i_18⟩ : A4_Int), i_19, a_20⟩ : Screening)).bind fun r_294 =>
    (ref15_Cleared (⟨(⟨i_21, i_22, i_23, i_24⟩ : A4_Int), i_25, a_26⟩ : Screening)).bind fun r_295 =>
    (keep_Ints r_294 r_295).bind fun r_296 =>
    cond (!r_296)
    (some (Ctl.ret false))
    ((screen_Alarms (⟨(⟨i_15, i_16, i_17, i_18⟩ : A4_Int), i_19, a_20⟩ : Screening)).bind fun r_297 =>
    (ref15_Alarms (⟨(⟨i_21, i_22, i_23, i_24⟩ : A4_Int), i_25, a_26⟩ : Screening)).bind fun r_298 =>
    (law15_same r_297 r_298).bind fun r_299 =>
    cond (!r_299)
    (some (Ctl.ret false))
    (law15_ScreenScript_L1 x_2 x_3 x_4 q_388 z_282.2.2.2.2.2.2.2.2.2.2.2.2.2.2.1 z_282.2.2.2.2.2.2.2.2.2.2.2.2.2.2.2.1 i_15 i_16 i_17 i_18 i_19 a_20 i_21 i_22 i_23 i_24 i_25 a_26 (w64 (i_27 + r_209.1)) (w64 (i_28 + (1 : Int))))))))))))
    ((keep_Src_N r_211.2 (4 : Int)).bind fun r_300 =>
    Ctl.sub (cond (r_300.1 == (0 : Int))
    ((screen_Start (⟨(⟨i_15, i_16, i_17, i_18⟩ : A4_Int), i_19, a_20⟩ : Screening) x_2 (w64 (i_27 + r_209.1))).bind fun r_301 =>
    (ref15_Start (⟨(⟨i_21, i_22, i_23, i_24⟩ : A4_Int), i_25, a_26⟩ : Screening) x_2 (w64 (i_27 + r_209.1))).bind fun r_302 =>
    some (Ctl.brk (r_301.2, r_302.2, r_301.1.Limits.e0, r_301.1.Limits.e1, r_301.1.Limits.e2, r_301.1.Limits.e3, r_301.1.Next, r_301.1.L, r_302.1.Limits.e0, r_302.1.Limits.e1, r_302.1.Limits.e2, r_302.1.Limits.e3, r_302.1.Next, r_302.1.L, r_300.2.L, r_300.2.At, (0 : Int), (0 : Int))))
    (cond (r_300.1 == (1 : Int))
    ((screen_Expire (⟨(⟨i_15, i_16, i_17, i_18⟩ : A4_Int), i_19, a_20⟩ : Screening) (w64 (i_27 + r_209.1))).bind fun r_303 =>
    (ref15_Expire (⟨(⟨i_21, i_22, i_23, i_24⟩ : A4_Int), i_25, a_26⟩ : Screening) (w64 (i_27 + r_209.1))).bind fun r_304 =>
    some (Ctl.brk (r_303.2, r_304.2, r_303.1.Limits.e0, r_303.1.Limits.e1, r_303.1.Limits.e2, r_303.1.Limits.e3, r_303.1.Next, r_303.1.L, r_304.1.Limits.e0, r_304.1.Limits.e1, r_304.1.Limits.e2, r_304.1.Limits.e3, r_304.1.Next, r_304.1.L, r_300.2.L, r_300.2.At, (0 : Int), (0 : Int))))
    ((keep_Src_N r_300.2 (3 : Int)).bind fun r_305 =>
    (screen_Verdict (⟨(⟨i_15, i_16, i_17, i_18⟩ : A4_Int), i_19, a_20⟩ : Screening) x_3 (r_305.1 == (0 : Int)) (w64 (i_27 + r_209.1))).bind fun r_306 =>
    (ref15_Verdict (⟨(⟨i_21, i_22, i_23, i_24⟩ : A4_Int), i_25, a_26⟩ : Screening) x_3 (r_305.1 == (0 : Int)) (w64 (i_27 + r_209.1))).bind fun r_307 =>
    some (Ctl.brk (r_306.2.2, r_307.2.2, r_306.1.Limits.e0, r_306.1.Limits.e1, r_306.1.Limits.e2, r_306.1.Limits.e3, r_306.1.Next, r_306.1.L, r_307.1.Limits.e0, r_307.1.Limits.e1, r_307.1.Limits.e2, r_307.1.Limits.e3, r_307.1.Next, r_307.1.L, r_305.2.L, r_305.2.At, r_306.2.1, r_307.2.1))))) fun (z_326 : Int × Int × Int × Int × Int × Int × Int × (List Check) × Int × Int × Int × Int × Int × (List Check) × (List Int) × Int × Int × Int) =>
    cond (z_326.1 != z_326.2.1)
    (some (Ctl.ret false))
    (cond (z_326.2.2.2.2.2.2.2.2.2.2.2.2.2.2.2.2.1 != z_326.2.2.2.2.2.2.2.2.2.2.2.2.2.2.2.2.2)
    (some (Ctl.ret false))
    ((ref15_Same (⟨(⟨z_326.2.2.1, z_326.2.2.2.1, z_326.2.2.2.2.1, z_326.2.2.2.2.2.1⟩ : A4_Int), z_326.2.2.2.2.2.2.1, z_326.2.2.2.2.2.2.2.1⟩ : Screening) (⟨(⟨z_326.2.2.2.2.2.2.2.2.1, z_326.2.2.2.2.2.2.2.2.2.1, z_326.2.2.2.2.2.2.2.2.2.2.1, z_326.2.2.2.2.2.2.2.2.2.2.2.1⟩ : A4_Int), z_326.2.2.2.2.2.2.2.2.2.2.2.2.1, z_326.2.2.2.2.2.2.2.2.2.2.2.2.2.1⟩ : Screening)).bind fun r_327 =>
    cond (!r_327)
    (some (Ctl.ret false))
    (cond (z_326.1 == (0 : Int))
    ((screen_Find (⟨(⟨z_326.2.2.1, z_326.2.2.2.1, z_326.2.2.2.2.1, z_326.2.2.2.2.2.1⟩ : A4_Int), z_326.2.2.2.2.2.2.1, z_326.2.2.2.2.2.2.2.1⟩ : Screening) x_2).bind fun r_328 =>
    (ref15_Find (⟨(⟨z_326.2.2.2.2.2.2.2.2.1, z_326.2.2.2.2.2.2.2.2.2.1, z_326.2.2.2.2.2.2.2.2.2.2.1, z_326.2.2.2.2.2.2.2.2.2.2.2.1⟩ : A4_Int), z_326.2.2.2.2.2.2.2.2.2.2.2.2.1, z_326.2.2.2.2.2.2.2.2.2.2.2.2.2.1⟩ : Screening) x_2).bind fun r_329 =>
    cond (!((r_328.1.Bag == r_329.1.Bag) && ((r_328.1.Level == r_329.1.Level) && ((r_328.1.Since == r_329.1.Since) && ((r_328.1.Image == r_329.1.Image) && ((r_328.1.State == r_329.1.State) && true))))))
    (some (Ctl.ret false))
    (cond (!(r_328.2 == r_329.2))
    (some (Ctl.ret false))
    ((screen_Cleared (⟨(⟨z_326.2.2.1, z_326.2.2.2.1, z_326.2.2.2.2.1, z_326.2.2.2.2.2.1⟩ : A4_Int), z_326.2.2.2.2.2.2.1, z_326.2.2.2.2.2.2.2.1⟩ : Screening)).bind fun r_330 =>
    (ref15_Cleared (⟨(⟨z_326.2.2.2.2.2.2.2.2.1, z_326.2.2.2.2.2.2.2.2.2.1, z_326.2.2.2.2.2.2.2.2.2.2.1, z_326.2.2.2.2.2.2.2.2.2.2.2.1⟩ : A4_Int), z_326.2.2.2.2.2.2.2.2.2.2.2.2.1, z_326.2.2.2.2.2.2.2.2.2.2.2.2.2.1⟩ : Screening)).bind fun r_331 =>
    (keep_Ints r_330 r_331).bind fun r_332 =>
    cond (!r_332)
    (some (Ctl.ret false))
    ((screen_Alarms (⟨(⟨z_326.2.2.1, z_326.2.2.2.1, z_326.2.2.2.2.1, z_326.2.2.2.2.2.1⟩ : A4_Int), z_326.2.2.2.2.2.2.1, z_326.2.2.2.2.2.2.2.1⟩ : Screening)).bind fun r_333 =>
    (ref15_Alarms (⟨(⟨z_326.2.2.2.2.2.2.2.2.1, z_326.2.2.2.2.2.2.2.2.2.1, z_326.2.2.2.2.2.2.2.2.2.2.1, z_326.2.2.2.2.2.2.2.2.2.2.2.1⟩ : A4_Int), z_326.2.2.2.2.2.2.2.2.2.2.2.2.1, z_326.2.2.2.2.2.2.2.2.2.2.2.2.2.1⟩ : Screening)).bind fun r_334 =>
    (law15_same r_333 r_334).bind fun r_335 =>
    cond (!r_335)
    (some (Ctl.ret false))
    (law15_ScreenScript_L1 x_2 x_3 x_4 q_388 z_326.2.2.2.2.2.2.2.2.2.2.2.2.2.2.1 z_326.2.2.2.2.2.2.2.2.2.2.2.2.2.2.2.1 z_326.2.2.1 z_326.2.2.2.1 z_326.2.2.2.2.1 z_326.2.2.2.2.2.1 z_326.2.2.2.2.2.2.1 z_326.2.2.2.2.2.2.2.1 z_326.2.2.2.2.2.2.2.2.1 z_326.2.2.2.2.2.2.2.2.2.1 z_326.2.2.2.2.2.2.2.2.2.2.1 z_326.2.2.2.2.2.2.2.2.2.2.2.1 z_326.2.2.2.2.2.2.2.2.2.2.2.2.1 z_326.2.2.2.2.2.2.2.2.2.2.2.2.2.1 (w64 (i_27 + r_209.1)) (w64 (i_28 + (1 : Int))))))))
    ((screen_Find (⟨(⟨i_15, i_16, i_17, i_18⟩ : A4_Int), i_19, a_20⟩ : Screening) x_2).bind fun r_336 =>
    (ref15_Find (⟨(⟨i_21, i_22, i_23, i_24⟩ : A4_Int), i_25, a_26⟩ : Screening) x_2).bind fun r_337 =>
    cond (!((r_336.1.Bag == r_337.1.Bag) && ((r_336.1.Level == r_337.1.Level) && ((r_336.1.Since == r_337.1.Since) && ((r_336.1.Image == r_337.1.Image) && ((r_336.1.State == r_337.1.State) && true))))))
    (some (Ctl.ret false))
    (cond (!(r_336.2 == r_337.2))
    (some (Ctl.ret false))
    ((screen_Cleared (⟨(⟨i_15, i_16, i_17, i_18⟩ : A4_Int), i_19, a_20⟩ : Screening)).bind fun r_338 =>
    (ref15_Cleared (⟨(⟨i_21, i_22, i_23, i_24⟩ : A4_Int), i_25, a_26⟩ : Screening)).bind fun r_339 =>
    (keep_Ints r_338 r_339).bind fun r_340 =>
    cond (!r_340)
    (some (Ctl.ret false))
    ((screen_Alarms (⟨(⟨i_15, i_16, i_17, i_18⟩ : A4_Int), i_19, a_20⟩ : Screening)).bind fun r_341 =>
    (ref15_Alarms (⟨(⟨i_21, i_22, i_23, i_24⟩ : A4_Int), i_25, a_26⟩ : Screening)).bind fun r_342 =>
    (law15_same r_341 r_342).bind fun r_343 =>
    cond (!r_343)
    (some (Ctl.ret false))
    (law15_ScreenScript_L1 x_2 x_3 x_4 q_388 z_326.2.2.2.2.2.2.2.2.2.2.2.2.2.2.1 z_326.2.2.2.2.2.2.2.2.2.2.2.2.2.2.2.1 i_15 i_16 i_17 i_18 i_19 a_20 i_21 i_22 i_23 i_24 i_25 a_26 (w64 (i_27 + r_209.1)) (w64 (i_28 + (1 : Int))))))))))))))
    ((keep_Src_N r_211.2 (4 : Int)).bind fun r_344 =>
    Ctl.sub (cond (r_344.1 == (0 : Int))
    ((screen_Start (⟨(⟨i_15, i_16, i_17, i_18⟩ : A4_Int), i_19, a_20⟩ : Screening) r_210.1 (w64 (i_27 + r_209.1))).bind fun r_345 =>
    (ref15_Start (⟨(⟨i_21, i_22, i_23, i_24⟩ : A4_Int), i_25, a_26⟩ : Screening) r_210.1 (w64 (i_27 + r_209.1))).bind fun r_346 =>
    some (Ctl.brk (r_345.2, r_346.2, r_345.1.Limits.e0, r_345.1.Limits.e1, r_345.1.Limits.e2, r_345.1.Limits.e3, r_345.1.Next, r_345.1.L, r_346.1.Limits.e0, r_346.1.Limits.e1, r_346.1.Limits.e2, r_346.1.Limits.e3, r_346.1.Next, r_346.1.L, r_344.2.L, r_344.2.At, (0 : Int), (0 : Int))))
    (cond (r_344.1 == (1 : Int))
    ((screen_Expire (⟨(⟨i_15, i_16, i_17, i_18⟩ : A4_Int), i_19, a_20⟩ : Screening) (w64 (i_27 + r_209.1))).bind fun r_347 =>
    (ref15_Expire (⟨(⟨i_21, i_22, i_23, i_24⟩ : A4_Int), i_25, a_26⟩ : Screening) (w64 (i_27 + r_209.1))).bind fun r_348 =>
    some (Ctl.brk (r_347.2, r_348.2, r_347.1.Limits.e0, r_347.1.Limits.e1, r_347.1.Limits.e2, r_347.1.Limits.e3, r_347.1.Next, r_347.1.L, r_348.1.Limits.e0, r_348.1.Limits.e1, r_348.1.Limits.e2, r_348.1.Limits.e3, r_348.1.Next, r_348.1.L, r_344.2.L, r_344.2.At, (0 : Int), (0 : Int))))
    ((keep_Src_N r_344.2 (3 : Int)).bind fun r_349 =>
    (screen_Verdict (⟨(⟨i_15, i_16, i_17, i_18⟩ : A4_Int), i_19, a_20⟩ : Screening) r_211.1 (r_349.1 == (0 : Int)) (w64 (i_27 + r_209.1))).bind fun r_350 =>
    (ref15_Verdict (⟨(⟨i_21, i_22, i_23, i_24⟩ : A4_Int), i_25, a_26⟩ : Screening) r_211.1 (r_349.1 == (0 : Int)) (w64 (i_27 + r_209.1))).bind fun r_351 =>
    some (Ctl.brk (r_350.2.2, r_351.2.2, r_350.1.Limits.e0, r_350.1.Limits.e1, r_350.1.Limits.e2, r_350.1.Limits.e3, r_350.1.Next, r_350.1.L, r_351.1.Limits.e0, r_351.1.Limits.e1, r_351.1.Limits.e2, r_351.1.Limits.e3, r_351.1.Next, r_351.1.L, r_349.2.L, r_349.2.At, r_350.2.1, r_351.2.1))))) fun (z_370 : Int × Int × Int × Int × Int × Int × Int × (List Check) × Int × Int × Int × Int × Int × (List Check) × (List Int) × Int × Int × Int) =>
    cond (z_370.1 != z_370.2.1)
    (some (Ctl.ret false))
    (cond (z_370.2.2.2.2.2.2.2.2.2.2.2.2.2.2.2.2.1 != z_370.2.2.2.2.2.2.2.2.2.2.2.2.2.2.2.2.2)
    (some (Ctl.ret false))
    ((ref15_Same (⟨(⟨z_370.2.2.1, z_370.2.2.2.1, z_370.2.2.2.2.1, z_370.2.2.2.2.2.1⟩ : A4_Int), z_370.2.2.2.2.2.2.1, z_370.2.2.2.2.2.2.2.1⟩ : Screening) (⟨(⟨z_370.2.2.2.2.2.2.2.2.1, z_370.2.2.2.2.2.2.2.2.2.1, z_370.2.2.2.2.2.2.2.2.2.2.1, z_370.2.2.2.2.2.2.2.2.2.2.2.1⟩ : A4_Int), z_370.2.2.2.2.2.2.2.2.2.2.2.2.1, z_370.2.2.2.2.2.2.2.2.2.2.2.2.2.1⟩ : Screening)).bind fun r_371 =>
    cond (!r_371)
    (some (Ctl.ret false))
    (cond (z_370.1 == (0 : Int))
    ((screen_Find (⟨(⟨z_370.2.2.1, z_370.2.2.2.1, z_370.2.2.2.2.1, z_370.2.2.2.2.2.1⟩ : A4_Int), z_370.2.2.2.2.2.2.1, z_370.2.2.2.2.2.2.2.1⟩ : Screening) r_210.1).bind fun r_372 =>
    (ref15_Find (⟨(⟨z_370.2.2.2.2.2.2.2.2.1, z_370.2.2.2.2.2.2.2.2.2.1, z_370.2.2.2.2.2.2.2.2.2.2.1, z_370.2.2.2.2.2.2.2.2.2.2.2.1⟩ : A4_Int), z_370.2.2.2.2.2.2.2.2.2.2.2.2.1, z_370.2.2.2.2.2.2.2.2.2.2.2.2.2.1⟩ : Screening) r_210.1).bind fun r_373 =>
    cond (!((r_372.1.Bag == r_373.1.Bag) && ((r_372.1.Level == r_373.1.Level) && ((r_372.1.Since == r_373.1.Since) && ((r_372.1.Image == r_373.1.Image) && ((r_372.1.State == r_373.1.State) && true))))))
    (some (Ctl.ret false))
    (cond (!(r_372.2 == r_373.2))
    (some (Ctl.ret false))
    ((screen_Cleared (⟨(⟨z_370.2.2.1, z_370.2.2.2.1, z_370.2.2.2.2.1, z_370.2.2.2.2.2.1⟩ : A4_Int), z_370.2.2.2.2.2.2.1, z_370.2.2.2.2.2.2.2.1⟩ : Screening)).bind fun r_374 =>
    (ref15_Cleared (⟨(⟨z_370.2.2.2.2.2.2.2.2.1, z_370.2.2.2.2.2.2.2.2.2.1, z_370.2.2.2.2.2.2.2.2.2.2.1, z_370.2.2.2.2.2.2.2.2.2.2.2.1⟩ : A4_Int), z_370.2.2.2.2.2.2.2.2.2.2.2.2.1, z_370.2.2.2.2.2.2.2.2.2.2.2.2.2.1⟩ : Screening)).bind fun r_375 =>
    (keep_Ints r_374 r_375).bind fun r_376 =>
    cond (!r_376)
    (some (Ctl.ret false))
    ((screen_Alarms (⟨(⟨z_370.2.2.1, z_370.2.2.2.1, z_370.2.2.2.2.1, z_370.2.2.2.2.2.1⟩ : A4_Int), z_370.2.2.2.2.2.2.1, z_370.2.2.2.2.2.2.2.1⟩ : Screening)).bind fun r_377 =>
    (ref15_Alarms (⟨(⟨z_370.2.2.2.2.2.2.2.2.1, z_370.2.2.2.2.2.2.2.2.2.1, z_370.2.2.2.2.2.2.2.2.2.2.1, z_370.2.2.2.2.2.2.2.2.2.2.2.1⟩ : A4_Int), z_370.2.2.2.2.2.2.2.2.2.2.2.2.1, z_370.2.2.2.2.2.2.2.2.2.2.2.2.2.1⟩ : Screening)).bind fun r_378 =>
    (law15_same r_377 r_378).bind fun r_379 =>
    cond (!r_379)
    (some (Ctl.ret false))
    (law15_ScreenScript_L1 x_2 x_3 x_4 q_388 z_370.2.2.2.2.2.2.2.2.2.2.2.2.2.2.1 z_370.2.2.2.2.2.2.2.2.2.2.2.2.2.2.2.1 z_370.2.2.1 z_370.2.2.2.1 z_370.2.2.2.2.1 z_370.2.2.2.2.2.1 z_370.2.2.2.2.2.2.1 z_370.2.2.2.2.2.2.2.1 z_370.2.2.2.2.2.2.2.2.1 z_370.2.2.2.2.2.2.2.2.2.1 z_370.2.2.2.2.2.2.2.2.2.2.1 z_370.2.2.2.2.2.2.2.2.2.2.2.1 z_370.2.2.2.2.2.2.2.2.2.2.2.2.1 z_370.2.2.2.2.2.2.2.2.2.2.2.2.2.1 (w64 (i_27 + r_209.1)) (w64 (i_28 + (1 : Int))))))))
    ((screen_Find (⟨(⟨i_15, i_16, i_17, i_18⟩ : A4_Int), i_19, a_20⟩ : Screening) r_210.1).bind fun r_380 =>
    (ref15_Find (⟨(⟨i_21, i_22, i_23, i_24⟩ : A4_Int), i_25, a_26⟩ : Screening) r_210.1).bind fun r_381 =>
    cond (!((r_380.1.Bag == r_381.1.Bag) && ((r_380.1.Level == r_381.1.Level) && ((r_380.1.Since == r_381.1.Since) && ((r_380.1.Image == r_381.1.Image) && ((r_380.1.State == r_381.1.State) && true))))))
    (some (Ctl.ret false))
    (cond (!(r_380.2 == r_381.2))
    (some (Ctl.ret false))
    ((screen_Cleared (⟨(⟨i_15, i_16, i_17, i_18⟩ : A4_Int), i_19, a_20⟩ : Screening)).bind fun r_382 =>
    (ref15_Cleared (⟨(⟨i_21, i_22, i_23, i_24⟩ : A4_Int), i_25, a_26⟩ : Screening)).bind fun r_383 =>
    (keep_Ints r_382 r_383).bind fun r_384 =>
    cond (!r_384)
    (some (Ctl.ret false))
    ((screen_Alarms (⟨(⟨i_15, i_16, i_17, i_18⟩ : A4_Int), i_19, a_20⟩ : Screening)).bind fun r_385 =>
    (ref15_Alarms (⟨(⟨i_21, i_22, i_23, i_24⟩ : A4_Int), i_25, a_26⟩ : Screening)).bind fun r_386 =>
    (law15_same r_385 r_386).bind fun r_387 =>
    cond (!r_387)
    (some (Ctl.ret false))
    (law15_ScreenScript_L1 x_2 x_3 x_4 q_388 z_370.2.2.2.2.2.2.2.2.2.2.2.2.2.2.1 z_370.2.2.2.2.2.2.2.2.2.2.2.2.2.2.2.1 i_15 i_16 i_17 i_18 i_19 a_20 i_21 i_22 i_23 i_24 i_25 a_26 (w64 (i_27 + r_209.1)) (w64 (i_28 + (1 : Int)))))))))))))
    (some (Ctl.brk ()))))
    (some (Ctl.brk ()))
def law15_ScreenScript (x_0 : A4_Int) (x_1 : (List Int)) (x_2 : Int) (x_3 : Int) (x_4 : Int) : Option (Bool) :=
  (keep_New x_1).bind fun r_1 =>
    (screen_New x_0).bind fun r_2 =>
    (ref15_New x_0).bind fun r_3 =>
    cond (r_2.2 != r_3.2)
    (some false)
    ((ref15_Same r_2.1 r_3.1).bind fun r_4 =>
    cond (!r_4)
    (some false)
    ((keep_Src_N r_1 (6 : Int)).bind fun r_5 =>
    (keep_Src_N r_5.2 (6 : Int)).bind fun r_6 =>
    (keep_Src_Pick r_6.2 ([(3 : Int), (1000 : Int)] : List Int)).bind fun r_7 =>
    (keep_Src_N r_7.2 (6 : Int)).bind fun r_8 =>
    (screen_New (⟨r_5.1, r_6.1, r_7.1, r_8.1⟩ : A4_Int)).bind fun r_9 =>
    (ref15_New (⟨r_5.1, r_6.1, r_7.1, r_8.1⟩ : A4_Int)).bind fun r_10 =>
    cond (r_9.2 != r_10.2)
    (some false)
    ((ref15_Same r_9.1 r_10.1).bind fun r_11 =>
    cond (!r_11)
    (some false)
    ((keep_Src_N r_8.2 (3 : Int)).bind fun r_12 =>
    Ctl.fin (law15_ScreenScript_L1 x_2 x_3 x_4 9223372036854775807 r_12.2.L r_12.2.At r_9.1.Limits.e0 r_9.1.Limits.e1 r_9.1.Limits.e2 r_9.1.Limits.e3 r_9.1.Next r_9.1.L r_10.1.Limits.e0 r_10.1.Limits.e1 r_10.1.Limits.e2 r_10.1.Limits.e3 r_10.1.Next r_10.1.L r_12.1 (0 : Int)) fun z_389 =>
    (law15_awake).bind fun r_390 =>
    some r_390))))

def keep_In_L1 (x_1 : Int) : (List Int) → Nat → Option (Ctl (Bool) (Unit))
  | [], k_2 => some (Ctl.brk ())
  | e_3 :: q_4, k_2 => cond (e_3 == x_1)
    (some (Ctl.ret true))
    (keep_In_L1 x_1 q_4 (k_2 + 1))
def keep_In (x_0 : (List Int)) (x_1 : Int) : Option (Bool) :=
  Ctl.fin (keep_In_L1 x_1 x_0 0) fun z_5 =>
    some false

def law15_ScreenOnlyVerdicts_L2 (i_9 : Int) (i_10 : Int) (i_11 : Int) (i_12 : Int) (i_13 : Int) (a_14 : (List Check)) (i_15 : Int) (r_17 : Int × Src) (z_35 : (List Int) × Int × Int × Int × Int × Int × Int × (List Check) × Int × Bool) : Nat → Int → Option (Ctl (Bool) (Unit))
  | 0, _ => none
  | q_71 + 1, i_36 => cond (decide (i_36 ≤ (5 : Int)))
    ((screen_Find (⟨(⟨i_9, i_10, i_11, i_12⟩ : A4_Int), i_13, a_14⟩ : Screening) i_36).bind fun r_37 =>
    (screen_Find (⟨(⟨z_35.2.2.1, z_35.2.2.2.1, z_35.2.2.2.2.1, z_35.2.2.2.2.2.1⟩ : A4_Int), z_35.2.2.2.2.2.2.1, z_35.2.2.2.2.2.2.2.1⟩ : Screening) i_36).bind fun r_38 =>
    cond r_37.2
    (cond (!r_38.2)
    (some (Ctl.ret false))
    (cond (r_37.1.State != (1 : Int))
    (cond (!((r_37.1.Bag == r_38.1.Bag) && ((r_37.1.Level == r_38.1.Level) && ((r_37.1.Since == r_38.1.Since) && ((r_37.1.Image == r_38.1.Image) && ((r_37.1.State == r_38.1.State) && true))))))
    (some (Ctl.ret false))
    (cond r_38.2
    (cond (r_38.1.State == (2 : Int))
    (cond (r_37.1.State == (1 : Int))
    (cond (!z_35.2.2.2.2.2.2.2.2.2)
    (some (Ctl.ret false))
    (cond (r_37.1.Image != z_35.2.2.2.2.2.2.2.2.1)
    (some (Ctl.ret false))
    (cond (r_38.1.Image != z_35.2.2.2.2.2.2.2.2.1)
    (some (Ctl.ret false))
    (cond ((w64 (r_37.1.Level - (1 : Int))) == (0 : Int))
    (cond (decide ((w64 (r_37.1.Since + z_35.2.2.1)) < (w64 (i_15 + r_17.1))))
    (some (Ctl.ret false))
    ((screen_Cleared (⟨(⟨z_35.2.2.1, z_35.2.2.2.1, z_35.2.2.2.2.1, z_35.2.2.2.2.2.1⟩ : A4_Int), z_35.2.2.2.2.2.2.1, z_35.2.2.2.2.2.2.2.1⟩ : Screening)).bind fun r_39 =>
    (keep_In r_39 i_36).bind fun r_40 =>
    cond (!(r_40 == (r_38.1.State == (2 : Int))))
    (some (Ctl.ret false))
    (law15_ScreenOnlyVerdicts_L2 i_9 i_10 i_11 i_12 i_13 a_14 i_15 r_17 z_35 q_71 (w64 (i_36 + (1 : Int))))))
    (cond ((w64 (r_37.1.Level - (1 : Int))) == (1 : Int))
    (cond (decide ((w64 (r_37.1.Since + z_35.2.2.2.1)) < (w64 (i_15 + r_17.1))))
    (some (Ctl.ret false))
    ((screen_Cleared (⟨(⟨z_35.2.2.1, z_35.2.2.2.1, z_35.2.2.2.2.1, z_35.2.2.2.2.2.1⟩ : A4_Int), z_35.2.2.2.2.2.2.1, z_35.2.2.2.2.2.2.2.1⟩ : Screening)).bind fun r_41 =>
    (keep_In r_41 i_36).bind fun r_42 =>
    cond (!(r_42 == (r_38.1.State == (2 : Int))))
    (some (Ctl.ret false))
    (law15_ScreenOnlyVerdicts_L2 i_9 i_10 i_11 i_12 i_13 a_14 i_15 r_17 z_35 q_71 (w64 (i_36 + (1 : Int))))))
    (cond ((w64 (r_37.1.Level - (1 : Int))) == (2 : Int))
    (cond (decide ((w64 (r_37.1.Since + z_35.2.2.2.2.1)) < (w64 (i_15 + r_17.1))))
    (some (Ctl.ret false))
    ((screen_Cleared (⟨(⟨z_35.2.2.1, z_35.2.2.2.1, z_35.2.2.2.2.1, z_35.2.2.2.2.2.1⟩ : A4_Int), z_35.2.2.2.2.2.2.1, z_35.2.2.2.2.2.2.2.1⟩ : Screening)).bind fun r_43 =>
    (keep_In r_43 i_36).bind fun r_44 =>
    cond (!(r_44 == (r_38.1.State == (2 : Int))))
    (some (Ctl.ret false))
    (law15_ScreenOnlyVerdicts_L2 i_9 i_10 i_11 i_12 i_13 a_14 i_15 r_17 z_35 q_71 (w64 (i_36 + (1 : Int))))))
    (cond ((w64 (r_37.1.Level - (1 : Int))) == (3 : Int))
    (cond (decide ((w64 (r_37.1.Since + z_35.2.2.2.2.2.1)) < (w64 (i_15 + r_17.1))))
    (some (Ctl.ret false))
    ((screen_Cleared (⟨(⟨z_35.2.2.1, z_35.2.2.2.1, z_35.2.2.2.2.1, z_35.2.2.2.2.2.1⟩ : A4_Int), z_35.2.2.2.2.2.2.1, z_35.2.2.2.2.2.2.2.1⟩ : Screening)).bind fun r_45 =>
    (keep_In r_45 i_36).bind fun r_46 =>
    cond (!(r_46 == (r_38.1.State == (2 : Int))))
    (some (Ctl.ret false))
    (law15_ScreenOnlyVerdicts_L2 i_9 i_10 i_11 i_12 i_13 a_14 i_15 r_17 z_35 q_71 (w64 (i_36 + (1 : Int))))))
    (none))))))))
    ((screen_Cleared (⟨(⟨z_35.2.2.1, z_35.2.2.2.1, z_35.2.2.2.2.1, z_35.2.2.2.2.2.1⟩ : A4_Int), z_35.2.2.2.2.2.2.1, z_35.2.2.2.2.2.2.2.1⟩ : Screening)).bind fun r_47 =>
    (keep_In r_47 i_36).bind fun r_48 =>
    cond (!(r_48 == (r_38.1.State == (2 : Int))))
    (some (Ctl.ret false))
    (law15_ScreenOnlyVerdicts_L2 i_9 i_10 i_11 i_12 i_13 a_14 i_15 r_17 z_35 q_71 (w64 (i_36 + (1 : Int))))))
    ((screen_Cleared (⟨(⟨z_35.2.2.1, z_35.2.2.2.1, z_35.2.2.2.2.1, z_35.2.2.2.2.2.1⟩ : A4_Int), z_35.2.2.2.2.2.2.1, z_35.2.2.2.2.2.2.2.1⟩ : Screening)).bind fun r_49 =>
    (keep_In r_49 i_36).bind fun r_50 =>
    cond (!(r_50 == (r_38.1.State == (2 : Int))))
    (some (Ctl.ret false))
    (law15_ScreenOnlyVerdicts_L2 i_9 i_10 i_11 i_12 i_13 a_14 i_15 r_17 z_35 q_71 (w64 (i_36 + (1 : Int))))))
    ((screen_Cleared (⟨(⟨z_35.2.2.1, z_35.2.2.2.1, z_35.2.2.2.2.1, z_35.2.2.2.2.2.1⟩ : A4_Int), z_35.2.2.2.2.2.2.1, z_35.2.2.2.2.2.2.2.1⟩ : Screening)).bind fun r_51 =>
    (keep_In r_51 i_36).bind fun r_52 =>
    cond (!(r_52 == false))
    (some (Ctl.ret false))
    (law15_ScreenOnlyVerdicts_L2 i_9 i_10 i_11 i_12 i_13 a_14 i_15 r_17 z_35 q_71 (w64 (i_36 + (1 : Int)))))))
    (cond r_38.2
    (cond (r_38.1.State == (2 : Int))
    (cond (r_37.1.State == (1 : Int))
    (cond (!z_35.2.2.2.2.2.2.2.2.2)
    (some (Ctl.ret false))
    (cond (r_37.1.Image != z_35.2.2.2.2.2.2.2.2.1)
    (some (Ctl.ret false))
    (cond (r_38.1.Image != z_35.2.2.2.2.2.2.2.2.1)
    (some (Ctl.ret false))
    (cond ((w64 (r_37.1.Level - (1 : Int))) == (0 : Int))
    (cond (decide ((w64 (r_37.1.Since + z_35.2.2.1)) < (w64 (i_15 + r_17.1))))
    (some (Ctl.ret false))
    ((screen_Cleared (⟨(⟨z_35.2.2.1, z_35.2.2.2.1, z_35.2.2.2.2.1, z_35.2.2.2.2.2.1⟩ : A4_Int), z_35.2.2.2.2.2.2.1, z_35.2.2.2.2.2.2.2.1⟩ : Screening)).bind fun r_53 =>
    (keep_In r_53 i_36).bind fun r_54 =>
    cond (!(r_54 == (r_38.1.State == (2 : Int))))
    (some (Ctl.ret false))
    (law15_ScreenOnlyVerdicts_L2 i_9 i_10 i_11 i_12 i_13 a_14 i_15 r_17 z_35 q_71 (w64 (i_36 + (1 : Int))))))
    (cond ((w64 (r_37.1.Level - (1 : Int))) == (1 : Int))
    (cond (decide ((w64 (r_37.1.Since + z_35.2.2.2.1)) < (w64 (i_15 + r_17.1))))
    (some (Ctl.ret false))
    ((screen_Cleared (⟨(⟨z_35.2.2.1, z_35.2.2.2.1, z_35.2.2.2.2.1, z_35.2.2.2.2.2.1⟩ : A4_Int), z_35.2.2.2.2.2.2.1, z_35.2.2.2.2.2.2.2.1⟩ : Screening)).bind fun r_55 =>
    (keep_In r_55 i_36).bind fun r_56 =>
    cond (!(r_56 == (r_38.1.State == (2 : Int))))
    (some (Ctl.ret false))
    (law15_ScreenOnlyVerdicts_L2 i_9 i_10 i_11 i_12 i_13 a_14 i_15 r_17 z_35 q_71 (w64 (i_36 + (1 : Int))))))
    (cond ((w64 (r_37.1.Level - (1 : Int))) == (2 : Int))
    (cond (decide ((w64 (r_37.1.Since + z_35.2.2.2.2.1)) < (w64 (i_15 + r_17.1))))
    (some (Ctl.ret false))
    ((screen_Cleared (⟨(⟨z_35.2.2.1, z_35.2.2.2.1, z_35.2.2.2.2.1, z_35.2.2.2.2.2.1⟩ : A4_Int), z_35.2.2.2.2.2.2.1, z_35.2.2.2.2.2.2.2.1⟩ : Screening)).bind fun r_57 =>
    (keep_In r_57 i_36).bind fun r_58 =>
    cond (!(r_58 == (r_38.1.State == (2 : Int))))
    (some (Ctl.ret false))
    (law15_ScreenOnlyVerdicts_L2 i_9 i_10 i_11 i_12 i_13 a_14 i_15 r_17 z_35 q_71 (w64 (i_36 + (1 : Int))))))
    (cond ((w64 (r_37.1.Level - (1 : Int))) == (3 : Int))
    (cond (decide ((w64 (r_37.1.Since + z_35.2.2.2.2.2.1)) < (w64 (i_15 + r_17.1))))
    (some (Ctl.ret false))
    ((screen_Cleared (⟨(⟨z_35.2.2.1, z_35.2.2.2.1, z_35.2.2.2.2.1, z_35.2.2.2.2.2.1⟩ : A4_Int), z_35.2.2.2.2.2.2.1, z_35.2.2.2.2.2.2.2.1⟩ : Screening)).bind fun r_59 =>
    (keep_In r_59 i_36).bind fun r_60 =>
    cond (!(r_60 == (r_38.1.State == (2 : Int))))
    (some (Ctl.ret false))
    (law15_ScreenOnlyVerdicts_L2 i_9 i_10 i_11 i_12 i_13 a_14 i_15 r_17 z_35 q_71 (w64 (i_36 + (1 : Int))))))
    (none))))))))
    ((screen_Cleared (⟨(⟨z_35.2.2.1, z_35.2.2.2.1, z_35.2.2.2.2.1, z_35.2.2.2.2.2.1⟩ : A4_Int), z_35.2.2.2.2.2.2.1, z_35.2.2.2.2.2.2.2.1⟩ : Screening)).bind fun r_61 =>
    (keep_In r_61 i_36).bind fun r_62 =>
    cond (!(r_62 == (r_38.1.State == (2 : Int))))
    (some (Ctl.ret false))
    (law15_ScreenOnlyVerdicts_L2 i_9 i_10 i_11 i_12 i_13 a_14 i_15 r_17 z_35 q_71 (w64 (i_36 + (1 : Int))))))
    ((screen_Cleared (⟨(⟨z_35.2.2.1, z_35.2.2.2.1, z_35.2.2.2.2.1, z_35.2.2.2.2.2.1⟩ : A4_Int), z_35.2.2.2.2.2.2.1, z_35.2.2.2.2.2.2.2.1⟩ : Screening)).bind fun r_63 =>
    (keep_In r_63 i_36).bind fun r_64 =>
    cond (!(r_64 == (r_38.1.State == (2 : Int))))
    (some (Ctl.ret false))
    (law15_ScreenOnlyVerdicts_L2 i_9 i_10 i_11 i_12 i_13 a_14 i_15 r_17 z_35 q_71 (w64 (i_36 + (1 : Int))))))
    ((screen_Cleared (⟨(⟨z_35.2.2.1, z_35.2.2.2.1, z_35.2.2.2.2.1, z_35.2.2.2.2.2.1⟩ : A4_Int), z_35.2.2.2.2.2.2.1, z_35.2.2.2.2.2.2.2.1⟩ : Screening)).bind fun r_65 =>
    (keep_In r_65 i_36).bind fun r_66 =>
    cond (!(r_66 == false))
    (some (Ctl.ret false))
    (law15_ScreenOnlyVerdicts_L2 i_9 i_10 i_11 i_12 i_13 a_14 i_15 r_17 z_35 q_71 (w64 (i_36 + (1 : Int))))))))
    (cond r_38.2
    (cond (r_38.1.State == (2 : Int))
    (some (Ctl.ret false))
    ((screen_Cleared (⟨(⟨z_35.2.2.1, z_35.2.2.2.1, z_35.2.2.2.2.1, z_35.2.2.2.2.2.1⟩ : A4_Int), z_35.2.2.2.2.2.2.1, z_35.2.2.2.2.2.2.2.1⟩ : Screening)).bind fun r_67 =>
    (keep_In r_67 i_36).bind fun r_68 =>
    cond (!(r_68 == (r_38.1.State == (2 : Int))))
    (some (Ctl.ret false))
    (law15_ScreenOnlyVerdicts_L2 i_9 i_10 i_11 i_12 i_13 a_14 i_15 r_17 z_35 q_71 (w64 (i_36 + (1 : Int))))))
    ((screen_Cleared (⟨(⟨z_35.2.2.1, z_35.2.2.2.1, z_35.2.2.2.2.1, z_35.2.2.2.2.2.1⟩ : A4_Int), z_35.2.2.2.2.2.2.1, z_35.2.2.2.2.2.2.2.1⟩ : Screening)).bind fun r_69 =>
    (keep_In r_69 i_36).bind fun r_70 =>
    cond (!(r_70 == false))
    (some (Ctl.ret false))
    (law15_ScreenOnlyVerdicts_L2 i_9 i_10 i_11 i_12 i_13 a_14 i_15 r_17 z_35 q_71 (w64 (i_36 + (1 : Int)))))))
    (some (Ctl.brk ()))
def law15_ScreenOnlyVerdicts_L1 : Nat → (List Int) → Int → Int → Int → Int → Int → Int → (List Check) → Int → Int → Option (Ctl (Bool) (Unit))
  | 0, _, _, _, _, _, _, _, _, _, _ => none
  | q_130 + 1, a_7, i_8, i_9, i_10, i_11, i_12, i_13, a_14, i_15, i_16 => cond (decide (i_16 < (30 : Int)))
    (cond (decide (i_16 < (4 : Int)))
    ((keep_Src_N (⟨a_7, i_8⟩ : Src) (4 : Int)).bind fun r_17 =>
    (keep_Src_N r_17.2 (4 : Int)).bind fun r_18 =>
    Ctl.sub (cond (r_18.1 == (0 : Int))
    ((keep_Src_Range r_18.2 (1 : Int) (5 : Int)).bind fun r_19 =>
    (screen_Start (⟨(⟨i_9, i_10, i_11, i_12⟩ : A4_Int), i_13, a_14⟩ : Screening) r_19.1 (w64 (i_15 + r_17.1))).bind fun r_20 =>
    cond (r_20.2 == (0 : Int))
    (some (Ctl.brk (r_19.2.L, r_19.2.At, r_20.1.Limits.e0, r_20.1.Limits.e1, r_20.1.Limits.e2, r_20.1.Limits.e3, r_20.1.Next, r_20.1.L, (0 : Int), false)))
    (some (Ctl.brk (r_19.2.L, r_19.2.At, i_9, i_10, i_11, i_12, i_13, a_14, (0 : Int), false))))
    (cond (r_18.1 == (1 : Int))
    ((screen_Expire (⟨(⟨i_9, i_10, i_11, i_12⟩ : A4_Int), i_13, a_14⟩ : Screening) (w64 (i_15 + r_17.1))).bind fun r_21 =>
    cond (r_21.2 != (0 : Int))
    (some (Ctl.ret false))
    (some (Ctl.brk (r_18.2.L, r_18.2.At, r_21.1.Limits.e0, r_21.1.Limits.e1, r_21.1.Limits.e2, r_21.1.Limits.e3, r_21.1.Next, r_21.1.L, (0 : Int), false))))
    ((keep_Src_N r_18.2 (12 : Int)).bind fun r_22 =>
    (keep_Src_N r_22.2 (2 : Int)).bind fun r_23 =>
    (screen_Verdict (⟨(⟨i_9, i_10, i_11, i_12⟩ : A4_Int), i_13, a_14⟩ : Screening) r_22.1 (r_23.1 == (0 : Int)) (w64 (i_15 + r_17.1))).bind fun r_24 =>
    cond (r_24.2.2 == (0 : Int))
    (some (Ctl.brk (r_23.2.L, r_23.2.At, r_24.1.Limits.e0, r_24.1.Limits.e1, r_24.1.Limits.e2, r_24.1.Limits.e3, r_24.1.Next, r_24.1.L, r_22.1, (r_23.1 == (0 : Int)))))
    (some (Ctl.brk (r_23.2.L, r_23.2.At, i_9, i_10, i_11, i_12, i_13, a_14, r_22.1, (r_23.1 == (0 : Int)))))))) fun (z_35 : (List Int) × Int × Int × Int × Int × Int × Int × (List Check) × Int × Bool) =>
    Ctl.sub (law15_ScreenOnlyVerdicts_L2 i_9 i_10 i_11 i_12 i_13 a_14 i_15 r_17 z_35 9223372036854775807 (1 : Int)) fun z_72 =>
    law15_ScreenOnlyVerdicts_L1 q_130 z_35.1 z_35.2.1 z_35.2.2.1 z_35.2.2.2.1 z_35.2.2.2.2.1 z_35.2.2.2.2.2.1 z_35.2.2.2.2.2.2.1 z_35.2.2.2.2.2.2.2.1 (w64 (i_15 + r_17.1)) (w64 (i_16 + (1 : Int))))
    ((keep_Src_More (⟨a_7, i_8⟩ : Src)).bind fun r_73 =>
    cond r_73
    ((keep_Src_N (⟨a_7, i_8⟩ : Src) (4 : Int)).bind fun r_74 =>
    (keep_Src_N r_74.2 (4 : Int)).bind fun r_75 =>
    Ctl.sub (cond (r_75.1 == (0 : Int))
    ((keep_Src_Range r_75.2 (1 : Int) (5 : Int)).bind fun r_76 =>
    (screen_Start (⟨(⟨i_9, i_10, i_11, i_12⟩ : A4_Int), i_13, a_14⟩ : Screening) r_76.1 (w64 (i_15 + r_74.1))).bind fun r_77 =>
    cond (r_77.2 == (0 : Int))
    (some (Ctl.brk (r_76.2.L, r_76.2.At, r_77.1.Limits.e0, r_77.1.Limits.e1, r_77.1.Limits.e2, r_77.1.Limits.e3, r_77.1.Next, r_77.1.L, (0 : Int), false)))
    (some (Ctl.brk (r_76.2.L, r_76.2.At, i_9, i_10, i_11, i_12, i_13, a_14, (0 : Int), false))))
    (cond (r_75.1 == (1 : Int))
    ((screen_Expire (⟨(⟨i_9, i_10, i_11, i_12⟩ : A4_Int), i_13, a_14⟩ : Screening) (w64 (i_15 + r_74.1))).bind fun r_78 =>
    cond (r_78.2 != (0 : Int))
    (some (Ctl.ret false))
    (some (Ctl.brk (r_75.2.L, r_75.2.At, r_78.1.Limits.e0, r_78.1.Limits.e1, r_78.1.Limits.e2, r_78.1.Limits.e3, r_78.1.Next, r_78.1.L, (0 : Int), false))))
    ((keep_Src_N r_75.2 (12 : Int)).bind fun r_79 =>
    (keep_Src_N r_79.2 (2 : Int)).bind fun r_80 =>
    (screen_Verdict (⟨(⟨i_9, i_10, i_11, i_12⟩ : A4_Int), i_13, a_14⟩ : Screening) r_79.1 (r_80.1 == (0 : Int)) (w64 (i_15 + r_74.1))).bind fun r_81 =>
    cond (r_81.2.2 == (0 : Int))
    (some (Ctl.brk (r_80.2.L, r_80.2.At, r_81.1.Limits.e0, r_81.1.Limits.e1, r_81.1.Limits.e2, r_81.1.Limits.e3, r_81.1.Next, r_81.1.L, r_79.1, (r_80.1 == (0 : Int)))))
    (some (Ctl.brk (r_80.2.L, r_80.2.At, i_9, i_10, i_11, i_12, i_13, a_14, r_79.1, (r_80.1 == (0 : Int)))))))) fun (z_92 : (List Int) × Int × Int × Int × Int × Int × Int × (List Check) × Int × Bool) =>
    Ctl.sub (law15_ScreenOnlyVerdicts_L2 i_9 i_10 i_11 i_12 i_13 a_14 i_15 r_74 z_92 9223372036854775807 (1 : Int)) fun z_129 =>
    law15_ScreenOnlyVerdicts_L1 q_130 z_92.1 z_92.2.1 z_92.2.2.1 z_92.2.2.2.1 z_92.2.2.2.2.1 z_92.2.2.2.2.2.1 z_92.2.2.2.2.2.2.1 z_92.2.2.2.2.2.2.2.1 (w64 (i_15 + r_74.1)) (w64 (i_16 + (1 : Int))))
    (some (Ctl.brk ()))))
    (some (Ctl.brk ()))
def law15_ScreenOnlyVerdicts (x_0 : (List Int)) : Option (Bool) :=
  (keep_New x_0).bind fun r_1 =>
    (keep_Src_N r_1 (5 : Int)).bind fun r_2 =>
    (keep_Src_N r_2.2 (5 : Int)).bind fun r_3 =>
    (keep_Src_N r_3.2 (5 : Int)).bind fun r_4 =>
    (keep_Src_N r_4.2 (5 : Int)).bind fun r_5 =>
    (screen_New (⟨r_2.1, r_3.1, r_4.1, r_5.1⟩ : A4_Int)).bind fun r_6 =>
    cond (r_6.2 != (0 : Int))
    (some false)
    (Ctl.fin (law15_ScreenOnlyVerdicts_L1 9223372036854775807 r_5.2.L r_5.2.At r_6.1.Limits.e0 r_6.1.Limits.e1 r_6.1.Limits.e2 r_6.1.Limits.e3 r_6.1.Next r_6.1.L (0 : Int) (0 : Int)) fun z_131 =>
    (law15_awake).bind fun r_132 =>
    some r_132)

def law15_ScreenBound_L1 (r_1 : Int) (r_2 : Int) (r_3 : Int) (r_4 : Int) (r_5 : Int) (r_6 : Int) : Nat → Int → Int → Int → Int → Int → (List Check) → Int → Option (Ctl (Bool) (Int × Int × Int × Int × Int × (List Check)))
  | 0, _, _, _, _, _, _, _ => none
  | q_18 + 1, i_9, i_10, i_11, i_12, i_13, a_14, i_15 => cond (decide (i_15 ≤ (w64 ((w64 ((w64 ((w64 ((4 : Int) + r_1)) + r_2)) + r_3)) + r_4))))
    ((screen_Find (⟨(⟨i_9, i_10, i_11, i_12⟩ : A4_Int), i_13, a_14⟩ : Screening) (w64 ((1 : Int) + r_5))).bind fun r_16 =>
    cond (!r_16.2)
    (some (Ctl.ret false))
    (cond (r_16.1.State != (1 : Int))
    (some (Ctl.ret false))
    ((screen_Expire (⟨(⟨i_9, i_10, i_11, i_12⟩ : A4_Int), i_13, a_14⟩ : Screening) (w64 (r_6 + i_15))).bind fun r_17 =>
    cond (r_17.2 != (0 : Int))
    (some (Ctl.ret false))
    (law15_ScreenBound_L1 r_1 r_2 r_3 r_4 r_5 r_6 q_18 r_17.1.Limits.e0 r_17.1.Limits.e1 r_17.1.Limits.e2 r_17.1.Limits.e3 r_17.1.Next r_17.1.L (w64 (i_15 + (1 : Int)))))))
    (some (Ctl.brk (i_9, i_10, i_11, i_12, i_13, a_14)))
def law15_ScreenBound (x_0 : Int) (x_1 : Int) (x_2 : Int) (x_3 : Int) (x_4 : Int) (x_5 : Int) : Option (Bool) :=
  (keep_Mod x_0 (12 : Int)).bind fun r_1 =>
    (keep_Mod x_1 (12 : Int)).bind fun r_2 =>
    (keep_Mod x_2 (12 : Int)).bind fun r_3 =>
    (keep_Mod x_3 (12 : Int)).bind fun r_4 =>
    (keep_Mod x_4 (40 : Int)).bind fun r_5 =>
    (keep_Mod x_5 (1000 : Int)).bind fun r_6 =>
    (screen_New (⟨r_1, r_2, r_3, r_4⟩ : A4_Int)).bind fun r_7 =>
    (screen_Start r_7.1 (w64 ((1 : Int) + r_5)) r_6).bind fun r_8 =>
    cond (r_7.2 != (0 : Int))
    (some false)
    (cond (r_8.2 != (0 : Int))
    (some false)
    (Ctl.fin (law15_ScreenBound_L1 r_1 r_2 r_3 r_4 r_5 r_6 9223372036854775807 r_8.1.Limits.e0 r_8.1.Limits.e1 r_8.1.Limits.e2 r_8.1.Limits.e3 r_8.1.Next r_8.1.L (0 : Int)) fun z_19 =>
    (screen_Find (⟨(⟨z_19.1, z_19.2.1, z_19.2.2.1, z_19.2.2.2.1⟩ : A4_Int), z_19.2.2.2.2.1, z_19.2.2.2.2.2⟩ : Screening) (w64 ((1 : Int) + r_5))).bind fun r_20 =>
    cond r_20.2
    (cond (r_20.1.State == (3 : Int))
    (cond (r_20.1.Level == (4 : Int))
    ((screen_Alarms (⟨(⟨z_19.1, z_19.2.1, z_19.2.2.1, z_19.2.2.2.1⟩ : A4_Int), z_19.2.2.2.2.1, z_19.2.2.2.2.2⟩ : Screening)).bind fun r_21 =>
    cond ((r_21.length : Int) == (0 : Int))
    ((law15_awake).bind fun r_22 =>
    some r_22)
    (some false))
    (some false))
    (some false))
    (some false)))

def law15_ScreenImages_L2 (r_18 : Screening × Int) : (List Check) → Nat → (List A2_Int) → Option (Ctl (Bool) ((List A2_Int)))
  | [], k_21, a_19 => some (Ctl.brk a_19)
  | e_22 :: q_31, k_21, a_19 => cond (decide (e_22.Image < (1 : Int)))
    (some (Ctl.ret false))
    (cond (decide (r_18.1.Next ≤ e_22.Image))
    (some (Ctl.ret false))
    (cond (decide ((80 : Int) ≤ e_22.Image))
    (some (Ctl.ret false))
    ((gdA 80 e_22.Image).bind fun u_23 =>
    (ixL a_19 e_22.Image).bind fun v_24 =>
    cond (!((v_24.e0 == (0 : Int)) && ((v_24.e1 == (0 : Int)) && true)))
    ((gdA 80 e_22.Image).bind fun u_25 =>
    (ixL a_19 e_22.Image).bind fun v_26 =>
    cond (!((v_26.e0 == e_22.Bag) && ((v_26.e1 == e_22.Level) && true)))
    (some (Ctl.ret false))
    ((gdA 80 e_22.Image).bind fun u_27 =>
    (ixL a_19 e_22.Image).bind fun v_28 =>
    law15_ScreenImages_L2 r_18 q_31 (k_21 + 1) (a_19.set e_22.Image.toNat (⟨e_22.Bag, e_22.Level⟩ : A2_Int))))
    ((gdA 80 e_22.Image).bind fun u_29 =>
    (ixL a_19 e_22.Image).bind fun v_30 =>
    law15_ScreenImages_L2 r_18 q_31 (k_21 + 1) (a_19.set e_22.Image.toNat (⟨e_22.Bag, e_22.Level⟩ : A2_Int))))))
def law15_ScreenImages_L3 (i_10 : Int) : (List Check) → Nat → (List A2_Int) → Option (Ctl (Bool) ((List A2_Int)))
  | [], k_35, a_33 => some (Ctl.brk a_33)
  | e_36 :: q_45, k_35, a_33 => cond (decide (e_36.Image < (1 : Int)))
    (some (Ctl.ret false))
    (cond (decide (i_10 ≤ e_36.Image))
    (some (Ctl.ret false))
    (cond (decide ((80 : Int) ≤ e_36.Image))
    (some (Ctl.ret false))
    ((gdA 80 e_36.Image).bind fun u_37 =>
    (ixL a_33 e_36.Image).bind fun v_38 =>
    cond (!((v_38.e0 == (0 : Int)) && ((v_38.e1 == (0 : Int)) && true)))
    ((gdA 80 e_36.Image).bind fun u_39 =>
    (ixL a_33 e_36.Image).bind fun v_40 =>
    cond (!((v_40.e0 == e_36.Bag) && ((v_40.e1 == e_36.Level) && true)))
    (some (Ctl.ret false))
    ((gdA 80 e_36.Image).bind fun u_41 =>
    (ixL a_33 e_36.Image).bind fun v_42 =>
    law15_ScreenImages_L3 i_10 q_45 (k_35 + 1) (a_33.set e_36.Image.toNat (⟨e_36.Bag, e_36.Level⟩ : A2_Int))))
    ((gdA 80 e_36.Image).bind fun u_43 =>
    (ixL a_33 e_36.Image).bind fun v_44 =>
    law15_ScreenImages_L3 i_10 q_45 (k_35 + 1) (a_33.set e_36.Image.toNat (⟨e_36.Bag, e_36.Level⟩ : A2_Int))))))
def law15_ScreenImages_L6 (r_78 : Screening × Int × Int) : (List Check) → Nat → (List A2_Int) → Option (Ctl (Bool) ((List A2_Int)))
  | [], k_81, a_79 => some (Ctl.brk a_79)
  | e_82 :: q_91, k_81, a_79 => cond (decide (e_82.Image < (1 : Int)))
    (some (Ctl.ret false))
    (cond (decide (r_78.1.Next ≤ e_82.Image))
    (some (Ctl.ret false))
    (cond (decide ((80 : Int) ≤ e_82.Image))
    (some (Ctl.ret false))
    ((gdA 80 e_82.Image).bind fun u_83 =>
    (ixL a_79 e_82.Image).bind fun v_84 =>
    cond (!((v_84.e0 == (0 : Int)) && ((v_84.e1 == (0 : Int)) && true)))
    ((gdA 80 e_82.Image).bind fun u_85 =>
    (ixL a_79 e_82.Image).bind fun v_86 =>
    cond (!((v_86.e0 == e_82.Bag) && ((v_86.e1 == e_82.Level) && true)))
    (some (Ctl.ret false))
    ((gdA 80 e_82.Image).bind fun u_87 =>
    (ixL a_79 e_82.Image).bind fun v_88 =>
    law15_ScreenImages_L6 r_78 q_91 (k_81 + 1) (a_79.set e_82.Image.toNat (⟨e_82.Bag, e_82.Level⟩ : A2_Int))))
    ((gdA 80 e_82.Image).bind fun u_89 =>
    (ixL a_79 e_82.Image).bind fun v_90 =>
    law15_ScreenImages_L6 r_78 q_91 (k_81 + 1) (a_79.set e_82.Image.toNat (⟨e_82.Bag, e_82.Level⟩ : A2_Int))))))
def law15_ScreenImages_L1 : Nat → (List Int) → Int → Int → Int → Int → Int → Int → (List Check) → (List A2_Int) → Int → Int → Option (Ctl (Bool) (Unit))
  | 0, _, _, _, _, _, _, _, _, _, _, _ => none
  | q_200 + 1, a_4, i_5, i_6, i_7, i_8, i_9, i_10, a_11, a_12, i_13, i_14 => cond (decide (i_14 < (30 : Int)))
    (cond (decide (i_14 < (4 : Int)))
    ((keep_Src_N (⟨a_4, i_5⟩ : Src) (3 : Int)).bind fun r_15 =>
    (keep_Src_N r_15.2 (3 : Int)).bind fun r_16 =>
    cond (r_16.1 == (0 : Int))
    ((keep_Src_Range r_16.2 (1 : Int) (6 : Int)).bind fun r_17 =>
    (screen_Start (⟨(⟨i_6, i_7, i_8, i_9⟩ : A4_Int), i_10, a_11⟩ : Screening) r_17.1 (w64 (i_13 + r_15.1))).bind fun r_18 =>
    cond (r_18.2 == (0 : Int))
    (Ctl.sub (law15_ScreenImages_L2 r_18 r_18.1.L 0 a_12) fun z_32 =>
    law15_ScreenImages_L1 q_200 r_17.2.L r_17.2.At r_18.1.Limits.e0 r_18.1.Limits.e1 r_18.1.Limits.e2 r_18.1.Limits.e3 r_18.1.Next r_18.1.L z_32 (w64 (i_13 + r_15.1)) (w64 (i_14 + (1 : Int))))
    (Ctl.sub (law15_ScreenImages_L3 i_10 a_11 0 a_12) fun z_46 =>
    law15_ScreenImages_L1 q_200 r_17.2.L r_17.2.At i_6 i_7 i_8 i_9 i_10 a_11 z_46 (w64 (i_13 + r_15.1)) (w64 (i_14 + (1 : Int)))))
    (cond (r_16.1 == (1 : Int))
    ((screen_Expire (⟨(⟨i_6, i_7, i_8, i_9⟩ : A4_Int), i_10, a_11⟩ : Screening) (w64 (i_13 + r_15.1))).bind fun r_47 =>
    cond (r_47.2 == (0 : Int))
    (Ctl.sub (law15_ScreenImages_L2 r_47 r_47.1.L 0 a_12) fun z_61 =>
    law15_ScreenImages_L1 q_200 r_16.2.L r_16.2.At r_47.1.Limits.e0 r_47.1.Limits.e1 r_47.1.Limits.e2 r_47.1.Limits.e3 r_47.1.Next r_47.1.L z_61 (w64 (i_13 + r_15.1)) (w64 (i_14 + (1 : Int))))
    (Ctl.sub (law15_ScreenImages_L3 i_10 a_11 0 a_12) fun z_75 =>
    law15_ScreenImages_L1 q_200 r_16.2.L r_16.2.At i_6 i_7 i_8 i_9 i_10 a_11 z_75 (w64 (i_13 + r_15.1)) (w64 (i_14 + (1 : Int)))))
    ((keep_Src_Range r_16.2 (1 : Int) (20 : Int)).bind fun r_76 =>
    (keep_Src_N r_76.2 (3 : Int)).bind fun r_77 =>
    (screen_Verdict (⟨(⟨i_6, i_7, i_8, i_9⟩ : A4_Int), i_10, a_11⟩ : Screening) r_76.1 (r_77.1 == (0 : Int)) (w64 (i_13 + r_15.1))).bind fun r_78 =>
    cond (r_78.2.2 == (0 : Int))
    (Ctl.sub (law15_ScreenImages_L6 r_78 r_78.1.L 0 a_12) fun z_92 =>
    law15_ScreenImages_L1 q_200 r_77.2.L r_77.2.At r_78.1.Limits.e0 r_78.1.Limits.e1 r_78.1.Limits.e2 r_78.1.Limits.e3 r_78.1.Next r_78.1.L z_92 (w64 (i_13 + r_15.1)) (w64 (i_14 + (1 : Int))))
    (Ctl.sub (law15_ScreenImages_L3 i_10 a_11 0 a_12) fun z_106 =>
    law15_ScreenImages_L1 q_200 r_77.2.L r_77.2.At i_6 i_7 i_8 i_9 i_10 a_11 z_106 (w64 (i_13 + r_15.1)) (w64 (i_14 + (1 : Int)))))))
    ((keep_Src_More (⟨a_4, i_5⟩ : Src)).bind fun r_107 =>
    cond r_107
    ((keep_Src_N (⟨a_4, i_5⟩ : Src) (3 : Int)).bind fun r_108 =>
    (keep_Src_N r_108.2 (3 : Int)).bind fun r_109 =>
    cond (r_109.1 == (0 : Int))
    ((keep_Src_Range r_109.2 (1 : Int) (6 : Int)).bind fun r_110 =>
    (screen_Start (⟨(⟨i_6, i_7, i_8, i_9⟩ : A4_Int), i_10, a_11⟩ : Screening) r_110.1 (w64 (i_13 + r_108.1))).bind fun r_111 =>
    cond (r_111.2 == (0 : Int))
    (Ctl.sub (law15_ScreenImages_L2 r_111 r_111.1.L 0 a_12) fun z_125 =>
    law15_ScreenImages_L1 q_200 r_110.2.L r_110.2.At r_111.1.Limits.e0 r_111.1.Limits.e1 r_111.1.Limits.e2 r_111.1.Limits.e3 r_111.1.Next r_111.1.L z_125 (w64 (i_13 + r_108.1)) (w64 (i_14 + (1 : Int))))
    (Ctl.sub (law15_ScreenImages_L3 i_10 a_11 0 a_12) fun z_139 =>
    law15_ScreenImages_L1 q_200 r_110.2.L r_110.2.At i_6 i_7 i_8 i_9 i_10 a_11 z_139 (w64 (i_13 + r_108.1)) (w64 (i_14 + (1 : Int)))))
    (cond (r_109.1 == (1 : Int))
    ((screen_Expire (⟨(⟨i_6, i_7, i_8, i_9⟩ : A4_Int), i_10, a_11⟩ : Screening) (w64 (i_13 + r_108.1))).bind fun r_140 =>
    cond (r_140.2 == (0 : Int))
    (Ctl.sub (law15_ScreenImages_L2 r_140 r_140.1.L 0 a_12) fun z_154 =>
    law15_ScreenImages_L1 q_200 r_109.2.L r_109.2.At r_140.1.Limits.e0 r_140.1.Limits.e1 r_140.1.Limits.e2 r_140.1.Limits.e3 r_140.1.Next r_140.1.L z_154 (w64 (i_13 + r_108.1)) (w64 (i_14 + (1 : Int))))
    (Ctl.sub (law15_ScreenImages_L3 i_10 a_11 0 a_12) fun z_168 =>
    law15_ScreenImages_L1 q_200 r_109.2.L r_109.2.At i_6 i_7 i_8 i_9 i_10 a_11 z_168 (w64 (i_13 + r_108.1)) (w64 (i_14 + (1 : Int)))))
    ((keep_Src_Range r_109.2 (1 : Int) (20 : Int)).bind fun r_169 =>
    (keep_Src_N r_169.2 (3 : Int)).bind fun r_170 =>
    (screen_Verdict (⟨(⟨i_6, i_7, i_8, i_9⟩ : A4_Int), i_10, a_11⟩ : Screening) r_169.1 (r_170.1 == (0 : Int)) (w64 (i_13 + r_108.1))).bind fun r_171 =>
    cond (r_171.2.2 == (0 : Int))
    (Ctl.sub (law15_ScreenImages_L6 r_171 r_171.1.L 0 a_12) fun z_185 =>
    law15_ScreenImages_L1 q_200 r_170.2.L r_170.2.At r_171.1.Limits.e0 r_171.1.Limits.e1 r_171.1.Limits.e2 r_171.1.Limits.e3 r_171.1.Next r_171.1.L z_185 (w64 (i_13 + r_108.1)) (w64 (i_14 + (1 : Int))))
    (Ctl.sub (law15_ScreenImages_L3 i_10 a_11 0 a_12) fun z_199 =>
    law15_ScreenImages_L1 q_200 r_170.2.L r_170.2.At i_6 i_7 i_8 i_9 i_10 a_11 z_199 (w64 (i_13 + r_108.1)) (w64 (i_14 + (1 : Int)))))))
    (some (Ctl.brk ()))))
    (some (Ctl.brk ()))
def law15_ScreenImages (x_0 : (List Int)) : Option (Bool) :=
  (keep_New x_0).bind fun r_1 =>
    (screen_New (⟨(1 : Int), (1 : Int), (1 : Int), (1 : Int)⟩ : A4_Int)).bind fun r_2 =>
    cond (r_2.2 != (0 : Int))
    (some false)
    ((alL 80 (⟨(0 : Int), (0 : Int)⟩ : A2_Int)).bind fun l_3 =>
    Ctl.fin (law15_ScreenImages_L1 9223372036854775807 r_1.L r_1.At r_2.1.Limits.e0 r_2.1.Limits.e1 r_2.1.Limits.e2 r_2.1.Limits.e3 r_2.1.Next r_2.1.L l_3 (0 : Int) (0 : Int)) fun z_201 =>
    (law15_awake).bind fun r_202 =>
    some r_202)
end Go.Proofs.Ytidhgcgbdjjdlaa.Ex
