/- What the functions of the program compute; printed by a program from their code. -/
import Derived.Test.YtajmhegkkbnkcaaExT
import Derived.Test.YtajmhegkkbnkcaaUniD
namespace Go.Proofs.Ytajmhegkkbnkcaa.Ex
open Go.RowKit Go.Proofs.Ytajmhegkkbnkcaa.Ax
set_option linter.unusedVariables false
set_option linter.unusedSimpArgs false
def keep_New (x_0 : (List Int)) : Option (Src) :=
  cond (decide ((2000 : Int) < (x_0.length : Int)))
    ((slL x_0 0 (2000 : Int)).bind fun l_1 =>
    some (⟨l_1, (0 : Int)⟩ : Src))
    (some (⟨x_0, (0 : Int)⟩ : Src))

def keep_Src_Raw (x_0 : Src) : Option (Int × Src) :=
  cond (decide ((x_0.L.length : Int) ≤ x_0.At))
    (some ((0 : Int), x_0))
    ((ixL x_0.L (w64 ((w64 (x_0.At + (1 : Int))) - (1 : Int)))).bind fun e_1 =>
    some (e_1, (⟨x_0.L, (w64 (x_0.At + (1 : Int)))⟩ : Src)))

def keep_Mod (x_0 : Int) (x_1 : Int) : Option (Int) :=
  cond (decide (x_1 < (1 : Int)))
    (some (0 : Int))
    ((nz x_1).bind fun u_1 =>
    cond (decide ((x_0.tmod x_1) < (0 : Int)))
    (some (w64 ((x_0.tmod x_1) + x_1)))
    (some (x_0.tmod x_1)))

def keep_Src_N (x_0 : Src) (x_1 : Int) : Option (Int × Src) :=
  (keep_Src_Raw x_0).bind fun r_1 =>
    (keep_Mod r_1.1 x_1).bind fun r_2 =>
    some (r_2, r_1.2)

def keep_Flights (x_0 : Int) : Option (Flight) :=
  (keep_Mod x_0 (27 : Int)).bind fun r_1 =>
    (ixL ([(⟨#[66, 65]⟩ : ByteArray), (⟨#[76, 72]⟩ : ByteArray), (⟨#[83, 75]⟩ : ByteArray)] : List ByteArray) (w64 (r_1.tdiv (9 : Int)))).bind fun e_2 =>
    some (⟨e_2, (w64 ((1 : Int) + ((w64 (r_1.tdiv (3 : Int))).tmod (3 : Int)))), (⟨#[]⟩ : ByteArray), (w64 ((1 : Int) + (r_1.tmod (3 : Int))))⟩ : Flight)

def keep_Src_List_L1 (e_3 : Int) : Nat → (List Int) → Int → Option (Ctl (Message × Src) ((List Int)))
  | 0, _, _ => none
  | q_8 + 1, a_4, i_5 => cond (decide (i_5 < (12 : Int)))
    ((ng i_5).bind fun u_6 =>
    cond ((andF .i64 (shrF .i64 e_3 i_5) (1 : Int)) == (1 : Int))
    ((apL a_4 ([(w64 (i_5 + (1 : Int)))] : List Int)).bind fun l_7 =>
    keep_Src_List_L1 e_3 q_8 l_7 (w64 (i_5 + (1 : Int))))
    (keep_Src_List_L1 e_3 q_8 a_4 (w64 (i_5 + (1 : Int)))))
    (some (Ctl.brk a_4))
def keep_Src_List (x_0 : Src) : Option (Message × Src) :=
  (keep_Src_N x_0 (3 : Int)).bind fun r_1 =>
    (keep_Src_N r_1.2 (6 : Int)).bind fun r_2 =>
    (ixL ([(2741 : Int), (63 : Int), (4095 : Int), (1 : Int), (0 : Int), (1365 : Int), (2730 : Int), (3120 : Int)] : List Int) ((w64 ((w64 ((3 : Int) * r_1.1)) + (w64 ((5 : Int) * (w64 ((1 : Int) + r_2.1)))))).tmod (8 : Int))).bind fun e_3 =>
    Ctl.fin (keep_Src_List_L1 e_3 9223372036854775807 ([] : List Int) (0 : Int)) fun z_9 =>
    (keep_Flights r_1.1).bind fun r_10 =>
    some ((⟨(5 : Int), (0 : Int), (⟨#[67, 80, 72]⟩ : ByteArray), (w64 ((1 : Int) + r_2.1)), (⟨(⟨(⟨#[]⟩ : ByteArray), (0 : Int), (⟨#[]⟩ : ByteArray), (0 : Int)⟩ : Flight), (⟨#[]⟩ : ByteArray), (⟨#[]⟩ : ByteArray)⟩ : Leg), (⟨r_10, (⟨#[76, 72, 82]⟩ : ByteArray), (⟨#[89]⟩ : ByteArray)⟩ : Leg), ([] : (List Leg)), (⟨(0 : Int), (0 : Int), (0 : Int)⟩ : Plate), (0 : Int), false, (0 : Int), (0 : Int), (0 : Int), (⟨#[]⟩ : ByteArray), (⟨#[]⟩ : ByteArray), (0 : Int), (⟨#[]⟩ : ByteArray), z_9⟩ : Message), r_2.2)

def fields_Letter (x_0 : Int) : Option (Bool) :=
  cond (decide ((65 : Int) ≤ x_0))
    (some (decide (x_0 ≤ (90 : Int))))
    (some false)

def fields_Digit (x_0 : Int) : Option (Bool) :=
  cond (decide ((48 : Int) ≤ x_0))
    (some (decide (x_0 ≤ (57 : Int))))
    (some false)

def flight_carrier_L1 (x_0 : ByteArray) : Nat → Int → Int → Option (Ctl (Bool) (Int))
  | 0, _, _ => none
  | q_7 + 1, i_1, i_2 => cond (decide (i_2 < (x_0.size : Int)))
    ((ixS x_0 i_2).bind fun b_3 =>
    (fields_Letter b_3).bind fun r_4 =>
    cond r_4
    (flight_carrier_L1 x_0 q_7 (w64 (i_1 + (1 : Int))) (w64 (i_2 + (1 : Int))))
    ((ixS x_0 i_2).bind fun b_5 =>
    (fields_Digit b_5).bind fun r_6 =>
    cond (!r_6)
    (some (Ctl.ret false))
    (flight_carrier_L1 x_0 q_7 i_1 (w64 (i_2 + (1 : Int))))))
    (some (Ctl.brk i_1))
def flight_carrier (x_0 : ByteArray) : Option (Bool) :=
  cond ((x_0.size : Int) != (2 : Int))
    (some false)
    (Ctl.fin (flight_carrier_L1 x_0 9223372036854775807 (0 : Int) (0 : Int)) fun z_8 =>
    some (decide ((0 : Int) < z_8)))

def fields_All_L1 (x_0 : ByteArray) : Nat → Int → Option (Ctl (Bool) (Unit))
  | 0, _ => none
  | q_4 + 1, i_1 => cond (decide (i_1 < (x_0.size : Int)))
    ((ixS x_0 i_1).bind fun b_2 =>
    (fields_Letter b_2).bind fun r_3 =>
    cond (!r_3)
    (some (Ctl.ret false))
    (fields_All_L1 x_0 q_4 (w64 (i_1 + (1 : Int)))))
    (some (Ctl.brk ()))
def fields_All (x_0 : ByteArray) : Option (Bool) :=
  Ctl.fin (fields_All_L1 x_0 9223372036854775807 (0 : Int)) fun z_5 =>
    some true

def fields_Letters (x_0 : ByteArray) (x_1 : Int) (x_2 : Int) : Option (Bool) :=
  cond (decide (x_1 ≤ (x_0.size : Int)))
    (cond (decide ((x_0.size : Int) ≤ x_2))
    ((fields_All x_0).bind fun r_1 =>
    some r_1)
    (some false))
    (some false)

def flight_Valid (x_0 : Flight) : Option (Bool) :=
  (flight_carrier x_0.Carrier).bind fun r_1 =>
    cond r_1
    (cond (decide ((1 : Int) ≤ x_0.Number))
    (cond (decide (x_0.Number ≤ (9999 : Int)))
    ((fields_Letters x_0.Suffix (0 : Int) (1 : Int)).bind fun r_2 =>
    cond r_2
    (cond (decide ((0 : Int) ≤ x_0.Day))
    (some (decide (x_0.Day ≤ (99 : Int))))
    (some false))
    (some false))
    (some false))
    (some false))
    (some false)

def boarding_ascending_L1 (x_0 : (List Int)) : (List Int) → Nat → Option (Ctl (Bool) (Unit))
  | [], k_2 => some (Ctl.brk ())
  | e_3 :: q_5, k_2 => cond (decide (e_3 < (1 : Int)))
    (some (Ctl.ret false))
    (cond (decide ((999 : Int) < e_3))
    (some (Ctl.ret false))
    (cond (decide ((0 : Int) < (k_2 : Int)))
    ((ixL x_0 (w64 ((k_2 : Int) - (1 : Int)))).bind fun e_4 =>
    cond (decide (e_3 ≤ e_4))
    (some (Ctl.ret false))
    (boarding_ascending_L1 x_0 q_5 (k_2 + 1)))
    (boarding_ascending_L1 x_0 q_5 (k_2 + 1))))
def boarding_ascending (x_0 : (List Int)) : Option (Bool) :=
  Ctl.fin (boarding_ascending_L1 x_0 x_0 0) fun z_6 =>
    some true

def cmp_isNaN_int (x_0 : Int) : Option (Bool) :=
  some (x_0 != x_0)

def cmp_Less_int (x_0 : Int) (x_1 : Int) : Option (Bool) :=
  (cmp_isNaN_int x_0).bind fun r_1 =>
    cond r_1
    ((cmp_isNaN_int x_1).bind fun r_2 =>
    cond (!r_2)
    (some true)
    (some (decide (x_0 < x_1))))
    (some (decide (x_0 < x_1)))

def slices_isNaN_int (x_0 : Int) : Option (Bool) :=
  some (x_0 != x_0)

def slices_BinarySearch_int_L1 (x_0 : (List Int)) (x_1 : Int) : Nat → Int → Int → Option (Ctl (Int × Bool) (Int))
  | 0, _, _ => none
  | q_5 + 1, i_1, i_2 => cond (decide (i_1 < i_2))
    ((ixL x_0 (IntKind.i64.wrap (shrF .u64 (IntKind.u64.wrap (w64 (i_1 + i_2))) (1 : Int)))).bind fun e_3 =>
    (cmp_Less_int e_3 x_1).bind fun r_4 =>
    cond r_4
    (slices_BinarySearch_int_L1 x_0 x_1 q_5 (w64 ((IntKind.i64.wrap (shrF .u64 (IntKind.u64.wrap (w64 (i_1 + i_2))) (1 : Int))) + (1 : Int))) i_2)
    (slices_BinarySearch_int_L1 x_0 x_1 q_5 i_1 (IntKind.i64.wrap (shrF .u64 (IntKind.u64.wrap (w64 (i_1 + i_2))) (1 : Int)))))
    (some (Ctl.brk i_1))
def slices_BinarySearch_int (x_0 : (List Int)) (x_1 : Int) : Option (Int × Bool) :=
  Ctl.fin (slices_BinarySearch_int_L1 x_0 x_1 9223372036854775807 (0 : Int) (x_0.length : Int)) fun z_6 =>
    cond (decide (z_6 < (x_0.length : Int)))
    ((ixL x_0 z_6).bind fun e_7 =>
    cond (e_7 == x_1)
    (some (z_6, true))
    ((ixL x_0 z_6).bind fun e_8 =>
    (slices_isNaN_int e_8).bind fun r_9 =>
    cond r_9
    ((slices_isNaN_int x_1).bind fun r_10 =>
    some (z_6, r_10))
    (some (z_6, false))))
    (some (z_6, false))

def boarding_valid_L1 (x_0 : Manifest) : (List Int) → Nat → Option (Ctl (Bool) (Unit))
  | [], k_5 => some (Ctl.brk ())
  | e_6 :: q_8, k_5 => (slices_BinarySearch_int x_0.Ever e_6).bind fun r_7 =>
    cond (!r_7.2)
    (some (Ctl.ret false))
    (boarding_valid_L1 x_0 q_8 (k_5 + 1))
def boarding_valid (x_0 : Manifest) : Option (Bool) :=
  (flight_Valid x_0.Flight).bind fun r_1 =>
    cond (!r_1)
    (some false)
    (cond (decide (x_0.Version < (1 : Int)))
    (some false)
    (cond (decide ((9999 : Int) < x_0.Version))
    (some false)
    ((boarding_ascending x_0.Boarded).bind fun r_2 =>
    cond (!r_2)
    (some false)
    ((boarding_ascending x_0.Ever).bind fun r_3 =>
    cond (!r_3)
    (some false)
    (Ctl.fin (boarding_valid_L1 x_0 x_0.Boarded 0) fun z_9 =>
    some true)))))

def cmp_isNaN_string (x_0 : ByteArray) : Option (Bool) :=
  some (!(x_0.toList == x_0.toList))

def cmp_Compare_string (x_0 : ByteArray) (x_1 : ByteArray) : Option (Int) :=
  (cmp_isNaN_string x_0).bind fun r_1 =>
    (cmp_isNaN_string x_1).bind fun r_2 =>
    cond r_1
    (cond r_2
    (some (0 : Int))
    (some (-1 : Int)))
    (cond r_2
    (some (1 : Int))
    (cond (Op.bytesLess x_0.toList x_1.toList)
    (some (-1 : Int))
    (cond (!(Op.bytesLess x_0.toList x_1.toList || x_0.toList == x_1.toList))
    (some (1 : Int))
    (some (0 : Int)))))

def cmp_Compare_int (x_0 : Int) (x_1 : Int) : Option (Int) :=
  (cmp_isNaN_int x_0).bind fun r_1 =>
    (cmp_isNaN_int x_1).bind fun r_2 =>
    cond r_1
    (cond r_2
    (some (0 : Int))
    (some (-1 : Int)))
    (cond r_2
    (some (1 : Int))
    (cond (decide (x_0 < x_1))
    (some (-1 : Int))
    (cond (decide (x_1 < x_0))
    (some (1 : Int))
    (some (0 : Int)))))

def cmp_Or_int_L1 : (List Int) → Nat → Option (Ctl (Int) (Unit))
  | [], k_2 => some (Ctl.brk ())
  | e_3 :: q_4, k_2 => cond (e_3 != (0 : Int))
    (some (Ctl.ret e_3))
    (cmp_Or_int_L1 q_4 (k_2 + 1))
def cmp_Or_int (x_0 : (List Int)) : Option (Int) :=
  Ctl.fin (cmp_Or_int_L1 x_0 0) fun z_5 =>
    some (0 : Int)

def flight_Compare (x_0 : Flight) (x_1 : Flight) : Option (Int) :=
  (cmp_Compare_string x_0.Carrier x_1.Carrier).bind fun r_1 =>
    (cmp_Compare_int x_0.Number x_1.Number).bind fun r_2 =>
    (cmp_Compare_string x_0.Suffix x_1.Suffix).bind fun r_3 =>
    (cmp_Compare_int x_0.Day x_1.Day).bind fun r_4 =>
    (cmp_Or_int ([r_1, r_2, r_3, r_4] : List Int)).bind fun r_5 =>
    some r_5

def boarding_Validate_L1 (x_0 : (List Manifest)) : (List Manifest) → Nat → Option (Ctl (Int) (Unit))
  | [], k_2 => some (Ctl.brk ())
  | e_3 :: q_7, k_2 => (boarding_valid e_3).bind fun r_4 =>
    cond (!r_4)
    (some (Ctl.ret (1 : Int)))
    (cond (decide ((0 : Int) < (k_2 : Int)))
    ((ixL x_0 (w64 ((k_2 : Int) - (1 : Int)))).bind fun e_5 =>
    (flight_Compare e_5.Flight e_3.Flight).bind fun r_6 =>
    cond (decide ((0 : Int) ≤ r_6))
    (some (Ctl.ret (9 : Int)))
    (boarding_Validate_L1 x_0 q_7 (k_2 + 1)))
    (boarding_Validate_L1 x_0 q_7 (k_2 + 1)))
def boarding_Validate (x_0 : (List Manifest)) : Option (Int) :=
  cond (decide ((24 : Int) < (x_0.length : Int)))
    (some (2 : Int))
    (Ctl.fin (boarding_Validate_L1 x_0 x_0 0) fun z_8 =>
    some (0 : Int))

def message_in (x_0 : Int) (x_1 : Int) (x_2 : Int) : Option (Bool) :=
  cond (decide (x_1 ≤ x_0))
    (some (decide (x_0 ≤ x_2)))
    (some false)

def message_own (x_0 : Message) : Option (Message) :=
  cond (x_0.Kind == (1 : Int))
    (some (⟨x_0.Kind, x_0.Do, x_0.Port, x_0.Number, (⟨(⟨(⟨#[]⟩ : ByteArray), (0 : Int), (⟨#[]⟩ : ByteArray), (0 : Int)⟩ : Flight), (⟨#[]⟩ : ByteArray), (⟨#[]⟩ : ByteArray)⟩ : Leg), x_0.Out, x_0.Onward, x_0.First, x_0.Count, x_0.Load, x_0.Status, x_0.Sequence, x_0.Weight, x_0.Surname, x_0.Given, x_0.Exception, (⟨#[]⟩ : ByteArray), ([] : (List Int))⟩ : Message))
    (cond (x_0.Kind == (2 : Int))
    (some (⟨x_0.Kind, x_0.Do, x_0.Port, x_0.Number, x_0.In, x_0.Out, x_0.Onward, x_0.First, x_0.Count, x_0.Load, x_0.Status, x_0.Sequence, x_0.Weight, x_0.Surname, x_0.Given, x_0.Exception, (⟨#[]⟩ : ByteArray), ([] : (List Int))⟩ : Message))
    (cond (x_0.Kind == (3 : Int))
    (some (⟨x_0.Kind, (0 : Int), x_0.Port, x_0.Number, (⟨(⟨(⟨#[]⟩ : ByteArray), (0 : Int), (⟨#[]⟩ : ByteArray), (0 : Int)⟩ : Flight), (⟨#[]⟩ : ByteArray), (⟨#[]⟩ : ByteArray)⟩ : Leg), (⟨(⟨(⟨#[]⟩ : ByteArray), (0 : Int), (⟨#[]⟩ : ByteArray), (0 : Int)⟩ : Flight), (⟨#[]⟩ : ByteArray), (⟨#[]⟩ : ByteArray)⟩ : Leg), ([] : (List Leg)), x_0.First, x_0.Count, false, (0 : Int), (0 : Int), (0 : Int), (⟨#[]⟩ : ByteArray), (⟨#[]⟩ : ByteArray), (0 : Int), x_0.Node, ([] : (List Int))⟩ : Message))
    (cond (x_0.Kind == (4 : Int))
    (some (⟨x_0.Kind, (0 : Int), x_0.Port, x_0.Number, (⟨(⟨(⟨#[]⟩ : ByteArray), (0 : Int), (⟨#[]⟩ : ByteArray), (0 : Int)⟩ : Flight), (⟨#[]⟩ : ByteArray), (⟨#[]⟩ : ByteArray)⟩ : Leg), x_0.Out, ([] : (List Leg)), x_0.First, x_0.Count, false, (0 : Int), (0 : Int), (0 : Int), (⟨#[]⟩ : ByteArray), (⟨#[]⟩ : ByteArray), (0 : Int), (⟨#[]⟩ : ByteArray), ([] : (List Int))⟩ : Message))
    (cond (x_0.Kind == (5 : Int))
    (some (⟨x_0.Kind, (0 : Int), x_0.Port, x_0.Number, (⟨(⟨(⟨#[]⟩ : ByteArray), (0 : Int), (⟨#[]⟩ : ByteArray), (0 : Int)⟩ : Flight), (⟨#[]⟩ : ByteArray), (⟨#[]⟩ : ByteArray)⟩ : Leg), x_0.Out, ([] : (List Leg)), (⟨(0 : Int), (0 : Int), (0 : Int)⟩ : Plate), (0 : Int), false, (0 : Int), (0 : Int), (0 : Int), (⟨#[]⟩ : ByteArray), (⟨#[]⟩ : ByteArray), (0 : Int), (⟨#[]⟩ : ByteArray), x_0.List⟩ : Message))
    (some (⟨x_0.Kind, (0 : Int), x_0.Port, x_0.Number, (⟨(⟨(⟨#[]⟩ : ByteArray), (0 : Int), (⟨#[]⟩ : ByteArray), (0 : Int)⟩ : Flight), (⟨#[]⟩ : ByteArray), (⟨#[]⟩ : ByteArray)⟩ : Leg), (⟨(⟨(⟨#[]⟩ : ByteArray), (0 : Int), (⟨#[]⟩ : ByteArray), (0 : Int)⟩ : Flight), (⟨#[]⟩ : ByteArray), (⟨#[]⟩ : ByteArray)⟩ : Leg), ([] : (List Leg)), (⟨(0 : Int), (0 : Int), (0 : Int)⟩ : Plate), (0 : Int), false, (0 : Int), (0 : Int), (0 : Int), (⟨#[]⟩ : ByteArray), (⟨#[]⟩ : ByteArray), (0 : Int), (⟨#[]⟩ : ByteArray), ([] : (List Int))⟩ : Message))))))

def slices_Equal_Leg_L1 (x_1 : (List Leg)) : (List Leg) → Nat → Option (Ctl (Bool) (Unit))
  | [], k_2 => some (Ctl.brk ())
  | e_3 :: q_5, k_2 => (ixL x_1 (k_2 : Int)).bind fun e_4 =>
    cond (!((e_3.Flight.Carrier.toList == e_4.Flight.Carrier.toList) && ((e_3.Flight.Number == e_4.Flight.Number) && ((e_3.Flight.Suffix.toList == e_4.Flight.Suffix.toList) && ((e_3.Flight.Day == e_4.Flight.Day) && ((e_3.Port.toList == e_4.Port.toList) && ((e_3.Class.toList == e_4.Class.toList) && true)))))))
    (some (Ctl.ret false))
    (slices_Equal_Leg_L1 x_1 q_5 (k_2 + 1))
def slices_Equal_Leg (x_0 : (List Leg)) (x_1 : (List Leg)) : Option (Bool) :=
  cond ((x_0.length : Int) != (x_1.length : Int))
    (some false)
    (Ctl.fin (slices_Equal_Leg_L1 x_1 x_0 0) fun z_6 =>
    some true)

def slices_Equal_int_L1 (x_1 : (List Int)) : (List Int) → Nat → Option (Ctl (Bool) (Unit))
  | [], k_2 => some (Ctl.brk ())
  | e_3 :: q_5, k_2 => (ixL x_1 (k_2 : Int)).bind fun e_4 =>
    cond (e_3 != e_4)
    (some (Ctl.ret false))
    (slices_Equal_int_L1 x_1 q_5 (k_2 + 1))
def slices_Equal_int (x_0 : (List Int)) (x_1 : (List Int)) : Option (Bool) :=
  cond ((x_0.length : Int) != (x_1.length : Int))
    (some false)
    (Ctl.fin (slices_Equal_int_L1 x_1 x_0 0) fun z_6 =>
    some true)

def message_Same (x_0 : Message) (x_1 : Message) : Option (Bool) :=
  cond (x_0.Kind == x_1.Kind)
    (cond (x_0.Do == x_1.Do)
    (cond (x_0.Port.toList == x_1.Port.toList)
    (cond (x_0.Number == x_1.Number)
    (cond ((x_0.In.Flight.Carrier.toList == x_1.In.Flight.Carrier.toList) && ((x_0.In.Flight.Number == x_1.In.Flight.Number) && ((x_0.In.Flight.Suffix.toList == x_1.In.Flight.Suffix.toList) && ((x_0.In.Flight.Day == x_1.In.Flight.Day) && ((x_0.In.Port.toList == x_1.In.Port.toList) && ((x_0.In.Class.toList == x_1.In.Class.toList) && true))))))
    (cond ((x_0.Out.Flight.Carrier.toList == x_1.Out.Flight.Carrier.toList) && ((x_0.Out.Flight.Number == x_1.Out.Flight.Number) && ((x_0.Out.Flight.Suffix.toList == x_1.Out.Flight.Suffix.toList) && ((x_0.Out.Flight.Day == x_1.Out.Flight.Day) && ((x_0.Out.Port.toList == x_1.Out.Port.toList) && ((x_0.Out.Class.toList == x_1.Out.Class.toList) && true))))))
    ((slices_Equal_Leg x_0.Onward x_1.Onward).bind fun r_1 =>
    cond r_1
    (cond ((x_0.First.Lead == x_1.First.Lead) && ((x_0.First.Airline == x_1.First.Airline) && ((x_0.First.Serial == x_1.First.Serial) && true)))
    (cond (x_0.Count == x_1.Count)
    (cond (x_0.Load == x_1.Load)
    (cond (x_0.Status == x_1.Status)
    (cond (x_0.Sequence == x_1.Sequence)
    (cond (x_0.Weight == x_1.Weight)
    (cond (x_0.Surname.toList == x_1.Surname.toList)
    (cond (x_0.Given.toList == x_1.Given.toList)
    (cond (x_0.Exception == x_1.Exception)
    (cond (x_0.Node.toList == x_1.Node.toList)
    ((slices_Equal_int x_0.List x_1.List).bind fun r_2 =>
    some r_2)
    (some false))
    (some false))
    (some false))
    (some false))
    (some false))
    (some false))
    (some false))
    (some false))
    (some false))
    (some false))
    (some false))
    (some false))
    (some false))
    (some false))
    (some false))
    (some false))
    (some false)

def flight_ValidPort (x_0 : ByteArray) : Option (Bool) :=
  (fields_Letters x_0 (3 : Int) (3 : Int)).bind fun r_1 =>
    some r_1

def flight_ValidLeg (x_0 : Leg) : Option (Bool) :=
  (flight_Valid x_0.Flight).bind fun r_1 =>
    cond r_1
    ((flight_ValidPort x_0.Port).bind fun r_2 =>
    cond r_2
    (cond (x_0.Class.toList == (⟨#[70]⟩ : ByteArray).toList)
    (some true)
    (cond (x_0.Class.toList == (⟨#[67]⟩ : ByteArray).toList)
    (some true)
    (some (x_0.Class.toList == (⟨#[89]⟩ : ByteArray).toList))))
    (some false))
    (some false)

def message_describes (x_0 : Int) : Option (Bool) :=
  cond (x_0 == (1 : Int))
    (some true)
    (some (x_0 == (2 : Int)))

def fields_Name_f1 (x_0 : Int) : Option (Bool) :=
  (fields_Letter x_0).bind fun r_1 =>
    cond r_1
    (some true)
    ((fields_Digit x_0).bind fun r_2 =>
    some r_2)

def fields_All_v2_L1 (x_0 : ByteArray) : Nat → Int → Option (Ctl (Bool) (Unit))
  | 0, _ => none
  | q_4 + 1, i_1 => cond (decide (i_1 < (x_0.size : Int)))
    ((ixS x_0 i_1).bind fun b_2 =>
    (fields_Name_f1 b_2).bind fun r_3 =>
    cond (!r_3)
    (some (Ctl.ret false))
    (fields_All_v2_L1 x_0 q_4 (w64 (i_1 + (1 : Int)))))
    (some (Ctl.brk ()))
def fields_All_v2 (x_0 : ByteArray) : Option (Bool) :=
  Ctl.fin (fields_All_v2_L1 x_0 9223372036854775807 (0 : Int)) fun z_5 =>
    some true

def fields_Name (x_0 : ByteArray) (x_1 : Int) : Option (Bool) :=
  cond (!(x_0.toList == (⟨#[]⟩ : ByteArray).toList))
    (cond (decide ((x_0.size : Int) ≤ x_1))
    ((ixS x_0 (0 : Int)).bind fun b_1 =>
    (fields_Letter b_1).bind fun r_2 =>
    cond r_2
    ((fields_All_v2 x_0).bind fun r_3 =>
    some r_3)
    (some false))
    (some false))
    (some false)

def message_shaped_L1 : (List Leg) → Nat → Option (Ctl (Bool) (Unit))
  | [], k_5 => some (Ctl.brk ())
  | e_6 :: q_8, k_5 => (flight_ValidLeg e_6).bind fun r_7 =>
    cond (!r_7)
    (some (Ctl.ret false))
    (message_shaped_L1 q_8 (k_5 + 1))
def message_shaped (x_0 : Message) : Option (Bool) :=
  (flight_ValidPort x_0.Port).bind fun r_1 =>
    cond (!r_1)
    (some false)
    (cond (x_0.Kind == (2 : Int))
    ((flight_ValidLeg x_0.In).bind fun r_2 =>
    cond (!r_2)
    (some false)
    (cond (x_0.Kind != (3 : Int))
    ((flight_ValidLeg x_0.Out).bind fun r_3 =>
    cond (!r_3)
    (some false)
    (Ctl.fin (message_shaped_L1 x_0.Onward 0) fun z_9 =>
    (message_describes x_0.Kind).bind fun r_10 =>
    cond r_10
    ((fields_Letters x_0.Surname (1 : Int) (20 : Int)).bind fun r_11 =>
    cond (!r_11)
    (some false)
    ((fields_Letters x_0.Given (0 : Int) (20 : Int)).bind fun r_12 =>
    cond (!r_12)
    (some false)
    (some true)))
    (some true)))
    (Ctl.fin (message_shaped_L1 x_0.Onward 0) fun z_18 =>
    (message_describes x_0.Kind).bind fun r_19 =>
    cond r_19
    ((fields_Letters x_0.Surname (1 : Int) (20 : Int)).bind fun r_20 =>
    cond (!r_20)
    (some false)
    ((fields_Letters x_0.Given (0 : Int) (20 : Int)).bind fun r_21 =>
    cond (!r_21)
    (some false)
    ((fields_Name x_0.Node (12 : Int)).bind fun r_22 =>
    some r_22)))
    ((fields_Name x_0.Node (12 : Int)).bind fun r_23 =>
    some r_23))))
    (cond (x_0.Kind != (3 : Int))
    ((flight_ValidLeg x_0.Out).bind fun r_24 =>
    cond (!r_24)
    (some false)
    (Ctl.fin (message_shaped_L1 x_0.Onward 0) fun z_30 =>
    (message_describes x_0.Kind).bind fun r_31 =>
    cond r_31
    ((fields_Letters x_0.Surname (1 : Int) (20 : Int)).bind fun r_32 =>
    cond (!r_32)
    (some false)
    ((fields_Letters x_0.Given (0 : Int) (20 : Int)).bind fun r_33 =>
    cond (!r_33)
    (some false)
    (some true)))
    (some true)))
    (Ctl.fin (message_shaped_L1 x_0.Onward 0) fun z_39 =>
    (message_describes x_0.Kind).bind fun r_40 =>
    cond r_40
    ((fields_Letters x_0.Surname (1 : Int) (20 : Int)).bind fun r_41 =>
    cond (!r_41)
    (some false)
    ((fields_Letters x_0.Given (0 : Int) (20 : Int)).bind fun r_42 =>
    cond (!r_42)
    (some false)
    ((fields_Name x_0.Node (12 : Int)).bind fun r_43 =>
    some r_43)))
    ((fields_Name x_0.Node (12 : Int)).bind fun r_44 =>
    some r_44))))

def plate_Valid (x_0 : Plate) : Option (Bool) :=
  cond (decide ((0 : Int) ≤ x_0.Lead))
    (cond (decide (x_0.Lead ≤ (9 : Int)))
    (cond (decide ((1 : Int) ≤ x_0.Airline))
    (cond (decide (x_0.Airline ≤ (999 : Int)))
    (cond (decide ((0 : Int) ≤ x_0.Serial))
    (some (decide (x_0.Serial < (1000000 : Int))))
    (some false))
    (some false))
    (some false))
    (some false))
    (some false)

def message_ranged_f1 (x_0 : Int) : Option (Bool) :=
  (message_in x_0 (1 : Int) (999 : Int)).bind fun r_1 =>
    some (!r_1)

def slices_IndexFunc_int_L1 : (List Int) → Nat → Option (Ctl (Int) (Unit))
  | [], k_2 => some (Ctl.brk ())
  | e_3 :: q_5, k_2 => (message_ranged_f1 e_3).bind fun r_4 =>
    cond r_4
    (some (Ctl.ret (k_2 : Int)))
    (slices_IndexFunc_int_L1 q_5 (k_2 + 1))
def slices_IndexFunc_int (x_0 : (List Int)) : Option (Int) :=
  Ctl.fin (slices_IndexFunc_int_L1 x_0 0) fun z_6 =>
    some (-1 : Int)

def slices_ContainsFunc_int (x_0 : (List Int)) : Option (Bool) :=
  (slices_IndexFunc_int x_0).bind fun r_1 =>
    some (decide ((0 : Int) ≤ r_1))

def message_ranged (x_0 : Message) : Option (Bool) :=
  (message_in x_0.Number (1 : Int) (9999 : Int)).bind fun r_1 =>
    cond (!r_1)
    (some false)
    ((message_in x_0.Do (0 : Int) (2 : Int)).bind fun r_2 =>
    cond (!r_2)
    (some false)
    ((message_in x_0.Weight (0 : Int) (999 : Int)).bind fun r_3 =>
    cond (!r_3)
    (some false)
    ((message_in x_0.Exception (0 : Int) (3 : Int)).bind fun r_4 =>
    cond (!r_4)
    (some false)
    (cond (x_0.Kind != (5 : Int))
    ((plate_Valid x_0.First).bind fun r_5 =>
    cond (!r_5)
    (some false)
    ((message_in x_0.Count (1 : Int) (99 : Int)).bind fun r_6 =>
    cond (!r_6)
    (some false)
    ((message_describes x_0.Kind).bind fun r_7 =>
    cond r_7
    ((message_in x_0.Status (1 : Int) (4 : Int)).bind fun r_8 =>
    cond (!r_8)
    (some false)
    ((message_in x_0.Sequence (1 : Int) (999 : Int)).bind fun r_9 =>
    cond (!r_9)
    (some false)
    ((slices_ContainsFunc_int x_0.List).bind fun r_10 =>
    some (!r_10))))
    ((slices_ContainsFunc_int x_0.List).bind fun r_11 =>
    some (!r_11)))))
    ((message_describes x_0.Kind).bind fun r_12 =>
    cond r_12
    ((message_in x_0.Status (1 : Int) (4 : Int)).bind fun r_13 =>
    cond (!r_13)
    (some false)
    ((message_in x_0.Sequence (1 : Int) (999 : Int)).bind fun r_14 =>
    cond (!r_14)
    (some false)
    ((slices_ContainsFunc_int x_0.List).bind fun r_15 =>
    some (!r_15))))
    ((slices_ContainsFunc_int x_0.List).bind fun r_16 =>
    some (!r_16)))))))

def message_Validate_L1 (x_0 : Message) : Nat → Int → Option (Ctl (Int) (Unit))
  | 0, _ => none
  | q_9 + 1, i_6 => cond (decide (i_6 < (x_0.List.length : Int)))
    ((ixL x_0.List (w64 (i_6 - (1 : Int)))).bind fun e_7 =>
    (ixL x_0.List i_6).bind fun e_8 =>
    cond (decide (e_8 ≤ e_7))
    (some (Ctl.ret (9 : Int)))
    (message_Validate_L1 x_0 q_9 (w64 (i_6 + (1 : Int)))))
    (some (Ctl.brk ()))
def message_Validate (x_0 : Message) : Option (Int) :=
  (message_in x_0.Kind (1 : Int) (5 : Int)).bind fun r_1 =>
    cond (!r_1)
    (some (4 : Int))
    ((message_own x_0).bind fun r_2 =>
    (message_Same x_0 r_2).bind fun r_3 =>
    cond (!r_3)
    (some (7 : Int))
    (cond (decide ((3 : Int) < (x_0.Onward.length : Int)))
    (some (2 : Int))
    (cond (decide ((40 : Int) < (x_0.List.length : Int)))
    (some (2 : Int))
    ((message_shaped x_0).bind fun r_4 =>
    cond (!r_4)
    (some (3 : Int))
    ((message_ranged x_0).bind fun r_5 =>
    cond (!r_5)
    (some (1 : Int))
    (Ctl.fin (message_Validate_L1 x_0 9223372036854775807 (1 : Int)) fun z_10 =>
    some (0 : Int)))))))

def slices_Clone_int (x_0 : (List Int)) : Option ((List Int)) :=
  apL [] x_0

def boarding_copied (x_0 : Manifest) : Option (Manifest) :=
  (slices_Clone_int x_0.Boarded).bind fun r_1 =>
    (slices_Clone_int x_0.Ever).bind fun r_2 =>
    some (⟨x_0.Flight, x_0.Version, r_1, r_2⟩ : Manifest)

def boarding_united (x_0 : (List Int)) (x_1 : (List Int)) : Option ((List Int)) :=
  unitedF x_0 x_1

def boarding_merged (x_0 : Manifest) (x_1 : Manifest) : Option (Manifest × Bool) :=
  cond (x_0.Version == x_1.Version)
    ((slices_Equal_int x_0.Boarded x_1.Boarded).bind fun r_1 =>
    cond (!r_1)
    (some ((⟨(⟨(⟨#[]⟩ : ByteArray), (0 : Int), (⟨#[]⟩ : ByteArray), (0 : Int)⟩ : Flight), (0 : Int), ([] : (List Int)), ([] : (List Int))⟩ : Manifest), false))
    (cond (decide (x_0.Version < x_1.Version))
    ((slices_Clone_int x_1.Boarded).bind fun r_2 =>
    (boarding_united x_0.Ever x_1.Ever).bind fun r_3 =>
    some ((⟨x_0.Flight, x_1.Version, r_2, r_3⟩ : Manifest), true))
    ((slices_Clone_int x_0.Boarded).bind fun r_4 =>
    (boarding_united x_0.Ever x_1.Ever).bind fun r_5 =>
    some ((⟨x_0.Flight, x_0.Version, r_4, r_5⟩ : Manifest), true))))
    (cond (decide (x_0.Version < x_1.Version))
    ((slices_Clone_int x_1.Boarded).bind fun r_6 =>
    (boarding_united x_0.Ever x_1.Ever).bind fun r_7 =>
    some ((⟨x_0.Flight, x_1.Version, r_6, r_7⟩ : Manifest), true))
    ((slices_Clone_int x_0.Boarded).bind fun r_8 =>
    (boarding_united x_0.Ever x_1.Ever).bind fun r_9 =>
    some ((⟨x_0.Flight, x_0.Version, r_8, r_9⟩ : Manifest), true)))

def boarding_joined_L1 : Nat → (List Manifest) → (List Manifest) → (List Manifest) → Option (Ctl ((List Manifest) × Int) ((List Manifest)))
  | 0, _, _, _ => none
  | q_29 + 1, a_1, a_3, a_2 => cond (decide ((0 : Int) < (a_1.length : Int)))
    (cond ((a_2.length : Int) == (0 : Int))
    ((ixL a_1 (0 : Int)).bind fun e_4 =>
    (boarding_copied e_4).bind fun r_5 =>
    (apL a_3 ([r_5] : List Manifest)).bind fun l_6 =>
    (slL a_1 (1 : Int) (a_1.length : Int)).bind fun l_7 =>
    boarding_joined_L1 q_29 l_7 l_6 a_2)
    ((ixL a_1 (0 : Int)).bind fun e_8 =>
    (ixL a_2 (0 : Int)).bind fun e_9 =>
    (flight_Compare e_8.Flight e_9.Flight).bind fun r_10 =>
    cond (r_10 == (-1 : Int))
    ((ixL a_1 (0 : Int)).bind fun e_11 =>
    (boarding_copied e_11).bind fun r_12 =>
    (apL a_3 ([r_12] : List Manifest)).bind fun l_13 =>
    (slL a_1 (1 : Int) (a_1.length : Int)).bind fun l_14 =>
    boarding_joined_L1 q_29 l_14 l_13 a_2)
    (cond (r_10 == (1 : Int))
    ((ixL a_2 (0 : Int)).bind fun e_15 =>
    (boarding_copied e_15).bind fun r_16 =>
    (apL a_3 ([r_16] : List Manifest)).bind fun l_17 =>
    (slL a_2 (1 : Int) (a_2.length : Int)).bind fun l_18 =>
    boarding_joined_L1 q_29 a_1 l_17 l_18)
    ((ixL a_1 (0 : Int)).bind fun e_19 =>
    (ixL a_2 (0 : Int)).bind fun e_20 =>
    (boarding_merged e_19 e_20).bind fun r_21 =>
    cond (!r_21.2)
    (some (Ctl.ret (([] : (List Manifest)), (5 : Int))))
    ((apL a_3 ([r_21.1] : List Manifest)).bind fun l_22 =>
    (slL a_1 (1 : Int) (a_1.length : Int)).bind fun l_23 =>
    (slL a_2 (1 : Int) (a_2.length : Int)).bind fun l_24 =>
    boarding_joined_L1 q_29 l_23 l_22 l_24)))))
    (cond (decide ((0 : Int) < (a_2.length : Int)))
    ((ixL a_2 (0 : Int)).bind fun e_25 =>
    (boarding_copied e_25).bind fun r_26 =>
    (apL a_3 ([r_26] : List Manifest)).bind fun l_27 =>
    (slL a_2 (1 : Int) (a_2.length : Int)).bind fun l_28 =>
    boarding_joined_L1 q_29 a_1 l_27 l_28)
    (some (Ctl.brk a_3)))
def boarding_joined (x_0 : (List Manifest)) (x_1 : (List Manifest)) : Option ((List Manifest) × Int) :=
  Ctl.fin (boarding_joined_L1 9223372036854775807 x_0 ([] : List Manifest) x_1) fun z_30 =>
    cond (decide ((24 : Int) < (z_30.length : Int)))
    (some (([] : (List Manifest)), (2 : Int)))
    (some (z_30, (0 : Int)))

def boarding_Apply (x_0 : (List Manifest)) (x_1 : Message) : Option ((List Manifest) × Int) :=
  (boarding_Validate x_0).bind fun r_1 =>
    cond (r_1 != (0 : Int))
    (some (([] : (List Manifest)), r_1))
    ((message_Validate x_1).bind fun r_2 =>
    cond (r_2 != (0 : Int))
    (some (([] : (List Manifest)), r_2))
    (cond (x_1.Kind != (5 : Int))
    (some (([] : (List Manifest)), (4 : Int)))
    ((boarding_joined x_0 ([(⟨x_1.Out.Flight, x_1.Number, x_1.List, x_1.List⟩ : Manifest)] : List Manifest)).bind fun r_3 =>
    some (r_3.1, r_3.2))))

def ref25_Same_L1 (x_1 : (List Int)) : (List Int) → Nat → Option (Ctl (Bool) (Unit))
  | [], k_2 => some (Ctl.brk ())
  | e_3 :: q_5, k_2 => (ixL x_1 (k_2 : Int)).bind fun e_4 =>
    cond (e_3 != e_4)
    (some (Ctl.ret false))
    (ref25_Same_L1 x_1 q_5 (k_2 + 1))
def ref25_Same (x_0 : (List Int)) (x_1 : (List Int)) : Option (Bool) :=
  cond ((x_0.length : Int) != (x_1.length : Int))
    (some false)
    (Ctl.fin (ref25_Same_L1 x_1 x_0 0) fun z_6 =>
    some true)

def ref25_SameAll_L1 (x_1 : (List Manifest)) : (List Manifest) → Nat → Option (Ctl (Bool) (Unit))
  | [], k_2 => some (Ctl.brk ())
  | e_3 :: q_10, k_2 => (ixL x_1 (k_2 : Int)).bind fun e_4 =>
    cond (!((e_3.Flight.Carrier.toList == e_4.Flight.Carrier.toList) && ((e_3.Flight.Number == e_4.Flight.Number) && ((e_3.Flight.Suffix.toList == e_4.Flight.Suffix.toList) && ((e_3.Flight.Day == e_4.Flight.Day) && true)))))
    (some (Ctl.ret false))
    ((ixL x_1 (k_2 : Int)).bind fun e_5 =>
    cond (e_3.Version != e_5.Version)
    (some (Ctl.ret false))
    ((ixL x_1 (k_2 : Int)).bind fun e_6 =>
    (ref25_Same e_3.Boarded e_6.Boarded).bind fun r_7 =>
    cond (!r_7)
    (some (Ctl.ret false))
    ((ixL x_1 (k_2 : Int)).bind fun e_8 =>
    (ref25_Same e_3.Ever e_8.Ever).bind fun r_9 =>
    cond (!r_9)
    (some (Ctl.ret false))
    (ref25_SameAll_L1 x_1 q_10 (k_2 + 1)))))
def ref25_SameAll (x_0 : (List Manifest)) (x_1 : (List Manifest)) : Option (Bool) :=
  cond ((x_0.length : Int) != (x_1.length : Int))
    (some false)
    (Ctl.fin (ref25_SameAll_L1 x_1 x_0 0) fun z_11 =>
    some true)

def ref02_Letter (x_0 : Int) : Option (Bool) :=
  cond (decide ((65 : Int) ≤ x_0))
    (some (decide (x_0 ≤ (90 : Int))))
    (some false)

def ref02_Digit (x_0 : Int) : Option (Bool) :=
  cond (decide ((48 : Int) ≤ x_0))
    (some (decide (x_0 ≤ (57 : Int))))
    (some false)

def ref02_Carrier (x_0 : ByteArray) : Option (Bool) :=
  cond ((x_0.size : Int) != (2 : Int))
    (some false)
    ((ixS x_0 (0 : Int)).bind fun b_1 =>
    (ref02_Letter b_1).bind fun r_2 =>
    (ixS x_0 (1 : Int)).bind fun b_3 =>
    (ref02_Letter b_3).bind fun r_4 =>
    cond r_2
    (cond r_4
    (some true)
    ((ixS x_0 (1 : Int)).bind fun b_5 =>
    (ref02_Digit b_5).bind fun r_6 =>
    cond r_6
    (some true)
    (some false)))
    ((ixS x_0 (0 : Int)).bind fun b_7 =>
    (ref02_Digit b_7).bind fun r_8 =>
    cond r_8
    (cond r_4
    (some r_4)
    ((ixS x_0 (1 : Int)).bind fun b_9 =>
    (ref02_Digit b_9).bind fun r_10 =>
    cond r_10
    (some r_4)
    (some false)))
    (some false)))

def ref02_Suffix (x_0 : ByteArray) : Option (Bool) :=
  cond (x_0.toList == (⟨#[]⟩ : ByteArray).toList)
    (some true)
    (cond ((x_0.size : Int) == (1 : Int))
    ((ixS x_0 (0 : Int)).bind fun b_1 =>
    (ref02_Letter b_1).bind fun r_2 =>
    some r_2)
    (some false))

def ref02_Valid (x_0 : Flight) : Option (Bool) :=
  (ref02_Carrier x_0.Carrier).bind fun r_1 =>
    cond r_1
    (cond (decide ((1 : Int) ≤ x_0.Number))
    (cond (decide (x_0.Number ≤ (9999 : Int)))
    ((ref02_Suffix x_0.Suffix).bind fun r_2 =>
    cond r_2
    (cond (decide ((0 : Int) ≤ x_0.Day))
    (some (decide (x_0.Day ≤ (99 : Int))))
    (some false))
    (some false))
    (some false))
    (some false))
    (some false)

def ref25_ascending_L1 (x_0 : (List Int)) : (List Int) → Nat → Option (Ctl (Bool) (Unit))
  | [], k_2 => some (Ctl.brk ())
  | e_3 :: q_5, k_2 => cond (decide (e_3 < (1 : Int)))
    (some (Ctl.ret false))
    (cond (decide ((999 : Int) < e_3))
    (some (Ctl.ret false))
    (cond (decide ((0 : Int) < (k_2 : Int)))
    ((ixL x_0 (w64 ((k_2 : Int) - (1 : Int)))).bind fun e_4 =>
    cond (decide (e_3 ≤ e_4))
    (some (Ctl.ret false))
    (ref25_ascending_L1 x_0 q_5 (k_2 + 1)))
    (ref25_ascending_L1 x_0 q_5 (k_2 + 1))))
def ref25_ascending (x_0 : (List Int)) : Option (Bool) :=
  Ctl.fin (ref25_ascending_L1 x_0 x_0 0) fun z_6 =>
    some true

def ref25_in_L1 (x_1 : Int) : (List Int) → Nat → Option (Ctl (Bool) (Unit))
  | [], k_2 => some (Ctl.brk ())
  | e_3 :: q_4, k_2 => cond (e_3 == x_1)
    (some (Ctl.ret true))
    (ref25_in_L1 x_1 q_4 (k_2 + 1))
def ref25_in (x_0 : (List Int)) (x_1 : Int) : Option (Bool) :=
  Ctl.fin (ref25_in_L1 x_1 x_0 0) fun z_5 =>
    some false

def ref25_Valid_L1 (x_0 : Manifest) : (List Int) → Nat → Option (Ctl (Bool) (Unit))
  | [], k_5 => some (Ctl.brk ())
  | e_6 :: q_8, k_5 => (ref25_in x_0.Ever e_6).bind fun r_7 =>
    cond (!r_7)
    (some (Ctl.ret false))
    (ref25_Valid_L1 x_0 q_8 (k_5 + 1))
def ref25_Valid (x_0 : Manifest) : Option (Bool) :=
  (ref02_Valid x_0.Flight).bind fun r_1 =>
    cond (!r_1)
    (some false)
    (cond (decide (x_0.Version < (1 : Int)))
    (some false)
    (cond (decide ((9999 : Int) < x_0.Version))
    (some false)
    ((ref25_ascending x_0.Boarded).bind fun r_2 =>
    cond (!r_2)
    (some false)
    ((ref25_ascending x_0.Ever).bind fun r_3 =>
    cond (!r_3)
    (some false)
    (Ctl.fin (ref25_Valid_L1 x_0 x_0.Boarded 0) fun z_9 =>
    some true)))))

def ref02_Compare (x_0 : Flight) (x_1 : Flight) : Option (Int) :=
  cond ((x_0.Carrier.toList == x_1.Carrier.toList) && ((x_0.Number == x_1.Number) && ((x_0.Suffix.toList == x_1.Suffix.toList) && ((x_0.Day == x_1.Day) && true))))
    (some (0 : Int))
    (cond (!(x_0.Carrier.toList == x_1.Carrier.toList))
    (cond (Op.bytesLess x_0.Carrier.toList x_1.Carrier.toList)
    (some (-1 : Int))
    (some (1 : Int)))
    (cond (x_0.Number != x_1.Number)
    (cond (decide (x_0.Number < x_1.Number))
    (some (-1 : Int))
    (some (1 : Int)))
    (cond (!(x_0.Suffix.toList == x_1.Suffix.toList))
    (cond (Op.bytesLess x_0.Suffix.toList x_1.Suffix.toList)
    (some (-1 : Int))
    (some (1 : Int)))
    (cond (decide (x_0.Day < x_1.Day))
    (some (-1 : Int))
    (some (1 : Int))))))

def ref25_Validate_L1 (x_0 : (List Manifest)) : (List Manifest) → Nat → Option (Ctl (Int) (Unit))
  | [], k_2 => some (Ctl.brk ())
  | e_3 :: q_7, k_2 => (ref25_Valid e_3).bind fun r_4 =>
    cond (!r_4)
    (some (Ctl.ret (1 : Int)))
    (cond (decide ((0 : Int) < (k_2 : Int)))
    ((ixL x_0 (w64 ((k_2 : Int) - (1 : Int)))).bind fun e_5 =>
    (ref02_Compare e_5.Flight e_3.Flight).bind fun r_6 =>
    cond (decide ((0 : Int) ≤ r_6))
    (some (Ctl.ret (9 : Int)))
    (ref25_Validate_L1 x_0 q_7 (k_2 + 1)))
    (ref25_Validate_L1 x_0 q_7 (k_2 + 1)))
def ref25_Validate (x_0 : (List Manifest)) : Option (Int) :=
  cond (decide ((24 : Int) < (x_0.length : Int)))
    (some (2 : Int))
    (Ctl.fin (ref25_Validate_L1 x_0 x_0 0) fun z_8 =>
    some (0 : Int))

def law25_list (x_0 : Int) (x_1 : (List Int)) : Option (Message) :=
  (keep_Flights (0 : Int)).bind fun r_1 =>
    some (⟨(5 : Int), (0 : Int), (⟨#[67, 80, 72]⟩ : ByteArray), x_0, (⟨(⟨(⟨#[]⟩ : ByteArray), (0 : Int), (⟨#[]⟩ : ByteArray), (0 : Int)⟩ : Flight), (⟨#[]⟩ : ByteArray), (⟨#[]⟩ : ByteArray)⟩ : Leg), (⟨r_1, (⟨#[76, 72, 82]⟩ : ByteArray), (⟨#[89]⟩ : ByteArray)⟩ : Leg), ([] : (List Leg)), (⟨(0 : Int), (0 : Int), (0 : Int)⟩ : Plate), (0 : Int), false, (0 : Int), (0 : Int), (0 : Int), (⟨#[]⟩ : ByteArray), (⟨#[]⟩ : ByteArray), (0 : Int), (⟨#[]⟩ : ByteArray), x_1⟩ : Message)

def slices_Index_int_L1 (x_1 : Int) : (List Int) → Nat → Option (Ctl (Int) (Unit))
  | [], k_2 => some (Ctl.brk ())
  | e_3 :: q_4, k_2 => cond (x_1 == e_3)
    (some (Ctl.ret (k_2 : Int)))
    (slices_Index_int_L1 x_1 q_4 (k_2 + 1))
def slices_Index_int (x_0 : (List Int)) (x_1 : Int) : Option (Int) :=
  Ctl.fin (slices_Index_int_L1 x_1 x_0 0) fun z_5 =>
    some (-1 : Int)

def slices_Contains_int (x_0 : (List Int)) (x_1 : Int) : Option (Bool) :=
  (slices_Index_int x_0 x_1).bind fun r_1 =>
    some (decide ((0 : Int) ≤ r_1))

def boarding_Status_L1 (x_1 : Flight) (x_2 : Int) (x_3 : Int) : (List Manifest) → Nat → Option (Ctl (Int) (Unit))
  | [], k_2 => some (Ctl.brk ())
  | e_3 :: q_6, k_2 => cond (!((e_3.Flight.Carrier.toList == x_1.Carrier.toList) && ((e_3.Flight.Number == x_1.Number) && ((e_3.Flight.Suffix.toList == x_1.Suffix.toList) && ((e_3.Flight.Day == x_1.Day) && true)))))
    (boarding_Status_L1 x_1 x_2 x_3 q_6 (k_2 + 1))
    ((slices_Contains_int e_3.Boarded x_2).bind fun r_4 =>
    cond r_4
    (some (Ctl.ret (4 : Int)))
    ((slices_Contains_int e_3.Ever x_2).bind fun r_5 =>
    cond r_5
    (some (Ctl.ret (5 : Int)))
    (some (Ctl.ret x_3))))
def boarding_Status (x_0 : (List Manifest)) (x_1 : Flight) (x_2 : Int) (x_3 : Int) : Option (Int) :=
  Ctl.fin (boarding_Status_L1 x_1 x_2 x_3 x_0 0) fun z_7 =>
    some x_3

def law25_awake : Option (Bool) :=
  (law25_list (1 : Int) ([(3 : Int), (5 : Int)] : List Int)).bind fun r_1 =>
    (boarding_Apply ([] : (List Manifest)) r_1).bind fun r_2 =>
    (law25_list (2 : Int) ([(3 : Int), (8 : Int)] : List Int)).bind fun r_3 =>
    (boarding_Apply r_2.1 r_3).bind fun r_4 =>
    (law25_list (2 : Int) ([(3 : Int)] : List Int)).bind fun r_5 =>
    (boarding_Apply r_4.1 r_5).bind fun r_6 =>
    (keep_Flights (0 : Int)).bind fun r_7 =>
    (boarding_Status r_4.1 r_7 (5 : Int) (1 : Int)).bind fun r_8 =>
    cond (r_2.2 == (0 : Int))
    (cond (r_4.2 == (0 : Int))
    (cond (r_6.2 == (5 : Int))
    (cond ((r_4.1.length : Int) == (1 : Int))
    ((ixL r_4.1 (0 : Int)).bind fun e_9 =>
    cond (e_9.Version == (2 : Int))
    (cond (r_8 == (5 : Int))
    ((keep_Flights (0 : Int)).bind fun r_10 =>
    (boarding_Status r_4.1 r_10 (8 : Int) (0 : Int)).bind fun r_11 =>
    some (r_11 == (4 : Int)))
    (some false))
    (some false))
    (some false))
    (some false))
    (some false))
    (some false)

def law25_BoardingOrder_L1 : Nat → (List Int) → Int → (List Message) → Int → Option (Ctl (Bool) ((List Message)))
  | 0, _, _, _, _ => none
  | q_9 + 1, a_3, i_4, a_5, i_6 => cond (decide ((0 : Int) < i_6))
    ((keep_Src_List (⟨a_3, i_4⟩ : Src)).bind fun r_7 =>
    (apL a_5 ([r_7.1] : List Message)).bind fun l_8 =>
    law25_BoardingOrder_L1 q_9 r_7.2.L r_7.2.At l_8 (w64 (i_6 - (1 : Int))))
    (some (Ctl.brk a_5))
def law25_BoardingOrder_L2 : (List Message) → Nat → (List Manifest) → Option (Ctl (Bool) ((List Manifest)))
  | [], k_13, a_11 => some (Ctl.brk a_11)
  | e_14 :: q_16, k_13, a_11 => (boarding_Apply a_11 e_14).bind fun r_15 =>
    cond (r_15.2 != (0 : Int))
    (some (Ctl.ret false))
    (law25_BoardingOrder_L2 q_16 (k_13 + 1) r_15.1)
def law25_BoardingOrder_L3 (z_10 : (List Message)) : (List Int) → Nat → (List Manifest) → Option (Ctl (Bool) ((List Manifest)))
  | [], k_20, a_18 => some (Ctl.brk a_18)
  | e_21 :: q_25, k_20, a_18 => cond (decide ((k_20 : Int) < (12 : Int)))
    (cond (decide ((0 : Int) < (z_10.length : Int)))
    ((keep_Mod e_21 (z_10.length : Int)).bind fun r_22 =>
    (ixL z_10 r_22).bind fun e_23 =>
    (boarding_Apply a_18 e_23).bind fun r_24 =>
    cond (r_24.2 != (0 : Int))
    (some (Ctl.ret false))
    (law25_BoardingOrder_L3 z_10 q_25 (k_20 + 1) r_24.1))
    (some (Ctl.brk a_18)))
    (some (Ctl.brk a_18))
def law25_BoardingOrder_L4 (z_10 : (List Message)) : Nat → (List Manifest) → Int → Option (Ctl (Bool) ((List Manifest)))
  | 0, _, _ => none
  | q_31 + 1, a_27, i_28 => cond (decide ((0 : Int) ≤ i_28))
    ((ixL z_10 i_28).bind fun e_29 =>
    (boarding_Apply a_27 e_29).bind fun r_30 =>
    cond (r_30.2 != (0 : Int))
    (some (Ctl.ret false))
    (law25_BoardingOrder_L4 z_10 q_31 r_30.1 (w64 (i_28 - (1 : Int)))))
    (some (Ctl.brk a_27))
def law25_BoardingOrder (x_0 : (List Int)) (x_1 : (List Int)) : Option (Bool) :=
  (keep_New x_0).bind fun r_1 =>
    (keep_Src_N r_1 (12 : Int)).bind fun r_2 =>
    Ctl.fin (law25_BoardingOrder_L1 9223372036854775807 r_2.2.L r_2.2.At ([] : List Message) r_2.1) fun z_10 =>
    Ctl.fin (law25_BoardingOrder_L2 z_10 0 ([] : List Manifest)) fun z_17 =>
    Ctl.fin (law25_BoardingOrder_L3 z_10 x_1 0 ([] : List Manifest)) fun z_26 =>
    Ctl.fin (law25_BoardingOrder_L4 z_10 9223372036854775807 z_26 (w64 ((z_10.length : Int) - (1 : Int)))) fun z_32 =>
    (ref25_SameAll z_17 z_32).bind fun r_33 =>
    cond r_33
    ((ref25_Validate z_17).bind fun r_34 =>
    cond (r_34 == (0 : Int))
    ((law25_awake).bind fun r_35 =>
    some r_35)
    (some false))
    (some false)

def keep_In_L1 (x_1 : Int) : (List Int) → Nat → Option (Ctl (Bool) (Unit))
  | [], k_2 => some (Ctl.brk ())
  | e_3 :: q_4, k_2 => cond (e_3 == x_1)
    (some (Ctl.ret true))
    (keep_In_L1 x_1 q_4 (k_2 + 1))
def keep_In (x_0 : (List Int)) (x_1 : Int) : Option (Bool) :=
  Ctl.fin (keep_In_L1 x_1 x_0 0) fun z_5 =>
    some false

def law25_BoardingStates_L1 : Nat → (List Int) → Int → (List Message) → (List Manifest) → Int → Option (Ctl (Bool) ((List Int) × Int × (List Message) × (List Manifest)))
  | 0, _, _, _, _, _ => none
  | q_11 + 1, a_3, i_4, a_5, a_6, i_7 => cond (decide ((0 : Int) < i_7))
    ((keep_Src_List (⟨a_3, i_4⟩ : Src)).bind fun r_8 =>
    (apL a_5 ([r_8.1] : List Message)).bind fun l_9 =>
    (boarding_Apply a_6 r_8.1).bind fun r_10 =>
    cond (r_10.2 != (0 : Int))
    (some (Ctl.ret false))
    (law25_BoardingStates_L1 q_11 r_8.2.L r_8.2.At l_9 r_10.1 (w64 (i_7 - (1 : Int)))))
    (some (Ctl.brk (a_3, i_4, a_5, a_6)))
def law25_BoardingStates_L4 (e_17 : Int) (i_18 : Int) : (List Message) → Nat → Int → Bool → Bool → Option (Ctl (Bool) (Bool × Bool))
  | [], k_23, i_19, b_20, b_21 => some (Ctl.brk (b_20, b_21))
  | e_24 :: q_27, k_23, i_19, b_20, b_21 => (keep_Flights i_18).bind fun r_25 =>
    cond (!((e_24.Out.Flight.Carrier.toList == r_25.Carrier.toList) && ((e_24.Out.Flight.Number == r_25.Number) && ((e_24.Out.Flight.Suffix.toList == r_25.Suffix.toList) && ((e_24.Out.Flight.Day == r_25.Day) && true)))))
    (law25_BoardingStates_L4 e_17 i_18 q_27 (k_23 + 1) i_19 b_20 b_21)
    ((keep_In e_24.List e_17).bind fun r_26 =>
    cond b_21
    (cond (decide (i_19 < e_24.Number))
    (law25_BoardingStates_L4 e_17 i_18 q_27 (k_23 + 1) e_24.Number r_26 true)
    (law25_BoardingStates_L4 e_17 i_18 q_27 (k_23 + 1) i_19 b_20 true))
    (cond (decide (i_19 < e_24.Number))
    (law25_BoardingStates_L4 e_17 i_18 q_27 (k_23 + 1) e_24.Number r_26 r_26)
    (law25_BoardingStates_L4 e_17 i_18 q_27 (k_23 + 1) i_19 b_20 r_26)))
def law25_BoardingStates_L3 (x_2 : Int) (z_12 : (List Int) × Int × (List Message) × (List Manifest)) (e_17 : Int) : Nat → Int → Option (Ctl (Bool) (Unit))
  | 0, _ => none
  | q_35 + 1, i_18 => cond (decide (i_18 < (4 : Int)))
    (Ctl.sub (law25_BoardingStates_L4 e_17 i_18 z_12.2.2.1 0 (0 : Int) false false) fun z_28 =>
    cond z_28.1
    ((keep_Flights i_18).bind fun r_29 =>
    (boarding_Status z_12.2.2.2 r_29 e_17 x_2).bind fun r_30 =>
    cond (r_30 != (4 : Int))
    (some (Ctl.ret false))
    (law25_BoardingStates_L3 x_2 z_12 e_17 q_35 (w64 (i_18 + (1 : Int)))))
    (cond z_28.2
    ((keep_Flights i_18).bind fun r_31 =>
    (boarding_Status z_12.2.2.2 r_31 e_17 x_2).bind fun r_32 =>
    cond (r_32 != (5 : Int))
    (some (Ctl.ret false))
    (law25_BoardingStates_L3 x_2 z_12 e_17 q_35 (w64 (i_18 + (1 : Int)))))
    ((keep_Flights i_18).bind fun r_33 =>
    (boarding_Status z_12.2.2.2 r_33 e_17 x_2).bind fun r_34 =>
    cond (r_34 != x_2)
    (some (Ctl.ret false))
    (law25_BoardingStates_L3 x_2 z_12 e_17 q_35 (w64 (i_18 + (1 : Int)))))))
    (some (Ctl.brk ()))
def law25_BoardingStates_L2 (x_2 : Int) (z_12 : (List Int) × Int × (List Message) × (List Manifest)) : (List Int) → Nat → Option (Ctl (Bool) (Unit))
  | [], k_16 => some (Ctl.brk ())
  | e_17 :: q_37, k_16 => Ctl.sub (law25_BoardingStates_L3 x_2 z_12 e_17 9223372036854775807 (0 : Int)) fun z_36 =>
    law25_BoardingStates_L2 x_2 z_12 q_37 (k_16 + 1)
def law25_BoardingStates (x_0 : (List Int)) (x_1 : Int) (x_2 : Int) : Option (Bool) :=
  (keep_New x_0).bind fun r_1 =>
    (keep_Src_N r_1 (12 : Int)).bind fun r_2 =>
    Ctl.fin (law25_BoardingStates_L1 9223372036854775807 r_2.2.L r_2.2.At ([] : List Message) ([] : List Manifest) r_2.1) fun z_12 =>
    (keep_Src_N (⟨z_12.1, z_12.2.1⟩ : Src) (12 : Int)).bind fun r_13 =>
    (keep_Src_N r_13.2 (12 : Int)).bind fun r_14 =>
    Ctl.fin (law25_BoardingStates_L2 x_2 z_12 ([x_1, (w64 ((1 : Int) + r_13.1)), (w64 ((1 : Int) + r_14.1))] : List Int) 0) fun z_38 =>
    (law25_awake).bind fun r_39 =>
    some r_39

def boarding_Join_L1 : (List (List Manifest)) → Nat → Option (Ctl ((List Manifest) × Int) (Unit))
  | [], k_2 => some (Ctl.brk ())
  | e_3 :: q_5, k_2 => (boarding_Validate e_3).bind fun r_4 =>
    cond (r_4 != (0 : Int))
    (some (Ctl.ret (([] : (List Manifest)), r_4)))
    (boarding_Join_L1 q_5 (k_2 + 1))
def boarding_Join (x_0 : (List Manifest)) (x_1 : (List Manifest)) : Option ((List Manifest) × Int) :=
  Ctl.fin (boarding_Join_L1 ([x_0, x_1] : List (List Manifest)) 0) fun z_6 =>
    (boarding_joined x_0 x_1).bind fun r_7 =>
    some (r_7.1, r_7.2)

def keep_Src_Passengers_L1 (r_1 : Int × Src) : Nat → (List Int) → Int → Option (Ctl ((List Int) × Src) ((List Int)))
  | 0, _, _ => none
  | q_6 + 1, a_2, i_3 => cond (decide (i_3 < (12 : Int)))
    ((ng i_3).bind fun u_4 =>
    cond ((andF .i64 (shrF .i64 r_1.1 i_3) (1 : Int)) == (1 : Int))
    ((apL a_2 ([(w64 (i_3 + (1 : Int)))] : List Int)).bind fun l_5 =>
    keep_Src_Passengers_L1 r_1 q_6 l_5 (w64 (i_3 + (1 : Int))))
    (keep_Src_Passengers_L1 r_1 q_6 a_2 (w64 (i_3 + (1 : Int)))))
    (some (Ctl.brk a_2))
def keep_Src_Passengers (x_0 : Src) : Option ((List Int) × Src) :=
  (keep_Src_N x_0 (4096 : Int)).bind fun r_1 =>
    Ctl.fin (keep_Src_Passengers_L1 r_1 9223372036854775807 ([] : List Int) (0 : Int)) fun z_7 =>
    some (z_7, r_1.2)

def keep_Src_Manifests_L2 : (List Int) → Nat → (List Int) → Int → (List Int) → Option (Ctl ((List Manifest) × Src) ((List Int) × Int × (List Int) × Int × (List Int)))
  | [], k_13, a_9, i_10, a_11 => some (Ctl.brk (a_9, i_10, a_9, i_10, a_11))
  | e_14 :: q_17, k_13, a_9, i_10, a_11 => (keep_Src_N (⟨a_9, i_10⟩ : Src) (3 : Int)).bind fun r_15 =>
    cond (decide ((0 : Int) < r_15.1))
    ((apL a_11 ([e_14] : List Int)).bind fun l_16 =>
    keep_Src_Manifests_L2 q_17 (k_13 + 1) r_15.2.L r_15.2.At l_16)
    (keep_Src_Manifests_L2 q_17 (k_13 + 1) r_15.2.L r_15.2.At a_11)
def keep_Src_Manifests_L1 : Nat → (List Int) → Int → Int → (List Manifest) → Option (Ctl ((List Manifest) × Src) ((List Int) × Int × (List Manifest)))
  | 0, _, _, _, _ => none
  | q_20 + 1, a_1, i_2, i_4, a_3 => cond (decide (i_4 < (5 : Int)))
    ((keep_Src_N (⟨a_1, i_2⟩ : Src) (2 : Int)).bind fun r_5 =>
    cond (r_5.1 == (0 : Int))
    (keep_Src_Manifests_L1 q_20 r_5.2.L r_5.2.At (w64 (i_4 + (1 : Int))) a_3)
    ((keep_Flights i_4).bind fun r_6 =>
    (keep_Src_N r_5.2 (4 : Int)).bind fun r_7 =>
    (keep_Src_Passengers r_7.2).bind fun r_8 =>
    Ctl.sub (keep_Src_Manifests_L2 r_8.1 0 r_8.2.L r_8.2.At ([] : List Int)) fun z_18 =>
    (apL a_3 ([(⟨r_6, (w64 ((1 : Int) + r_7.1)), z_18.2.2.2.2, r_8.1⟩ : Manifest)] : List Manifest)).bind fun l_19 =>
    keep_Src_Manifests_L1 q_20 z_18.2.2.1 z_18.2.2.2.1 (w64 (i_4 + (1 : Int))) l_19))
    (some (Ctl.brk (a_1, i_2, a_3)))
def keep_Src_Manifests (x_0 : Src) : Option ((List Manifest) × Src) :=
  Ctl.fin (keep_Src_Manifests_L1 9223372036854775807 x_0.L x_0.At (0 : Int) ([] : List Manifest)) fun z_21 =>
    some (z_21.2.2, (⟨z_21.1, z_21.2.1⟩ : Src))

def law25_BoardingLattice_L2 (i_7 : Int) : Nat → (List Int) → Int → (List Manifest) → Int → (List Manifest) → (List Manifest) → Option (Ctl (Bool) ((List Int) × Int × (List Manifest) × (List Manifest) × (List Manifest)))
  | 0, _, _, _, _, _, _ => none
  | q_21 + 1, a_9, i_10, a_11, i_14, a_12, a_13 => cond (decide ((0 : Int) < i_14))
    (cond (i_7 == (0 : Int))
    ((keep_Src_List (⟨a_9, i_10⟩ : Src)).bind fun r_15 =>
    (boarding_Apply a_11 r_15.1).bind fun r_16 =>
    cond (r_16.2 != (0 : Int))
    (some (Ctl.ret false))
    (cond (i_7 == (0 : Int))
    (law25_BoardingLattice_L2 i_7 q_21 r_15.2.L r_15.2.At r_16.1 (w64 (i_14 - (1 : Int))) a_12 a_13)
    (cond (i_7 == (1 : Int))
    (law25_BoardingLattice_L2 i_7 q_21 r_15.2.L r_15.2.At a_11 (w64 (i_14 - (1 : Int))) r_16.1 a_13)
    (cond (i_7 == (2 : Int))
    (law25_BoardingLattice_L2 i_7 q_21 r_15.2.L r_15.2.At a_11 (w64 (i_14 - (1 : Int))) a_12 r_16.1)
    (none)))))
    (cond (i_7 == (1 : Int))
    ((keep_Src_List (⟨a_9, i_10⟩ : Src)).bind fun r_17 =>
    (boarding_Apply a_12 r_17.1).bind fun r_18 =>
    cond (r_18.2 != (0 : Int))
    (some (Ctl.ret false))
    (cond (i_7 == (0 : Int))
    (law25_BoardingLattice_L2 i_7 q_21 r_17.2.L r_17.2.At r_18.1 (w64 (i_14 - (1 : Int))) a_12 a_13)
    (cond (i_7 == (1 : Int))
    (law25_BoardingLattice_L2 i_7 q_21 r_17.2.L r_17.2.At a_11 (w64 (i_14 - (1 : Int))) r_18.1 a_13)
    (cond (i_7 == (2 : Int))
    (law25_BoardingLattice_L2 i_7 q_21 r_17.2.L r_17.2.At a_11 (w64 (i_14 - (1 : Int))) a_12 r_18.1)
    (none)))))
    (cond (i_7 == (2 : Int))
    ((keep_Src_List (⟨a_9, i_10⟩ : Src)).bind fun r_19 =>
    (boarding_Apply a_13 r_19.1).bind fun r_20 =>
    cond (r_20.2 != (0 : Int))
    (some (Ctl.ret false))
    (cond (i_7 == (0 : Int))
    (law25_BoardingLattice_L2 i_7 q_21 r_19.2.L r_19.2.At r_20.1 (w64 (i_14 - (1 : Int))) a_12 a_13)
    (cond (i_7 == (1 : Int))
    (law25_BoardingLattice_L2 i_7 q_21 r_19.2.L r_19.2.At a_11 (w64 (i_14 - (1 : Int))) r_20.1 a_13)
    (cond (i_7 == (2 : Int))
    (law25_BoardingLattice_L2 i_7 q_21 r_19.2.L r_19.2.At a_11 (w64 (i_14 - (1 : Int))) a_12 r_20.1)
    (none)))))
    (none))))
    (some (Ctl.brk (a_9, i_10, a_11, a_12, a_13)))
def law25_BoardingLattice_L1 : Nat → (List Int) → Int → (List Manifest) → Int → (List Manifest) → (List Manifest) → Option (Ctl (Bool) ((List Int) × Int × (List Manifest) × (List Manifest) × (List Manifest)))
  | 0, _, _, _, _, _, _ => none
  | q_23 + 1, a_2, i_3, a_4, i_7, a_5, a_6 => cond (decide (i_7 < (3 : Int)))
    ((keep_Src_N (⟨a_2, i_3⟩ : Src) (6 : Int)).bind fun r_8 =>
    Ctl.sub (law25_BoardingLattice_L2 i_7 9223372036854775807 r_8.2.L r_8.2.At a_4 r_8.1 a_5 a_6) fun z_22 =>
    law25_BoardingLattice_L1 q_23 z_22.1 z_22.2.1 z_22.2.2.1 (w64 (i_7 + (1 : Int))) z_22.2.2.2.1 z_22.2.2.2.2)
    (some (Ctl.brk (a_2, i_3, a_4, a_5, a_6)))
def law25_BoardingLattice (x_0 : (List Int)) : Option (Bool) :=
  (keep_New x_0).bind fun r_1 =>
    Ctl.fin (law25_BoardingLattice_L1 9223372036854775807 r_1.L r_1.At ([] : List Manifest) (0 : Int) ([] : List Manifest) ([] : List Manifest)) fun z_24 =>
    (boarding_Join z_24.2.2.1 z_24.2.2.2.1).bind fun r_25 =>
    (boarding_Join z_24.2.2.2.1 z_24.2.2.1).bind fun r_26 =>
    (boarding_Join z_24.2.2.2.1 z_24.2.2.2.2).bind fun r_27 =>
    (boarding_Join r_25.1 z_24.2.2.2.2).bind fun r_28 =>
    (boarding_Join z_24.2.2.1 r_27.1).bind fun r_29 =>
    (boarding_Join z_24.2.2.1 z_24.2.2.1).bind fun r_30 =>
    cond (r_25.2 != (0 : Int))
    (some false)
    (cond (r_26.2 != (0 : Int))
    (some false)
    (cond (r_27.2 != (0 : Int))
    (some false)
    (cond (r_28.2 != (0 : Int))
    (some false)
    (cond (r_29.2 != (0 : Int))
    (some false)
    (cond (r_30.2 != (0 : Int))
    (some false)
    ((keep_Src_Manifests (⟨z_24.1, z_24.2.1⟩ : Src)).bind fun r_31 =>
    (keep_Src_Manifests r_31.2).bind fun r_32 =>
    (boarding_Join r_31.1 r_32.1).bind fun r_33 =>
    (boarding_Join r_32.1 r_31.1).bind fun r_34 =>
    (ref25_SameAll r_25.1 r_26.1).bind fun r_35 =>
    cond r_35
    ((ref25_SameAll r_28.1 r_29.1).bind fun r_36 =>
    cond r_36
    ((ref25_SameAll r_30.1 z_24.2.2.1).bind fun r_37 =>
    cond r_37
    (cond (r_33.2 == r_34.2)
    ((law25_awake).bind fun r_38 =>
    some r_38)
    (some false))
    (some false))
    (some false))
    (some false)))))))

def ref25_Copy (x_0 : Manifest) : Option (Manifest) :=
  (apL ([] : List Int) x_0.Boarded).bind fun l_1 =>
    (apL ([] : List Int) x_0.Ever).bind fun l_2 =>
    some (⟨x_0.Flight, x_0.Version, l_1, l_2⟩ : Manifest)

def ref25_One (x_0 : Message) : Option ((List Manifest)) :=
  (ref25_Copy (⟨x_0.Out.Flight, x_0.Number, x_0.List, x_0.List⟩ : Manifest)).bind fun r_1 =>
    some ([r_1] : List Manifest)

def law25_BoardingSingle (x_0 : (List Int)) : Option (Bool) :=
  (keep_New x_0).bind fun r_1 =>
    (keep_Src_Manifests r_1).bind fun r_2 =>
    (keep_Src_List r_2.2).bind fun r_3 =>
    (boarding_Apply ([] : (List Manifest)) r_3.1).bind fun r_4 =>
    (boarding_Apply r_2.1 r_3.1).bind fun r_5 =>
    (boarding_Join r_2.1 r_4.1).bind fun r_6 =>
    cond (r_4.2 == (0 : Int))
    (cond ((r_4.1.length : Int) == (1 : Int))
    ((ref25_One r_3.1).bind fun r_7 =>
    (ref25_SameAll r_4.1 r_7).bind fun r_8 =>
    cond r_8
    (cond (r_5.2 == r_6.2)
    ((ref25_SameAll r_5.1 r_6.1).bind fun r_9 =>
    cond r_9
    ((law25_awake).bind fun r_10 =>
    some r_10)
    (some false))
    (some false))
    (some false))
    (some false))
    (some false)

def law25_few_L1 : (List Manifest) → Nat → Option (Ctl (Bool) (Unit))
  | [], k_2 => some (Ctl.brk ())
  | e_3 :: q_4, k_2 => cond (decide ((40 : Int) < (e_3.Boarded.length : Int)))
    (some (Ctl.ret false))
    (cond (decide ((40 : Int) < (e_3.Ever.length : Int)))
    (some (Ctl.ret false))
    (law25_few_L1 q_4 (k_2 + 1)))
def law25_few (x_0 : (List Manifest)) : Option (Bool) :=
  Ctl.fin (law25_few_L1 x_0 0) fun z_5 =>
    some (decide ((x_0.length : Int) ≤ (30 : Int)))

def ref25_Copy_v2 (x_0 : Manifest) : Option (Manifest) :=
  (apL ([] : List Int) x_0.Boarded).bind fun l_1 =>
    (apL ([] : List Int) x_0.Ever).bind fun l_2 =>
    some (⟨x_0.Flight, x_0.Version, l_1, l_2⟩ : Manifest)

def keep_Src_Pick (x_0 : Src) (x_1 : (List Int)) : Option (Int × Src) :=
  (keep_Src_N x_0 (x_1.length : Int)).bind fun r_1 =>
    (ixL x_1 r_1.1).bind fun e_2 =>
    some (e_2, r_1.2)

def law25_spoilt_L1 : (List Manifest) → Nat → (List Manifest) → Option (Ctl ((List Manifest) × Src) ((List Manifest)))
  | [], k_3, a_1 => some (Ctl.brk a_1)
  | e_4 :: q_7, k_3, a_1 => (ref25_Copy_v2 e_4).bind fun r_5 =>
    (apL a_1 ([r_5] : List Manifest)).bind fun l_6 =>
    law25_spoilt_L1 q_7 (k_3 + 1) l_6
def law25_spoilt (x_0 : Src) (x_1 : (List Manifest)) : Option ((List Manifest) × Src) :=
  Ctl.fin (law25_spoilt_L1 x_1 0 ([] : List Manifest)) fun z_8 =>
    cond ((z_8.length : Int) == (0 : Int))
    ((apL z_8 ([(⟨(⟨(⟨#[]⟩ : ByteArray), (0 : Int), (⟨#[]⟩ : ByteArray), (0 : Int)⟩ : Flight), (0 : Int), ([] : (List Int)), ([] : (List Int))⟩ : Manifest)] : List Manifest)).bind fun l_9 =>
    some (l_9, x_0))
    ((keep_Src_N x_0 (z_8.length : Int)).bind fun r_10 =>
    (keep_Src_N r_10.2 (6 : Int)).bind fun r_11 =>
    cond (r_11.1 == (0 : Int))
    ((keep_Src_Pick r_11.2 ([(0 : Int), (9999 : Int), (10000 : Int)] : List Int)).bind fun r_12 =>
    (ixL z_8 r_10.1).bind fun e_13 =>
    some ((z_8.set r_10.1.toNat (⟨e_13.Flight, r_12.1, e_13.Boarded, e_13.Ever⟩ : Manifest)), r_12.2))
    (cond (r_11.1 == (1 : Int))
    ((ixL z_8 r_10.1).bind fun e_14 =>
    (keep_Src_Pick r_11.2 ([(0 : Int), (1 : Int), (13 : Int), (999 : Int)] : List Int)).bind fun r_15 =>
    (apL e_14.Boarded ([r_15.1] : List Int)).bind fun l_16 =>
    (ixL z_8 r_10.1).bind fun e_17 =>
    some ((z_8.set r_10.1.toNat (⟨e_17.Flight, e_17.Version, l_16, e_17.Ever⟩ : Manifest)), r_15.2))
    (cond (r_11.1 == (2 : Int))
    ((ixL z_8 r_10.1).bind fun e_18 =>
    (keep_Src_Pick r_11.2 ([(12 : Int), (13 : Int), (999 : Int), (1000 : Int)] : List Int)).bind fun r_19 =>
    (apL e_18.Ever ([r_19.1] : List Int)).bind fun l_20 =>
    (ixL z_8 r_10.1).bind fun e_21 =>
    some ((z_8.set r_10.1.toNat (⟨e_21.Flight, e_21.Version, e_21.Boarded, l_20⟩ : Manifest)), r_19.2))
    (cond (r_11.1 == (3 : Int))
    ((ixL z_8 (0 : Int)).bind fun e_22 =>
    (ixL z_8 r_10.1).bind fun e_23 =>
    some ((z_8.set r_10.1.toNat (⟨e_22.Flight, e_23.Version, e_23.Boarded, e_23.Ever⟩ : Manifest)), r_11.2))
    (cond (r_11.1 == (4 : Int))
    ((ixL z_8 (0 : Int)).bind fun e_24 =>
    (ixL z_8 r_10.1).bind fun e_25 =>
    (ixL z_8 r_10.1).bind fun e_26 =>
    (ixL (z_8.set r_10.1.toNat e_24) (0 : Int)).bind fun e_27 =>
    some (((z_8.set r_10.1.toNat e_24).set (0 : Int).toNat e_25), r_11.2))
    ((ixL z_8 r_10.1).bind fun e_28 =>
    some ((z_8.set r_10.1.toNat (⟨(⟨e_28.Flight.Carrier, e_28.Flight.Number, e_28.Flight.Suffix, (-1 : Int)⟩ : Flight), e_28.Version, e_28.Boarded, e_28.Ever⟩ : Manifest)), r_11.2)))))))

def ref25_find_L1 (x_1 : Flight) : (List Manifest) → Nat → Option (Ctl (Int) (Unit))
  | [], k_2 => some (Ctl.brk ())
  | e_3 :: q_4, k_2 => cond ((e_3.Flight.Carrier.toList == x_1.Carrier.toList) && ((e_3.Flight.Number == x_1.Number) && ((e_3.Flight.Suffix.toList == x_1.Suffix.toList) && ((e_3.Flight.Day == x_1.Day) && true))))
    (some (Ctl.ret (k_2 : Int)))
    (ref25_find_L1 x_1 q_4 (k_2 + 1))
def ref25_find (x_0 : (List Manifest)) (x_1 : Flight) : Option (Int) :=
  Ctl.fin (ref25_find_L1 x_1 x_0 0) fun z_5 =>
    some (-1 : Int)

def ref25_Status (x_0 : (List Manifest)) (x_1 : Flight) (x_2 : Int) (x_3 : Int) : Option (Int) :=
  (ref25_find x_0 x_1).bind fun r_1 =>
    cond (decide (r_1 < (0 : Int)))
    (some x_3)
    ((ixL x_0 r_1).bind fun e_2 =>
    (ref25_in e_2.Boarded x_2).bind fun r_3 =>
    cond r_3
    (some (4 : Int))
    ((ixL x_0 r_1).bind fun e_4 =>
    (ref25_in e_4.Ever x_2).bind fun r_5 =>
    cond r_5
    (some (5 : Int))
    (some x_3)))

def law25_BoardingValidates_L3 (x_4 : Int) (e_9 : (List Manifest)) (e_17 : Int) : (List Flight) → Nat → Option (Ctl (Bool) (Unit))
  | [], k_21 => some (Ctl.brk ())
  | e_22 :: q_25, k_21 => (boarding_Status e_9 e_22 e_17 x_4).bind fun r_23 =>
    (ref25_Status e_9 e_22 e_17 x_4).bind fun r_24 =>
    cond (r_23 != r_24)
    (some (Ctl.ret false))
    (law25_BoardingValidates_L3 x_4 e_9 e_17 q_25 (k_21 + 1))
def law25_BoardingValidates_L2 (x_2 : Flight) (x_4 : Int) (e_9 : (List Manifest)) : (List Int) → Nat → (List Int) → Int → Option (Ctl (Bool) ((List Int) × Int))
  | [], k_16, a_13, i_14 => some (Ctl.brk (a_13, i_14))
  | e_17 :: q_27, k_16, a_13, i_14 => (keep_Src_N (⟨a_13, i_14⟩ : Src) (5 : Int)).bind fun r_18 =>
    (keep_Flights r_18.1).bind fun r_19 =>
    Ctl.sub (law25_BoardingValidates_L3 x_4 e_9 e_17 ([x_2, r_19] : List Flight) 0) fun z_26 =>
    law25_BoardingValidates_L2 x_2 x_4 e_9 q_27 (k_16 + 1) r_18.2.L r_18.2.At
def law25_BoardingValidates_L1 (x_2 : Flight) (x_3 : Int) (x_4 : Int) : (List (List Manifest)) → Nat → (List Int) → Int → Option (Ctl (Bool) (Unit))
  | [], k_8, a_5, i_6 => some (Ctl.brk ())
  | e_9 :: q_29, k_8, a_5, i_6 => (boarding_Validate e_9).bind fun r_10 =>
    (ref25_Validate e_9).bind fun r_11 =>
    cond (r_10 != r_11)
    (some (Ctl.ret false))
    ((keep_Src_N (⟨a_5, i_6⟩ : Src) (13 : Int)).bind fun r_12 =>
    Ctl.sub (law25_BoardingValidates_L2 x_2 x_4 e_9 ([x_3, (w64 ((1 : Int) + r_12.1))] : List Int) 0 r_12.2.L r_12.2.At) fun z_28 =>
    law25_BoardingValidates_L1 x_2 x_3 x_4 q_29 (k_8 + 1) z_28.1 z_28.2)
def law25_BoardingValidates (x_0 : (List Manifest)) (x_1 : (List Int)) (x_2 : Flight) (x_3 : Int) (x_4 : Int) : Option (Bool) :=
  (law25_few x_0).bind fun r_1 =>
    cond (!r_1)
    (some true)
    ((keep_New x_1).bind fun r_2 =>
    (keep_Src_Manifests r_2).bind fun r_3 =>
    (law25_spoilt r_3.2 r_3.1).bind fun r_4 =>
    Ctl.fin (law25_BoardingValidates_L1 x_2 x_3 x_4 ([x_0, r_3.1, r_4.1] : List (List Manifest)) 0 r_4.2.L r_4.2.At) fun z_30 =>
    (law25_awake).bind fun r_31 =>
    some r_31)

def ref04_in (x_0 : Int) (x_1 : Int) (x_2 : Int) : Option (Bool) :=
  cond (decide (x_1 ≤ x_0))
    (some (decide (x_0 ≤ x_2)))
    (some false)

def ref04_Bag (x_0 : Int) : Option (Bool) :=
  cond (x_0 == (1 : Int))
    (some true)
    (some (x_0 == (2 : Int)))

def ref04_own (x_0 : Message) : Option (Message) :=
  (ref04_Bag x_0.Kind).bind fun r_1 =>
    cond r_1
    (cond (x_0.Kind == (1 : Int))
    (some (⟨x_0.Kind, x_0.Do, x_0.Port, x_0.Number, (⟨(⟨(⟨#[]⟩ : ByteArray), (0 : Int), (⟨#[]⟩ : ByteArray), (0 : Int)⟩ : Flight), (⟨#[]⟩ : ByteArray), (⟨#[]⟩ : ByteArray)⟩ : Leg), x_0.Out, x_0.Onward, x_0.First, x_0.Count, x_0.Load, x_0.Status, x_0.Sequence, x_0.Weight, x_0.Surname, x_0.Given, x_0.Exception, (⟨#[]⟩ : ByteArray), ([] : (List Int))⟩ : Message))
    (some (⟨x_0.Kind, x_0.Do, x_0.Port, x_0.Number, x_0.In, x_0.Out, x_0.Onward, x_0.First, x_0.Count, x_0.Load, x_0.Status, x_0.Sequence, x_0.Weight, x_0.Surname, x_0.Given, x_0.Exception, (⟨#[]⟩ : ByteArray), ([] : (List Int))⟩ : Message)))
    (cond (x_0.Kind != (5 : Int))
    (cond (x_0.Kind == (3 : Int))
    (some (⟨x_0.Kind, (0 : Int), x_0.Port, x_0.Number, (⟨(⟨(⟨#[]⟩ : ByteArray), (0 : Int), (⟨#[]⟩ : ByteArray), (0 : Int)⟩ : Flight), (⟨#[]⟩ : ByteArray), (⟨#[]⟩ : ByteArray)⟩ : Leg), (⟨(⟨(⟨#[]⟩ : ByteArray), (0 : Int), (⟨#[]⟩ : ByteArray), (0 : Int)⟩ : Flight), (⟨#[]⟩ : ByteArray), (⟨#[]⟩ : ByteArray)⟩ : Leg), ([] : (List Leg)), x_0.First, x_0.Count, false, (0 : Int), (0 : Int), (0 : Int), (⟨#[]⟩ : ByteArray), (⟨#[]⟩ : ByteArray), (0 : Int), x_0.Node, ([] : (List Int))⟩ : Message))
    (cond (x_0.Kind == (4 : Int))
    (some (⟨x_0.Kind, (0 : Int), x_0.Port, x_0.Number, (⟨(⟨(⟨#[]⟩ : ByteArray), (0 : Int), (⟨#[]⟩ : ByteArray), (0 : Int)⟩ : Flight), (⟨#[]⟩ : ByteArray), (⟨#[]⟩ : ByteArray)⟩ : Leg), x_0.Out, ([] : (List Leg)), x_0.First, x_0.Count, false, (0 : Int), (0 : Int), (0 : Int), (⟨#[]⟩ : ByteArray), (⟨#[]⟩ : ByteArray), (0 : Int), (⟨#[]⟩ : ByteArray), ([] : (List Int))⟩ : Message))
    (some (⟨x_0.Kind, (0 : Int), x_0.Port, x_0.Number, (⟨(⟨(⟨#[]⟩ : ByteArray), (0 : Int), (⟨#[]⟩ : ByteArray), (0 : Int)⟩ : Flight), (⟨#[]⟩ : ByteArray), (⟨#[]⟩ : ByteArray)⟩ : Leg), x_0.Out, ([] : (List Leg)), x_0.First, x_0.Count, false, (0 : Int), (0 : Int), (0 : Int), (⟨#[]⟩ : ByteArray), (⟨#[]⟩ : ByteArray), (0 : Int), (⟨#[]⟩ : ByteArray), x_0.List⟩ : Message))))
    (cond (x_0.Kind == (3 : Int))
    (some (⟨x_0.Kind, (0 : Int), x_0.Port, x_0.Number, (⟨(⟨(⟨#[]⟩ : ByteArray), (0 : Int), (⟨#[]⟩ : ByteArray), (0 : Int)⟩ : Flight), (⟨#[]⟩ : ByteArray), (⟨#[]⟩ : ByteArray)⟩ : Leg), (⟨(⟨(⟨#[]⟩ : ByteArray), (0 : Int), (⟨#[]⟩ : ByteArray), (0 : Int)⟩ : Flight), (⟨#[]⟩ : ByteArray), (⟨#[]⟩ : ByteArray)⟩ : Leg), ([] : (List Leg)), (⟨(0 : Int), (0 : Int), (0 : Int)⟩ : Plate), (0 : Int), false, (0 : Int), (0 : Int), (0 : Int), (⟨#[]⟩ : ByteArray), (⟨#[]⟩ : ByteArray), (0 : Int), x_0.Node, ([] : (List Int))⟩ : Message))
    (cond (x_0.Kind == (4 : Int))
    (some (⟨x_0.Kind, (0 : Int), x_0.Port, x_0.Number, (⟨(⟨(⟨#[]⟩ : ByteArray), (0 : Int), (⟨#[]⟩ : ByteArray), (0 : Int)⟩ : Flight), (⟨#[]⟩ : ByteArray), (⟨#[]⟩ : ByteArray)⟩ : Leg), x_0.Out, ([] : (List Leg)), (⟨(0 : Int), (0 : Int), (0 : Int)⟩ : Plate), (0 : Int), false, (0 : Int), (0 : Int), (0 : Int), (⟨#[]⟩ : ByteArray), (⟨#[]⟩ : ByteArray), (0 : Int), (⟨#[]⟩ : ByteArray), ([] : (List Int))⟩ : Message))
    (some (⟨x_0.Kind, (0 : Int), x_0.Port, x_0.Number, (⟨(⟨(⟨#[]⟩ : ByteArray), (0 : Int), (⟨#[]⟩ : ByteArray), (0 : Int)⟩ : Flight), (⟨#[]⟩ : ByteArray), (⟨#[]⟩ : ByteArray)⟩ : Leg), x_0.Out, ([] : (List Leg)), (⟨(0 : Int), (0 : Int), (0 : Int)⟩ : Plate), (0 : Int), false, (0 : Int), (0 : Int), (0 : Int), (⟨#[]⟩ : ByteArray), (⟨#[]⟩ : ByteArray), (0 : Int), (⟨#[]⟩ : ByteArray), x_0.List⟩ : Message)))))

def ref04_legs_L1 (x_1 : (List Leg)) : (List Leg) → Nat → Option (Ctl (Bool) (Unit))
  | [], k_2 => some (Ctl.brk ())
  | e_3 :: q_5, k_2 => (ixL x_1 (k_2 : Int)).bind fun e_4 =>
    cond (!((e_3.Flight.Carrier.toList == e_4.Flight.Carrier.toList) && ((e_3.Flight.Number == e_4.Flight.Number) && ((e_3.Flight.Suffix.toList == e_4.Flight.Suffix.toList) && ((e_3.Flight.Day == e_4.Flight.Day) && ((e_3.Port.toList == e_4.Port.toList) && ((e_3.Class.toList == e_4.Class.toList) && true)))))))
    (some (Ctl.ret false))
    (ref04_legs_L1 x_1 q_5 (k_2 + 1))
def ref04_legs (x_0 : (List Leg)) (x_1 : (List Leg)) : Option (Bool) :=
  cond ((x_0.length : Int) != (x_1.length : Int))
    (some false)
    (Ctl.fin (ref04_legs_L1 x_1 x_0 0) fun z_6 =>
    some true)

def keep_Ints_L1 (x_1 : (List Int)) : (List Int) → Nat → Option (Ctl (Bool) (Unit))
  | [], k_2 => some (Ctl.brk ())
  | e_3 :: q_5, k_2 => (ixL x_1 (k_2 : Int)).bind fun e_4 =>
    cond (e_3 != e_4)
    (some (Ctl.ret false))
    (keep_Ints_L1 x_1 q_5 (k_2 + 1))
def keep_Ints (x_0 : (List Int)) (x_1 : (List Int)) : Option (Bool) :=
  cond ((x_0.length : Int) != (x_1.length : Int))
    (some false)
    (Ctl.fin (keep_Ints_L1 x_1 x_0 0) fun z_6 =>
    some true)

def ref04_Same (x_0 : Message) (x_1 : Message) : Option (Bool) :=
  cond (x_0.Kind == x_1.Kind)
    (cond (x_0.Do == x_1.Do)
    (cond (x_0.Port.toList == x_1.Port.toList)
    (cond (x_0.Number == x_1.Number)
    (cond ((x_0.In.Flight.Carrier.toList == x_1.In.Flight.Carrier.toList) && ((x_0.In.Flight.Number == x_1.In.Flight.Number) && ((x_0.In.Flight.Suffix.toList == x_1.In.Flight.Suffix.toList) && ((x_0.In.Flight.Day == x_1.In.Flight.Day) && ((x_0.In.Port.toList == x_1.In.Port.toList) && ((x_0.In.Class.toList == x_1.In.Class.toList) && true))))))
    (cond ((x_0.Out.Flight.Carrier.toList == x_1.Out.Flight.Carrier.toList) && ((x_0.Out.Flight.Number == x_1.Out.Flight.Number) && ((x_0.Out.Flight.Suffix.toList == x_1.Out.Flight.Suffix.toList) && ((x_0.Out.Flight.Day == x_1.Out.Flight.Day) && ((x_0.Out.Port.toList == x_1.Out.Port.toList) && ((x_0.Out.Class.toList == x_1.Out.Class.toList) && true))))))
    ((ref04_legs x_0.Onward x_1.Onward).bind fun r_1 =>
    cond r_1
    (cond ((x_0.First.Lead == x_1.First.Lead) && ((x_0.First.Airline == x_1.First.Airline) && ((x_0.First.Serial == x_1.First.Serial) && true)))
    (cond (x_0.Count == x_1.Count)
    (cond (x_0.Load == x_1.Load)
    (cond (x_0.Status == x_1.Status)
    (cond (x_0.Sequence == x_1.Sequence)
    (cond (x_0.Weight == x_1.Weight)
    (cond (x_0.Surname.toList == x_1.Surname.toList)
    (cond (x_0.Given.toList == x_1.Given.toList)
    (cond (x_0.Exception == x_1.Exception)
    (cond (x_0.Node.toList == x_1.Node.toList)
    ((keep_Ints x_0.List x_1.List).bind fun r_2 =>
    some r_2)
    (some false))
    (some false))
    (some false))
    (some false))
    (some false))
    (some false))
    (some false))
    (some false))
    (some false))
    (some false))
    (some false))
    (some false))
    (some false))
    (some false))
    (some false))
    (some false))
    (some false)

def ref02_ValidPort (x_0 : ByteArray) : Option (Bool) :=
  cond ((x_0.size : Int) == (3 : Int))
    ((ixS x_0 (0 : Int)).bind fun b_1 =>
    (ref02_Letter b_1).bind fun r_2 =>
    cond r_2
    ((ixS x_0 (1 : Int)).bind fun b_3 =>
    (ref02_Letter b_3).bind fun r_4 =>
    cond r_4
    ((ixS x_0 (2 : Int)).bind fun b_5 =>
    (ref02_Letter b_5).bind fun r_6 =>
    some r_6)
    (some false))
    (some false))
    (some false)

def ref02_ValidClass (x_0 : ByteArray) : Option (Bool) :=
  cond (x_0.toList == (⟨#[70]⟩ : ByteArray).toList)
    (some true)
    (cond (x_0.toList == (⟨#[67]⟩ : ByteArray).toList)
    (some true)
    (some (x_0.toList == (⟨#[89]⟩ : ByteArray).toList)))

def ref02_ValidLeg (x_0 : Leg) : Option (Bool) :=
  (ref02_Valid x_0.Flight).bind fun r_1 =>
    cond r_1
    ((ref02_ValidPort x_0.Port).bind fun r_2 =>
    cond r_2
    ((ref02_ValidClass x_0.Class).bind fun r_3 =>
    some r_3)
    (some false))
    (some false)

def ref04_letters_L1 (x_0 : ByteArray) : Nat → Int → Option (Ctl (Bool) (Unit))
  | 0, _ => none
  | q_4 + 1, i_1 => cond (decide (i_1 < (x_0.size : Int)))
    ((ixS x_0 i_1).bind fun b_2 =>
    (ref02_Letter b_2).bind fun r_3 =>
    cond (!r_3)
    (some (Ctl.ret false))
    (ref04_letters_L1 x_0 q_4 (w64 (i_1 + (1 : Int)))))
    (some (Ctl.brk ()))
def ref04_letters (x_0 : ByteArray) (x_1 : Int) : Option (Bool) :=
  Ctl.fin (ref04_letters_L1 x_0 9223372036854775808 (0 : Int)) fun z_5 =>
    cond (decide (x_1 ≤ (x_0.size : Int)))
    (some (decide ((x_0.size : Int) ≤ (20 : Int))))
    (some false)

def ref04_Name_L1 (x_0 : ByteArray) : Nat → Int → Option (Ctl (Bool) (Unit))
  | 0, _ => none
  | q_8 + 1, i_3 => cond (decide (i_3 < (x_0.size : Int)))
    ((ixS x_0 i_3).bind fun b_4 =>
    (ref02_Letter b_4).bind fun r_5 =>
    cond (!r_5)
    ((ixS x_0 i_3).bind fun b_6 =>
    (ref02_Digit b_6).bind fun r_7 =>
    cond (!r_7)
    (some (Ctl.ret false))
    (ref04_Name_L1 x_0 q_8 (w64 (i_3 + (1 : Int)))))
    (ref04_Name_L1 x_0 q_8 (w64 (i_3 + (1 : Int)))))
    (some (Ctl.brk ()))
def ref04_Name (x_0 : ByteArray) : Option (Bool) :=
  cond (decide ((x_0.size : Int) < (1 : Int)))
    (some false)
    (cond (decide ((12 : Int) < (x_0.size : Int)))
    (some false)
    ((ixS x_0 (0 : Int)).bind fun b_1 =>
    (ref02_Letter b_1).bind fun r_2 =>
    cond (!r_2)
    (some false)
    (Ctl.fin (ref04_Name_L1 x_0 9223372036854775807 (0 : Int)) fun z_9 =>
    some true)))

def ref04_spelled_L1 : (List Leg) → Nat → Option (Ctl (Bool) (Unit))
  | [], k_5 => some (Ctl.brk ())
  | e_6 :: q_8, k_5 => (ref02_ValidLeg e_6).bind fun r_7 =>
    cond (!r_7)
    (some (Ctl.ret false))
    (ref04_spelled_L1 q_8 (k_5 + 1))
def ref04_spelled (x_0 : Message) : Option (Bool) :=
  (ref02_ValidPort x_0.Port).bind fun r_1 =>
    cond (!r_1)
    (some false)
    (cond (x_0.Kind != (3 : Int))
    ((ref02_ValidLeg x_0.Out).bind fun r_2 =>
    cond (!r_2)
    (some false)
    (cond (x_0.Kind == (2 : Int))
    ((ref02_ValidLeg x_0.In).bind fun r_3 =>
    cond (!r_3)
    (some false)
    (Ctl.fin (ref04_spelled_L1 x_0.Onward 0) fun z_9 =>
    (ref04_Bag x_0.Kind).bind fun r_10 =>
    cond (!r_10)
    (some true)
    ((ref04_letters x_0.Surname (1 : Int)).bind fun r_11 =>
    cond r_11
    ((ref04_letters x_0.Given (0 : Int)).bind fun r_12 =>
    some r_12)
    (some false))))
    (cond (x_0.Kind == (3 : Int))
    ((ref04_Name x_0.Node).bind fun r_13 =>
    cond (!r_13)
    (some false)
    (Ctl.fin (ref04_spelled_L1 x_0.Onward 0) fun z_19 =>
    (ref04_Bag x_0.Kind).bind fun r_20 =>
    cond (!r_20)
    (some true)
    ((ref04_letters x_0.Surname (1 : Int)).bind fun r_21 =>
    cond r_21
    ((ref04_letters x_0.Given (0 : Int)).bind fun r_22 =>
    some r_22)
    (some false))))
    (Ctl.fin (ref04_spelled_L1 x_0.Onward 0) fun z_28 =>
    (ref04_Bag x_0.Kind).bind fun r_29 =>
    cond (!r_29)
    (some true)
    ((ref04_letters x_0.Surname (1 : Int)).bind fun r_30 =>
    cond r_30
    ((ref04_letters x_0.Given (0 : Int)).bind fun r_31 =>
    some r_31)
    (some false))))))
    (cond (x_0.Kind == (2 : Int))
    ((ref02_ValidLeg x_0.In).bind fun r_32 =>
    cond (!r_32)
    (some false)
    (Ctl.fin (ref04_spelled_L1 x_0.Onward 0) fun z_38 =>
    (ref04_Bag x_0.Kind).bind fun r_39 =>
    cond (!r_39)
    (some true)
    ((ref04_letters x_0.Surname (1 : Int)).bind fun r_40 =>
    cond r_40
    ((ref04_letters x_0.Given (0 : Int)).bind fun r_41 =>
    some r_41)
    (some false))))
    (cond (x_0.Kind == (3 : Int))
    ((ref04_Name x_0.Node).bind fun r_42 =>
    cond (!r_42)
    (some false)
    (Ctl.fin (ref04_spelled_L1 x_0.Onward 0) fun z_48 =>
    (ref04_Bag x_0.Kind).bind fun r_49 =>
    cond (!r_49)
    (some true)
    ((ref04_letters x_0.Surname (1 : Int)).bind fun r_50 =>
    cond r_50
    ((ref04_letters x_0.Given (0 : Int)).bind fun r_51 =>
    some r_51)
    (some false))))
    (Ctl.fin (ref04_spelled_L1 x_0.Onward 0) fun z_57 =>
    (ref04_Bag x_0.Kind).bind fun r_58 =>
    cond (!r_58)
    (some true)
    ((ref04_letters x_0.Surname (1 : Int)).bind fun r_59 =>
    cond r_59
    ((ref04_letters x_0.Given (0 : Int)).bind fun r_60 =>
    some r_60)
    (some false))))))

def ref01_Valid (x_0 : Plate) : Option (Bool) :=
  cond (decide ((0 : Int) ≤ x_0.Lead))
    (cond (decide (x_0.Lead ≤ (9 : Int)))
    (cond (decide ((1 : Int) ≤ x_0.Airline))
    (cond (decide (x_0.Airline ≤ (999 : Int)))
    (cond (decide ((0 : Int) ≤ x_0.Serial))
    (some (decide (x_0.Serial ≤ (999999 : Int))))
    (some false))
    (some false))
    (some false))
    (some false))
    (some false)

def ref04_counted_L1 : (List Int) → Nat → Option (Ctl (Bool) (Unit))
  | [], k_11 => some (Ctl.brk ())
  | e_12 :: q_14, k_11 => (ref04_in e_12 (1 : Int) (999 : Int)).bind fun r_13 =>
    cond (!r_13)
    (some (Ctl.ret false))
    (ref04_counted_L1 q_14 (k_11 + 1))
def ref04_counted (x_0 : Message) : Option (Bool) :=
  (ref04_in x_0.Number (1 : Int) (9999 : Int)).bind fun r_1 =>
    cond (!r_1)
    (some false)
    (cond (x_0.Kind != (5 : Int))
    ((ref01_Valid x_0.First).bind fun r_2 =>
    cond (!r_2)
    (some false)
    ((ref04_in x_0.Count (1 : Int) (99 : Int)).bind fun r_3 =>
    cond (!r_3)
    (some false)
    ((ref04_Bag x_0.Kind).bind fun r_4 =>
    cond r_4
    ((ref04_in x_0.Do (0 : Int) (2 : Int)).bind fun r_5 =>
    cond (!r_5)
    (some false)
    ((ref04_in x_0.Status (1 : Int) (4 : Int)).bind fun r_6 =>
    cond (!r_6)
    (some false)
    ((ref04_in x_0.Sequence (1 : Int) (999 : Int)).bind fun r_7 =>
    cond (!r_7)
    (some false)
    ((ref04_in x_0.Weight (0 : Int) (999 : Int)).bind fun r_8 =>
    cond (!r_8)
    (some false)
    ((ref04_in x_0.Exception (0 : Int) (3 : Int)).bind fun r_9 =>
    cond (!r_9)
    (some false)
    (Ctl.fin (ref04_counted_L1 x_0.List 0) fun z_15 =>
    some true))))))
    (Ctl.fin (ref04_counted_L1 x_0.List 0) fun z_21 =>
    some true))))
    ((ref04_Bag x_0.Kind).bind fun r_22 =>
    cond r_22
    ((ref04_in x_0.Do (0 : Int) (2 : Int)).bind fun r_23 =>
    cond (!r_23)
    (some false)
    ((ref04_in x_0.Status (1 : Int) (4 : Int)).bind fun r_24 =>
    cond (!r_24)
    (some false)
    ((ref04_in x_0.Sequence (1 : Int) (999 : Int)).bind fun r_25 =>
    cond (!r_25)
    (some false)
    ((ref04_in x_0.Weight (0 : Int) (999 : Int)).bind fun r_26 =>
    cond (!r_26)
    (some false)
    ((ref04_in x_0.Exception (0 : Int) (3 : Int)).bind fun r_27 =>
    cond (!r_27)
    (some false)
    (Ctl.fin (ref04_counted_L1 x_0.List 0) fun z_33 =>
    some true))))))
    (Ctl.fin (ref04_counted_L1 x_0.List 0) fun z_39 =>
    some true)))

def ref04_Validate_L1 (x_0 : Message) : Nat → Int → Option (Ctl (Int) (Unit))
  | 0, _ => none
  | q_9 + 1, i_6 => cond (decide (i_6 < (x_0.List.length : Int)))
    ((ixL x_0.List i_6).bind fun e_7 =>
    (ixL x_0.List (w64 (i_6 - (1 : Int)))).bind fun e_8 =>
    cond (decide (e_7 ≤ e_8))
    (some (Ctl.ret (9 : Int)))
    (ref04_Validate_L1 x_0 q_9 (w64 (i_6 + (1 : Int)))))
    (some (Ctl.brk ()))
def ref04_Validate (x_0 : Message) : Option (Int) :=
  (ref04_in x_0.Kind (1 : Int) (5 : Int)).bind fun r_1 =>
    cond (!r_1)
    (some (4 : Int))
    ((ref04_own x_0).bind fun r_2 =>
    (ref04_Same x_0 r_2).bind fun r_3 =>
    cond (!r_3)
    (some (7 : Int))
    (cond (decide ((3 : Int) < (x_0.Onward.length : Int)))
    (some (2 : Int))
    (cond (decide ((40 : Int) < (x_0.List.length : Int)))
    (some (2 : Int))
    ((ref04_spelled x_0).bind fun r_4 =>
    cond (!r_4)
    (some (3 : Int))
    ((ref04_counted x_0).bind fun r_5 =>
    cond (!r_5)
    (some (1 : Int))
    (Ctl.fin (ref04_Validate_L1 x_0 9223372036854775807 (1 : Int)) fun z_10 =>
    some (0 : Int)))))))

def ref25_Union_L1 (x_0 : (List Int)) (x_1 : (List Int)) : Nat → (List Int) → Int → Int → Option (Ctl ((List Int)) ((List Int)))
  | 0, _, _, _ => none
  | q_28 + 1, a_1, i_2, i_3 => cond (decide (i_2 < (x_0.length : Int)))
    (cond (i_3 == (x_1.length : Int))
    ((ixL x_0 i_2).bind fun e_4 =>
    (apL a_1 ([e_4] : List Int)).bind fun l_5 =>
    ref25_Union_L1 x_0 x_1 q_28 l_5 (w64 (i_2 + (1 : Int))) i_3)
    ((ixL x_0 i_2).bind fun e_6 =>
    (ixL x_1 i_3).bind fun e_7 =>
    cond (decide (e_6 < e_7))
    ((ixL x_0 i_2).bind fun e_8 =>
    (apL a_1 ([e_8] : List Int)).bind fun l_9 =>
    ref25_Union_L1 x_0 x_1 q_28 l_9 (w64 (i_2 + (1 : Int))) i_3)
    (cond (i_2 == (x_0.length : Int))
    ((ixL x_1 i_3).bind fun e_10 =>
    (apL a_1 ([e_10] : List Int)).bind fun l_11 =>
    ref25_Union_L1 x_0 x_1 q_28 l_11 i_2 (w64 (i_3 + (1 : Int))))
    ((ixL x_1 i_3).bind fun e_12 =>
    (ixL x_0 i_2).bind fun e_13 =>
    cond (decide (e_12 < e_13))
    ((ixL x_1 i_3).bind fun e_14 =>
    (apL a_1 ([e_14] : List Int)).bind fun l_15 =>
    ref25_Union_L1 x_0 x_1 q_28 l_15 i_2 (w64 (i_3 + (1 : Int))))
    ((ixL x_0 i_2).bind fun e_16 =>
    (apL a_1 ([e_16] : List Int)).bind fun l_17 =>
    ref25_Union_L1 x_0 x_1 q_28 l_17 (w64 (i_2 + (1 : Int))) (w64 (i_3 + (1 : Int))))))))
    (cond (decide (i_3 < (x_1.length : Int)))
    (cond (i_3 == (x_1.length : Int))
    ((ixL x_0 i_2).bind fun e_18 =>
    (apL a_1 ([e_18] : List Int)).bind fun l_19 =>
    ref25_Union_L1 x_0 x_1 q_28 l_19 (w64 (i_2 + (1 : Int))) i_3)
    (cond (i_2 == (x_0.length : Int))
    ((ixL x_1 i_3).bind fun e_20 =>
    (apL a_1 ([e_20] : List Int)).bind fun l_21 =>
    ref25_Union_L1 x_0 x_1 q_28 l_21 i_2 (w64 (i_3 + (1 : Int))))
    ((ixL x_1 i_3).bind fun e_22 =>
    (ixL x_0 i_2).bind fun e_23 =>
    cond (decide (e_22 < e_23))
    ((ixL x_1 i_3).bind fun e_24 =>
    (apL a_1 ([e_24] : List Int)).bind fun l_25 =>
    ref25_Union_L1 x_0 x_1 q_28 l_25 i_2 (w64 (i_3 + (1 : Int))))
    ((ixL x_0 i_2).bind fun e_26 =>
    (apL a_1 ([e_26] : List Int)).bind fun l_27 =>
    ref25_Union_L1 x_0 x_1 q_28 l_27 (w64 (i_2 + (1 : Int))) (w64 (i_3 + (1 : Int)))))))
    (some (Ctl.brk a_1)))
def ref25_Union (x_0 : (List Int)) (x_1 : (List Int)) : Option ((List Int)) :=
  Ctl.fin (ref25_Union_L1 x_0 x_1 9223372036854775807 ([] : List Int) (0 : Int) (0 : Int)) fun z_29 =>
    some z_29

def ref25_join (x_0 : Manifest) (x_1 : Manifest) : Option (Manifest × Bool) :=
  cond (decide (x_0.Version < x_1.Version))
    ((apL ([] : List Int) x_1.Boarded).bind fun l_1 =>
    (ref25_Union x_0.Ever x_1.Ever).bind fun r_2 =>
    cond (x_0.Version != x_1.Version)
    (some ((⟨x_1.Flight, x_1.Version, l_1, r_2⟩ : Manifest), true))
    ((ref25_Same x_0.Boarded x_1.Boarded).bind fun r_3 =>
    some ((⟨x_1.Flight, x_1.Version, l_1, r_2⟩ : Manifest), r_3)))
    ((apL ([] : List Int) x_0.Boarded).bind fun l_4 =>
    (ref25_Union x_0.Ever x_1.Ever).bind fun r_5 =>
    cond (x_0.Version != x_1.Version)
    (some ((⟨x_0.Flight, x_0.Version, l_4, r_5⟩ : Manifest), true))
    ((ref25_Same x_0.Boarded x_1.Boarded).bind fun r_6 =>
    some ((⟨x_0.Flight, x_0.Version, l_4, r_5⟩ : Manifest), r_6)))

def ref25_Join_L1 (x_1 : (List Manifest)) : (List Manifest) → Nat → (List Manifest) → Option (Ctl ((List Manifest) × Int) ((List Manifest)))
  | [], k_5, a_3 => some (Ctl.brk a_3)
  | e_6 :: q_14, k_5, a_3 => (ref25_find x_1 e_6.Flight).bind fun r_7 =>
    cond (decide ((0 : Int) ≤ r_7))
    ((ixL x_1 r_7).bind fun e_8 =>
    (ref25_join e_6 e_8).bind fun r_9 =>
    cond (!r_9.2)
    (some (Ctl.ret (([] : (List Manifest)), (5 : Int))))
    ((ref25_Copy r_9.1).bind fun r_10 =>
    (apL a_3 ([r_10] : List Manifest)).bind fun l_11 =>
    ref25_Join_L1 x_1 q_14 (k_5 + 1) l_11))
    ((ref25_Copy e_6).bind fun r_12 =>
    (apL a_3 ([r_12] : List Manifest)).bind fun l_13 =>
    ref25_Join_L1 x_1 q_14 (k_5 + 1) l_13)
def ref25_Join_L3 (e_19 : Manifest) : (List Manifest) → Nat → Option (Ctl ((List Manifest) × Int) (Int))
  | [], k_22 => some (Ctl.brk (k_22 : Int))
  | e_23 :: q_25, k_22 => (ref02_Compare e_23.Flight e_19.Flight).bind fun r_24 =>
    cond (decide (r_24 < (0 : Int)))
    (ref25_Join_L3 e_19 q_25 (k_22 + 1))
    (some (Ctl.brk (k_22 : Int)))
def ref25_Join_L2 (x_0 : (List Manifest)) : (List Manifest) → Nat → (List Manifest) → Option (Ctl ((List Manifest) × Int) ((List Manifest)))
  | [], k_18, a_16 => some (Ctl.brk a_16)
  | e_19 :: q_32, k_18, a_16 => (ref25_find x_0 e_19.Flight).bind fun r_20 =>
    cond (decide ((0 : Int) ≤ r_20))
    (ref25_Join_L2 x_0 q_32 (k_18 + 1) a_16)
    (Ctl.sub (ref25_Join_L3 e_19 a_16 0) fun z_26 =>
    (ref25_Copy e_19).bind fun r_27 =>
    (slL a_16 z_26 (a_16.length : Int)).bind fun l_28 =>
    (apL ([r_27] : List Manifest) l_28).bind fun l_29 =>
    (slL a_16 0 z_26).bind fun l_30 =>
    (apL l_30 l_29).bind fun l_31 =>
    ref25_Join_L2 x_0 q_32 (k_18 + 1) l_31)
def ref25_Join (x_0 : (List Manifest)) (x_1 : (List Manifest)) : Option ((List Manifest) × Int) :=
  (ref25_Validate x_0).bind fun r_1 =>
    cond (r_1 != (0 : Int))
    (some (([] : (List Manifest)), r_1))
    ((ref25_Validate x_1).bind fun r_2 =>
    cond (r_2 != (0 : Int))
    (some (([] : (List Manifest)), r_2))
    (Ctl.fin (ref25_Join_L1 x_1 x_0 0 ([] : List Manifest)) fun z_15 =>
    Ctl.fin (ref25_Join_L2 x_0 x_1 0 z_15) fun z_33 =>
    cond (decide ((24 : Int) < (z_33.length : Int)))
    (some (([] : (List Manifest)), (2 : Int)))
    (some (z_33, (0 : Int)))))

def ref25_Apply (x_0 : (List Manifest)) (x_1 : Message) : Option ((List Manifest) × Int) :=
  (ref25_Validate x_0).bind fun r_1 =>
    cond (r_1 != (0 : Int))
    (some (([] : (List Manifest)), r_1))
    ((ref04_Validate x_1).bind fun r_2 =>
    cond (r_2 != (0 : Int))
    (some (([] : (List Manifest)), r_2))
    (cond (x_1.Kind != (5 : Int))
    (some (([] : (List Manifest)), (4 : Int)))
    ((ref25_One x_1).bind fun r_3 =>
    (ref25_Join x_0 r_3).bind fun r_4 =>
    some (r_4.1, r_4.2))))

def law25_BoardingApplies_L2 (e_14 : (List Manifest)) : (List Message) → Nat → Option (Ctl (Bool) (Unit))
  | [], k_20 => some (Ctl.brk ())
  | e_21 :: q_25, k_20 => (boarding_Apply e_14 e_21).bind fun r_22 =>
    (ref25_Apply e_14 e_21).bind fun r_23 =>
    cond (r_22.2 != r_23.2)
    (some (Ctl.ret false))
    ((ref25_SameAll r_22.1 r_23.1).bind fun r_24 =>
    cond (!r_24)
    (some (Ctl.ret false))
    (law25_BoardingApplies_L2 e_14 q_25 (k_20 + 1)))
def law25_BoardingApplies_L1 (x_2 : Message) (r_4 : Message × Src) (r_5 : (List Int) × Src) (r_6 : Int × Src) (r_7 : Message × Src) (r_8 : Int × Src) : (List (List Manifest)) → Nat → (List Int) → Int → Option (Ctl (Bool) (Unit))
  | [], k_13, a_10, i_11 => some (Ctl.brk ())
  | e_14 :: q_27, k_13, a_10, i_11 => (keep_Src_List (⟨a_10, i_11⟩ : Src)).bind fun r_15 =>
    (keep_Src_N r_15.2 (4 : Int)).bind fun r_16 =>
    (law25_list (w64 ((1 : Int) + r_16.1)) ([(2 : Int), (1 : Int)] : List Int)).bind fun r_17 =>
    (law25_list (2 : Int) x_2.List).bind fun r_18 =>
    Ctl.sub (law25_BoardingApplies_L2 e_14 ([x_2, r_15.1, (⟨r_4.1.Kind, r_4.1.Do, r_4.1.Port, r_6.1, r_4.1.In, r_4.1.Out, r_4.1.Onward, r_4.1.First, r_4.1.Count, r_4.1.Load, r_4.1.Status, r_4.1.Sequence, r_4.1.Weight, r_4.1.Surname, r_4.1.Given, r_4.1.Exception, r_4.1.Node, r_5.1⟩ : Message), (⟨r_8.1, r_7.1.Do, r_7.1.Port, r_7.1.Number, r_7.1.In, r_7.1.Out, r_7.1.Onward, r_7.1.First, r_7.1.Count, r_7.1.Load, r_7.1.Status, r_7.1.Sequence, r_7.1.Weight, r_7.1.Surname, r_7.1.Given, r_7.1.Exception, r_7.1.Node, r_7.1.List⟩ : Message), r_17, r_18] : List Message) 0) fun z_26 =>
    law25_BoardingApplies_L1 x_2 r_4 r_5 r_6 r_7 r_8 q_27 (k_13 + 1) r_16.2.L r_16.2.At
def law25_BoardingApplies (x_0 : (List Manifest)) (x_1 : (List Int)) (x_2 : Message) : Option (Bool) :=
  (law25_few x_0).bind fun r_1 =>
    cond (!r_1)
    (some true)
    (cond (decide ((60 : Int) < (x_2.List.length : Int)))
    (some true)
    (cond (decide ((10 : Int) < (x_2.Onward.length : Int)))
    (some true)
    ((keep_New x_1).bind fun r_2 =>
    (keep_Src_Manifests r_2).bind fun r_3 =>
    (keep_Src_List r_3.2).bind fun r_4 =>
    (keep_Src_Passengers r_4.2).bind fun r_5 =>
    (keep_Src_Pick r_5.2 ([(0 : Int), (1 : Int), (2 : Int), (3 : Int), (9999 : Int)] : List Int)).bind fun r_6 =>
    (keep_Src_List r_6.2).bind fun r_7 =>
    (keep_Src_N r_7.2 (7 : Int)).bind fun r_8 =>
    (law25_spoilt r_8.2 r_3.1).bind fun r_9 =>
    Ctl.fin (law25_BoardingApplies_L1 x_2 r_4 r_5 r_6 r_7 r_8 ([x_0, r_3.1, r_9.1] : List (List Manifest)) 0 r_9.2.L r_9.2.At) fun z_28 =>
    (law25_awake).bind fun r_29 =>
    some r_29)))

def law25_BoardingJoins_L2 (e_9 : (List Manifest)) : (List (List Manifest)) → Nat → Option (Ctl (Bool) (Unit))
  | [], k_11 => some (Ctl.brk ())
  | e_12 :: q_16, k_11 => (boarding_Join e_9 e_12).bind fun r_13 =>
    (ref25_Join e_9 e_12).bind fun r_14 =>
    cond (r_13.2 != r_14.2)
    (some (Ctl.ret false))
    ((ref25_SameAll r_13.1 r_14.1).bind fun r_15 =>
    cond (!r_15)
    (some (Ctl.ret false))
    (law25_BoardingJoins_L2 e_9 q_16 (k_11 + 1)))
def law25_BoardingJoins_L1 (x_1 : (List Manifest)) (r_5 : (List Manifest) × Src) : (List (List Manifest)) → Nat → Option (Ctl (Bool) (Unit))
  | [], k_8 => some (Ctl.brk ())
  | e_9 :: q_18, k_8 => Ctl.sub (law25_BoardingJoins_L2 e_9 ([x_1, r_5.1, e_9] : List (List Manifest)) 0) fun z_17 =>
    law25_BoardingJoins_L1 x_1 r_5 q_18 (k_8 + 1)
def law25_BoardingJoins (x_0 : (List Manifest)) (x_1 : (List Manifest)) (x_2 : (List Int)) : Option (Bool) :=
  (law25_few x_0).bind fun r_1 =>
    cond (!r_1)
    (some true)
    ((law25_few x_1).bind fun r_2 =>
    cond (!r_2)
    (some true)
    ((keep_New x_2).bind fun r_3 =>
    (keep_Src_Manifests r_3).bind fun r_4 =>
    (keep_Src_Manifests r_4.2).bind fun r_5 =>
    (law25_spoilt r_5.2 r_4.1).bind fun r_6 =>
    Ctl.fin (law25_BoardingJoins_L1 x_1 r_5 ([x_0, r_4.1, r_6.1] : List (List Manifest)) 0) fun z_19 =>
    (law25_awake).bind fun r_20 =>
    some r_20))
end Go.Proofs.Ytajmhegkkbnkcaa.Ex
