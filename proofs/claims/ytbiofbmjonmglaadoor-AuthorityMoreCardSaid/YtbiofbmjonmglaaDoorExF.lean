/- What the functions of the program compute; printed by a program from their code. -/
import Derived.Test.YtbiofbmjonmglaaDoorExT
import Derived.Test.YtbiofbmjonmglaaDoorUniD
namespace Go.Proofs.YtbiofbmjonmglaaDoor.Ex
open Go.RowKit Go.Proofs.YtbiofbmjonmglaaDoor.Ax
set_option linter.unusedVariables false
set_option linter.unusedSimpArgs false
def law26_few_L1 : (List Manifest) → Nat → Option (Ctl (Bool) (Unit))
  | [], k_2 => some (Ctl.brk ())
  | e_3 :: q_4, k_2 => cond (decide ((40 : Int) < (e_3.Boarded.length : Int)))
    (some (Ctl.ret false))
    (cond (decide ((40 : Int) < (e_3.Ever.length : Int)))
    (some (Ctl.ret false))
    (law26_few_L1 q_4 (k_2 + 1)))
def law26_few (x_0 : (List Manifest)) (x_1 : (List Departure)) : Option (Bool) :=
  Ctl.fin (law26_few_L1 x_0 0) fun z_5 =>
    cond (decide ((x_0.length : Int) ≤ (30 : Int)))
    (some (decide ((x_1.length : Int) ≤ (30 : Int))))
    (some false)

def keep_New (x_0 : (List Int)) : Option (Src) :=
  cond (decide ((2000 : Int) < (x_0.length : Int)))
    ((slL x_0 0 (2000 : Int)).bind fun l_1 =>
    some (⟨l_1, (0 : Int)⟩ : Src))
    (some (⟨x_0, (0 : Int)⟩ : Src))

def keep_Src_Raw (x_0 : Src) : Option (Int × Src) :=
  cond (decide ((x_0.L.length : Int) ≤ x_0.At))
    (some ((0 : Int), x_0))
    ((ixL x_0.L (w64 ((w64 (x_0.At + (1 : Int))) - (1 : Int)))).bind fun e_1 =>
    some (e_1, (⟨x_0.L, (w64 (x_0.At + (1 : Int)))⟩ : Src)))

def keep_Mod (x_0 : Int) (x_1 : Int) : Option (Int) :=
  cond (decide (x_1 < (1 : Int)))
    (some (0 : Int))
    ((nz x_1).bind fun u_1 =>
    cond (decide ((x_0.tmod x_1) < (0 : Int)))
    (some (w64 ((x_0.tmod x_1) + x_1)))
    (some (x_0.tmod x_1)))

def keep_Src_N (x_0 : Src) (x_1 : Int) : Option (Int × Src) :=
  (keep_Src_Raw x_0).bind fun r_1 =>
    (keep_Mod r_1.1 x_1).bind fun r_2 =>
    some (r_2, r_1.2)

def keep_Flights (x_0 : Int) : Option (Flight) :=
  (keep_Mod x_0 (27 : Int)).bind fun r_1 =>
    (ixL ([(⟨#[66, 65]⟩ : ByteArray), (⟨#[76, 72]⟩ : ByteArray), (⟨#[83, 75]⟩ : ByteArray)] : List ByteArray) (w64 (r_1.tdiv (9 : Int)))).bind fun e_2 =>
    some (⟨e_2, (w64 ((1 : Int) + ((w64 (r_1.tdiv (3 : Int))).tmod (3 : Int)))), (⟨#[]⟩ : ByteArray), (w64 ((1 : Int) + (r_1.tmod (3 : Int))))⟩ : Flight)

def keep_Src_Text (x_0 : Src) (x_1 : (List ByteArray)) : Option (ByteArray × Src) :=
  (keep_Src_N x_0 (x_1.length : Int)).bind fun r_1 =>
    (ixL x_1 r_1.1).bind fun e_2 =>
    some (e_2, r_1.2)

def keep_Src_Port (x_0 : Src) : Option (ByteArray × Src) :=
  (keep_Src_Text x_0 ([(⟨#[67, 80, 72]⟩ : ByteArray), (⟨#[76, 72, 82]⟩ : ByteArray), (⟨#[70, 82, 65]⟩ : ByteArray), (⟨#[79, 83, 76]⟩ : ByteArray), (⟨#[65, 82, 78]⟩ : ByteArray)] : List ByteArray)).bind fun r_1 =>
    some (r_1.1, r_1.2)

def keep_Src_Schedule_L1 (r_1 : Int × Src) : Nat → (List Int) → Int → (List Departure) → Int → Int → Option (Ctl ((List Departure) × Src) ((List Int) × Int × (List Departure)))
  | 0, _, _, _, _, _ => none
  | q_17 + 1, a_2, i_3, a_4, i_5, i_6 => cond (decide (i_6 < r_1.1))
    (cond (decide (i_5 < (27 : Int)))
    ((keep_Src_N (⟨a_2, i_3⟩ : Src) (3 : Int)).bind fun r_7 =>
    cond (decide ((27 : Int) ≤ (w64 (i_5 + r_7.1))))
    (some (Ctl.brk (r_7.2.L, r_7.2.At, a_4)))
    ((keep_Flights (w64 (i_5 + r_7.1))).bind fun r_8 =>
    (keep_Src_Port r_7.2).bind fun r_9 =>
    (keep_Src_N r_9.2 (40 : Int)).bind fun r_10 =>
    (keep_Src_N r_10.2 (100 : Int)).bind fun r_11 =>
    (keep_Src_N r_11.2 (20 : Int)).bind fun r_12 =>
    (keep_Src_N r_12.2 (10 : Int)).bind fun r_13 =>
    (keep_Src_N r_13.2 (6 : Int)).bind fun r_14 =>
    (ixL ([(0 : Int), (0 : Int), (0 : Int), (0 : Int), (1 : Int), (2 : Int)] : List Int) r_14.1).bind fun e_15 =>
    (apL a_4 ([(⟨r_8, r_9.1, r_10.1, (w64 ((w64 (r_10.1 + (1 : Int))) + r_12.1)), (w64 ((w64 ((w64 (r_10.1 + (1 : Int))) + r_12.1)) + r_13.1)), r_11.1, e_15⟩ : Departure)] : List Departure)).bind fun l_16 =>
    keep_Src_Schedule_L1 r_1 q_17 r_14.2.L r_14.2.At l_16 (w64 ((w64 (i_5 + r_7.1)) + (1 : Int))) (w64 (i_6 + (1 : Int)))))
    (some (Ctl.brk (a_2, i_3, a_4))))
    (some (Ctl.brk (a_2, i_3, a_4)))
def keep_Src_Schedule (x_0 : Src) (x_1 : Int) : Option ((List Departure) × Src) :=
  (keep_Src_N x_0 (w64 (x_1 + (1 : Int)))).bind fun r_1 =>
    Ctl.fin (keep_Src_Schedule_L1 r_1 9223372036854775807 r_1.2.L r_1.2.At ([] : List Departure) (0 : Int) (0 : Int)) fun z_18 =>
    some (z_18.2.2, (⟨z_18.1, z_18.2.1⟩ : Src))

def keep_Plates (x_0 : Int) : Option (Plate) :=
  (keep_Mod x_0 (1000 : Int)).bind fun r_1 =>
    some (⟨(w64 (r_1.tdiv (500 : Int))), (w64 ((117 : Int) + ((w64 (r_1.tdiv (100 : Int))).tmod (5 : Int)))), (w64 ((1000 : Int) + (r_1.tmod (100 : Int))))⟩ : Plate)

def keep_Src_Plate (x_0 : Src) (x_1 : Int) : Option (Plate × Src) :=
  (keep_Src_N x_0 x_1).bind fun r_1 =>
    (keep_Plates r_1.1).bind fun r_2 =>
    some (r_2, r_1.2)

def keep_Src_Facts (x_0 : Src) : Option (Facts × Src) :=
  (keep_Src_N x_0 (12 : Int)).bind fun r_1 =>
    (keep_Src_N r_1.2 (12 : Int)).bind fun r_2 =>
    (keep_Src_N r_2.2 (8 : Int)).bind fun r_3 =>
    (keep_Src_Plate r_3.2 (20 : Int)).bind fun r_4 =>
    (keep_Src_N r_4.2 (3 : Int)).bind fun r_5 =>
    (keep_Flights r_5.1).bind fun r_6 =>
    (keep_Src_N r_5.2 (12 : Int)).bind fun r_7 =>
    (keep_Src_N r_7.2 (4 : Int)).bind fun r_8 =>
    (keep_Src_N r_8.2 (30 : Int)).bind fun r_9 =>
    (keep_Src_N r_9.2 (9 : Int)).bind fun r_10 =>
    (keep_Src_N r_10.2 (12 : Int)).bind fun r_11 =>
    (keep_Src_N r_11.2 (4 : Int)).bind fun r_12 =>
    cond (r_12.1 == (3 : Int))
    ((keep_Src_N r_12.2 (5 : Int)).bind fun r_13 =>
    some ((⟨(r_1.1 != (11 : Int)), (⟨r_4.1, (⟨(⟨(⟨#[]⟩ : ByteArray), (0 : Int), (⟨#[]⟩ : ByteArray), (0 : Int)⟩ : Flight), (⟨#[]⟩ : ByteArray), (⟨#[]⟩ : ByteArray)⟩ : Leg), (⟨r_6, (⟨#[76, 72, 82]⟩ : ByteArray), (⟨#[89]⟩ : ByteArray)⟩ : Leg), ([] : (List Leg)), (w64 ((1 : Int) + r_7.1)), (w64 ((1 : Int) + r_8.1)), (w64 ((1 : Int) + r_9.1)), (r_10.1 != (8 : Int)), (⟨#[88]⟩ : ByteArray), (⟨#[]⟩ : ByteArray), r_13.1, (⟨#[]⟩ : ByteArray), (r_11.1 == (11 : Int))⟩ : Bag), (w64 ((1 : Int) + (w64 (r_2.1.tdiv (11 : Int))))), (r_3.1 != (7 : Int))⟩ : Facts), r_13.2))
    (some ((⟨(r_1.1 != (11 : Int)), (⟨r_4.1, (⟨(⟨(⟨#[]⟩ : ByteArray), (0 : Int), (⟨#[]⟩ : ByteArray), (0 : Int)⟩ : Flight), (⟨#[]⟩ : ByteArray), (⟨#[]⟩ : ByteArray)⟩ : Leg), (⟨r_6, (⟨#[76, 72, 82]⟩ : ByteArray), (⟨#[89]⟩ : ByteArray)⟩ : Leg), ([] : (List Leg)), (w64 ((1 : Int) + r_7.1)), (w64 ((1 : Int) + r_8.1)), (w64 ((1 : Int) + r_9.1)), (r_10.1 != (8 : Int)), (⟨#[88]⟩ : ByteArray), (⟨#[]⟩ : ByteArray), (0 : Int), (⟨#[]⟩ : ByteArray), (r_11.1 == (11 : Int))⟩ : Bag), (w64 ((1 : Int) + (w64 (r_2.1.tdiv (11 : Int))))), (r_3.1 != (7 : Int))⟩ : Facts), r_12.2))

def law26_bag (x_0 : Int) : Option (Facts) :=
  (keep_Plates (1 : Int)).bind fun r_1 =>
    (keep_Flights (0 : Int)).bind fun r_2 =>
    some (⟨true, (⟨r_1, (⟨(⟨(⟨#[]⟩ : ByteArray), (0 : Int), (⟨#[]⟩ : ByteArray), (0 : Int)⟩ : Flight), (⟨#[]⟩ : ByteArray), (⟨#[]⟩ : ByteArray)⟩ : Leg), (⟨r_2, (⟨#[76, 72, 82]⟩ : ByteArray), (⟨#[89]⟩ : ByteArray)⟩ : Leg), ([] : (List Leg)), x_0, (1 : Int), (0 : Int), true, (⟨#[]⟩ : ByteArray), (⟨#[]⟩ : ByteArray), (0 : Int), (⟨#[]⟩ : ByteArray), false⟩ : Bag), (1 : Int), true⟩ : Facts)

def keep_Src_Passengers_L1 (r_1 : Int × Src) : Nat → (List Int) → Int → Option (Ctl ((List Int) × Src) ((List Int)))
  | 0, _, _ => none
  | q_6 + 1, a_2, i_3 => cond (decide (i_3 < (12 : Int)))
    ((ng i_3).bind fun u_4 =>
    cond ((andF .i64 (shrF .i64 r_1.1 i_3) (1 : Int)) == (1 : Int))
    ((apL a_2 ([(w64 (i_3 + (1 : Int)))] : List Int)).bind fun l_5 =>
    keep_Src_Passengers_L1 r_1 q_6 l_5 (w64 (i_3 + (1 : Int))))
    (keep_Src_Passengers_L1 r_1 q_6 a_2 (w64 (i_3 + (1 : Int)))))
    (some (Ctl.brk a_2))
def keep_Src_Passengers (x_0 : Src) : Option ((List Int) × Src) :=
  (keep_Src_N x_0 (4096 : Int)).bind fun r_1 =>
    Ctl.fin (keep_Src_Passengers_L1 r_1 9223372036854775807 ([] : List Int) (0 : Int)) fun z_7 =>
    some (z_7, r_1.2)

def keep_Src_Manifests_L2 : (List Int) → Nat → (List Int) → Int → (List Int) → Option (Ctl ((List Manifest) × Src) ((List Int) × Int × (List Int) × Int × (List Int)))
  | [], k_13, a_9, i_10, a_11 => some (Ctl.brk (a_9, i_10, a_9, i_10, a_11))
  | e_14 :: q_17, k_13, a_9, i_10, a_11 => (keep_Src_N (⟨a_9, i_10⟩ : Src) (3 : Int)).bind fun r_15 =>
    cond (decide ((0 : Int) < r_15.1))
    ((apL a_11 ([e_14] : List Int)).bind fun l_16 =>
    keep_Src_Manifests_L2 q_17 (k_13 + 1) r_15.2.L r_15.2.At l_16)
    (keep_Src_Manifests_L2 q_17 (k_13 + 1) r_15.2.L r_15.2.At a_11)
def keep_Src_Manifests_L1 : Nat → (List Int) → Int → Int → (List Manifest) → Option (Ctl ((List Manifest) × Src) ((List Int) × Int × (List Manifest)))
  | 0, _, _, _, _ => none
  | q_20 + 1, a_1, i_2, i_4, a_3 => cond (decide (i_4 < (5 : Int)))
    ((keep_Src_N (⟨a_1, i_2⟩ : Src) (2 : Int)).bind fun r_5 =>
    cond (r_5.1 == (0 : Int))
    (keep_Src_Manifests_L1 q_20 r_5.2.L r_5.2.At (w64 (i_4 + (1 : Int))) a_3)
    ((keep_Flights i_4).bind fun r_6 =>
    (keep_Src_N r_5.2 (4 : Int)).bind fun r_7 =>
    (keep_Src_Passengers r_7.2).bind fun r_8 =>
    Ctl.sub (keep_Src_Manifests_L2 r_8.1 0 r_8.2.L r_8.2.At ([] : List Int)) fun z_18 =>
    (apL a_3 ([(⟨r_6, (w64 ((1 : Int) + r_7.1)), z_18.2.2.2.2, r_8.1⟩ : Manifest)] : List Manifest)).bind fun l_19 =>
    keep_Src_Manifests_L1 q_20 z_18.2.2.1 z_18.2.2.2.1 (w64 (i_4 + (1 : Int))) l_19))
    (some (Ctl.brk (a_1, i_2, a_3)))
def keep_Src_Manifests (x_0 : Src) : Option ((List Manifest) × Src) :=
  Ctl.fin (keep_Src_Manifests_L1 9223372036854775807 x_0.L x_0.At (0 : Int) ([] : List Manifest)) fun z_21 =>
    some (z_21.2.2, (⟨z_21.1, z_21.2.1⟩ : Src))

def law26_flights_L1 : Nat → (List Departure) → Int → Option (Ctl ((List Departure)) ((List Departure)))
  | 0, _, _ => none
  | q_5 + 1, a_1, i_2 => cond (decide (i_2 < (3 : Int)))
    ((keep_Flights i_2).bind fun r_3 =>
    (apL a_1 ([(⟨r_3, (⟨#[76, 72, 82]⟩ : ByteArray), (10 : Int), (40 : Int), (50 : Int), (0 : Int), (0 : Int)⟩ : Departure)] : List Departure)).bind fun l_4 =>
    law26_flights_L1 q_5 l_4 (w64 (i_2 + (1 : Int))))
    (some (Ctl.brk a_1))
def law26_flights : Option ((List Departure)) :=
  Ctl.fin (law26_flights_L1 9223372036854775807 ([] : List Departure) (0 : Int)) fun z_6 =>
    some z_6

def keep_Src_Flight (x_0 : Src) : Option (Flight × Src) :=
  (keep_Src_Text x_0 ([(⟨#[83, 75]⟩ : ByteArray), (⟨#[66, 65]⟩ : ByteArray), (⟨#[76, 72]⟩ : ByteArray)] : List ByteArray)).bind fun r_1 =>
    (keep_Src_N r_1.2 (3 : Int)).bind fun r_2 =>
    (keep_Src_N r_2.2 (3 : Int)).bind fun r_3 =>
    some ((⟨r_1.1, (w64 ((1 : Int) + r_2.1)), (⟨#[]⟩ : ByteArray), (w64 ((1 : Int) + r_3.1))⟩ : Flight), r_3.2)

def schedule_Find_L1 (x_1 : Flight) : (List Departure) → Nat → Option (Ctl (Int) (Unit))
  | [], k_2 => some (Ctl.brk ())
  | e_3 :: q_4, k_2 => cond ((e_3.Flight.Carrier.toList == x_1.Carrier.toList) && ((e_3.Flight.Number == x_1.Number) && ((e_3.Flight.Suffix.toList == x_1.Suffix.toList) && ((e_3.Flight.Day == x_1.Day) && true))))
    (some (Ctl.ret (k_2 : Int)))
    (schedule_Find_L1 x_1 q_4 (k_2 + 1))
def schedule_Find (x_0 : (List Departure)) (x_1 : Flight) : Option (Int) :=
  Ctl.fin (schedule_Find_L1 x_1 x_0 0) fun z_5 =>
    some (-1 : Int)

def schedule_IsClosed (x_0 : Departure) (x_1 : Int) : Option (Bool) :=
  cond (x_0.State != (0 : Int))
    (some true)
    (some (decide (x_0.Closes ≤ x_1)))

def authority_refusal (x_0 : Facts) (x_1 : (List Departure)) (x_2 : Flight) (x_3 : Int) (x_4 : Bool) : Option (Int) :=
  (schedule_Find x_1 x_2).bind fun r_1 =>
    cond (!x_0.Known)
    (some (1 : Int))
    (cond (decide ((1 : Int) < x_0.Copies))
    (some (2 : Int))
    (cond (!((x_0.Bag.Out.Flight.Carrier.toList == x_2.Carrier.toList) && ((x_0.Bag.Out.Flight.Number == x_2.Number) && ((x_0.Bag.Out.Flight.Suffix.toList == x_2.Suffix.toList) && ((x_0.Bag.Out.Flight.Day == x_2.Day) && true)))))
    (some (3 : Int))
    (cond (decide (r_1 < (0 : Int)))
    (some (4 : Int))
    ((ixL x_1 r_1).bind fun e_2 =>
    cond (e_2.State != (0 : Int))
    (some (4 : Int))
    (cond (!x_4)
    ((ixL x_1 r_1).bind fun e_3 =>
    (schedule_IsClosed e_3 x_3).bind fun r_4 =>
    cond r_4
    (some (4 : Int))
    (cond (!x_0.Cleared)
    (some (5 : Int))
    (cond (!x_0.Bag.Load)
    (some (6 : Int))
    (cond x_0.Bag.Unloaded
    (some (6 : Int))
    (some (0 : Int))))))
    (cond (!x_0.Cleared)
    (some (5 : Int))
    (cond (!x_0.Bag.Load)
    (some (6 : Int))
    (cond x_0.Bag.Unloaded
    (some (6 : Int))
    (some (0 : Int))))))))))

def authority_refuse (x_0 : Int) : Option (Decision) :=
  some (⟨false, (0 : Int), x_0⟩ : Decision)

def authority_grant (x_0 : Int) : Option (Decision) :=
  some (⟨true, x_0, (0 : Int)⟩ : Decision)

def slices_Index_int_L1 (x_1 : Int) : (List Int) → Nat → Option (Ctl (Int) (Unit))
  | [], k_2 => some (Ctl.brk ())
  | e_3 :: q_4, k_2 => cond (x_1 == e_3)
    (some (Ctl.ret (k_2 : Int)))
    (slices_Index_int_L1 x_1 q_4 (k_2 + 1))
def slices_Index_int (x_0 : (List Int)) (x_1 : Int) : Option (Int) :=
  Ctl.fin (slices_Index_int_L1 x_1 x_0 0) fun z_5 =>
    some (-1 : Int)

def slices_Contains_int (x_0 : (List Int)) (x_1 : Int) : Option (Bool) :=
  (slices_Index_int x_0 x_1).bind fun r_1 =>
    some (decide ((0 : Int) ≤ r_1))

def boarding_Status_L1 (x_1 : Flight) (x_2 : Int) (x_3 : Int) : (List Manifest) → Nat → Option (Ctl (Int) (Unit))
  | [], k_2 => some (Ctl.brk ())
  | e_3 :: q_6, k_2 => cond (!((e_3.Flight.Carrier.toList == x_1.Carrier.toList) && ((e_3.Flight.Number == x_1.Number) && ((e_3.Flight.Suffix.toList == x_1.Suffix.toList) && ((e_3.Flight.Day == x_1.Day) && true)))))
    (boarding_Status_L1 x_1 x_2 x_3 q_6 (k_2 + 1))
    ((slices_Contains_int e_3.Boarded x_2).bind fun r_4 =>
    cond r_4
    (some (Ctl.ret (4 : Int)))
    ((slices_Contains_int e_3.Ever x_2).bind fun r_5 =>
    cond r_5
    (some (Ctl.ret (5 : Int)))
    (some (Ctl.ret x_3))))
def boarding_Status (x_0 : (List Manifest)) (x_1 : Flight) (x_2 : Int) (x_3 : Int) : Option (Int) :=
  Ctl.fin (boarding_Status_L1 x_1 x_2 x_3 x_0 0) fun z_7 =>
    some x_3

def authority_Decide (x_0 : Facts) (x_1 : (List Manifest)) (x_2 : (List Departure)) (x_3 : Flight) (x_4 : Int) (x_5 : Bool) : Option (Decision) :=
  (authority_refusal x_0 x_2 x_3 x_4 x_5).bind fun r_1 =>
    cond (r_1 != (0 : Int))
    ((authority_refuse r_1).bind fun r_2 =>
    some r_2)
    (cond (decide ((0 : Int) < x_0.Bag.Exception))
    (cond (decide (x_0.Bag.Exception < (4 : Int)))
    (cond (x_0.Bag.Exception == (0 : Int))
    ((authority_grant (0 : Int)).bind fun r_3 =>
    some r_3)
    (cond (x_0.Bag.Exception == (1 : Int))
    ((authority_grant (3 : Int)).bind fun r_4 =>
    some r_4)
    (cond (x_0.Bag.Exception == (2 : Int))
    ((authority_grant (4 : Int)).bind fun r_5 =>
    some r_5)
    (cond (x_0.Bag.Exception == (3 : Int))
    ((authority_grant (5 : Int)).bind fun r_6 =>
    some r_6)
    (none)))))
    ((boarding_Status x_1 x_0.Bag.Out.Flight x_0.Bag.Sequence x_0.Bag.Status).bind fun r_7 =>
    cond (r_7 == (4 : Int))
    ((authority_grant (1 : Int)).bind fun r_8 =>
    some r_8)
    (cond (r_7 == (1 : Int))
    (cond (!x_5)
    ((authority_grant (2 : Int)).bind fun r_9 =>
    some r_9)
    ((authority_refuse (8 : Int)).bind fun r_10 =>
    some r_10))
    (cond (r_7 == (5 : Int))
    ((authority_refuse (7 : Int)).bind fun r_11 =>
    some r_11)
    ((authority_refuse (8 : Int)).bind fun r_12 =>
    some r_12)))))
    ((boarding_Status x_1 x_0.Bag.Out.Flight x_0.Bag.Sequence x_0.Bag.Status).bind fun r_13 =>
    cond (r_13 == (4 : Int))
    ((authority_grant (1 : Int)).bind fun r_14 =>
    some r_14)
    (cond (r_13 == (1 : Int))
    (cond (!x_5)
    ((authority_grant (2 : Int)).bind fun r_15 =>
    some r_15)
    ((authority_refuse (8 : Int)).bind fun r_16 =>
    some r_16))
    (cond (r_13 == (5 : Int))
    ((authority_refuse (7 : Int)).bind fun r_17 =>
    some r_17)
    ((authority_refuse (8 : Int)).bind fun r_18 =>
    some r_18)))))

def ref20_Find_L1 (x_1 : Flight) : (List Departure) → Nat → Option (Ctl (Int) (Unit))
  | [], k_2 => some (Ctl.brk ())
  | e_3 :: q_4, k_2 => cond ((e_3.Flight.Carrier.toList == x_1.Carrier.toList) && ((e_3.Flight.Number == x_1.Number) && ((e_3.Flight.Suffix.toList == x_1.Suffix.toList) && ((e_3.Flight.Day == x_1.Day) && true))))
    (some (Ctl.ret (k_2 : Int)))
    (ref20_Find_L1 x_1 q_4 (k_2 + 1))
def ref20_Find (x_0 : (List Departure)) (x_1 : Flight) : Option (Int) :=
  Ctl.fin (ref20_Find_L1 x_1 x_0 0) fun z_5 =>
    some (-1 : Int)

def ref20_IsClosed (x_0 : Departure) (x_1 : Int) : Option (Bool) :=
  cond (x_0.State != (0 : Int))
    (some true)
    (some (decide (x_0.Closes ≤ x_1)))

def ref26_Refusal (x_0 : Facts) (x_1 : (List Departure)) (x_2 : Flight) (x_3 : Int) (x_4 : Bool) : Option (Int) :=
  cond (!x_0.Known)
    (some (1 : Int))
    (cond (decide ((1 : Int) < x_0.Copies))
    (some (2 : Int))
    (cond (!((x_0.Bag.Out.Flight.Carrier.toList == x_2.Carrier.toList) && ((x_0.Bag.Out.Flight.Number == x_2.Number) && ((x_0.Bag.Out.Flight.Suffix.toList == x_2.Suffix.toList) && ((x_0.Bag.Out.Flight.Day == x_2.Day) && true)))))
    (some (3 : Int))
    ((ref20_Find x_1 x_2).bind fun r_1 =>
    cond (decide (r_1 < (0 : Int)))
    (some (4 : Int))
    ((ixL x_1 r_1).bind fun e_2 =>
    cond (e_2.State != (0 : Int))
    (some (4 : Int))
    (cond (!x_4)
    ((ixL x_1 r_1).bind fun e_3 =>
    (ref20_IsClosed e_3 x_3).bind fun r_4 =>
    cond r_4
    (some (4 : Int))
    (cond (!x_0.Cleared)
    (some (5 : Int))
    (cond (!x_0.Bag.Load)
    (some (6 : Int))
    (cond x_0.Bag.Unloaded
    (some (6 : Int))
    (some (0 : Int))))))
    (cond (!x_0.Cleared)
    (some (5 : Int))
    (cond (!x_0.Bag.Load)
    (some (6 : Int))
    (cond x_0.Bag.Unloaded
    (some (6 : Int))
    (some (0 : Int))))))))))

def ref25_find_L1 (x_1 : Flight) : (List Manifest) → Nat → Option (Ctl (Int) (Unit))
  | [], k_2 => some (Ctl.brk ())
  | e_3 :: q_4, k_2 => cond ((e_3.Flight.Carrier.toList == x_1.Carrier.toList) && ((e_3.Flight.Number == x_1.Number) && ((e_3.Flight.Suffix.toList == x_1.Suffix.toList) && ((e_3.Flight.Day == x_1.Day) && true))))
    (some (Ctl.ret (k_2 : Int)))
    (ref25_find_L1 x_1 q_4 (k_2 + 1))
def ref25_find (x_0 : (List Manifest)) (x_1 : Flight) : Option (Int) :=
  Ctl.fin (ref25_find_L1 x_1 x_0 0) fun z_5 =>
    some (-1 : Int)

def ref25_in_L1 (x_1 : Int) : (List Int) → Nat → Option (Ctl (Bool) (Unit))
  | [], k_2 => some (Ctl.brk ())
  | e_3 :: q_4, k_2 => cond (e_3 == x_1)
    (some (Ctl.ret true))
    (ref25_in_L1 x_1 q_4 (k_2 + 1))
def ref25_in (x_0 : (List Int)) (x_1 : Int) : Option (Bool) :=
  Ctl.fin (ref25_in_L1 x_1 x_0 0) fun z_5 =>
    some false

def ref25_Status (x_0 : (List Manifest)) (x_1 : Flight) (x_2 : Int) (x_3 : Int) : Option (Int) :=
  (ref25_find x_0 x_1).bind fun r_1 =>
    cond (decide (r_1 < (0 : Int)))
    (some x_3)
    ((ixL x_0 r_1).bind fun e_2 =>
    (ref25_in e_2.Boarded x_2).bind fun r_3 =>
    cond r_3
    (some (4 : Int))
    ((ixL x_0 r_1).bind fun e_4 =>
    (ref25_in e_4.Ever x_2).bind fun r_5 =>
    cond r_5
    (some (5 : Int))
    (some x_3)))

def ref26_State (x_0 : Facts) (x_1 : (List Manifest)) : Option (Int) :=
  (ref25_Status x_1 x_0.Bag.Out.Flight x_0.Bag.Sequence x_0.Bag.Status).bind fun r_1 =>
    some r_1

def ref26_Decide (x_0 : Facts) (x_1 : (List Manifest)) (x_2 : (List Departure)) (x_3 : Flight) (x_4 : Int) (x_5 : Bool) : Option (Decision) :=
  (ref26_Refusal x_0 x_2 x_3 x_4 x_5).bind fun r_1 =>
    cond (r_1 != (0 : Int))
    (some (⟨false, (0 : Int), r_1⟩ : Decision))
    ((ref26_State x_0 x_1).bind fun r_2 =>
    cond (x_0.Bag.Exception == (1 : Int))
    (some (⟨true, (3 : Int), (0 : Int)⟩ : Decision))
    (cond (x_0.Bag.Exception == (2 : Int))
    (some (⟨true, (4 : Int), (0 : Int)⟩ : Decision))
    (cond (x_0.Bag.Exception == (3 : Int))
    (some (⟨true, (5 : Int), (0 : Int)⟩ : Decision))
    (cond (r_2 == (4 : Int))
    (some (⟨true, (1 : Int), (0 : Int)⟩ : Decision))
    (cond (r_2 == (1 : Int))
    (cond (!x_5)
    (some (⟨true, (2 : Int), (0 : Int)⟩ : Decision))
    (some (⟨false, (0 : Int), (8 : Int)⟩ : Decision)))
    (cond (r_2 == (5 : Int))
    (some (⟨false, (0 : Int), (7 : Int)⟩ : Decision))
    (some (⟨false, (0 : Int), (8 : Int)⟩ : Decision))))))))

def fields_Letter (x_0 : Int) : Option (Bool) :=
  cond (decide ((65 : Int) ≤ x_0))
    (some (decide (x_0 ≤ (90 : Int))))
    (some false)

def fields_Digit (x_0 : Int) : Option (Bool) :=
  cond (decide ((48 : Int) ≤ x_0))
    (some (decide (x_0 ≤ (57 : Int))))
    (some false)

def flight_carrier_L1 (x_0 : ByteArray) : Nat → Int → Int → Option (Ctl (Bool) (Int))
  | 0, _, _ => none
  | q_7 + 1, i_1, i_2 => cond (decide (i_2 < (x_0.size : Int)))
    ((ixS x_0 i_2).bind fun b_3 =>
    (fields_Letter b_3).bind fun r_4 =>
    cond r_4
    (flight_carrier_L1 x_0 q_7 (w64 (i_1 + (1 : Int))) (w64 (i_2 + (1 : Int))))
    ((ixS x_0 i_2).bind fun b_5 =>
    (fields_Digit b_5).bind fun r_6 =>
    cond (!r_6)
    (some (Ctl.ret false))
    (flight_carrier_L1 x_0 q_7 i_1 (w64 (i_2 + (1 : Int))))))
    (some (Ctl.brk i_1))
def flight_carrier (x_0 : ByteArray) : Option (Bool) :=
  cond ((x_0.size : Int) != (2 : Int))
    (some false)
    (Ctl.fin (flight_carrier_L1 x_0 9223372036854775807 (0 : Int) (0 : Int)) fun z_8 =>
    some (decide ((0 : Int) < z_8)))

def fields_All_L1 (x_0 : ByteArray) : Nat → Int → Option (Ctl (Bool) (Unit))
  | 0, _ => none
  | q_4 + 1, i_1 => cond (decide (i_1 < (x_0.size : Int)))
    ((ixS x_0 i_1).bind fun b_2 =>
    (fields_Letter b_2).bind fun r_3 =>
    cond (!r_3)
    (some (Ctl.ret false))
    (fields_All_L1 x_0 q_4 (w64 (i_1 + (1 : Int)))))
    (some (Ctl.brk ()))
def fields_All (x_0 : ByteArray) : Option (Bool) :=
  Ctl.fin (fields_All_L1 x_0 9223372036854775807 (0 : Int)) fun z_5 =>
    some true

def fields_Letters (x_0 : ByteArray) (x_1 : Int) (x_2 : Int) : Option (Bool) :=
  cond (decide (x_1 ≤ (x_0.size : Int)))
    (cond (decide ((x_0.size : Int) ≤ x_2))
    ((fields_All x_0).bind fun r_1 =>
    some r_1)
    (some false))
    (some false)

def flight_Valid (x_0 : Flight) : Option (Bool) :=
  (flight_carrier x_0.Carrier).bind fun r_1 =>
    cond r_1
    (cond (decide ((1 : Int) ≤ x_0.Number))
    (cond (decide (x_0.Number ≤ (9999 : Int)))
    ((fields_Letters x_0.Suffix (0 : Int) (1 : Int)).bind fun r_2 =>
    cond r_2
    (cond (decide ((0 : Int) ≤ x_0.Day))
    (some (decide (x_0.Day ≤ (99 : Int))))
    (some false))
    (some false))
    (some false))
    (some false))
    (some false)

def boarding_ascending_L1 (x_0 : (List Int)) : (List Int) → Nat → Option (Ctl (Bool) (Unit))
  | [], k_2 => some (Ctl.brk ())
  | e_3 :: q_5, k_2 => cond (decide (e_3 < (1 : Int)))
    (some (Ctl.ret false))
    (cond (decide ((999 : Int) < e_3))
    (some (Ctl.ret false))
    (cond (decide ((0 : Int) < (k_2 : Int)))
    ((ixL x_0 (w64 ((k_2 : Int) - (1 : Int)))).bind fun e_4 =>
    cond (decide (e_3 ≤ e_4))
    (some (Ctl.ret false))
    (boarding_ascending_L1 x_0 q_5 (k_2 + 1)))
    (boarding_ascending_L1 x_0 q_5 (k_2 + 1))))
def boarding_ascending (x_0 : (List Int)) : Option (Bool) :=
  Ctl.fin (boarding_ascending_L1 x_0 x_0 0) fun z_6 =>
    some true

def cmp_isNaN_int (x_0 : Int) : Option (Bool) :=
  some (x_0 != x_0)

def cmp_Less_int (x_0 : Int) (x_1 : Int) : Option (Bool) :=
  (cmp_isNaN_int x_0).bind fun r_1 =>
    cond r_1
    ((cmp_isNaN_int x_1).bind fun r_2 =>
    cond (!r_2)
    (some true)
    (some (decide (x_0 < x_1))))
    (some (decide (x_0 < x_1)))

def slices_isNaN_int (x_0 : Int) : Option (Bool) :=
  some (x_0 != x_0)

def slices_BinarySearch_int_L1 (x_0 : (List Int)) (x_1 : Int) : Nat → Int → Int → Option (Ctl (Int × Bool) (Int))
  | 0, _, _ => none
  | q_5 + 1, i_1, i_2 => cond (decide (i_1 < i_2))
    ((ixL x_0 (IntKind.i64.wrap (shrF .u64 (IntKind.u64.wrap (w64 (i_1 + i_2))) (1 : Int)))).bind fun e_3 =>
    (cmp_Less_int e_3 x_1).bind fun r_4 =>
    cond r_4
    (slices_BinarySearch_int_L1 x_0 x_1 q_5 (w64 ((IntKind.i64.wrap (shrF .u64 (IntKind.u64.wrap (w64 (i_1 + i_2))) (1 : Int))) + (1 : Int))) i_2)
    (slices_BinarySearch_int_L1 x_0 x_1 q_5 i_1 (IntKind.i64.wrap (shrF .u64 (IntKind.u64.wrap (w64 (i_1 + i_2))) (1 : Int)))))
    (some (Ctl.brk i_1))
def slices_BinarySearch_int (x_0 : (List Int)) (x_1 : Int) : Option (Int × Bool) :=
  Ctl.fin (slices_BinarySearch_int_L1 x_0 x_1 9223372036854775807 (0 : Int) (x_0.length : Int)) fun z_6 =>
    cond (decide (z_6 < (x_0.length : Int)))
    ((ixL x_0 z_6).bind fun e_7 =>
    cond (e_7 == x_1)
    (some (z_6, true))
    ((ixL x_0 z_6).bind fun e_8 =>
    (slices_isNaN_int e_8).bind fun r_9 =>
    cond r_9
    ((slices_isNaN_int x_1).bind fun r_10 =>
    some (z_6, r_10))
    (some (z_6, false))))
    (some (z_6, false))

def boarding_valid_L1 (x_0 : Manifest) : (List Int) → Nat → Option (Ctl (Bool) (Unit))
  | [], k_5 => some (Ctl.brk ())
  | e_6 :: q_8, k_5 => (slices_BinarySearch_int x_0.Ever e_6).bind fun r_7 =>
    cond (!r_7.2)
    (some (Ctl.ret false))
    (boarding_valid_L1 x_0 q_8 (k_5 + 1))
def boarding_valid (x_0 : Manifest) : Option (Bool) :=
  (flight_Valid x_0.Flight).bind fun r_1 =>
    cond (!r_1)
    (some false)
    (cond (decide (x_0.Version < (1 : Int)))
    (some false)
    (cond (decide ((9999 : Int) < x_0.Version))
    (some false)
    ((boarding_ascending x_0.Boarded).bind fun r_2 =>
    cond (!r_2)
    (some false)
    ((boarding_ascending x_0.Ever).bind fun r_3 =>
    cond (!r_3)
    (some false)
    (Ctl.fin (boarding_valid_L1 x_0 x_0.Boarded 0) fun z_9 =>
    some true)))))

def cmp_isNaN_string (x_0 : ByteArray) : Option (Bool) :=
  some (!(x_0.toList == x_0.toList))

def cmp_Compare_string (x_0 : ByteArray) (x_1 : ByteArray) : Option (Int) :=
  (cmp_isNaN_string x_0).bind fun r_1 =>
    (cmp_isNaN_string x_1).bind fun r_2 =>
    cond r_1
    (cond r_2
    (some (0 : Int))
    (some (-1 : Int)))
    (cond r_2
    (some (1 : Int))
    (cond (Op.bytesLess x_0.toList x_1.toList)
    (some (-1 : Int))
    (cond (!(Op.bytesLess x_0.toList x_1.toList || x_0.toList == x_1.toList))
    (some (1 : Int))
    (some (0 : Int)))))

def cmp_Compare_int (x_0 : Int) (x_1 : Int) : Option (Int) :=
  (cmp_isNaN_int x_0).bind fun r_1 =>
    (cmp_isNaN_int x_1).bind fun r_2 =>
    cond r_1
    (cond r_2
    (some (0 : Int))
    (some (-1 : Int)))
    (cond r_2
    (some (1 : Int))
    (cond (decide (x_0 < x_1))
    (some (-1 : Int))
    (cond (decide (x_1 < x_0))
    (some (1 : Int))
    (some (0 : Int)))))

def cmp_Or_int_L1 : (List Int) → Nat → Option (Ctl (Int) (Unit))
  | [], k_2 => some (Ctl.brk ())
  | e_3 :: q_4, k_2 => cond (e_3 != (0 : Int))
    (some (Ctl.ret e_3))
    (cmp_Or_int_L1 q_4 (k_2 + 1))
def cmp_Or_int (x_0 : (List Int)) : Option (Int) :=
  Ctl.fin (cmp_Or_int_L1 x_0 0) fun z_5 =>
    some (0 : Int)

def flight_Compare (x_0 : Flight) (x_1 : Flight) : Option (Int) :=
  (cmp_Compare_string x_0.Carrier x_1.Carrier).bind fun r_1 =>
    (cmp_Compare_int x_0.Number x_1.Number).bind fun r_2 =>
    (cmp_Compare_string x_0.Suffix x_1.Suffix).bind fun r_3 =>
    (cmp_Compare_int x_0.Day x_1.Day).bind fun r_4 =>
    (cmp_Or_int ([r_1, r_2, r_3, r_4] : List Int)).bind fun r_5 =>
    some r_5

def boarding_Validate_L1 (x_0 : (List Manifest)) : (List Manifest) → Nat → Option (Ctl (Int) (Unit))
  | [], k_2 => some (Ctl.brk ())
  | e_3 :: q_7, k_2 => (boarding_valid e_3).bind fun r_4 =>
    cond (!r_4)
    (some (Ctl.ret (1 : Int)))
    (cond (decide ((0 : Int) < (k_2 : Int)))
    ((ixL x_0 (w64 ((k_2 : Int) - (1 : Int)))).bind fun e_5 =>
    (flight_Compare e_5.Flight e_3.Flight).bind fun r_6 =>
    cond (decide ((0 : Int) ≤ r_6))
    (some (Ctl.ret (9 : Int)))
    (boarding_Validate_L1 x_0 q_7 (k_2 + 1)))
    (boarding_Validate_L1 x_0 q_7 (k_2 + 1)))
def boarding_Validate (x_0 : (List Manifest)) : Option (Int) :=
  cond (decide ((24 : Int) < (x_0.length : Int)))
    (some (2 : Int))
    (Ctl.fin (boarding_Validate_L1 x_0 x_0 0) fun z_8 =>
    some (0 : Int))

def message_in (x_0 : Int) (x_1 : Int) (x_2 : Int) : Option (Bool) :=
  cond (decide (x_1 ≤ x_0))
    (some (decide (x_0 ≤ x_2)))
    (some false)

def message_own (x_0 : Message) : Option (Message) :=
  cond (x_0.Kind == (1 : Int))
    (some (⟨x_0.Kind, x_0.Do, x_0.Port, x_0.Number, (⟨(⟨(⟨#[]⟩ : ByteArray), (0 : Int), (⟨#[]⟩ : ByteArray), (0 : Int)⟩ : Flight), (⟨#[]⟩ : ByteArray), (⟨#[]⟩ : ByteArray)⟩ : Leg), x_0.Out, x_0.Onward, x_0.First, x_0.Count, x_0.Load, x_0.Status, x_0.Sequence, x_0.Weight, x_0.Surname, x_0.Given, x_0.Exception, (⟨#[]⟩ : ByteArray), ([] : (List Int))⟩ : Message))
    (cond (x_0.Kind == (2 : Int))
    (some (⟨x_0.Kind, x_0.Do, x_0.Port, x_0.Number, x_0.In, x_0.Out, x_0.Onward, x_0.First, x_0.Count, x_0.Load, x_0.Status, x_0.Sequence, x_0.Weight, x_0.Surname, x_0.Given, x_0.Exception, (⟨#[]⟩ : ByteArray), ([] : (List Int))⟩ : Message))
    (cond (x_0.Kind == (3 : Int))
    (some (⟨x_0.Kind, (0 : Int), x_0.Port, x_0.Number, (⟨(⟨(⟨#[]⟩ : ByteArray), (0 : Int), (⟨#[]⟩ : ByteArray), (0 : Int)⟩ : Flight), (⟨#[]⟩ : ByteArray), (⟨#[]⟩ : ByteArray)⟩ : Leg), (⟨(⟨(⟨#[]⟩ : ByteArray), (0 : Int), (⟨#[]⟩ : ByteArray), (0 : Int)⟩ : Flight), (⟨#[]⟩ : ByteArray), (⟨#[]⟩ : ByteArray)⟩ : Leg), ([] : (List Leg)), x_0.First, x_0.Count, false, (0 : Int), (0 : Int), (0 : Int), (⟨#[]⟩ : ByteArray), (⟨#[]⟩ : ByteArray), (0 : Int), x_0.Node, ([] : (List Int))⟩ : Message))
    (cond (x_0.Kind == (4 : Int))
    (some (⟨x_0.Kind, (0 : Int), x_0.Port, x_0.Number, (⟨(⟨(⟨#[]⟩ : ByteArray), (0 : Int), (⟨#[]⟩ : ByteArray), (0 : Int)⟩ : Flight), (⟨#[]⟩ : ByteArray), (⟨#[]⟩ : ByteArray)⟩ : Leg), x_0.Out, ([] : (List Leg)), x_0.First, x_0.Count, false, (0 : Int), (0 : Int), (0 : Int), (⟨#[]⟩ : ByteArray), (⟨#[]⟩ : ByteArray), (0 : Int), (⟨#[]⟩ : ByteArray), ([] : (List Int))⟩ : Message))
    (cond (x_0.Kind == (5 : Int))
    (some (⟨x_0.Kind, (0 : Int), x_0.Port, x_0.Number, (⟨(⟨(⟨#[]⟩ : ByteArray), (0 : Int), (⟨#[]⟩ : ByteArray), (0 : Int)⟩ : Flight), (⟨#[]⟩ : ByteArray), (⟨#[]⟩ : ByteArray)⟩ : Leg), x_0.Out, ([] : (List Leg)), (⟨(0 : Int), (0 : Int), (0 : Int)⟩ : Plate), (0 : Int), false, (0 : Int), (0 : Int), (0 : Int), (⟨#[]⟩ : ByteArray), (⟨#[]⟩ : ByteArray), (0 : Int), (⟨#[]⟩ : ByteArray), x_0.List⟩ : Message))
    (some (⟨x_0.Kind, (0 : Int), x_0.Port, x_0.Number, (⟨(⟨(⟨#[]⟩ : ByteArray), (0 : Int), (⟨#[]⟩ : ByteArray), (0 : Int)⟩ : Flight), (⟨#[]⟩ : ByteArray), (⟨#[]⟩ : ByteArray)⟩ : Leg), (⟨(⟨(⟨#[]⟩ : ByteArray), (0 : Int), (⟨#[]⟩ : ByteArray), (0 : Int)⟩ : Flight), (⟨#[]⟩ : ByteArray), (⟨#[]⟩ : ByteArray)⟩ : Leg), ([] : (List Leg)), (⟨(0 : Int), (0 : Int), (0 : Int)⟩ : Plate), (0 : Int), false, (0 : Int), (0 : Int), (0 : Int), (⟨#[]⟩ : ByteArray), (⟨#[]⟩ : ByteArray), (0 : Int), (⟨#[]⟩ : ByteArray), ([] : (List Int))⟩ : Message))))))

def slices_Equal_Leg_L1 (x_1 : (List Leg)) : (List Leg) → Nat → Option (Ctl (Bool) (Unit))
  | [], k_2 => some (Ctl.brk ())
  | e_3 :: q_5, k_2 => (ixL x_1 (k_2 : Int)).bind fun e_4 =>
    cond (!((e_3.Flight.Carrier.toList == e_4.Flight.Carrier.toList) && ((e_3.Flight.Number == e_4.Flight.Number) && ((e_3.Flight.Suffix.toList == e_4.Flight.Suffix.toList) && ((e_3.Flight.Day == e_4.Flight.Day) && ((e_3.Port.toList == e_4.Port.toList) && ((e_3.Class.toList == e_4.Class.toList) && true)))))))
    (some (Ctl.ret false))
    (slices_Equal_Leg_L1 x_1 q_5 (k_2 + 1))
def slices_Equal_Leg (x_0 : (List Leg)) (x_1 : (List Leg)) : Option (Bool) :=
  cond ((x_0.length : Int) != (x_1.length : Int))
    (some false)
    (Ctl.fin (slices_Equal_Leg_L1 x_1 x_0 0) fun z_6 =>
    some true)

def slices_Equal_int_L1 (x_1 : (List Int)) : (List Int) → Nat → Option (Ctl (Bool) (Unit))
  | [], k_2 => some (Ctl.brk ())
  | e_3 :: q_5, k_2 => (ixL x_1 (k_2 : Int)).bind fun e_4 =>
    cond (e_3 != e_4)
    (some (Ctl.ret false))
    (slices_Equal_int_L1 x_1 q_5 (k_2 + 1))
def slices_Equal_int (x_0 : (List Int)) (x_1 : (List Int)) : Option (Bool) :=
  cond ((x_0.length : Int) != (x_1.length : Int))
    (some false)
    (Ctl.fin (slices_Equal_int_L1 x_1 x_0 0) fun z_6 =>
    some true)

def message_Same (x_0 : Message) (x_1 : Message) : Option (Bool) :=
  cond (x_0.Kind == x_1.Kind)
    (cond (x_0.Do == x_1.Do)
    (cond (x_0.Port.toList == x_1.Port.toList)
    (cond (x_0.Number == x_1.Number)
    (cond ((x_0.In.Flight.Carrier.toList == x_1.In.Flight.Carrier.toList) && ((x_0.In.Flight.Number == x_1.In.Flight.Number) && ((x_0.In.Flight.Suffix.toList == x_1.In.Flight.Suffix.toList) && ((x_0.In.Flight.Day == x_1.In.Flight.Day) && ((x_0.In.Port.toList == x_1.In.Port.toList) && ((x_0.In.Class.toList == x_1.In.Class.toList) && true))))))
    (cond ((x_0.Out.Flight.Carrier.toList == x_1.Out.Flight.Carrier.toList) && ((x_0.Out.Flight.Number == x_1.Out.Flight.Number) && ((x_0.Out.Flight.Suffix.toList == x_1.Out.Flight.Suffix.toList) && ((x_0.Out.Flight.Day == x_1.Out.Flight.Day) && ((x_0.Out.Port.toList == x_1.Out.Port.toList) && ((x_0.Out.Class.toList == x_1.Out.Class.toList) && true))))))
    ((slices_Equal_Leg x_0.Onward x_1.Onward).bind fun r_1 =>
    cond r_1
    (cond ((x_0.First.Lead == x_1.First.Lead) && ((x_0.First.Airline == x_1.First.Airline) && ((x_0.First.Serial == x_1.First.Serial) && true)))
    (cond (x_0.Count == x_1.Count)
    (cond (x_0.Load == x_1.Load)
    (cond (x_0.Status == x_1.Status)
    (cond (x_0.Sequence == x_1.Sequence)
    (cond (x_0.Weight == x_1.Weight)
    (cond (x_0.Surname.toList == x_1.Surname.toList)
    (cond (x_0.Given.toList == x_1.Given.toList)
    (cond (x_0.Exception == x_1.Exception)
    (cond (x_0.Node.toList == x_1.Node.toList)
    ((slices_Equal_int x_0.List x_1.List).bind fun r_2 =>
    some r_2)
    (some false))
    (some false))
    (some false))
    (some false))
    (some false))
    (some false))
    (some false))
    (some false))
    (some false))
    (some false))
    (some false))
    (some false))
    (some false))
    (some false))
    (some false))
    (some false))
    (some false)

def flight_ValidPort (x_0 : ByteArray) : Option (Bool) :=
  (fields_Letters x_0 (3 : Int) (3 : Int)).bind fun r_1 =>
    some r_1

def flight_ValidLeg (x_0 : Leg) : Option (Bool) :=
  (flight_Valid x_0.Flight).bind fun r_1 =>
    cond r_1
    ((flight_ValidPort x_0.Port).bind fun r_2 =>
    cond r_2
    (cond (x_0.Class.toList == (⟨#[70]⟩ : ByteArray).toList)
    (some true)
    (cond (x_0.Class.toList == (⟨#[67]⟩ : ByteArray).toList)
    (some true)
    (some (x_0.Class.toList == (⟨#[89]⟩ : ByteArray).toList))))
    (some false))
    (some false)

def message_describes (x_0 : Int) : Option (Bool) :=
  cond (x_0 == (1 : Int))
    (some true)
    (some (x_0 == (2 : Int)))

def fields_Name_f1 (x_0 : Int) : Option (Bool) :=
  (fields_Letter x_0).bind fun r_1 =>
    cond r_1
    (some true)
    ((fields_Digit x_0).bind fun r_2 =>
    some r_2)

def fields_All_v2_L1 (x_0 : ByteArray) : Nat → Int → Option (Ctl (Bool) (Unit))
  | 0, _ => none
  | q_4 + 1, i_1 => cond (decide (i_1 < (x_0.size : Int)))
    ((ixS x_0 i_1).bind fun b_2 =>
    (fields_Name_f1 b_2).bind fun r_3 =>
    cond (!r_3)
    (some (Ctl.ret false))
    (fields_All_v2_L1 x_0 q_4 (w64 (i_1 + (1 : Int)))))
    (some (Ctl.brk ()))
def fields_All_v2 (x_0 : ByteArray) : Option (Bool) :=
  Ctl.fin (fields_All_v2_L1 x_0 9223372036854775807 (0 : Int)) fun z_5 =>
    some true

def fields_Name (x_0 : ByteArray) (x_1 : Int) : Option (Bool) :=
  cond (!(x_0.toList == (⟨#[]⟩ : ByteArray).toList))
    (cond (decide ((x_0.size : Int) ≤ x_1))
    ((ixS x_0 (0 : Int)).bind fun b_1 =>
    (fields_Letter b_1).bind fun r_2 =>
    cond r_2
    ((fields_All_v2 x_0).bind fun r_3 =>
    some r_3)
    (some false))
    (some false))
    (some false)

def message_shaped_L1 : (List Leg) → Nat → Option (Ctl (Bool) (Unit))
  | [], k_5 => some (Ctl.brk ())
  | e_6 :: q_8, k_5 => (flight_ValidLeg e_6).bind fun r_7 =>
    cond (!r_7)
    (some (Ctl.ret false))
    (message_shaped_L1 q_8 (k_5 + 1))
def message_shaped (x_0 : Message) : Option (Bool) :=
  (flight_ValidPort x_0.Port).bind fun r_1 =>
    cond (!r_1)
    (some false)
    (cond (x_0.Kind == (2 : Int))
    ((flight_ValidLeg x_0.In).bind fun r_2 =>
    cond (!r_2)
    (some false)
    (cond (x_0.Kind != (3 : Int))
    ((flight_ValidLeg x_0.Out).bind fun r_3 =>
    cond (!r_3)
    (some false)
    (Ctl.fin (message_shaped_L1 x_0.Onward 0) fun z_9 =>
    (message_describes x_0.Kind).bind fun r_10 =>
    cond r_10
    ((fields_Letters x_0.Surname (1 : Int) (20 : Int)).bind fun r_11 =>
    cond (!r_11)
    (some false)
    ((fields_Letters x_0.Given (0 : Int) (20 : Int)).bind fun r_12 =>
    cond (!r_12)
    (some false)
    (some true)))
    (some true)))
    (Ctl.fin (message_shaped_L1 x_0.Onward 0) fun z_18 =>
    (message_describes x_0.Kind).bind fun r_19 =>
    cond r_19
    ((fields_Letters x_0.Surname (1 : Int) (20 : Int)).bind fun r_20 =>
    cond (!r_20)
    (some false)
    ((fields_Letters x_0.Given (0 : Int) (20 : Int)).bind fun r_21 =>
    cond (!r_21)
    (some false)
    ((fields_Name x_0.Node (12 : Int)).bind fun r_22 =>
    some r_22)))
    ((fields_Name x_0.Node (12 : Int)).bind fun r_23 =>
    some r_23))))
    (cond (x_0.Kind != (3 : Int))
    ((flight_ValidLeg x_0.Out).bind fun r_24 =>
    cond (!r_24)
    (some false)
    (Ctl.fin (message_shaped_L1 x_0.Onward 0) fun z_30 =>
    (message_describes x_0.Kind).bind fun r_31 =>
    cond r_31
    ((fields_Letters x_0.Surname (1 : Int) (20 : Int)).bind fun r_32 =>
    cond (!r_32)
    (some false)
    ((fields_Letters x_0.Given (0 : Int) (20 : Int)).bind fun r_33 =>
    cond (!r_33)
    (some false)
    (some true)))
    (some true)))
    (Ctl.fin (message_shaped_L1 x_0.Onward 0) fun z_39 =>
    (message_describes x_0.Kind).bind fun r_40 =>
    cond r_40
    ((fields_Letters x_0.Surname (1 : Int) (20 : Int)).bind fun r_41 =>
    cond (!r_41)
    (some false)
    ((fields_Letters x_0.Given (0 : Int) (20 : Int)).bind fun r_42 =>
    cond (!r_42)
    (some false)
    ((fields_Name x_0.Node (12 : Int)).bind fun r_43 =>
    some r_43)))
    ((fields_Name x_0.Node (12 : Int)).bind fun r_44 =>
    some r_44))))

def plate_Valid (x_0 : Plate) : Option (Bool) :=
  cond (decide ((0 : Int) ≤ x_0.Lead))
    (cond (decide (x_0.Lead ≤ (9 : Int)))
    (cond (decide ((1 : Int) ≤ x_0.Airline))
    (cond (decide (x_0.Airline ≤ (999 : Int)))
    (cond (decide ((0 : Int) ≤ x_0.Serial))
    (some (decide (x_0.Serial < (1000000 : Int))))
    (some false))
    (some false))
    (some false))
    (some false))
    (some false)

def message_ranged_f1 (x_0 : Int) : Option (Bool) :=
  (message_in x_0 (1 : Int) (999 : Int)).bind fun r_1 =>
    some (!r_1)

def slices_IndexFunc_int_L1 : (List Int) → Nat → Option (Ctl (Int) (Unit))
  | [], k_2 => some (Ctl.brk ())
  | e_3 :: q_5, k_2 => (message_ranged_f1 e_3).bind fun r_4 =>
    cond r_4
    (some (Ctl.ret (k_2 : Int)))
    (slices_IndexFunc_int_L1 q_5 (k_2 + 1))
def slices_IndexFunc_int (x_0 : (List Int)) : Option (Int) :=
  Ctl.fin (slices_IndexFunc_int_L1 x_0 0) fun z_6 =>
    some (-1 : Int)

def slices_ContainsFunc_int (x_0 : (List Int)) : Option (Bool) :=
  (slices_IndexFunc_int x_0).bind fun r_1 =>
    some (decide ((0 : Int) ≤ r_1))

def message_ranged (x_0 : Message) : Option (Bool) :=
  (message_in x_0.Number (1 : Int) (9999 : Int)).bind fun r_1 =>
    cond (!r_1)
    (some false)
    ((message_in x_0.Do (0 : Int) (2 : Int)).bind fun r_2 =>
    cond (!r_2)
    (some false)
    ((message_in x_0.Weight (0 : Int) (999 : Int)).bind fun r_3 =>
    cond (!r_3)
    (some false)
    ((message_in x_0.Exception (0 : Int) (3 : Int)).bind fun r_4 =>
    cond (!r_4)
    (some false)
    (cond (x_0.Kind != (5 : Int))
    ((plate_Valid x_0.First).bind fun r_5 =>
    cond (!r_5)
    (some false)
    ((message_in x_0.Count (1 : Int) (99 : Int)).bind fun r_6 =>
    cond (!r_6)
    (some false)
    ((message_describes x_0.Kind).bind fun r_7 =>
    cond r_7
    ((message_in x_0.Status (1 : Int) (4 : Int)).bind fun r_8 =>
    cond (!r_8)
    (some false)
    ((message_in x_0.Sequence (1 : Int) (999 : Int)).bind fun r_9 =>
    cond (!r_9)
    (some false)
    ((slices_ContainsFunc_int x_0.List).bind fun r_10 =>
    some (!r_10))))
    ((slices_ContainsFunc_int x_0.List).bind fun r_11 =>
    some (!r_11)))))
    ((message_describes x_0.Kind).bind fun r_12 =>
    cond r_12
    ((message_in x_0.Status (1 : Int) (4 : Int)).bind fun r_13 =>
    cond (!r_13)
    (some false)
    ((message_in x_0.Sequence (1 : Int) (999 : Int)).bind fun r_14 =>
    cond (!r_14)
    (some false)
    ((slices_ContainsFunc_int x_0.List).bind fun r_15 =>
    some (!r_15))))
    ((slices_ContainsFunc_int x_0.List).bind fun r_16 =>
    some (!r_16)))))))

def message_Validate_L1 (x_0 : Message) : Nat → Int → Option (Ctl (Int) (Unit))
  | 0, _ => none
  | q_9 + 1, i_6 => cond (decide (i_6 < (x_0.List.length : Int)))
    ((ixL x_0.List (w64 (i_6 - (1 : Int)))).bind fun e_7 =>
    (ixL x_0.List i_6).bind fun e_8 =>
    cond (decide (e_8 ≤ e_7))
    (some (Ctl.ret (9 : Int)))
    (message_Validate_L1 x_0 q_9 (w64 (i_6 + (1 : Int)))))
    (some (Ctl.brk ()))
def message_Validate (x_0 : Message) : Option (Int) :=
  (message_in x_0.Kind (1 : Int) (5 : Int)).bind fun r_1 =>
    cond (!r_1)
    (some (4 : Int))
    ((message_own x_0).bind fun r_2 =>
    (message_Same x_0 r_2).bind fun r_3 =>
    cond (!r_3)
    (some (7 : Int))
    (cond (decide ((3 : Int) < (x_0.Onward.length : Int)))
    (some (2 : Int))
    (cond (decide ((40 : Int) < (x_0.List.length : Int)))
    (some (2 : Int))
    ((message_shaped x_0).bind fun r_4 =>
    cond (!r_4)
    (some (3 : Int))
    ((message_ranged x_0).bind fun r_5 =>
    cond (!r_5)
    (some (1 : Int))
    (Ctl.fin (message_Validate_L1 x_0 9223372036854775807 (1 : Int)) fun z_10 =>
    some (0 : Int)))))))

def slices_Clone_int (x_0 : (List Int)) : Option ((List Int)) :=
  apL [] x_0

def boarding_copied (x_0 : Manifest) : Option (Manifest) :=
  (slices_Clone_int x_0.Boarded).bind fun r_1 =>
    (slices_Clone_int x_0.Ever).bind fun r_2 =>
    some (⟨x_0.Flight, x_0.Version, r_1, r_2⟩ : Manifest)

def boarding_united (x_0 : (List Int)) (x_1 : (List Int)) : Option ((List Int)) :=
  unitedF x_0 x_1

def boarding_merged (x_0 : Manifest) (x_1 : Manifest) : Option (Manifest × Bool) :=
  cond (x_0.Version == x_1.Version)
    ((slices_Equal_int x_0.Boarded x_1.Boarded).bind fun r_1 =>
    cond (!r_1)
    (some ((⟨(⟨(⟨#[]⟩ : ByteArray), (0 : Int), (⟨#[]⟩ : ByteArray), (0 : Int)⟩ : Flight), (0 : Int), ([] : (List Int)), ([] : (List Int))⟩ : Manifest), false))
    (cond (decide (x_0.Version < x_1.Version))
    ((slices_Clone_int x_1.Boarded).bind fun r_2 =>
    (boarding_united x_0.Ever x_1.Ever).bind fun r_3 =>
    some ((⟨x_0.Flight, x_1.Version, r_2, r_3⟩ : Manifest), true))
    ((slices_Clone_int x_0.Boarded).bind fun r_4 =>
    (boarding_united x_0.Ever x_1.Ever).bind fun r_5 =>
    some ((⟨x_0.Flight, x_0.Version, r_4, r_5⟩ : Manifest), true))))
    (cond (decide (x_0.Version < x_1.Version))
    ((slices_Clone_int x_1.Boarded).bind fun r_6 =>
    (boarding_united x_0.Ever x_1.Ever).bind fun r_7 =>
    some ((⟨x_0.Flight, x_1.Version, r_6, r_7⟩ : Manifest), true))
    ((slices_Clone_int x_0.Boarded).bind fun r_8 =>
    (boarding_united x_0.Ever x_1.Ever).bind fun r_9 =>
    some ((⟨x_0.Flight, x_0.Version, r_8, r_9⟩ : Manifest), true)))

def boarding_joined_L1 : Nat → (List Manifest) → (List Manifest) → (List Manifest) → Option (Ctl ((List Manifest) × Int) ((List Manifest)))
  | 0, _, _, _ => none
  | q_29 + 1, a_1, a_3, a_2 => cond (decide ((0 : Int) < (a_1.length : Int)))
    (cond ((a_2.length : Int) == (0 : Int))
    ((ixL a_1 (0 : Int)).bind fun e_4 =>
    (boarding_copied e_4).bind fun r_5 =>
    (apL a_3 ([r_5] : List Manifest)).bind fun l_6 =>
    (slL a_1 (1 : Int) (a_1.length : Int)).bind fun l_7 =>
    boarding_joined_L1 q_29 l_7 l_6 a_2)
    ((ixL a_1 (0 : Int)).bind fun e_8 =>
    (ixL a_2 (0 : Int)).bind fun e_9 =>
    (flight_Compare e_8.Flight e_9.Flight).bind fun r_10 =>
    cond (r_10 == (-1 : Int))
    ((ixL a_1 (0 : Int)).bind fun e_11 =>
    (boarding_copied e_11).bind fun r_12 =>
    (apL a_3 ([r_12] : List Manifest)).bind fun l_13 =>
    (slL a_1 (1 : Int) (a_1.length : Int)).bind fun l_14 =>
    boarding_joined_L1 q_29 l_14 l_13 a_2)
    (cond (r_10 == (1 : Int))
    ((ixL a_2 (0 : Int)).bind fun e_15 =>
    (boarding_copied e_15).bind fun r_16 =>
    (apL a_3 ([r_16] : List Manifest)).bind fun l_17 =>
    (slL a_2 (1 : Int) (a_2.length : Int)).bind fun l_18 =>
    boarding_joined_L1 q_29 a_1 l_17 l_18)
    ((ixL a_1 (0 : Int)).bind fun e_19 =>
    (ixL a_2 (0 : Int)).bind fun e_20 =>
    (boarding_merged e_19 e_20).bind fun r_21 =>
    cond (!r_21.2)
    (some (Ctl.ret (([] : (List Manifest)), (5 : Int))))
    ((apL a_3 ([r_21.1] : List Manifest)).bind fun l_22 =>
    (slL a_1 (1 : Int) (a_1.length : Int)).bind fun l_23 =>
    (slL a_2 (1 : Int) (a_2.length : Int)).bind fun l_24 =>
    boarding_joined_L1 q_29 l_23 l_22 l_24)))))
    (cond (decide ((0 : Int) < (a_2.length : Int)))
    ((ixL a_2 (0 : Int)).bind fun e_25 =>
    (boarding_copied e_25).bind fun r_26 =>
    (apL a_3 ([r_26] : List Manifest)).bind fun l_27 =>
    (slL a_2 (1 : Int) (a_2.length : Int)).bind fun l_28 =>
    boarding_joined_L1 q_29 a_1 l_27 l_28)
    (some (Ctl.brk a_3)))
def boarding_joined (x_0 : (List Manifest)) (x_1 : (List Manifest)) : Option ((List Manifest) × Int) :=
  Ctl.fin (boarding_joined_L1 9223372036854775807 x_0 ([] : List Manifest) x_1) fun z_30 =>
    cond (decide ((24 : Int) < (z_30.length : Int)))
    (some (([] : (List Manifest)), (2 : Int)))
    (some (z_30, (0 : Int)))

def boarding_Apply (x_0 : (List Manifest)) (x_1 : Message) : Option ((List Manifest) × Int) :=
  (boarding_Validate x_0).bind fun r_1 =>
    cond (r_1 != (0 : Int))
    (some (([] : (List Manifest)), r_1))
    ((message_Validate x_1).bind fun r_2 =>
    cond (r_2 != (0 : Int))
    (some (([] : (List Manifest)), r_2))
    (cond (x_1.Kind != (5 : Int))
    (some (([] : (List Manifest)), (4 : Int)))
    ((boarding_joined x_0 ([(⟨x_1.Out.Flight, x_1.Number, x_1.List, x_1.List⟩ : Manifest)] : List Manifest)).bind fun r_3 =>
    some (r_3.1, r_3.2))))

def law26_list_L1 : (List (List Int)) → Nat → (List Manifest) → Option (Ctl ((List Manifest)) ((List Manifest)))
  | [], k_3, a_1 => some (Ctl.brk a_1)
  | e_4 :: q_7, k_3, a_1 => (law26_bag (1 : Int)).bind fun r_5 =>
    (boarding_Apply a_1 (⟨(5 : Int), (0 : Int), (⟨#[67, 80, 72]⟩ : ByteArray), ((k_3 + 1 : Nat) : Int), (⟨(⟨(⟨#[]⟩ : ByteArray), (0 : Int), (⟨#[]⟩ : ByteArray), (0 : Int)⟩ : Flight), (⟨#[]⟩ : ByteArray), (⟨#[]⟩ : ByteArray)⟩ : Leg), r_5.Bag.Out, ([] : (List Leg)), (⟨(0 : Int), (0 : Int), (0 : Int)⟩ : Plate), (0 : Int), false, (0 : Int), (0 : Int), (0 : Int), (⟨#[]⟩ : ByteArray), (⟨#[]⟩ : ByteArray), (0 : Int), (⟨#[]⟩ : ByteArray), e_4⟩ : Message)).bind fun r_6 =>
    law26_list_L1 q_7 (k_3 + 1) r_6.1
def law26_list (x_0 : (List (List Int))) : Option ((List Manifest)) :=
  Ctl.fin (law26_list_L1 x_0 0 ([] : List Manifest)) fun z_8 =>
    some z_8

def law26_awake : Option (Bool) :=
  (keep_Flights (0 : Int)).bind fun r_1 =>
    (law26_flights).bind fun r_2 =>
    (law26_bag (3 : Int)).bind fun r_3 =>
    (authority_Decide r_3 ([] : (List Manifest)) r_2 r_1 (20 : Int) false).bind fun r_4 =>
    (law26_bag (3 : Int)).bind fun r_5 =>
    (authority_Decide r_5 ([] : (List Manifest)) r_2 r_1 (45 : Int) true).bind fun r_6 =>
    (law26_bag (3 : Int)).bind fun r_7 =>
    (law26_list ([([(3 : Int)] : List Int)] : List (List Int))).bind fun r_8 =>
    (authority_Decide r_7 r_8 r_2 r_1 (45 : Int) true).bind fun r_9 =>
    (law26_bag (3 : Int)).bind fun r_10 =>
    (law26_list ([([(3 : Int)] : List Int), ([(4 : Int)] : List Int)] : List (List Int))).bind fun r_11 =>
    (authority_Decide r_10 r_11 r_2 r_1 (45 : Int) true).bind fun r_12 =>
    (law26_bag (3 : Int)).bind fun r_13 =>
    (law26_list ([([(3 : Int)] : List Int), ([(4 : Int)] : List Int)] : List (List Int))).bind fun r_14 =>
    (authority_Decide (⟨r_13.Known, (⟨r_13.Bag.Plate, r_13.Bag.In, r_13.Bag.Out, r_13.Bag.Onward, r_13.Bag.Sequence, r_13.Bag.Status, r_13.Bag.Weight, r_13.Bag.Load, r_13.Bag.Surname, r_13.Bag.Given, (1 : Int), r_13.Bag.Node, r_13.Bag.Unloaded⟩ : Bag), r_13.Copies, r_13.Cleared⟩ : Facts) r_14 r_2 r_1 (45 : Int) true).bind fun r_15 =>
    cond ((r_4.Granted == true) && ((r_4.Rule == (2 : Int)) && ((r_4.Reason == (0 : Int)) && true)))
    (cond ((r_6.Granted == false) && ((r_6.Rule == (0 : Int)) && ((r_6.Reason == (8 : Int)) && true)))
    (cond ((r_9.Granted == true) && ((r_9.Rule == (1 : Int)) && ((r_9.Reason == (0 : Int)) && true)))
    (cond ((r_12.Granted == false) && ((r_12.Rule == (0 : Int)) && ((r_12.Reason == (7 : Int)) && true)))
    (some ((r_15.Granted == true) && ((r_15.Rule == (3 : Int)) && ((r_15.Reason == (0 : Int)) && true))))
    (some false))
    (some false))
    (some false))
    (some false)

def law26_AuthorityDecides_L5 (x_5 : Int) (e_12 : Facts) (e_18 : (List Manifest)) (e_24 : (List Departure)) (e_30 : Flight) (r_31 : Int × Src) : Nat → Int → Option (Ctl (Bool) (Unit))
  | 0, _ => none
  | q_38 + 1, i_32 => cond (decide (i_32 < (2 : Int)))
    ((ixL ([false, true] : List Bool) i_32).bind fun e_33 =>
    (authority_Decide e_12 e_18 e_24 e_30 x_5 e_33).bind fun r_34 =>
    (ref26_Decide e_12 e_18 e_24 e_30 x_5 e_33).bind fun r_35 =>
    cond (!((r_34.Granted == r_35.Granted) && ((r_34.Rule == r_35.Rule) && ((r_34.Reason == r_35.Reason) && true))))
    (some (Ctl.ret false))
    ((authority_Decide e_12 e_18 e_24 e_30 r_31.1 e_33).bind fun r_36 =>
    (ref26_Decide e_12 e_18 e_24 e_30 r_31.1 e_33).bind fun r_37 =>
    cond (!((r_36.Granted == r_37.Granted) && ((r_36.Rule == r_37.Rule) && ((r_36.Reason == r_37.Reason) && true))))
    (some (Ctl.ret false))
    (law26_AuthorityDecides_L5 x_5 e_12 e_18 e_24 e_30 r_31 q_38 (w64 (i_32 + (1 : Int))))))
    (some (Ctl.brk ()))
def law26_AuthorityDecides_L4 (x_5 : Int) (e_12 : Facts) (e_18 : (List Manifest)) (e_24 : (List Departure)) : (List Flight) → Nat → (List Int) → Int → Option (Ctl (Bool) ((List Int) × Int))
  | [], k_29, a_26, i_27 => some (Ctl.brk (a_26, i_27))
  | e_30 :: q_40, k_29, a_26, i_27 => (keep_Src_N (⟨a_26, i_27⟩ : Src) (60 : Int)).bind fun r_31 =>
    Ctl.sub (law26_AuthorityDecides_L5 x_5 e_12 e_18 e_24 e_30 r_31 9223372036854775807 (0 : Int)) fun z_39 =>
    law26_AuthorityDecides_L4 x_5 e_12 e_18 e_24 q_40 (k_29 + 1) r_31.2.L r_31.2.At
def law26_AuthorityDecides_L3 (x_4 : Flight) (x_5 : Int) (e_12 : Facts) (e_18 : (List Manifest)) : (List (List Departure)) → Nat → (List Int) → Int → Option (Ctl (Bool) ((List Int) × Int))
  | [], k_23, a_20, i_21 => some (Ctl.brk (a_20, i_21))
  | e_24 :: q_42, k_23, a_20, i_21 => (keep_Src_Flight (⟨a_20, i_21⟩ : Src)).bind fun r_25 =>
    Ctl.sub (law26_AuthorityDecides_L4 x_5 e_12 e_18 e_24 ([x_4, e_12.Bag.Out.Flight, r_25.1] : List Flight) 0 r_25.2.L r_25.2.At) fun z_41 =>
    law26_AuthorityDecides_L3 x_4 x_5 e_12 e_18 q_42 (k_23 + 1) z_41.1 z_41.2
def law26_AuthorityDecides_L2 (x_2 : (List Departure)) (x_4 : Flight) (x_5 : Int) (r_3 : (List Departure) × Src) (e_12 : Facts) : (List (List Manifest)) → Nat → (List Int) → Int → Option (Ctl (Bool) ((List Int) × Int))
  | [], k_17, a_14, i_15 => some (Ctl.brk (a_14, i_15))
  | e_18 :: q_44, k_17, a_14, i_15 => (law26_flights).bind fun r_19 =>
    Ctl.sub (law26_AuthorityDecides_L3 x_4 x_5 e_12 e_18 ([x_2, r_3.1, r_19] : List (List Departure)) 0 a_14 i_15) fun z_43 =>
    law26_AuthorityDecides_L2 x_2 x_4 x_5 r_3 e_12 q_44 (k_17 + 1) z_43.1 z_43.2
def law26_AuthorityDecides_L1 (x_1 : (List Manifest)) (x_2 : (List Departure)) (x_4 : Flight) (x_5 : Int) (r_3 : (List Departure) × Src) : (List Facts) → Nat → (List Int) → Int → Option (Ctl (Bool) (Unit))
  | [], k_11, a_8, i_9 => some (Ctl.brk ())
  | e_12 :: q_46, k_11, a_8, i_9 => (keep_Src_Manifests (⟨a_8, i_9⟩ : Src)).bind fun r_13 =>
    Ctl.sub (law26_AuthorityDecides_L2 x_2 x_4 x_5 r_3 e_12 ([x_1, r_13.1] : List (List Manifest)) 0 r_13.2.L r_13.2.At) fun z_45 =>
    law26_AuthorityDecides_L1 x_1 x_2 x_4 x_5 r_3 q_46 (k_11 + 1) z_45.1 z_45.2
def law26_AuthorityDecides (x_0 : Facts) (x_1 : (List Manifest)) (x_2 : (List Departure)) (x_3 : (List Int)) (x_4 : Flight) (x_5 : Int) : Option (Bool) :=
  (law26_few x_1 x_2).bind fun r_1 =>
    cond (!r_1)
    (some true)
    ((keep_New x_3).bind fun r_2 =>
    (keep_Src_Schedule r_2 (12 : Int)).bind fun r_3 =>
    (keep_Src_Facts r_3.2).bind fun r_4 =>
    (keep_Src_Facts r_4.2).bind fun r_5 =>
    (keep_Src_N r_5.2 (12 : Int)).bind fun r_6 =>
    (law26_bag (w64 ((1 : Int) + r_6.1))).bind fun r_7 =>
    Ctl.fin (law26_AuthorityDecides_L1 x_1 x_2 x_4 x_5 r_3 ([x_0, r_4.1, r_5.1, r_7] : List Facts) 0 r_6.2.L r_6.2.At) fun z_47 =>
    (law26_awake).bind fun r_48 =>
    some r_48)

def law26_AuthorityFinal_L1 (x_1 : Int) (x_2 : Int) (r_2 : (List Manifest) × Src) (l_4 : (List Departure)) : Nat → (List Int) → Int → Int → Option (Ctl (Bool) (Unit))
  | 0, _, _, _ => none
  | q_20 + 1, a_5, i_6, i_7 => cond (decide (i_7 < (8 : Int)))
    ((keep_Src_Facts (⟨a_5, i_6⟩ : Src)).bind fun r_8 =>
    (authority_Decide r_8.1 r_2.1 l_4 r_8.1.Bag.Out.Flight x_1 true).bind fun r_9 =>
    (authority_Decide r_8.1 r_2.1 l_4 r_8.1.Bag.Out.Flight x_2 false).bind fun r_10 =>
    (ref20_Find l_4 r_8.1.Bag.Out.Flight).bind fun r_11 =>
    cond (decide (r_11 < (0 : Int)))
    (some (Ctl.ret false))
    (cond r_9.Granted
    ((ixL l_4 r_11).bind fun e_12 =>
    (schedule_IsClosed e_12 x_2).bind fun r_13 =>
    cond (!r_13)
    (cond (!r_10.Granted)
    (some (Ctl.ret false))
    (cond r_10.Granted
    (cond (r_9.Rule != r_10.Rule)
    (some (Ctl.ret false))
    ((ixL l_4 r_11).bind fun e_14 =>
    (schedule_IsClosed e_14 x_2).bind fun r_15 =>
    cond r_15
    (some (Ctl.ret false))
    (law26_AuthorityFinal_L1 x_1 x_2 r_2 l_4 q_20 r_8.2.L r_8.2.At (w64 (i_7 + (1 : Int))))))
    (law26_AuthorityFinal_L1 x_1 x_2 r_2 l_4 q_20 r_8.2.L r_8.2.At (w64 (i_7 + (1 : Int))))))
    (cond r_10.Granted
    (cond (r_9.Rule != r_10.Rule)
    (some (Ctl.ret false))
    ((ixL l_4 r_11).bind fun e_16 =>
    (schedule_IsClosed e_16 x_2).bind fun r_17 =>
    cond r_17
    (some (Ctl.ret false))
    (law26_AuthorityFinal_L1 x_1 x_2 r_2 l_4 q_20 r_8.2.L r_8.2.At (w64 (i_7 + (1 : Int))))))
    (law26_AuthorityFinal_L1 x_1 x_2 r_2 l_4 q_20 r_8.2.L r_8.2.At (w64 (i_7 + (1 : Int))))))
    (cond r_10.Granted
    ((ixL l_4 r_11).bind fun e_18 =>
    (schedule_IsClosed e_18 x_2).bind fun r_19 =>
    cond r_19
    (some (Ctl.ret false))
    (law26_AuthorityFinal_L1 x_1 x_2 r_2 l_4 q_20 r_8.2.L r_8.2.At (w64 (i_7 + (1 : Int)))))
    (law26_AuthorityFinal_L1 x_1 x_2 r_2 l_4 q_20 r_8.2.L r_8.2.At (w64 (i_7 + (1 : Int)))))))
    (some (Ctl.brk ()))
def law26_AuthorityFinal (x_0 : (List Int)) (x_1 : Int) (x_2 : Int) : Option (Bool) :=
  (keep_New x_0).bind fun r_1 =>
    (keep_Src_Manifests r_1).bind fun r_2 =>
    (law26_flights).bind fun r_3 =>
    (apL ([] : List Departure) r_3).bind fun l_4 =>
    Ctl.fin (law26_AuthorityFinal_L1 x_1 x_2 r_2 l_4 9223372036854775807 r_2.2.L r_2.2.At (0 : Int)) fun z_21 =>
    (law26_awake).bind fun r_22 =>
    some r_22

def law26_AuthorityNever_L3 (x_3 : Int) (x_4 : Bool) (r_2 : (List Manifest) × Src) (e_10 : Facts) (e_16 : (List Departure)) : (List Flight) → Nat → Option (Ctl (Bool) (Unit))
  | [], k_19 => some (Ctl.brk ())
  | e_20 :: q_24, k_19 => (authority_Decide e_10 r_2.1 e_16 e_20 x_3 x_4).bind fun r_21 =>
    (ref20_Find e_16 e_20).bind fun r_22 =>
    cond (!e_10.Known)
    (cond r_21.Granted
    (some (Ctl.ret false))
    (cond (!(r_21.Granted == (r_21.Reason == (0 : Int))))
    (some (Ctl.ret false))
    (cond (!(r_21.Granted == (r_21.Rule != (0 : Int))))
    (some (Ctl.ret false))
    (cond (decide (r_21.Rule < (0 : Int)))
    (some (Ctl.ret false))
    (cond (decide ((5 : Int) < r_21.Rule))
    (some (Ctl.ret false))
    (cond (decide (r_21.Reason < (0 : Int)))
    (some (Ctl.ret false))
    (cond (decide ((8 : Int) < r_21.Reason))
    (some (Ctl.ret false))
    (law26_AuthorityNever_L3 x_3 x_4 r_2 e_10 e_16 q_24 (k_19 + 1)))))))))
    (cond (decide ((1 : Int) < e_10.Copies))
    (cond r_21.Granted
    (some (Ctl.ret false))
    (cond (!(r_21.Granted == (r_21.Reason == (0 : Int))))
    (some (Ctl.ret false))
    (cond (!(r_21.Granted == (r_21.Rule != (0 : Int))))
    (some (Ctl.ret false))
    (cond (decide (r_21.Rule < (0 : Int)))
    (some (Ctl.ret false))
    (cond (decide ((5 : Int) < r_21.Rule))
    (some (Ctl.ret false))
    (cond (decide (r_21.Reason < (0 : Int)))
    (some (Ctl.ret false))
    (cond (decide ((8 : Int) < r_21.Reason))
    (some (Ctl.ret false))
    (law26_AuthorityNever_L3 x_3 x_4 r_2 e_10 e_16 q_24 (k_19 + 1)))))))))
    (cond (!e_10.Cleared)
    (cond r_21.Granted
    (some (Ctl.ret false))
    (cond (!(r_21.Granted == (r_21.Reason == (0 : Int))))
    (some (Ctl.ret false))
    (cond (!(r_21.Granted == (r_21.Rule != (0 : Int))))
    (some (Ctl.ret false))
    (cond (decide (r_21.Rule < (0 : Int)))
    (some (Ctl.ret false))
    (cond (decide ((5 : Int) < r_21.Rule))
    (some (Ctl.ret false))
    (cond (decide (r_21.Reason < (0 : Int)))
    (some (Ctl.ret false))
    (cond (decide ((8 : Int) < r_21.Reason))
    (some (Ctl.ret false))
    (law26_AuthorityNever_L3 x_3 x_4 r_2 e_10 e_16 q_24 (k_19 + 1)))))))))
    (cond (!((e_10.Bag.Out.Flight.Carrier.toList == e_20.Carrier.toList) && ((e_10.Bag.Out.Flight.Number == e_20.Number) && ((e_10.Bag.Out.Flight.Suffix.toList == e_20.Suffix.toList) && ((e_10.Bag.Out.Flight.Day == e_20.Day) && true)))))
    (cond r_21.Granted
    (some (Ctl.ret false))
    (cond (!(r_21.Granted == (r_21.Reason == (0 : Int))))
    (some (Ctl.ret false))
    (cond (!(r_21.Granted == (r_21.Rule != (0 : Int))))
    (some (Ctl.ret false))
    (cond (decide (r_21.Rule < (0 : Int)))
    (some (Ctl.ret false))
    (cond (decide ((5 : Int) < r_21.Rule))
    (some (Ctl.ret false))
    (cond (decide (r_21.Reason < (0 : Int)))
    (some (Ctl.ret false))
    (cond (decide ((8 : Int) < r_21.Reason))
    (some (Ctl.ret false))
    (law26_AuthorityNever_L3 x_3 x_4 r_2 e_10 e_16 q_24 (k_19 + 1)))))))))
    (cond (decide (r_22 < (0 : Int)))
    (cond r_21.Granted
    (some (Ctl.ret false))
    (cond (!(r_21.Granted == (r_21.Reason == (0 : Int))))
    (some (Ctl.ret false))
    (cond (!(r_21.Granted == (r_21.Rule != (0 : Int))))
    (some (Ctl.ret false))
    (cond (decide (r_21.Rule < (0 : Int)))
    (some (Ctl.ret false))
    (cond (decide ((5 : Int) < r_21.Rule))
    (some (Ctl.ret false))
    (cond (decide (r_21.Reason < (0 : Int)))
    (some (Ctl.ret false))
    (cond (decide ((8 : Int) < r_21.Reason))
    (some (Ctl.ret false))
    (law26_AuthorityNever_L3 x_3 x_4 r_2 e_10 e_16 q_24 (k_19 + 1)))))))))
    ((ixL e_16 r_22).bind fun e_23 =>
    cond (e_23.State != (0 : Int))
    (cond r_21.Granted
    (some (Ctl.ret false))
    (cond (!(r_21.Granted == (r_21.Reason == (0 : Int))))
    (some (Ctl.ret false))
    (cond (!(r_21.Granted == (r_21.Rule != (0 : Int))))
    (some (Ctl.ret false))
    (cond (decide (r_21.Rule < (0 : Int)))
    (some (Ctl.ret false))
    (cond (decide ((5 : Int) < r_21.Rule))
    (some (Ctl.ret false))
    (cond (decide (r_21.Reason < (0 : Int)))
    (some (Ctl.ret false))
    (cond (decide ((8 : Int) < r_21.Reason))
    (some (Ctl.ret false))
    (law26_AuthorityNever_L3 x_3 x_4 r_2 e_10 e_16 q_24 (k_19 + 1)))))))))
    (cond (!e_10.Bag.Load)
    (cond r_21.Granted
    (some (Ctl.ret false))
    (cond (!(r_21.Granted == (r_21.Reason == (0 : Int))))
    (some (Ctl.ret false))
    (cond (!(r_21.Granted == (r_21.Rule != (0 : Int))))
    (some (Ctl.ret false))
    (cond (decide (r_21.Rule < (0 : Int)))
    (some (Ctl.ret false))
    (cond (decide ((5 : Int) < r_21.Rule))
    (some (Ctl.ret false))
    (cond (decide (r_21.Reason < (0 : Int)))
    (some (Ctl.ret false))
    (cond (decide ((8 : Int) < r_21.Reason))
    (some (Ctl.ret false))
    (law26_AuthorityNever_L3 x_3 x_4 r_2 e_10 e_16 q_24 (k_19 + 1)))))))))
    (cond r_21.Granted
    (cond e_10.Bag.Unloaded
    (some (Ctl.ret false))
    (cond (!(r_21.Granted == (r_21.Reason == (0 : Int))))
    (some (Ctl.ret false))
    (cond (!(r_21.Granted == (r_21.Rule != (0 : Int))))
    (some (Ctl.ret false))
    (cond (decide (r_21.Rule < (0 : Int)))
    (some (Ctl.ret false))
    (cond (decide ((5 : Int) < r_21.Rule))
    (some (Ctl.ret false))
    (cond (decide (r_21.Reason < (0 : Int)))
    (some (Ctl.ret false))
    (cond (decide ((8 : Int) < r_21.Reason))
    (some (Ctl.ret false))
    (law26_AuthorityNever_L3 x_3 x_4 r_2 e_10 e_16 q_24 (k_19 + 1)))))))))
    (cond (!(r_21.Granted == (r_21.Reason == (0 : Int))))
    (some (Ctl.ret false))
    (cond (!(r_21.Granted == (r_21.Rule != (0 : Int))))
    (some (Ctl.ret false))
    (cond (decide (r_21.Rule < (0 : Int)))
    (some (Ctl.ret false))
    (cond (decide ((5 : Int) < r_21.Rule))
    (some (Ctl.ret false))
    (cond (decide (r_21.Reason < (0 : Int)))
    (some (Ctl.ret false))
    (cond (decide ((8 : Int) < r_21.Reason))
    (some (Ctl.ret false))
    (law26_AuthorityNever_L3 x_3 x_4 r_2 e_10 e_16 q_24 (k_19 + 1)))))))))))))))
def law26_AuthorityNever_L2 (x_2 : Flight) (x_3 : Int) (x_4 : Bool) (r_2 : (List Manifest) × Src) (e_10 : Facts) : (List (List Departure)) → Nat → (List Int) → Int → Option (Ctl (Bool) ((List Int) × Int))
  | [], k_15, a_12, i_13 => some (Ctl.brk (a_12, i_13))
  | e_16 :: q_26, k_15, a_12, i_13 => (keep_Src_Flight (⟨a_12, i_13⟩ : Src)).bind fun r_17 =>
    Ctl.sub (law26_AuthorityNever_L3 x_3 x_4 r_2 e_10 e_16 ([x_2, e_10.Bag.Out.Flight, r_17.1] : List Flight) 0) fun z_25 =>
    law26_AuthorityNever_L2 x_2 x_3 x_4 r_2 e_10 q_26 (k_15 + 1) r_17.2.L r_17.2.At
def law26_AuthorityNever_L1 (x_2 : Flight) (x_3 : Int) (x_4 : Bool) (r_2 : (List Manifest) × Src) (r_3 : (List Departure) × Src) : (List Facts) → Nat → (List Int) → Int → Option (Ctl (Bool) (Unit))
  | [], k_9, a_6, i_7 => some (Ctl.brk ())
  | e_10 :: q_28, k_9, a_6, i_7 => (law26_flights).bind fun r_11 =>
    Ctl.sub (law26_AuthorityNever_L2 x_2 x_3 x_4 r_2 e_10 ([r_3.1, r_11] : List (List Departure)) 0 a_6 i_7) fun z_27 =>
    law26_AuthorityNever_L1 x_2 x_3 x_4 r_2 r_3 q_28 (k_9 + 1) z_27.1 z_27.2
def law26_AuthorityNever (x_0 : Facts) (x_1 : (List Int)) (x_2 : Flight) (x_3 : Int) (x_4 : Bool) : Option (Bool) :=
  (keep_New x_1).bind fun r_1 =>
    (keep_Src_Manifests r_1).bind fun r_2 =>
    (keep_Src_Schedule r_2.2 (8 : Int)).bind fun r_3 =>
    (keep_Src_Facts r_3.2).bind fun r_4 =>
    (keep_Src_Facts r_4.2).bind fun r_5 =>
    Ctl.fin (law26_AuthorityNever_L1 x_2 x_3 x_4 r_2 r_3 ([x_0, r_4.1, r_5.1] : List Facts) 0 r_5.2.L r_5.2.At) fun z_29 =>
    (law26_awake).bind fun r_30 =>
    some r_30

def keep_In_L1 (x_1 : Int) : (List Int) → Nat → Option (Ctl (Bool) (Unit))
  | [], k_2 => some (Ctl.brk ())
  | e_3 :: q_4, k_2 => cond (e_3 == x_1)
    (some (Ctl.ret true))
    (keep_In_L1 x_1 q_4 (k_2 + 1))
def keep_In (x_0 : (List Int)) (x_1 : Int) : Option (Bool) :=
  Ctl.fin (keep_In_L1 x_1 x_0 0) fun z_5 =>
    some false

def law26_AuthorityMore_L1 (r_3 : (List Int) × Src) : Nat → (List Int) → Int → (List Int) → Int → Option (Ctl (Bool) ((List Int) × Int × (List Int)))
  | 0, _, _, _, _ => none
  | q_12 + 1, a_6, i_7, a_4, i_5 => cond (decide (i_7 ≤ (12 : Int)))
    ((keep_In r_3.1 i_7).bind fun r_8 =>
    cond r_8
    ((apL a_6 ([i_7] : List Int)).bind fun l_9 =>
    law26_AuthorityMore_L1 r_3 q_12 l_9 (w64 (i_7 + (1 : Int))) a_4 i_5)
    ((keep_Src_N (⟨a_4, i_5⟩ : Src) (2 : Int)).bind fun r_10 =>
    cond (r_10.1 == (1 : Int))
    ((apL a_6 ([i_7] : List Int)).bind fun l_11 =>
    law26_AuthorityMore_L1 r_3 q_12 l_11 (w64 (i_7 + (1 : Int))) r_10.2.L r_10.2.At)
    (law26_AuthorityMore_L1 r_3 q_12 a_6 (w64 (i_7 + (1 : Int))) r_10.2.L r_10.2.At)))
    (some (Ctl.brk (a_4, i_5, a_6)))
def law26_AuthorityMore_L3 (x_1 : Int) (x_2 : Bool) (r_2 : (List Departure)) (r_15 : (List Manifest)) (r_17 : (List Manifest) × Int) : (List Facts) → Nat → Option (Ctl (Bool) (Unit))
  | [], k_24 => some (Ctl.brk ())
  | e_25 :: q_28, k_24 => (authority_Decide e_25 r_15 r_2 e_25.Bag.Out.Flight x_1 x_2).bind fun r_26 =>
    cond r_26.Granted
    ((authority_Decide e_25 r_17.1 r_2 e_25.Bag.Out.Flight x_1 x_2).bind fun r_27 =>
    cond (!r_27.Granted)
    (some (Ctl.ret false))
    (law26_AuthorityMore_L3 x_1 x_2 r_2 r_15 r_17 q_28 (k_24 + 1)))
    (law26_AuthorityMore_L3 x_1 x_2 r_2 r_15 r_17 q_28 (k_24 + 1))
def law26_AuthorityMore_L2 (x_1 : Int) (x_2 : Bool) (r_2 : (List Departure)) (r_15 : (List Manifest)) (r_17 : (List Manifest) × Int) : Nat → (List Int) → Int → Int → Option (Ctl (Bool) (Unit))
  | 0, _, _, _ => none
  | q_30 + 1, a_18, i_19, i_20 => cond (decide (i_20 ≤ (13 : Int)))
    ((law26_bag i_20).bind fun r_21 =>
    (keep_Src_Facts (⟨a_18, i_19⟩ : Src)).bind fun r_22 =>
    Ctl.sub (law26_AuthorityMore_L3 x_1 x_2 r_2 r_15 r_17 ([r_21, (⟨r_22.1.Known, (⟨r_22.1.Bag.Plate, r_22.1.Bag.In, r_21.Bag.Out, r_22.1.Bag.Onward, i_20, r_22.1.Bag.Status, r_22.1.Bag.Weight, r_22.1.Bag.Load, r_22.1.Bag.Surname, r_22.1.Bag.Given, r_22.1.Bag.Exception, r_22.1.Bag.Node, r_22.1.Bag.Unloaded⟩ : Bag), r_22.1.Copies, r_22.1.Cleared⟩ : Facts)] : List Facts) 0) fun z_29 =>
    law26_AuthorityMore_L2 x_1 x_2 r_2 r_15 r_17 q_30 r_22.2.L r_22.2.At (w64 (i_20 + (1 : Int))))
    (some (Ctl.brk ()))
def law26_AuthorityMore (x_0 : (List Int)) (x_1 : Int) (x_2 : Bool) : Option (Bool) :=
  (keep_New x_0).bind fun r_1 =>
    (law26_flights).bind fun r_2 =>
    (keep_Src_Passengers r_1).bind fun r_3 =>
    Ctl.fin (law26_AuthorityMore_L1 r_3 9223372036854775807 ([] : List Int) (1 : Int) r_3.2.L r_3.2.At) fun z_13 =>
    (keep_Src_Passengers (⟨z_13.1, z_13.2.1⟩ : Src)).bind fun r_14 =>
    (law26_list ([r_14.1, r_3.1] : List (List Int))).bind fun r_15 =>
    (law26_bag (1 : Int)).bind fun r_16 =>
    (boarding_Apply r_15 (⟨(5 : Int), (0 : Int), (⟨#[67, 80, 72]⟩ : ByteArray), (9 : Int), (⟨(⟨(⟨#[]⟩ : ByteArray), (0 : Int), (⟨#[]⟩ : ByteArray), (0 : Int)⟩ : Flight), (⟨#[]⟩ : ByteArray), (⟨#[]⟩ : ByteArray)⟩ : Leg), r_16.Bag.Out, ([] : (List Leg)), (⟨(0 : Int), (0 : Int), (0 : Int)⟩ : Plate), (0 : Int), false, (0 : Int), (0 : Int), (0 : Int), (⟨#[]⟩ : ByteArray), (⟨#[]⟩ : ByteArray), (0 : Int), (⟨#[]⟩ : ByteArray), z_13.2.2⟩ : Message)).bind fun r_17 =>
    cond (r_17.2 != (0 : Int))
    (some false)
    (Ctl.fin (law26_AuthorityMore_L2 x_1 x_2 r_2 r_15 r_17 9223372036854775807 r_14.2.L r_14.2.At (1 : Int)) fun z_31 =>
    (law26_awake).bind fun r_32 =>
    some r_32)

def law26_AuthorityWithdraws_L1 (r_2 : Int × Src) : (List Int) → Nat → (List Int) → Option (Ctl (Bool) ((List Int)))
  | [], k_6, a_4 => some (Ctl.brk a_4)
  | e_7 :: q_9, k_6, a_4 => cond (e_7 != (w64 ((1 : Int) + r_2.1)))
    ((apL a_4 ([e_7] : List Int)).bind fun l_8 =>
    law26_AuthorityWithdraws_L1 r_2 q_9 (k_6 + 1) l_8)
    (law26_AuthorityWithdraws_L1 r_2 q_9 (k_6 + 1) a_4)
def law26_AuthorityWithdraws (x_0 : (List Int)) (x_1 : Bool) : Option (Bool) :=
  (keep_New x_0).bind fun r_1 =>
    (keep_Src_N r_1 (12 : Int)).bind fun r_2 =>
    (keep_Src_Passengers r_2.2).bind fun r_3 =>
    Ctl.fin (law26_AuthorityWithdraws_L1 r_2 r_3.1 0 ([] : List Int)) fun z_10 =>
    (keep_Flights (0 : Int)).bind fun r_11 =>
    (law26_flights).bind fun r_12 =>
    (law26_list ([([(w64 ((1 : Int) + r_2.1))] : List Int)] : List (List Int))).bind fun r_13 =>
    (law26_list ([([(w64 ((1 : Int) + r_2.1))] : List Int), z_10] : List (List Int))).bind fun r_14 =>
    (law26_list ([([(w64 ((1 : Int) + r_2.1))] : List Int), z_10, ([(w64 ((1 : Int) + r_2.1))] : List Int)] : List (List Int))).bind fun r_15 =>
    (law26_bag (w64 ((1 : Int) + r_2.1))).bind fun r_16 =>
    (keep_Src_N r_3.2 (4 : Int)).bind fun r_17 =>
    (authority_Decide (⟨r_16.Known, (⟨r_16.Bag.Plate, r_16.Bag.In, r_16.Bag.Out, r_16.Bag.Onward, r_16.Bag.Sequence, (w64 ((1 : Int) + r_17.1)), r_16.Bag.Weight, r_16.Bag.Load, r_16.Bag.Surname, r_16.Bag.Given, r_16.Bag.Exception, r_16.Bag.Node, r_16.Bag.Unloaded⟩ : Bag), r_16.Copies, r_16.Cleared⟩ : Facts) r_13 r_12 r_11 (20 : Int) x_1).bind fun r_18 =>
    (authority_Decide (⟨r_16.Known, (⟨r_16.Bag.Plate, r_16.Bag.In, r_16.Bag.Out, r_16.Bag.Onward, r_16.Bag.Sequence, (w64 ((1 : Int) + r_17.1)), r_16.Bag.Weight, r_16.Bag.Load, r_16.Bag.Surname, r_16.Bag.Given, r_16.Bag.Exception, r_16.Bag.Node, r_16.Bag.Unloaded⟩ : Bag), r_16.Copies, r_16.Cleared⟩ : Facts) r_14 r_12 r_11 (20 : Int) x_1).bind fun r_19 =>
    (authority_Decide (⟨r_16.Known, (⟨r_16.Bag.Plate, r_16.Bag.In, r_16.Bag.Out, r_16.Bag.Onward, r_16.Bag.Sequence, (w64 ((1 : Int) + r_17.1)), r_16.Bag.Weight, r_16.Bag.Load, r_16.Bag.Surname, r_16.Bag.Given, r_16.Bag.Exception, r_16.Bag.Node, r_16.Bag.Unloaded⟩ : Bag), r_16.Copies, r_16.Cleared⟩ : Facts) r_15 r_12 r_11 (20 : Int) x_1).bind fun r_20 =>
    (keep_Src_N r_17.2 (3 : Int)).bind fun r_21 =>
    (authority_Decide (⟨r_16.Known, (⟨r_16.Bag.Plate, r_16.Bag.In, r_16.Bag.Out, r_16.Bag.Onward, r_16.Bag.Sequence, (w64 ((1 : Int) + r_17.1)), r_16.Bag.Weight, r_16.Bag.Load, r_16.Bag.Surname, r_16.Bag.Given, (w64 ((1 : Int) + r_21.1)), r_16.Bag.Node, r_16.Bag.Unloaded⟩ : Bag), r_16.Copies, r_16.Cleared⟩ : Facts) r_14 r_12 r_11 (20 : Int) x_1).bind fun r_22 =>
    cond r_18.Granted
    (cond (r_18.Rule == (1 : Int))
    (cond ((r_19.Granted == false) && ((r_19.Rule == (0 : Int)) && ((r_19.Reason == (7 : Int)) && true)))
    (cond ((r_20.Granted == r_18.Granted) && ((r_20.Rule == r_18.Rule) && ((r_20.Reason == r_18.Reason) && true)))
    (cond r_22.Granted
    (cond (r_22.Rule == (w64 ((w64 ((3 : Int) + (w64 ((1 : Int) + r_21.1)))) - (1 : Int))))
    ((law26_awake).bind fun r_23 =>
    some r_23)
    (some false))
    (some false))
    (some false))
    (some false))
    (some false))
    (some false)

def authority_May_L1 (x_1 : Plate) : (List Ruling) → Nat → Option (Ctl (Bool) (Unit))
  | [], k_2 => some (Ctl.brk ())
  | e_3 :: q_4, k_2 => cond ((e_3.Plate.Lead == x_1.Lead) && ((e_3.Plate.Airline == x_1.Airline) && ((e_3.Plate.Serial == x_1.Serial) && true)))
    (some (Ctl.ret e_3.Decision.Granted))
    (authority_May_L1 x_1 q_4 (k_2 + 1))
def authority_May (x_0 : (List Ruling)) (x_1 : Plate) : Option (Bool) :=
  Ctl.fin (authority_May_L1 x_1 x_0 0) fun z_5 =>
    some false

def ref26_May_L1 (x_1 : Plate) : (List Ruling) → Nat → Option (Ctl (Bool) (Unit))
  | [], k_2 => some (Ctl.brk ())
  | e_3 :: q_4, k_2 => cond ((e_3.Plate.Lead == x_1.Lead) && ((e_3.Plate.Airline == x_1.Airline) && ((e_3.Plate.Serial == x_1.Serial) && true)))
    (some (Ctl.ret e_3.Decision.Granted))
    (ref26_May_L1 x_1 q_4 (k_2 + 1))
def ref26_May (x_0 : (List Ruling)) (x_1 : Plate) : Option (Bool) :=
  Ctl.fin (ref26_May_L1 x_1 x_0 0) fun z_5 =>
    some false

def law26_AuthorityRulings_L1 : Nat → (List Int) → Int → (List Ruling) → Int → Option (Ctl (Bool) ((List Int) × Int × (List Ruling)))
  | 0, _, _, _, _ => none
  | q_11 + 1, a_3, i_4, a_5, i_6 => cond (decide ((0 : Int) < i_6))
    ((keep_Src_Plate (⟨a_3, i_4⟩ : Src) (6 : Int)).bind fun r_7 =>
    (keep_Src_N r_7.2 (2 : Int)).bind fun r_8 =>
    (keep_Src_N r_8.2 (2 : Int)).bind fun r_9 =>
    (apL a_5 ([(⟨r_7.1, (⟨(r_8.1 == (1 : Int)), (1 : Int), r_9.1⟩ : Decision)⟩ : Ruling)] : List Ruling)).bind fun l_10 =>
    law26_AuthorityRulings_L1 q_11 r_9.2.L r_9.2.At l_10 (w64 (i_6 - (1 : Int))))
    (some (Ctl.brk (a_3, i_4, a_5)))
def law26_AuthorityRulings_L3 : (List Ruling) → Nat → (List Plate) → Option (Ctl (Bool) ((List Plate)))
  | [], k_21, a_19 => some (Ctl.brk a_19)
  | e_22 :: q_24, k_21, a_19 => (apL a_19 ([e_22.Plate] : List Plate)).bind fun l_23 =>
    law26_AuthorityRulings_L3 q_24 (k_21 + 1) l_23
def law26_AuthorityRulings_L4 (e_16 : (List Ruling)) : (List Plate) → Nat → Option (Ctl (Bool) (Unit))
  | [], k_27 => some (Ctl.brk ())
  | e_28 :: q_31, k_27 => (authority_May e_16 e_28).bind fun r_29 =>
    (ref26_May e_16 e_28).bind fun r_30 =>
    cond (!(r_29 == r_30))
    (some (Ctl.ret false))
    (law26_AuthorityRulings_L4 e_16 q_31 (k_27 + 1))
def law26_AuthorityRulings_L2 (x_0 : (List Ruling)) (x_2 : Plate) (z_12 : (List Int) × Int × (List Ruling)) : Nat → (List Int) → Int → Int → Option (Ctl (Bool) (Unit))
  | 0, _, _, _ => none
  | q_33 + 1, a_13, i_14, i_15 => cond (decide (i_15 < (2 : Int)))
    ((ixL ([x_0, z_12.2.2] : List (List Ruling)) i_15).bind fun e_16 =>
    (keep_Src_Plate (⟨a_13, i_14⟩ : Src) (6 : Int)).bind fun r_17 =>
    (keep_Src_Plate r_17.2 (6 : Int)).bind fun r_18 =>
    Ctl.sub (law26_AuthorityRulings_L3 e_16 0 ([x_2, r_17.1, r_18.1] : List Plate)) fun z_25 =>
    Ctl.sub (law26_AuthorityRulings_L4 e_16 z_25 0) fun z_32 =>
    law26_AuthorityRulings_L2 x_0 x_2 z_12 q_33 r_18.2.L r_18.2.At (w64 (i_15 + (1 : Int))))
    (some (Ctl.brk ()))
def law26_AuthorityRulings (x_0 : (List Ruling)) (x_1 : (List Int)) (x_2 : Plate) : Option (Bool) :=
  (keep_New x_1).bind fun r_1 =>
    cond (decide ((40 : Int) < (x_0.length : Int)))
    (some true)
    ((keep_Src_N r_1 (12 : Int)).bind fun r_2 =>
    Ctl.fin (law26_AuthorityRulings_L1 9223372036854775807 r_2.2.L r_2.2.At ([] : List Ruling) r_2.1) fun z_12 =>
    Ctl.fin (law26_AuthorityRulings_L2 x_0 x_2 z_12 9223372036854775807 z_12.1 z_12.2.1 (0 : Int)) fun z_34 =>
    (law26_awake).bind fun r_35 =>
    some r_35)

def schedule_in (x_0 : Int) (x_1 : Int) (x_2 : Int) : Option (Bool) :=
  cond (decide (x_1 ≤ x_0))
    (some (decide (x_0 ≤ x_2)))
    (some false)

def schedule_valid (x_0 : Departure) : Option (Bool) :=
  (flight_Valid x_0.Flight).bind fun r_1 =>
    cond (!r_1)
    (some false)
    ((flight_ValidPort x_0.Port).bind fun r_2 =>
    cond (!r_2)
    (some false)
    ((schedule_in x_0.Opens (0 : Int) (1048576 : Int)).bind fun r_3 =>
    cond (!r_3)
    (some false)
    ((schedule_in x_0.Closes (0 : Int) (1048576 : Int)).bind fun r_4 =>
    cond (!r_4)
    (some false)
    ((schedule_in x_0.Leaves (0 : Int) (1048576 : Int)).bind fun r_5 =>
    cond (!r_5)
    (some false)
    (cond (decide (x_0.Closes ≤ x_0.Opens))
    (some false)
    (cond (decide (x_0.Leaves < x_0.Closes))
    (some false)
    ((schedule_in x_0.Stand (0 : Int) (99 : Int)).bind fun r_6 =>
    cond r_6
    ((schedule_in x_0.State (0 : Int) (2 : Int)).bind fun r_7 =>
    some r_7)
    (some false))))))))

def schedule_Validate_L1 (x_0 : (List Departure)) : (List Departure) → Nat → Option (Ctl (Int) (Unit))
  | [], k_2 => some (Ctl.brk ())
  | e_3 :: q_7, k_2 => (schedule_valid e_3).bind fun r_4 =>
    cond (!r_4)
    (some (Ctl.ret (1 : Int)))
    (cond ((k_2 : Int) == (0 : Int))
    (schedule_Validate_L1 x_0 q_7 (k_2 + 1))
    ((ixL x_0 (w64 ((k_2 : Int) - (1 : Int)))).bind fun e_5 =>
    (flight_Compare e_5.Flight e_3.Flight).bind fun r_6 =>
    cond (r_6 == (0 : Int))
    (some (Ctl.ret (5 : Int)))
    (cond (r_6 == (1 : Int))
    (some (Ctl.ret (9 : Int)))
    (schedule_Validate_L1 x_0 q_7 (k_2 + 1)))))
def schedule_Validate (x_0 : (List Departure)) : Option (Int) :=
  cond (decide ((24 : Int) < (x_0.length : Int)))
    (some (2 : Int))
    (Ctl.fin (schedule_Validate_L1 x_0 x_0 0) fun z_8 =>
    some (0 : Int))

def schedule_amount (x_0 : Revision) : Option (Bool) :=
  cond (x_0.Kind == (1 : Int))
    ((schedule_in x_0.Amount (1 : Int) (1048576 : Int)).bind fun r_1 =>
    some r_1)
    (cond (x_0.Kind == (2 : Int))
    ((schedule_in x_0.Amount (0 : Int) (1048576 : Int)).bind fun r_2 =>
    some r_2)
    (cond (x_0.Kind == (3 : Int))
    ((schedule_in x_0.Amount (0 : Int) (99 : Int)).bind fun r_3 =>
    some r_3)
    (cond (x_0.Kind == (4 : Int))
    (some (x_0.Amount == (0 : Int)))
    (cond (x_0.Kind == (5 : Int))
    (some (x_0.Amount == (0 : Int)))
    (some false)))))

def schedule_revised (x_0 : Departure) (x_1 : Revision) : Option (Departure) :=
  cond (x_1.Kind == (1 : Int))
    (some (⟨x_0.Flight, x_0.Port, x_0.Opens, (w64 (x_0.Closes + x_1.Amount)), (w64 (x_0.Leaves + x_1.Amount)), x_0.Stand, x_0.State⟩ : Departure))
    (cond (x_1.Kind == (2 : Int))
    (some (⟨x_0.Flight, x_0.Port, x_1.Amount, x_0.Closes, x_0.Leaves, x_0.Stand, x_0.State⟩ : Departure))
    (cond (x_1.Kind == (3 : Int))
    (some (⟨x_0.Flight, x_0.Port, x_0.Opens, x_0.Closes, x_0.Leaves, x_1.Amount, x_0.State⟩ : Departure))
    (cond (x_1.Kind == (4 : Int))
    (some (⟨x_0.Flight, x_0.Port, x_0.Opens, x_0.Closes, x_0.Leaves, x_0.Stand, (1 : Int)⟩ : Departure))
    (some (⟨x_0.Flight, x_0.Port, x_0.Opens, x_0.Closes, x_0.Leaves, x_0.Stand, (0 : Int)⟩ : Departure)))))

def schedule_with (x_0 : (List Departure)) (x_1 : Int) (x_2 : Departure) : Option ((List Departure)) :=
  (mkL (x_0.length : Int) (⟨(⟨(⟨#[]⟩ : ByteArray), (0 : Int), (⟨#[]⟩ : ByteArray), (0 : Int)⟩ : Flight), (⟨#[]⟩ : ByteArray), (0 : Int), (0 : Int), (0 : Int), (0 : Int), (0 : Int)⟩ : Departure)).bind fun l_1 =>
    (cpL l_1 x_0).bind fun l_2 =>
    (ixL l_2 x_1).bind fun e_3 =>
    some (l_2.set x_1.toNat x_2)

def schedule_Apply (x_0 : (List Departure)) (x_1 : Revision) (x_2 : Int) : Option ((List Departure) × Int) :=
  (schedule_Validate x_0).bind fun r_1 =>
    cond (r_1 != (0 : Int))
    (some (([] : (List Departure)), r_1))
    (cond (x_1.Kind == (5 : Int))
    ((schedule_Find x_0 x_1.Flight).bind fun r_2 =>
    cond (decide (r_2 < (0 : Int)))
    (some (([] : (List Departure)), (6 : Int)))
    ((ixL x_0 r_2).bind fun e_3 =>
    cond (e_3.State != (1 : Int))
    (some (([] : (List Departure)), (7 : Int)))
    ((schedule_amount x_1).bind fun r_4 =>
    cond (!r_4)
    (some (([] : (List Departure)), (1 : Int)))
    ((schedule_revised e_3 x_1).bind fun r_5 =>
    (schedule_valid r_5).bind fun r_6 =>
    cond (!r_6)
    (some (([] : (List Departure)), (1 : Int)))
    ((schedule_with x_0 r_2 r_5).bind fun r_7 =>
    some (r_7, (0 : Int)))))))
    (cond (x_1.Kind == (1 : Int))
    ((schedule_Find x_0 x_1.Flight).bind fun r_8 =>
    cond (decide (r_8 < (0 : Int)))
    (some (([] : (List Departure)), (6 : Int)))
    ((ixL x_0 r_8).bind fun e_9 =>
    cond (e_9.State != (0 : Int))
    (some (([] : (List Departure)), (7 : Int)))
    ((schedule_amount x_1).bind fun r_10 =>
    cond (!r_10)
    (some (([] : (List Departure)), (1 : Int)))
    ((schedule_revised e_9 x_1).bind fun r_11 =>
    (schedule_valid r_11).bind fun r_12 =>
    cond (!r_12)
    (some (([] : (List Departure)), (1 : Int)))
    ((schedule_with x_0 r_8 r_11).bind fun r_13 =>
    some (r_13, (0 : Int)))))))
    (cond (x_1.Kind == (2 : Int))
    ((schedule_Find x_0 x_1.Flight).bind fun r_14 =>
    cond (decide (r_14 < (0 : Int)))
    (some (([] : (List Departure)), (6 : Int)))
    ((ixL x_0 r_14).bind fun e_15 =>
    cond (e_15.State != (0 : Int))
    (some (([] : (List Departure)), (7 : Int)))
    ((schedule_amount x_1).bind fun r_16 =>
    cond (!r_16)
    (some (([] : (List Departure)), (1 : Int)))
    (cond (decide (e_15.Opens ≤ x_2))
    (some (([] : (List Departure)), (12 : Int)))
    (cond (decide (x_1.Amount < x_2))
    (some (([] : (List Departure)), (12 : Int)))
    ((schedule_revised e_15 x_1).bind fun r_17 =>
    (schedule_valid r_17).bind fun r_18 =>
    cond (!r_18)
    (some (([] : (List Departure)), (1 : Int)))
    ((schedule_with x_0 r_14 r_17).bind fun r_19 =>
    some (r_19, (0 : Int)))))))))
    (cond (x_1.Kind == (3 : Int))
    ((schedule_Find x_0 x_1.Flight).bind fun r_20 =>
    cond (decide (r_20 < (0 : Int)))
    (some (([] : (List Departure)), (6 : Int)))
    ((ixL x_0 r_20).bind fun e_21 =>
    cond (e_21.State != (0 : Int))
    (some (([] : (List Departure)), (7 : Int)))
    ((schedule_amount x_1).bind fun r_22 =>
    cond (!r_22)
    (some (([] : (List Departure)), (1 : Int)))
    ((schedule_revised e_21 x_1).bind fun r_23 =>
    (schedule_valid r_23).bind fun r_24 =>
    cond (!r_24)
    (some (([] : (List Departure)), (1 : Int)))
    ((schedule_with x_0 r_20 r_23).bind fun r_25 =>
    some (r_25, (0 : Int)))))))
    (cond (x_1.Kind == (4 : Int))
    ((schedule_Find x_0 x_1.Flight).bind fun r_26 =>
    cond (decide (r_26 < (0 : Int)))
    (some (([] : (List Departure)), (6 : Int)))
    ((ixL x_0 r_26).bind fun e_27 =>
    cond (e_27.State != (0 : Int))
    (some (([] : (List Departure)), (7 : Int)))
    ((schedule_amount x_1).bind fun r_28 =>
    cond (!r_28)
    (some (([] : (List Departure)), (1 : Int)))
    ((schedule_revised e_27 x_1).bind fun r_29 =>
    (schedule_valid r_29).bind fun r_30 =>
    cond (!r_30)
    (some (([] : (List Departure)), (1 : Int)))
    ((schedule_with x_0 r_26 r_29).bind fun r_31 =>
    some (r_31, (0 : Int)))))))
    (some (([] : (List Departure)), (4 : Int))))))))

def schedule_Depart (x_0 : (List Departure)) (x_1 : Flight) (x_2 : Int) : Option ((List Departure) × Int) :=
  (schedule_Validate x_0).bind fun r_1 =>
    cond (r_1 != (0 : Int))
    (some (([] : (List Departure)), r_1))
    ((schedule_Find x_0 x_1).bind fun r_2 =>
    cond (decide (r_2 < (0 : Int)))
    (some (([] : (List Departure)), (6 : Int)))
    ((ixL x_0 r_2).bind fun e_3 =>
    cond (e_3.State != (0 : Int))
    (some (([] : (List Departure)), (7 : Int)))
    (cond (decide (x_2 < e_3.Closes))
    (some (([] : (List Departure)), (7 : Int)))
    ((schedule_with x_0 r_2 (⟨e_3.Flight, e_3.Port, e_3.Opens, e_3.Closes, e_3.Leaves, e_3.Stand, (2 : Int)⟩ : Departure)).bind fun r_4 =>
    some (r_4, (0 : Int))))))

def law26_AuthorityCancelled_L1 (x_1 : Int) (x_2 : Bool) (r_2 : (List Manifest) × Src) (r_3 : (List Departure)) (r_5 : Flight) (r_6 : (List Departure) × Int) (r_7 : (List Departure) × Int) (r_8 : (List Departure) × Int) : Nat → (List Int) → Int → Int → Option (Ctl (Bool) (Unit))
  | 0, _, _, _ => none
  | q_17 + 1, a_9, i_10, i_11 => cond (decide (i_11 < (6 : Int)))
    ((keep_Src_Facts (⟨a_9, i_10⟩ : Src)).bind fun r_12 =>
    (authority_Decide (⟨r_12.1.Known, (⟨r_12.1.Bag.Plate, r_12.1.Bag.In, (⟨r_5, r_12.1.Bag.Out.Port, r_12.1.Bag.Out.Class⟩ : Leg), r_12.1.Bag.Onward, r_12.1.Bag.Sequence, r_12.1.Bag.Status, r_12.1.Bag.Weight, r_12.1.Bag.Load, r_12.1.Bag.Surname, r_12.1.Bag.Given, r_12.1.Bag.Exception, r_12.1.Bag.Node, r_12.1.Bag.Unloaded⟩ : Bag), r_12.1.Copies, r_12.1.Cleared⟩ : Facts) r_2.1 r_6.1 r_5 x_1 x_2).bind fun r_13 =>
    cond r_13.Granted
    (some (Ctl.ret false))
    ((authority_Decide (⟨r_12.1.Known, (⟨r_12.1.Bag.Plate, r_12.1.Bag.In, (⟨r_5, r_12.1.Bag.Out.Port, r_12.1.Bag.Out.Class⟩ : Leg), r_12.1.Bag.Onward, r_12.1.Bag.Sequence, r_12.1.Bag.Status, r_12.1.Bag.Weight, r_12.1.Bag.Load, r_12.1.Bag.Surname, r_12.1.Bag.Given, r_12.1.Bag.Exception, r_12.1.Bag.Node, r_12.1.Bag.Unloaded⟩ : Bag), r_12.1.Copies, r_12.1.Cleared⟩ : Facts) r_2.1 r_8.1 r_5 x_1 x_2).bind fun r_14 =>
    cond r_14.Granted
    (some (Ctl.ret false))
    ((authority_Decide (⟨r_12.1.Known, (⟨r_12.1.Bag.Plate, r_12.1.Bag.In, (⟨r_5, r_12.1.Bag.Out.Port, r_12.1.Bag.Out.Class⟩ : Leg), r_12.1.Bag.Onward, r_12.1.Bag.Sequence, r_12.1.Bag.Status, r_12.1.Bag.Weight, r_12.1.Bag.Load, r_12.1.Bag.Surname, r_12.1.Bag.Given, r_12.1.Bag.Exception, r_12.1.Bag.Node, r_12.1.Bag.Unloaded⟩ : Bag), r_12.1.Copies, r_12.1.Cleared⟩ : Facts) r_2.1 r_7.1 r_5 x_1 x_2).bind fun r_15 =>
    (authority_Decide (⟨r_12.1.Known, (⟨r_12.1.Bag.Plate, r_12.1.Bag.In, (⟨r_5, r_12.1.Bag.Out.Port, r_12.1.Bag.Out.Class⟩ : Leg), r_12.1.Bag.Onward, r_12.1.Bag.Sequence, r_12.1.Bag.Status, r_12.1.Bag.Weight, r_12.1.Bag.Load, r_12.1.Bag.Surname, r_12.1.Bag.Given, r_12.1.Bag.Exception, r_12.1.Bag.Node, r_12.1.Bag.Unloaded⟩ : Bag), r_12.1.Copies, r_12.1.Cleared⟩ : Facts) r_2.1 r_3 r_5 x_1 x_2).bind fun r_16 =>
    cond (!((r_15.Granted == r_16.Granted) && ((r_15.Rule == r_16.Rule) && ((r_15.Reason == r_16.Reason) && true))))
    (some (Ctl.ret false))
    (law26_AuthorityCancelled_L1 x_1 x_2 r_2 r_3 r_5 r_6 r_7 r_8 q_17 r_12.2.L r_12.2.At (w64 (i_11 + (1 : Int)))))))
    (some (Ctl.brk ()))
def law26_AuthorityCancelled (x_0 : (List Int)) (x_1 : Int) (x_2 : Bool) : Option (Bool) :=
  (keep_New x_0).bind fun r_1 =>
    (keep_Src_Manifests r_1).bind fun r_2 =>
    (law26_flights).bind fun r_3 =>
    (keep_Src_N r_2.2 (3 : Int)).bind fun r_4 =>
    (keep_Flights r_4.1).bind fun r_5 =>
    (schedule_Apply r_3 (⟨(4 : Int), (0 : Int), r_5⟩ : Revision) x_1).bind fun r_6 =>
    (schedule_Apply r_6.1 (⟨(5 : Int), (0 : Int), r_5⟩ : Revision) x_1).bind fun r_7 =>
    (schedule_Depart r_3 r_5 (40 : Int)).bind fun r_8 =>
    cond (r_6.2 != (0 : Int))
    (some false)
    (cond (r_7.2 != (0 : Int))
    (some false)
    (cond (r_8.2 != (0 : Int))
    (some false)
    (Ctl.fin (law26_AuthorityCancelled_L1 x_1 x_2 r_2 r_3 r_5 r_6 r_7 r_8 9223372036854775807 r_4.2.L r_4.2.At (0 : Int)) fun z_18 =>
    (law26_awake).bind fun r_19 =>
    some r_19)))
end Go.Proofs.YtbiofbmjonmglaaDoor.Ex
