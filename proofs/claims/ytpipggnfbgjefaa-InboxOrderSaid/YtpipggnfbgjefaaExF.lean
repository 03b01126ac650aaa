/- What the functions of the program compute; printed by a program from their code. -/
import Derived.Test.YtpipggnfbgjefaaExT
import Derived.Lib.Bytealg
namespace Go.Proofs.Ytpipggnfbgjefaa.Ex
open Go.RowKit Go.Proofs.Ytpipggnfbgjefaa.Ax
set_option linter.unusedVariables false
set_option linter.unusedSimpArgs false
def inbox_New (x_0 : Int) : Option (Inbox × Int) :=
  cond (decide (x_0 < (1 : Int)))
    (some ((⟨(0 : Int), ([] : (List Sender))⟩ : Inbox), (1 : Int)))
    (cond (decide ((8 : Int) < x_0))
    (some ((⟨(0 : Int), ([] : (List Sender))⟩ : Inbox), (1 : Int)))
    (some ((⟨x_0, ([] : (List Sender))⟩ : Inbox), (0 : Int))))

def law05_numbered (x_0 : ByteArray) (x_1 : Int) : Option (Message) :=
  some (⟨(3 : Int), (0 : Int), x_0, x_1, (⟨(⟨(⟨#[]⟩ : ByteArray), (0 : Int), (⟨#[]⟩ : ByteArray), (0 : Int)⟩ : Flight), (⟨#[]⟩ : ByteArray), (⟨#[]⟩ : ByteArray)⟩ : Leg), (⟨(⟨(⟨#[]⟩ : ByteArray), (0 : Int), (⟨#[]⟩ : ByteArray), (0 : Int)⟩ : Flight), (⟨#[]⟩ : ByteArray), (⟨#[]⟩ : ByteArray)⟩ : Leg), ([] : (List Leg)), (⟨(0 : Int), (117 : Int), x_1⟩ : Plate), (1 : Int), false, (0 : Int), (0 : Int), (0 : Int), (⟨#[]⟩ : ByteArray), (⟨#[]⟩ : ByteArray), (0 : Int), (⟨#[65]⟩ : ByteArray), ([] : (List Int))⟩ : Message)

def message_in (x_0 : Int) (x_1 : Int) (x_2 : Int) : Option (Bool) :=
  cond (decide (x_1 ≤ x_0))
    (some (decide (x_0 ≤ x_2)))
    (some false)

def message_own (x_0 : Message) : Option (Message) :=
  cond (x_0.Kind == (1 : Int))
    (some (⟨x_0.Kind, x_0.Do, x_0.Port, x_0.Number, (⟨(⟨(⟨#[]⟩ : ByteArray), (0 : Int), (⟨#[]⟩ : ByteArray), (0 : Int)⟩ : Flight), (⟨#[]⟩ : ByteArray), (⟨#[]⟩ : ByteArray)⟩ : Leg), x_0.Out, x_0.Onward, x_0.First, x_0.Count, x_0.Load, x_0.Status, x_0.Sequence, x_0.Weight, x_0.Surname, x_0.Given, x_0.Exception, (⟨#[]⟩ : ByteArray), ([] : (List Int))⟩ : Message))
    (cond (x_0.Kind == (2 : Int))
    (some (⟨x_0.Kind, x_0.Do, x_0.Port, x_0.Number, x_0.In, x_0.Out, x_0.Onward, x_0.First, x_0.Count, x_0.Load, x_0.Status, x_0.Sequence, x_0.Weight, x_0.Surname, x_0.Given, x_0.Exception, (⟨#[]⟩ : ByteArray), ([] : (List Int))⟩ : Message))
    (cond (x_0.Kind == (3 : Int))
    (some (⟨x_0.Kind, (0 : Int), x_0.Port, x_0.Number, (⟨(⟨(⟨#[]⟩ : ByteArray), (0 : Int), (⟨#[]⟩ : ByteArray), (0 : Int)⟩ : Flight), (⟨#[]⟩ : ByteArray), (⟨#[]⟩ : ByteArray)⟩ : Leg), (⟨(⟨(⟨#[]⟩ : ByteArray), (0 : Int), (⟨#[]⟩ : ByteArray), (0 : Int)⟩ : Flight), (⟨#[]⟩ : ByteArray), (⟨#[]⟩ : ByteArray)⟩ : Leg), ([] : (List Leg)), x_0.First, x_0.Count, false, (0 : Int), (0 : Int), (0 : Int), (⟨#[]⟩ : ByteArray), (⟨#[]⟩ : ByteArray), (0 : Int), x_0.Node, ([] : (List Int))⟩ : Message))
    (cond (x_0.Kind == (4 : Int))
    (some (⟨x_0.Kind, (0 : Int), x_0.Port, x_0.Number, (⟨(⟨(⟨#[]⟩ : ByteArray), (0 : Int), (⟨#[]⟩ : ByteArray), (0 : Int)⟩ : Flight), (⟨#[]⟩ : ByteArray), (⟨#[]⟩ : ByteArray)⟩ : Leg), x_0.Out, ([] : (List Leg)), x_0.First, x_0.Count, false, (0 : Int), (0 : Int), (0 : Int), (⟨#[]⟩ : ByteArray), (⟨#[]⟩ : ByteArray), (0 : Int), (⟨#[]⟩ : ByteArray), ([] : (List Int))⟩ : Message))
    (cond (x_0.Kind == (5 : Int))
    (some (⟨x_0.Kind, (0 : Int), x_0.Port, x_0.Number, (⟨(⟨(⟨#[]⟩ : ByteArray), (0 : Int), (⟨#[]⟩ : ByteArray), (0 : Int)⟩ : Flight), (⟨#[]⟩ : ByteArray), (⟨#[]⟩ : ByteArray)⟩ : Leg), x_0.Out, ([] : (List Leg)), (⟨(0 : Int), (0 : Int), (0 : Int)⟩ : Plate), (0 : Int), false, (0 : Int), (0 : Int), (0 : Int), (⟨#[]⟩ : ByteArray), (⟨#[]⟩ : ByteArray), (0 : Int), (⟨#[]⟩ : ByteArray), x_0.List⟩ : Message))
    (some (⟨x_0.Kind, (0 : Int), x_0.Port, x_0.Number, (⟨(⟨(⟨#[]⟩ : ByteArray), (0 : Int), (⟨#[]⟩ : ByteArray), (0 : Int)⟩ : Flight), (⟨#[]⟩ : ByteArray), (⟨#[]⟩ : ByteArray)⟩ : Leg), (⟨(⟨(⟨#[]⟩ : ByteArray), (0 : Int), (⟨#[]⟩ : ByteArray), (0 : Int)⟩ : Flight), (⟨#[]⟩ : ByteArray), (⟨#[]⟩ : ByteArray)⟩ : Leg), ([] : (List Leg)), (⟨(0 : Int), (0 : Int), (0 : Int)⟩ : Plate), (0 : Int), false, (0 : Int), (0 : Int), (0 : Int), (⟨#[]⟩ : ByteArray), (⟨#[]⟩ : ByteArray), (0 : Int), (⟨#[]⟩ : ByteArray), ([] : (List Int))⟩ : Message))))))

def slices_Equal_Leg_L1 (x_1 : (List Leg)) : (List Leg) → Nat → Option (Ctl (Bool) (Unit))
  | [], k_2 => some (Ctl.brk ())
  | e_3 :: q_5, k_2 => (ixL x_1 (k_2 : Int)).bind fun e_4 =>
    cond (!((e_3.Flight.Carrier.toList == e_4.Flight.Carrier.toList) && ((e_3.Flight.Number == e_4.Flight.Number) && ((e_3.Flight.Suffix.toList == e_4.Flight.Suffix.toList) && ((e_3.Flight.Day == e_4.Flight.Day) && ((e_3.Port.toList == e_4.Port.toList) && ((e_3.Class.toList == e_4.Class.toList) && true)))))))
    (some (Ctl.ret false))
    (slices_Equal_Leg_L1 x_1 q_5 (k_2 + 1))
def slices_Equal_Leg (x_0 : (List Leg)) (x_1 : (List Leg)) : Option (Bool) :=
  cond ((x_0.length : Int) != (x_1.length : Int))
    (some false)
    (Ctl.fin (slices_Equal_Leg_L1 x_1 x_0 0) fun z_6 =>
    some true)

def slices_Equal_int_L1 (x_1 : (List Int)) : (List Int) → Nat → Option (Ctl (Bool) (Unit))
  | [], k_2 => some (Ctl.brk ())
  | e_3 :: q_5, k_2 => (ixL x_1 (k_2 : Int)).bind fun e_4 =>
    cond (e_3 != e_4)
    (some (Ctl.ret false))
    (slices_Equal_int_L1 x_1 q_5 (k_2 + 1))
def slices_Equal_int (x_0 : (List Int)) (x_1 : (List Int)) : Option (Bool) :=
  cond ((x_0.length : Int) != (x_1.length : Int))
    (some false)
    (Ctl.fin (slices_Equal_int_L1 x_1 x_0 0) fun z_6 =>
    some true)

def message_Same (x_0 : Message) (x_1 : Message) : Option (Bool) :=
  cond (x_0.Kind == x_1.Kind)
    (cond (x_0.Do == x_1.Do)
    (cond (x_0.Port.toList == x_1.Port.toList)
    (cond (x_0.Number == x_1.Number)
    (cond ((x_0.In.Flight.Carrier.toList == x_1.In.Flight.Carrier.toList) && ((x_0.In.Flight.Number == x_1.In.Flight.Number) && ((x_0.In.Flight.Suffix.toList == x_1.In.Flight.Suffix.toList) && ((x_0.In.Flight.Day == x_1.In.Flight.Day) && ((x_0.In.Port.toList == x_1.In.Port.toList) && ((x_0.In.Class.toList == x_1.In.Class.toList) && true))))))
    (cond ((x_0.Out.Flight.Carrier.toList == x_1.Out.Flight.Carrier.toList) && ((x_0.Out.Flight.Number == x_1.Out.Flight.Number) && ((x_0.Out.Flight.Suffix.toList == x_1.Out.Flight.Suffix.toList) && ((x_0.Out.Flight.Day == x_1.Out.Flight.Day) && ((x_0.Out.Port.toList == x_1.Out.Port.toList) && ((x_0.Out.Class.toList == x_1.Out.Class.toList) && true))))))
    ((slices_Equal_Leg x_0.Onward x_1.Onward).bind fun r_1 =>
    cond r_1
    (cond ((x_0.First.Lead == x_1.First.Lead) && ((x_0.First.Airline == x_1.First.Airline) && ((x_0.First.Serial == x_1.First.Serial) && true)))
    (cond (x_0.Count == x_1.Count)
    (cond (x_0.Load == x_1.Load)
    (cond (x_0.Status == x_1.Status)
    (cond (x_0.Sequence == x_1.Sequence)
    (cond (x_0.Weight == x_1.Weight)
    (cond (x_0.Surname.toList == x_1.Surname.toList)
    (cond (x_0.Given.toList == x_1.Given.toList)
    (cond (x_0.Exception == x_1.Exception)
    (cond (x_0.Node.toList == x_1.Node.toList)
    ((slices_Equal_int x_0.List x_1.List).bind fun r_2 =>
    some r_2)
    (some false))
    (some false))
    (some false))
    (some false))
    (some false))
    (some false))
    (some false))
    (some false))
    (some false))
    (some false))
    (some false))
    (some false))
    (some false))
    (some false))
    (some false))
    (some false))
    (some false)

def fields_Letter (x_0 : Int) : Option (Bool) :=
  cond (decide ((65 : Int) ≤ x_0))
    (some (decide (x_0 ≤ (90 : Int))))
    (some false)

def fields_All_L1 (x_0 : ByteArray) : Nat → Int → Option (Ctl (Bool) (Unit))
  | 0, _ => none
  | q_4 + 1, i_1 => cond (decide (i_1 < (x_0.size : Int)))
    ((ixS x_0 i_1).bind fun b_2 =>
    (fields_Letter b_2).bind fun r_3 =>
    cond (!r_3)
    (some (Ctl.ret false))
    (fields_All_L1 x_0 q_4 (w64 (i_1 + (1 : Int)))))
    (some (Ctl.brk ()))
def fields_All (x_0 : ByteArray) : Option (Bool) :=
  Ctl.fin (fields_All_L1 x_0 9223372036854775807 (0 : Int)) fun z_5 =>
    some true

def fields_Letters (x_0 : ByteArray) (x_1 : Int) (x_2 : Int) : Option (Bool) :=
  cond (decide (x_1 ≤ (x_0.size : Int)))
    (cond (decide ((x_0.size : Int) ≤ x_2))
    ((fields_All x_0).bind fun r_1 =>
    some r_1)
    (some false))
    (some false)

def flight_ValidPort (x_0 : ByteArray) : Option (Bool) :=
  (fields_Letters x_0 (3 : Int) (3 : Int)).bind fun r_1 =>
    some r_1

def fields_Digit (x_0 : Int) : Option (Bool) :=
  cond (decide ((48 : Int) ≤ x_0))
    (some (decide (x_0 ≤ (57 : Int))))
    (some false)

def flight_carrier_L1 (x_0 : ByteArray) : Nat → Int → Int → Option (Ctl (Bool) (Int))
  | 0, _, _ => none
  | q_7 + 1, i_1, i_2 => cond (decide (i_2 < (x_0.size : Int)))
    ((ixS x_0 i_2).bind fun b_3 =>
    (fields_Letter b_3).bind fun r_4 =>
    cond r_4
    (flight_carrier_L1 x_0 q_7 (w64 (i_1 + (1 : Int))) (w64 (i_2 + (1 : Int))))
    ((ixS x_0 i_2).bind fun b_5 =>
    (fields_Digit b_5).bind fun r_6 =>
    cond (!r_6)
    (some (Ctl.ret false))
    (flight_carrier_L1 x_0 q_7 i_1 (w64 (i_2 + (1 : Int))))))
    (some (Ctl.brk i_1))
def flight_carrier (x_0 : ByteArray) : Option (Bool) :=
  cond ((x_0.size : Int) != (2 : Int))
    (some false)
    (Ctl.fin (flight_carrier_L1 x_0 9223372036854775807 (0 : Int) (0 : Int)) fun z_8 =>
    some (decide ((0 : Int) < z_8)))

def flight_Valid (x_0 : Flight) : Option (Bool) :=
  (flight_carrier x_0.Carrier).bind fun r_1 =>
    cond r_1
    (cond (decide ((1 : Int) ≤ x_0.Number))
    (cond (decide (x_0.Number ≤ (9999 : Int)))
    ((fields_Letters x_0.Suffix (0 : Int) (1 : Int)).bind fun r_2 =>
    cond r_2
    (cond (decide ((0 : Int) ≤ x_0.Day))
    (some (decide (x_0.Day ≤ (99 : Int))))
    (some false))
    (some false))
    (some false))
    (some false))
    (some false)

def flight_ValidLeg (x_0 : Leg) : Option (Bool) :=
  (flight_Valid x_0.Flight).bind fun r_1 =>
    cond r_1
    ((flight_ValidPort x_0.Port).bind fun r_2 =>
    cond r_2
    (cond (x_0.Class.toList == (⟨#[70]⟩ : ByteArray).toList)
    (some true)
    (cond (x_0.Class.toList == (⟨#[67]⟩ : ByteArray).toList)
    (some true)
    (some (x_0.Class.toList == (⟨#[89]⟩ : ByteArray).toList))))
    (some false))
    (some false)

def message_describes (x_0 : Int) : Option (Bool) :=
  cond (x_0 == (1 : Int))
    (some true)
    (some (x_0 == (2 : Int)))

def fields_Name_f1 (x_0 : Int) : Option (Bool) :=
  (fields_Letter x_0).bind fun r_1 =>
    cond r_1
    (some true)
    ((fields_Digit x_0).bind fun r_2 =>
    some r_2)

def fields_All_v2_L1 (x_0 : ByteArray) : Nat → Int → Option (Ctl (Bool) (Unit))
  | 0, _ => none
  | q_4 + 1, i_1 => cond (decide (i_1 < (x_0.size : Int)))
    ((ixS x_0 i_1).bind fun b_2 =>
    (fields_Name_f1 b_2).bind fun r_3 =>
    cond (!r_3)
    (some (Ctl.ret false))
    (fields_All_v2_L1 x_0 q_4 (w64 (i_1 + (1 : Int)))))
    (some (Ctl.brk ()))
def fields_All_v2 (x_0 : ByteArray) : Option (Bool) :=
  Ctl.fin (fields_All_v2_L1 x_0 9223372036854775807 (0 : Int)) fun z_5 =>
    some true

def fields_Name (x_0 : ByteArray) (x_1 : Int) : Option (Bool) :=
  cond (!(x_0.toList == (⟨#[]⟩ : ByteArray).toList))
    (cond (decide ((x_0.size : Int) ≤ x_1))
    ((ixS x_0 (0 : Int)).bind fun b_1 =>
    (fields_Letter b_1).bind fun r_2 =>
    cond r_2
    ((fields_All_v2 x_0).bind fun r_3 =>
    some r_3)
    (some false))
    (some false))
    (some false)

def message_shaped_L1 : (List Leg) → Nat → Option (Ctl (Bool) (Unit))
  | [], k_5 => some (Ctl.brk ())
  | e_6 :: q_8, k_5 => (flight_ValidLeg e_6).bind fun r_7 =>
    cond (!r_7)
    (some (Ctl.ret false))
    (message_shaped_L1 q_8 (k_5 + 1))
def message_shaped (x_0 : Message) : Option (Bool) :=
  (flight_ValidPort x_0.Port).bind fun r_1 =>
    cond (!r_1)
    (some false)
    (cond (x_0.Kind == (2 : Int))
    ((flight_ValidLeg x_0.In).bind fun r_2 =>
    cond (!r_2)
    (some false)
    (cond (x_0.Kind != (3 : Int))
    ((flight_ValidLeg x_0.Out).bind fun r_3 =>
    cond (!r_3)
    (some false)
    (Ctl.fin (message_shaped_L1 x_0.Onward 0) fun z_9 =>
    (message_describes x_0.Kind).bind fun r_10 =>
    cond r_10
    ((fields_Letters x_0.Surname (1 : Int) (20 : Int)).bind fun r_11 =>
    cond (!r_11)
    (some false)
    ((fields_Letters x_0.Given (0 : Int) (20 : Int)).bind fun r_12 =>
    cond (!r_12)
    (some false)
    (some true)))
    (some true)))
    (Ctl.fin (message_shaped_L1 x_0.Onward 0) fun z_18 =>
    (message_describes x_0.Kind).bind fun r_19 =>
    cond r_19
    ((fields_Letters x_0.Surname (1 : Int) (20 : Int)).bind fun r_20 =>
    cond (!r_20)
    (some false)
    ((fields_Letters x_0.Given (0 : Int) (20 : Int)).bind fun r_21 =>
    cond (!r_21)
    (some false)
    ((fields_Name x_0.Node (12 : Int)).bind fun r_22 =>
    some r_22)))
    ((fields_Name x_0.Node (12 : Int)).bind fun r_23 =>
    some r_23))))
    (cond (x_0.Kind != (3 : Int))
    ((flight_ValidLeg x_0.Out).bind fun r_24 =>
    cond (!r_24)
    (some false)
    (Ctl.fin (message_shaped_L1 x_0.Onward 0) fun z_30 =>
    (message_describes x_0.Kind).bind fun r_31 =>
    cond r_31
    ((fields_Letters x_0.Surname (1 : Int) (20 : Int)).bind fun r_32 =>
    cond (!r_32)
    (some false)
    ((fields_Letters x_0.Given (0 : Int) (20 : Int)).bind fun r_33 =>
    cond (!r_33)
    (some false)
    (some true)))
    (some true)))
    (Ctl.fin (message_shaped_L1 x_0.Onward 0) fun z_39 =>
    (message_describes x_0.Kind).bind fun r_40 =>
    cond r_40
    ((fields_Letters x_0.Surname (1 : Int) (20 : Int)).bind fun r_41 =>
    cond (!r_41)
    (some false)
    ((fields_Letters x_0.Given (0 : Int) (20 : Int)).bind fun r_42 =>
    cond (!r_42)
    (some false)
    ((fields_Name x_0.Node (12 : Int)).bind fun r_43 =>
    some r_43)))
    ((fields_Name x_0.Node (12 : Int)).bind fun r_44 =>
    some r_44))))

def plate_Valid (x_0 : Plate) : Option (Bool) :=
  cond (decide ((0 : Int) ≤ x_0.Lead))
    (cond (decide (x_0.Lead ≤ (9 : Int)))
    (cond (decide ((1 : Int) ≤ x_0.Airline))
    (cond (decide (x_0.Airline ≤ (999 : Int)))
    (cond (decide ((0 : Int) ≤ x_0.Serial))
    (some (decide (x_0.Serial < (1000000 : Int))))
    (some false))
    (some false))
    (some false))
    (some false))
    (some false)

def message_ranged_f1 (x_0 : Int) : Option (Bool) :=
  (message_in x_0 (1 : Int) (999 : Int)).bind fun r_1 =>
    some (!r_1)

def slices_IndexFunc_int_L1 : (List Int) → Nat → Option (Ctl (Int) (Unit))
  | [], k_2 => some (Ctl.brk ())
  | e_3 :: q_5, k_2 => (message_ranged_f1 e_3).bind fun r_4 =>
    cond r_4
    (some (Ctl.ret (k_2 : Int)))
    (slices_IndexFunc_int_L1 q_5 (k_2 + 1))
def slices_IndexFunc_int (x_0 : (List Int)) : Option (Int) :=
  Ctl.fin (slices_IndexFunc_int_L1 x_0 0) fun z_6 =>
    some (-1 : Int)

def slices_ContainsFunc_int (x_0 : (List Int)) : Option (Bool) :=
  (slices_IndexFunc_int x_0).bind fun r_1 =>
    some (decide ((0 : Int) ≤ r_1))

def message_ranged (x_0 : Message) : Option (Bool) :=
  (message_in x_0.Number (1 : Int) (9999 : Int)).bind fun r_1 =>
    cond (!r_1)
    (some false)
    ((message_in x_0.Do (0 : Int) (2 : Int)).bind fun r_2 =>
    cond (!r_2)
    (some false)
    ((message_in x_0.Weight (0 : Int) (999 : Int)).bind fun r_3 =>
    cond (!r_3)
    (some false)
    ((message_in x_0.Exception (0 : Int) (3 : Int)).bind fun r_4 =>
    cond (!r_4)
    (some false)
    (cond (x_0.Kind != (5 : Int))
    ((plate_Valid x_0.First).bind fun r_5 =>
    cond (!r_5)
    (some false)
    ((message_in x_0.Count (1 : Int) (99 : Int)).bind fun r_6 =>
    cond (!r_6)
    (some false)
    ((message_describes x_0.Kind).bind fun r_7 =>
    cond r_7
    ((message_in x_0.Status (1 : Int) (4 : Int)).bind fun r_8 =>
    cond (!r_8)
    (some false)
    ((message_in x_0.Sequence (1 : Int) (999 : Int)).bind fun r_9 =>
    cond (!r_9)
    (some false)
    ((slices_ContainsFunc_int x_0.List).bind fun r_10 =>
    some (!r_10))))
    ((slices_ContainsFunc_int x_0.List).bind fun r_11 =>
    some (!r_11)))))
    ((message_describes x_0.Kind).bind fun r_12 =>
    cond r_12
    ((message_in x_0.Status (1 : Int) (4 : Int)).bind fun r_13 =>
    cond (!r_13)
    (some false)
    ((message_in x_0.Sequence (1 : Int) (999 : Int)).bind fun r_14 =>
    cond (!r_14)
    (some false)
    ((slices_ContainsFunc_int x_0.List).bind fun r_15 =>
    some (!r_15))))
    ((slices_ContainsFunc_int x_0.List).bind fun r_16 =>
    some (!r_16)))))))

def message_Validate_L1 (x_0 : Message) : Nat → Int → Option (Ctl (Int) (Unit))
  | 0, _ => none
  | q_9 + 1, i_6 => cond (decide (i_6 < (x_0.List.length : Int)))
    ((ixL x_0.List (w64 (i_6 - (1 : Int)))).bind fun e_7 =>
    (ixL x_0.List i_6).bind fun e_8 =>
    cond (decide (e_8 ≤ e_7))
    (some (Ctl.ret (9 : Int)))
    (message_Validate_L1 x_0 q_9 (w64 (i_6 + (1 : Int)))))
    (some (Ctl.brk ()))
def message_Validate (x_0 : Message) : Option (Int) :=
  (message_in x_0.Kind (1 : Int) (5 : Int)).bind fun r_1 =>
    cond (!r_1)
    (some (4 : Int))
    ((message_own x_0).bind fun r_2 =>
    (message_Same x_0 r_2).bind fun r_3 =>
    cond (!r_3)
    (some (7 : Int))
    (cond (decide ((3 : Int) < (x_0.Onward.length : Int)))
    (some (2 : Int))
    (cond (decide ((40 : Int) < (x_0.List.length : Int)))
    (some (2 : Int))
    ((message_shaped x_0).bind fun r_4 =>
    cond (!r_4)
    (some (3 : Int))
    ((message_ranged x_0).bind fun r_5 =>
    cond (!r_5)
    (some (1 : Int))
    (Ctl.fin (message_Validate_L1 x_0 9223372036854775807 (1 : Int)) fun z_10 =>
    some (0 : Int)))))))

def strings_Compare (x_0 : ByteArray) (x_1 : ByteArray) : Option (Int) :=
  some (Lib.compareBytes x_0.data.toList x_1.data.toList)

def inbox_find_f1 (x_0 : Sender) (x_1 : ByteArray) : Option (Int) :=
  (strings_Compare x_0.Port x_1).bind fun r_1 =>
    some r_1

def slices_BinarySearchFunc_string_L1 (x_0 : (List Sender)) (x_1 : ByteArray) : Nat → Int → Int → Option (Ctl (Int × Bool) (Int))
  | 0, _, _ => none
  | q_5 + 1, i_1, i_2 => cond (decide (i_1 < i_2))
    ((ixL x_0 (IntKind.i64.wrap (shrF .u64 (IntKind.u64.wrap (w64 (i_1 + i_2))) (1 : Int)))).bind fun e_3 =>
    (inbox_find_f1 e_3 x_1).bind fun r_4 =>
    cond (decide (r_4 < (0 : Int)))
    (slices_BinarySearchFunc_string_L1 x_0 x_1 q_5 (w64 ((IntKind.i64.wrap (shrF .u64 (IntKind.u64.wrap (w64 (i_1 + i_2))) (1 : Int))) + (1 : Int))) i_2)
    (slices_BinarySearchFunc_string_L1 x_0 x_1 q_5 i_1 (IntKind.i64.wrap (shrF .u64 (IntKind.u64.wrap (w64 (i_1 + i_2))) (1 : Int)))))
    (some (Ctl.brk i_1))
def slices_BinarySearchFunc_string (x_0 : (List Sender)) (x_1 : ByteArray) : Option (Int × Bool) :=
  Ctl.fin (slices_BinarySearchFunc_string_L1 x_0 x_1 9223372036854775807 (0 : Int) (x_0.length : Int)) fun z_6 =>
    cond (decide (z_6 < (x_0.length : Int)))
    ((ixL x_0 z_6).bind fun e_7 =>
    (inbox_find_f1 e_7 x_1).bind fun r_8 =>
    some (z_6, (r_8 == (0 : Int))))
    (some (z_6, false))

def inbox_find (x_0 : Inbox) (x_1 : ByteArray) : Option (Int × Bool) :=
  (slices_BinarySearchFunc_string x_0.L x_1).bind fun r_1 =>
    some (r_1.1, r_1.2)

def cmp_isNaN_int (x_0 : Int) : Option (Bool) :=
  some (x_0 != x_0)

def cmp_Compare_int (x_0 : Int) (x_1 : Int) : Option (Int) :=
  (cmp_isNaN_int x_0).bind fun r_1 =>
    (cmp_isNaN_int x_1).bind fun r_2 =>
    cond r_1
    (cond r_2
    (some (0 : Int))
    (some (-1 : Int)))
    (cond r_2
    (some (1 : Int))
    (cond (decide (x_0 < x_1))
    (some (-1 : Int))
    (cond (decide (x_1 < x_0))
    (some (1 : Int))
    (some (0 : Int)))))

def inbox_Receive_f1 (x_0 : Message) (x_1 : Int) : Option (Int) :=
  (cmp_Compare_int x_0.Number x_1).bind fun r_1 =>
    some r_1

def slices_BinarySearchFunc_int_L1 (x_0 : (List Message)) (x_1 : Int) : Nat → Int → Int → Option (Ctl (Int × Bool) (Int))
  | 0, _, _ => none
  | q_5 + 1, i_1, i_2 => cond (decide (i_1 < i_2))
    ((ixL x_0 (IntKind.i64.wrap (shrF .u64 (IntKind.u64.wrap (w64 (i_1 + i_2))) (1 : Int)))).bind fun e_3 =>
    (inbox_Receive_f1 e_3 x_1).bind fun r_4 =>
    cond (decide (r_4 < (0 : Int)))
    (slices_BinarySearchFunc_int_L1 x_0 x_1 q_5 (w64 ((IntKind.i64.wrap (shrF .u64 (IntKind.u64.wrap (w64 (i_1 + i_2))) (1 : Int))) + (1 : Int))) i_2)
    (slices_BinarySearchFunc_int_L1 x_0 x_1 q_5 i_1 (IntKind.i64.wrap (shrF .u64 (IntKind.u64.wrap (w64 (i_1 + i_2))) (1 : Int)))))
    (some (Ctl.brk i_1))
def slices_BinarySearchFunc_int (x_0 : (List Message)) (x_1 : Int) : Option (Int × Bool) :=
  Ctl.fin (slices_BinarySearchFunc_int_L1 x_0 x_1 9223372036854775807 (0 : Int) (x_0.length : Int)) fun z_6 =>
    cond (decide (z_6 < (x_0.length : Int)))
    ((ixL x_0 z_6).bind fun e_7 =>
    (inbox_Receive_f1 e_7 x_1).bind fun r_8 =>
    some (z_6, (r_8 == (0 : Int))))
    (some (z_6, false))

def slices_Clone_Leg (x_0 : (List Leg)) : Option ((List Leg)) :=
  apL [] x_0

def slices_Clone_int (x_0 : (List Int)) : Option ((List Int)) :=
  apL [] x_0

def inbox_copied (x_0 : Message) : Option (Message) :=
  (slices_Clone_Leg x_0.Onward).bind fun r_1 =>
    (slices_Clone_int x_0.List).bind fun r_2 =>
    some (⟨x_0.Kind, x_0.Do, x_0.Port, x_0.Number, x_0.In, x_0.Out, r_1, x_0.First, x_0.Count, x_0.Load, x_0.Status, x_0.Sequence, x_0.Weight, x_0.Surname, x_0.Given, x_0.Exception, x_0.Node, r_2⟩ : Message)

def inbox_clone_L2 : (List Message) → Nat → (List Message) → Option (Ctl (Inbox) ((List Message)))
  | [], k_7, a_5 => some (Ctl.brk a_5)
  | e_8 :: q_11, k_7, a_5 => (inbox_copied e_8).bind fun r_9 =>
    (apL a_5 ([r_9] : List Message)).bind fun l_10 =>
    inbox_clone_L2 q_11 (k_7 + 1) l_10
def inbox_clone_L1 : (List Sender) → Nat → (List Sender) → Option (Ctl (Inbox) ((List Sender)))
  | [], k_3, a_1 => some (Ctl.brk a_1)
  | e_4 :: q_14, k_3, a_1 => Ctl.sub (inbox_clone_L2 e_4.Held 0 ([] : List Message)) fun z_12 =>
    (apL a_1 ([(⟨e_4.Port, e_4.Next, z_12⟩ : Sender)] : List Sender)).bind fun l_13 =>
    inbox_clone_L1 q_14 (k_3 + 1) l_13
def inbox_clone (x_0 : Inbox) : Option (Inbox) :=
  Ctl.fin (inbox_clone_L1 x_0.L 0 ([] : List Sender)) fun z_15 =>
    some (⟨x_0.Window, z_15⟩ : Inbox)

def slices_Insert_Message (x_0 : (List Message)) (x_1 : Int) (x_2 : (List Message)) : Option ((List Message)) :=
  insL x_0 x_1 x_2

def slices_Clone_Message (x_0 : (List Message)) : Option ((List Message)) :=
  apL [] x_0

def inbox_release_L1 (x_1 : Nat) : Nat → (List Sender) → Int → Option (Ctl ((List Message) × (List Sender)) ((List Sender) × Int))
  | 0, _, _ => none
  | q_5 + 1, a_1, i_2 => (ixL a_1 (x_1 : Int)).bind fun v_3 =>
    cond (decide (i_2 < (v_3.Held.length : Int)))
    ((ixL v_3.Held i_2).bind fun e_4 =>
    cond (e_4.Number == v_3.Next)
    (inbox_release_L1 x_1 q_5 (a_1.set (x_1 : Int).toNat (⟨v_3.Port, (w64 (v_3.Next + (1 : Int))), v_3.Held⟩ : Sender)) (w64 (i_2 + (1 : Int))))
    (some (Ctl.brk (a_1, i_2))))
    (some (Ctl.brk (a_1, i_2)))
def inbox_release (x_0 : (List Sender)) (x_1 : Nat) : Option ((List Message) × (List Sender)) :=
  Ctl.fin (inbox_release_L1 x_1 9223372036854775807 x_0 (0 : Int)) fun z_6 =>
    (ixL z_6.1 (x_1 : Int)).bind fun v_7 =>
    (slL v_7.Held 0 z_6.2).bind fun l_8 =>
    (slices_Clone_Message l_8).bind fun r_9 =>
    (slL v_7.Held z_6.2 (v_7.Held.length : Int)).bind fun l_10 =>
    (slices_Clone_Message l_10).bind fun r_11 =>
    some (r_9, (z_6.1.set (x_1 : Int).toNat (⟨v_7.Port, v_7.Next, r_11⟩ : Sender)))

def slices_Insert_Message_v2 (x_0 : Int) (x_1 : (List Message)) : Option ((List Message)) :=
  insL ([] : List Message) x_0 x_1

def inbox_Receive (x_0 : Inbox) (x_1 : Message) : Option (Inbox × (List Message) × Int × Int) :=
  (message_Validate x_1).bind fun r_1 =>
    cond (r_1 != (0 : Int))
    (some ((⟨(0 : Int), ([] : (List Sender))⟩ : Inbox), ([] : (List Message)), (0 : Int), r_1))
    ((inbox_find x_0 x_1.Port).bind fun r_2 =>
    cond r_2.2
    ((ixL x_0.L r_2.1).bind fun e_3 =>
    (slices_BinarySearchFunc_int e_3.Held x_1.Number).bind fun r_4 =>
    cond (decide (x_1.Number < e_3.Next))
    ((inbox_clone x_0).bind fun r_5 =>
    some (r_5, ([] : (List Message)), (3 : Int), (0 : Int)))
    (cond (decide ((w64 (e_3.Next + x_0.Window)) ≤ x_1.Number))
    ((inbox_clone x_0).bind fun r_6 =>
    some (r_6, ([] : (List Message)), (4 : Int), (0 : Int)))
    (cond r_4.2
    ((ixL e_3.Held r_4.1).bind fun e_7 =>
    (message_Same e_7 x_1).bind fun r_8 =>
    cond r_8
    ((inbox_clone x_0).bind fun r_9 =>
    some (r_9, ([] : (List Message)), (3 : Int), (0 : Int)))
    ((inbox_clone x_0).bind fun r_10 =>
    some (r_10, ([] : (List Message)), (5 : Int), (0 : Int))))
    ((focE (inbox_clone x_0) (fun r => r.L) r_2.1).bind fun r_11 =>
    (inbox_copied x_1).bind fun r_12 =>
    (slices_Insert_Message r_11.2.Held r_4.1 ([r_12] : List Message)).bind fun r_13 =>
    (ixL (r_11.1.L.set r_2.1.toNat (⟨r_11.2.Port, r_11.2.Next, r_13⟩ : Sender)) r_2.1).bind fun v_14 =>
    cond (decide (v_14.Next < x_1.Number))
    (some ((⟨r_11.1.Window, (r_11.1.L.set r_2.1.toNat (⟨r_11.2.Port, r_11.2.Next, r_13⟩ : Sender))⟩ : Inbox), ([] : (List Message)), (2 : Int), (0 : Int)))
    ((inbox_release (r_11.1.L.set r_2.1.toNat (⟨r_11.2.Port, r_11.2.Next, r_13⟩ : Sender)) ((r_2.1).toNat)).bind fun r_15 =>
    some ((⟨r_11.1.Window, r_15.2⟩ : Inbox), r_15.1, (1 : Int), (0 : Int)))))))
    ((slices_BinarySearchFunc_int ([] : (List Message)) x_1.Number).bind fun r_16 =>
    cond (decide (x_1.Number < (1 : Int)))
    ((inbox_clone x_0).bind fun r_17 =>
    some (r_17, ([] : (List Message)), (3 : Int), (0 : Int)))
    (cond (decide ((w64 ((1 : Int) + x_0.Window)) ≤ x_1.Number))
    ((inbox_clone x_0).bind fun r_18 =>
    some (r_18, ([] : (List Message)), (4 : Int), (0 : Int)))
    (cond r_16.2
    (none)
    (cond (decide ((16 : Int) ≤ (x_0.L.length : Int)))
    (some ((⟨(0 : Int), ([] : (List Sender))⟩ : Inbox), ([] : (List Message)), (0 : Int), (2 : Int)))
    ((inbox_clone x_0).bind fun r_19 =>
    (insL r_19.L r_2.1 ([(⟨x_1.Port, (1 : Int), ([] : (List Message))⟩ : Sender)] : List Sender)).bind fun r_20 =>
    (inbox_copied x_1).bind fun r_21 =>
    (slices_Insert_Message_v2 r_16.1 ([r_21] : List Message)).bind fun r_22 =>
    (ixL (r_20.set r_2.1.toNat (⟨x_1.Port, (1 : Int), r_22⟩ : Sender)) r_2.1).bind fun v_23 =>
    cond (decide (v_23.Next < x_1.Number))
    (some ((⟨r_19.Window, (r_20.set r_2.1.toNat (⟨x_1.Port, (1 : Int), r_22⟩ : Sender))⟩ : Inbox), ([] : (List Message)), (2 : Int), (0 : Int)))
    ((inbox_release (r_20.set r_2.1.toNat (⟨x_1.Port, (1 : Int), r_22⟩ : Sender)) ((r_2.1).toNat)).bind fun r_24 =>
    some ((⟨r_19.Window, r_24.2⟩ : Inbox), r_24.1, (1 : Int), (0 : Int)))))))))

def inbox_Missing_L2 (e_8 : Message) : Nat → (List Int) → Int → Option (Ctl ((List Int)) ((List Int)))
  | 0, _, _ => none
  | q_12 + 1, a_9, i_10 => cond (decide (i_10 < e_8.Number))
    ((apL a_9 ([i_10] : List Int)).bind fun l_11 =>
    inbox_Missing_L2 e_8 q_12 l_11 (w64 (i_10 + (1 : Int))))
    (some (Ctl.brk a_9))
def inbox_Missing_L1 : (List Message) → Nat → (List Int) → Int → Option (Ctl ((List Int)) ((List Int)))
  | [], k_7, a_4, i_5 => some (Ctl.brk a_4)
  | e_8 :: q_14, k_7, a_4, i_5 => Ctl.sub (inbox_Missing_L2 e_8 9223372036854775807 a_4 i_5) fun z_13 =>
    inbox_Missing_L1 q_14 (k_7 + 1) z_13 (w64 (e_8.Number + (1 : Int)))
def inbox_Missing (x_0 : Inbox) (x_1 : ByteArray) : Option ((List Int)) :=
  (inbox_find x_0 x_1).bind fun r_1 =>
    cond (!r_1.2)
    (some ([] : (List Int)))
    ((ixL x_0.L r_1.1).bind fun e_2 =>
    (ixL x_0.L r_1.1).bind fun e_3 =>
    Ctl.fin (inbox_Missing_L1 e_3.Held 0 ([] : List Int) e_2.Next) fun z_15 =>
    some z_15)

def law05_awake : Option (Bool) :=
  (inbox_New (3 : Int)).bind fun r_1 =>
    (law05_numbered (⟨#[65, 82, 78]⟩ : ByteArray) (2 : Int)).bind fun r_2 =>
    (inbox_Receive r_1.1 r_2).bind fun r_3 =>
    (law05_numbered (⟨#[65, 82, 78]⟩ : ByteArray) (1 : Int)).bind fun r_4 =>
    (inbox_Receive r_3.1 r_4).bind fun r_5 =>
    cond (r_1.2 == (0 : Int))
    (cond (r_3.2.2.2 == (0 : Int))
    (cond (r_5.2.2.2 == (0 : Int))
    (cond ((r_3.2.1.length : Int) == (0 : Int))
    (cond (r_3.2.2.1 == (2 : Int))
    (cond (r_5.2.2.1 == (1 : Int))
    (cond ((r_5.2.1.length : Int) == (2 : Int))
    ((ixL r_5.2.1 (1 : Int)).bind fun e_6 =>
    cond (e_6.Number == (2 : Int))
    ((inbox_Missing r_3.1 (⟨#[65, 82, 78]⟩ : ByteArray)).bind fun r_7 =>
    some ((r_7.length : Int) == (1 : Int)))
    (some false))
    (some false))
    (some false))
    (some false))
    (some false))
    (some false))
    (some false))
    (some false)

def keep_New (x_0 : (List Int)) : Option (Src) :=
  cond (decide ((2000 : Int) < (x_0.length : Int)))
    ((slL x_0 0 (2000 : Int)).bind fun l_1 =>
    some (⟨l_1, (0 : Int)⟩ : Src))
    (some (⟨x_0, (0 : Int)⟩ : Src))

def keep_Src_Raw (x_0 : Src) : Option (Int × Src) :=
  cond (decide ((x_0.L.length : Int) ≤ x_0.At))
    (some ((0 : Int), x_0))
    ((ixL x_0.L (w64 ((w64 (x_0.At + (1 : Int))) - (1 : Int)))).bind fun e_1 =>
    some (e_1, (⟨x_0.L, (w64 (x_0.At + (1 : Int)))⟩ : Src)))

def keep_Mod (x_0 : Int) (x_1 : Int) : Option (Int) :=
  cond (decide (x_1 < (1 : Int)))
    (some (0 : Int))
    ((nz x_1).bind fun u_1 =>
    cond (decide ((x_0.tmod x_1) < (0 : Int)))
    (some (w64 ((x_0.tmod x_1) + x_1)))
    (some (x_0.tmod x_1)))

def keep_Src_N (x_0 : Src) (x_1 : Int) : Option (Int × Src) :=
  (keep_Src_Raw x_0).bind fun r_1 =>
    (keep_Mod r_1.1 x_1).bind fun r_2 =>
    some (r_2, r_1.2)

def keep_Src_Range (x_0 : Src) (x_1 : Int) (x_2 : Int) : Option (Int × Src) :=
  (keep_Src_N x_0 (w64 ((w64 (x_2 - x_1)) + (1 : Int)))).bind fun r_1 =>
    some ((w64 (x_1 + r_1.1)), r_1.2)

def ref04_legs_L1 (x_1 : (List Leg)) : (List Leg) → Nat → Option (Ctl (Bool) (Unit))
  | [], k_2 => some (Ctl.brk ())
  | e_3 :: q_5, k_2 => (ixL x_1 (k_2 : Int)).bind fun e_4 =>
    cond (!((e_3.Flight.Carrier.toList == e_4.Flight.Carrier.toList) && ((e_3.Flight.Number == e_4.Flight.Number) && ((e_3.Flight.Suffix.toList == e_4.Flight.Suffix.toList) && ((e_3.Flight.Day == e_4.Flight.Day) && ((e_3.Port.toList == e_4.Port.toList) && ((e_3.Class.toList == e_4.Class.toList) && true)))))))
    (some (Ctl.ret false))
    (ref04_legs_L1 x_1 q_5 (k_2 + 1))
def ref04_legs (x_0 : (List Leg)) (x_1 : (List Leg)) : Option (Bool) :=
  cond ((x_0.length : Int) != (x_1.length : Int))
    (some false)
    (Ctl.fin (ref04_legs_L1 x_1 x_0 0) fun z_6 =>
    some true)

def keep_Ints_L1 (x_1 : (List Int)) : (List Int) → Nat → Option (Ctl (Bool) (Unit))
  | [], k_2 => some (Ctl.brk ())
  | e_3 :: q_5, k_2 => (ixL x_1 (k_2 : Int)).bind fun e_4 =>
    cond (e_3 != e_4)
    (some (Ctl.ret false))
    (keep_Ints_L1 x_1 q_5 (k_2 + 1))
def keep_Ints (x_0 : (List Int)) (x_1 : (List Int)) : Option (Bool) :=
  cond ((x_0.length : Int) != (x_1.length : Int))
    (some false)
    (Ctl.fin (keep_Ints_L1 x_1 x_0 0) fun z_6 =>
    some true)

def ref04_Same (x_0 : Message) (x_1 : Message) : Option (Bool) :=
  cond (x_0.Kind == x_1.Kind)
    (cond (x_0.Do == x_1.Do)
    (cond (x_0.Port.toList == x_1.Port.toList)
    (cond (x_0.Number == x_1.Number)
    (cond ((x_0.In.Flight.Carrier.toList == x_1.In.Flight.Carrier.toList) && ((x_0.In.Flight.Number == x_1.In.Flight.Number) && ((x_0.In.Flight.Suffix.toList == x_1.In.Flight.Suffix.toList) && ((x_0.In.Flight.Day == x_1.In.Flight.Day) && ((x_0.In.Port.toList == x_1.In.Port.toList) && ((x_0.In.Class.toList == x_1.In.Class.toList) && true))))))
    (cond ((x_0.Out.Flight.Carrier.toList == x_1.Out.Flight.Carrier.toList) && ((x_0.Out.Flight.Number == x_1.Out.Flight.Number) && ((x_0.Out.Flight.Suffix.toList == x_1.Out.Flight.Suffix.toList) && ((x_0.Out.Flight.Day == x_1.Out.Flight.Day) && ((x_0.Out.Port.toList == x_1.Out.Port.toList) && ((x_0.Out.Class.toList == x_1.Out.Class.toList) && true))))))
    ((ref04_legs x_0.Onward x_1.Onward).bind fun r_1 =>
    cond r_1
    (cond ((x_0.First.Lead == x_1.First.Lead) && ((x_0.First.Airline == x_1.First.Airline) && ((x_0.First.Serial == x_1.First.Serial) && true)))
    (cond (x_0.Count == x_1.Count)
    (cond (x_0.Load == x_1.Load)
    (cond (x_0.Status == x_1.Status)
    (cond (x_0.Sequence == x_1.Sequence)
    (cond (x_0.Weight == x_1.Weight)
    (cond (x_0.Surname.toList == x_1.Surname.toList)
    (cond (x_0.Given.toList == x_1.Given.toList)
    (cond (x_0.Exception == x_1.Exception)
    (cond (x_0.Node.toList == x_1.Node.toList)
    ((keep_Ints x_0.List x_1.List).bind fun r_2 =>
    some r_2)
    (some false))
    (some false))
    (some false))
    (some false))
    (some false))
    (some false))
    (some false))
    (some false))
    (some false))
    (some false))
    (some false))
    (some false))
    (some false))
    (some false))
    (some false))
    (some false))
    (some false)

def ref05_SameList_L1 (x_1 : (List Message)) : (List Message) → Nat → Option (Ctl (Bool) (Unit))
  | [], k_2 => some (Ctl.brk ())
  | e_3 :: q_6, k_2 => (ixL x_1 (k_2 : Int)).bind fun e_4 =>
    (ref04_Same e_3 e_4).bind fun r_5 =>
    cond (!r_5)
    (some (Ctl.ret false))
    (ref05_SameList_L1 x_1 q_6 (k_2 + 1))
def ref05_SameList (x_0 : (List Message)) (x_1 : (List Message)) : Option (Bool) :=
  cond ((x_0.length : Int) != (x_1.length : Int))
    (some false)
    (Ctl.fin (ref05_SameList_L1 x_1 x_0 0) fun z_7 =>
    some true)

def ref05_Same_L1 (x_1 : Inbox) : (List Sender) → Nat → Option (Ctl (Bool) (Unit))
  | [], k_2 => some (Ctl.brk ())
  | e_3 :: q_8, k_2 => (ixL x_1.L (k_2 : Int)).bind fun e_4 =>
    cond (!(e_3.Port.toList == e_4.Port.toList))
    (some (Ctl.ret false))
    ((ixL x_1.L (k_2 : Int)).bind fun e_5 =>
    cond (e_3.Next != e_5.Next)
    (some (Ctl.ret false))
    ((ixL x_1.L (k_2 : Int)).bind fun e_6 =>
    (ref05_SameList e_3.Held e_6.Held).bind fun r_7 =>
    cond (!r_7)
    (some (Ctl.ret false))
    (ref05_Same_L1 x_1 q_8 (k_2 + 1))))
def ref05_Same (x_0 : Inbox) (x_1 : Inbox) : Option (Bool) :=
  cond (x_0.Window != x_1.Window)
    (some false)
    (cond ((x_0.L.length : Int) != (x_1.L.length : Int))
    (some false)
    (Ctl.fin (ref05_Same_L1 x_1 x_0.L 0) fun z_9 =>
    some true))

def ref05_Sender_L1 (x_1 : ByteArray) : (List Sender) → Nat → Option (Ctl (Sender × Bool) (Unit))
  | [], k_2 => some (Ctl.brk ())
  | e_3 :: q_4, k_2 => cond (e_3.Port.toList == x_1.toList)
    (some (Ctl.ret (e_3, true)))
    (ref05_Sender_L1 x_1 q_4 (k_2 + 1))
def ref05_Sender (x_0 : Inbox) (x_1 : ByteArray) : Option (Sender × Bool) :=
  Ctl.fin (ref05_Sender_L1 x_1 x_0.L 0) fun z_5 =>
    some ((⟨x_1, (1 : Int), ([] : (List Message))⟩ : Sender), false)

def ref05_held_L1 (x_1 : Int) : (List Message) → Nat → Option (Ctl (Int) (Unit))
  | [], k_2 => some (Ctl.brk ())
  | e_3 :: q_4, k_2 => cond (e_3.Number == x_1)
    (some (Ctl.ret (k_2 : Int)))
    (ref05_held_L1 x_1 q_4 (k_2 + 1))
def ref05_held (x_0 : Sender) (x_1 : Int) : Option (Int) :=
  Ctl.fin (ref05_held_L1 x_1 x_0.Held 0) fun z_5 =>
    some (-1 : Int)

def ref05_Missing_L1 (r_1 : Sender × Bool) : Nat → (List Int) → Int → Option (Ctl ((List Int)) ((List Int)))
  | 0, _, _ => none
  | q_7 + 1, a_2, i_3 => (ixL r_1.1.Held (w64 ((r_1.1.Held.length : Int) - (1 : Int)))).bind fun e_4 =>
    cond (decide (i_3 < e_4.Number))
    ((ref05_held r_1.1 i_3).bind fun r_5 =>
    cond (decide (r_5 < (0 : Int)))
    ((apL a_2 ([i_3] : List Int)).bind fun l_6 =>
    ref05_Missing_L1 r_1 q_7 l_6 (w64 (i_3 + (1 : Int))))
    (ref05_Missing_L1 r_1 q_7 a_2 (w64 (i_3 + (1 : Int)))))
    (some (Ctl.brk a_2))
def ref05_Missing (x_0 : Inbox) (x_1 : ByteArray) : Option ((List Int)) :=
  (ref05_Sender x_0 x_1).bind fun r_1 =>
    cond ((r_1.1.Held.length : Int) == (0 : Int))
    (some ([] : (List Int)))
    (Ctl.fin (ref05_Missing_L1 r_1 9223372036854775807 ([] : List Int) r_1.1.Next) fun z_8 =>
    some z_8)

def ref02_Letter (x_0 : Int) : Option (Bool) :=
  cond (decide ((65 : Int) ≤ x_0))
    (some (decide (x_0 ≤ (90 : Int))))
    (some false)

def ref02_ValidPort (x_0 : ByteArray) : Option (Bool) :=
  cond ((x_0.size : Int) == (3 : Int))
    ((ixS x_0 (0 : Int)).bind fun b_1 =>
    (ref02_Letter b_1).bind fun r_2 =>
    cond r_2
    ((ixS x_0 (1 : Int)).bind fun b_3 =>
    (ref02_Letter b_3).bind fun r_4 =>
    cond r_4
    ((ixS x_0 (2 : Int)).bind fun b_5 =>
    (ref02_Letter b_5).bind fun r_6 =>
    some r_6)
    (some false))
    (some false))
    (some false)

def ref02_Digit (x_0 : Int) : Option (Bool) :=
  cond (decide ((48 : Int) ≤ x_0))
    (some (decide (x_0 ≤ (57 : Int))))
    (some false)

def ref02_Carrier (x_0 : ByteArray) : Option (Bool) :=
  cond ((x_0.size : Int) != (2 : Int))
    (some false)
    ((ixS x_0 (0 : Int)).bind fun b_1 =>
    (ref02_Letter b_1).bind fun r_2 =>
    (ixS x_0 (1 : Int)).bind fun b_3 =>
    (ref02_Letter b_3).bind fun r_4 =>
    cond r_2
    (cond r_4
    (some true)
    ((ixS x_0 (1 : Int)).bind fun b_5 =>
    (ref02_Digit b_5).bind fun r_6 =>
    cond r_6
    (some true)
    (some false)))
    ((ixS x_0 (0 : Int)).bind fun b_7 =>
    (ref02_Digit b_7).bind fun r_8 =>
    cond r_8
    (cond r_4
    (some r_4)
    ((ixS x_0 (1 : Int)).bind fun b_9 =>
    (ref02_Digit b_9).bind fun r_10 =>
    cond r_10
    (some r_4)
    (some false)))
    (some false)))

def ref02_Suffix (x_0 : ByteArray) : Option (Bool) :=
  cond (x_0.toList == (⟨#[]⟩ : ByteArray).toList)
    (some true)
    (cond ((x_0.size : Int) == (1 : Int))
    ((ixS x_0 (0 : Int)).bind fun b_1 =>
    (ref02_Letter b_1).bind fun r_2 =>
    some r_2)
    (some false))

def ref02_Valid (x_0 : Flight) : Option (Bool) :=
  (ref02_Carrier x_0.Carrier).bind fun r_1 =>
    cond r_1
    (cond (decide ((1 : Int) ≤ x_0.Number))
    (cond (decide (x_0.Number ≤ (9999 : Int)))
    ((ref02_Suffix x_0.Suffix).bind fun r_2 =>
    cond r_2
    (cond (decide ((0 : Int) ≤ x_0.Day))
    (some (decide (x_0.Day ≤ (99 : Int))))
    (some false))
    (some false))
    (some false))
    (some false))
    (some false)

def ref02_ValidClass (x_0 : ByteArray) : Option (Bool) :=
  cond (x_0.toList == (⟨#[70]⟩ : ByteArray).toList)
    (some true)
    (cond (x_0.toList == (⟨#[67]⟩ : ByteArray).toList)
    (some true)
    (some (x_0.toList == (⟨#[89]⟩ : ByteArray).toList)))

def ref02_ValidLeg (x_0 : Leg) : Option (Bool) :=
  (ref02_Valid x_0.Flight).bind fun r_1 =>
    cond r_1
    ((ref02_ValidPort x_0.Port).bind fun r_2 =>
    cond r_2
    ((ref02_ValidClass x_0.Class).bind fun r_3 =>
    some r_3)
    (some false))
    (some false)

def ref04_Name_L1 (x_0 : ByteArray) : Nat → Int → Option (Ctl (Bool) (Unit))
  | 0, _ => none
  | q_8 + 1, i_3 => cond (decide (i_3 < (x_0.size : Int)))
    ((ixS x_0 i_3).bind fun b_4 =>
    (ref02_Letter b_4).bind fun r_5 =>
    cond (!r_5)
    ((ixS x_0 i_3).bind fun b_6 =>
    (ref02_Digit b_6).bind fun r_7 =>
    cond (!r_7)
    (some (Ctl.ret false))
    (ref04_Name_L1 x_0 q_8 (w64 (i_3 + (1 : Int)))))
    (ref04_Name_L1 x_0 q_8 (w64 (i_3 + (1 : Int)))))
    (some (Ctl.brk ()))
def ref04_Name (x_0 : ByteArray) : Option (Bool) :=
  cond (decide ((x_0.size : Int) < (1 : Int)))
    (some false)
    (cond (decide ((12 : Int) < (x_0.size : Int)))
    (some false)
    ((ixS x_0 (0 : Int)).bind fun b_1 =>
    (ref02_Letter b_1).bind fun r_2 =>
    cond (!r_2)
    (some false)
    (Ctl.fin (ref04_Name_L1 x_0 9223372036854775807 (0 : Int)) fun z_9 =>
    some true)))

def ref01_Valid (x_0 : Plate) : Option (Bool) :=
  cond (decide ((0 : Int) ≤ x_0.Lead))
    (cond (decide (x_0.Lead ≤ (9 : Int)))
    (cond (decide ((1 : Int) ≤ x_0.Airline))
    (cond (decide (x_0.Airline ≤ (999 : Int)))
    (cond (decide ((0 : Int) ≤ x_0.Serial))
    (some (decide (x_0.Serial ≤ (999999 : Int))))
    (some false))
    (some false))
    (some false))
    (some false))
    (some false)

def keep_Src_More (x_0 : Src) : Option (Bool) :=
  some (decide (x_0.At < (x_0.L.length : Int)))

def law05_InboxOrder_L2 : (List Message) → Nat → Int → Option (Ctl (Bool) (Int))
  | [], k_26, i_24 => some (Ctl.brk i_24)
  | e_27 :: q_30, k_26, i_24 => (law05_numbered (⟨#[65, 82, 78]⟩ : ByteArray) i_24).bind fun r_28 =>
    (ref04_Same e_27 r_28).bind fun r_29 =>
    cond (!r_29)
    (some (Ctl.ret false))
    (law05_InboxOrder_L2 q_30 (k_26 + 1) (w64 (i_24 + (1 : Int))))
def law05_InboxOrder_L1 (r_1 : Int) (r_2 : Int) : Nat → Int → (List Sender) → (List Int) → Int → Int → (List Bool) → Int → Option (Ctl (Bool) (Int × (List Sender) × Int))
  | 0, _, _, _, _, _, _, _ => none
  | q_261 + 1, i_6, a_7, a_8, i_9, i_11, a_10, i_12 => cond (decide (i_12 < (60 : Int)))
    (cond (decide (i_11 ≤ (w64 ((1 : Int) + r_2))))
    ((keep_Src_Range (⟨a_8, i_9⟩ : Src) (1 : Int) (if (w64 ((w64 (i_11 + (w64 ((1 : Int) + r_1)))) - (1 : Int))) < (w64 ((1 : Int) + r_2)) then (w64 ((w64 (i_11 + (w64 ((1 : Int) + r_1)))) - (1 : Int))) else (w64 ((1 : Int) + r_2)))).bind fun r_13 =>
    cond (decide ((40 : Int) ≤ i_12))
    ((law05_numbered (⟨#[65, 82, 78]⟩ : ByteArray) i_11).bind fun r_14 =>
    (inbox_Receive (⟨i_6, a_7⟩ : Inbox) r_14).bind fun r_15 =>
    cond (r_15.2.2.2 != (0 : Int))
    (some (Ctl.ret false))
    ((gdA 14 i_11).bind fun u_16 =>
    (ixL a_10 i_11).bind fun v_17 =>
    cond (!(v_17 == (r_15.2.2.1 == (3 : Int))))
    (some (Ctl.ret false))
    ((gdA 14 i_11).bind fun u_18 =>
    (ixL a_10 i_11).bind fun v_19 =>
    cond (!v_19)
    (cond (!((r_15.2.2.1 == (1 : Int)) == (i_11 == i_11)))
    (some (Ctl.ret false))
    ((gdA 14 i_11).bind fun u_20 =>
    (ixL a_10 i_11).bind fun v_21 =>
    cond (!v_21)
    (cond (r_15.2.2.1 != (1 : Int))
    (cond (r_15.2.2.1 != (2 : Int))
    (some (Ctl.ret false))
    ((gdA 14 i_11).bind fun u_22 =>
    (ixL a_10 i_11).bind fun v_23 =>
    Ctl.sub (law05_InboxOrder_L2 r_15.2.1 0 i_11) fun z_31 =>
    cond (decide (z_31 ≤ (w64 ((1 : Int) + r_2))))
    ((gdA 14 z_31).bind fun u_32 =>
    (ixL (a_10.set i_11.toNat true) z_31).bind fun v_33 =>
    cond v_33
    (some (Ctl.ret false))
    (law05_InboxOrder_L1 r_1 r_2 q_261 r_15.1.Window r_15.1.L r_13.2.L r_13.2.At z_31 (a_10.set i_11.toNat true) (w64 (i_12 + (1 : Int)))))
    (law05_InboxOrder_L1 r_1 r_2 q_261 r_15.1.Window r_15.1.L r_13.2.L r_13.2.At z_31 (a_10.set i_11.toNat true) (w64 (i_12 + (1 : Int))))))
    ((gdA 14 i_11).bind fun u_34 =>
    (ixL a_10 i_11).bind fun v_35 =>
    Ctl.sub (law05_InboxOrder_L2 r_15.2.1 0 i_11) fun z_43 =>
    cond (decide (z_43 ≤ (w64 ((1 : Int) + r_2))))
    ((gdA 14 z_43).bind fun u_44 =>
    (ixL (a_10.set i_11.toNat true) z_43).bind fun v_45 =>
    cond v_45
    (some (Ctl.ret false))
    (law05_InboxOrder_L1 r_1 r_2 q_261 r_15.1.Window r_15.1.L r_13.2.L r_13.2.At z_43 (a_10.set i_11.toNat true) (w64 (i_12 + (1 : Int)))))
    (law05_InboxOrder_L1 r_1 r_2 q_261 r_15.1.Window r_15.1.L r_13.2.L r_13.2.At z_43 (a_10.set i_11.toNat true) (w64 (i_12 + (1 : Int))))))
    ((gdA 14 i_11).bind fun u_46 =>
    (ixL a_10 i_11).bind fun v_47 =>
    Ctl.sub (law05_InboxOrder_L2 r_15.2.1 0 i_11) fun z_55 =>
    cond (decide (z_55 ≤ (w64 ((1 : Int) + r_2))))
    ((gdA 14 z_55).bind fun u_56 =>
    (ixL (a_10.set i_11.toNat true) z_55).bind fun v_57 =>
    cond v_57
    (some (Ctl.ret false))
    (law05_InboxOrder_L1 r_1 r_2 q_261 r_15.1.Window r_15.1.L r_13.2.L r_13.2.At z_55 (a_10.set i_11.toNat true) (w64 (i_12 + (1 : Int)))))
    (law05_InboxOrder_L1 r_1 r_2 q_261 r_15.1.Window r_15.1.L r_13.2.L r_13.2.At z_55 (a_10.set i_11.toNat true) (w64 (i_12 + (1 : Int)))))))
    ((gdA 14 i_11).bind fun u_58 =>
    (ixL a_10 i_11).bind fun v_59 =>
    cond (!v_59)
    (cond (r_15.2.2.1 != (1 : Int))
    (cond (r_15.2.2.1 != (2 : Int))
    (some (Ctl.ret false))
    ((gdA 14 i_11).bind fun u_60 =>
    (ixL a_10 i_11).bind fun v_61 =>
    Ctl.sub (law05_InboxOrder_L2 r_15.2.1 0 i_11) fun z_69 =>
    cond (decide (z_69 ≤ (w64 ((1 : Int) + r_2))))
    ((gdA 14 z_69).bind fun u_70 =>
    (ixL (a_10.set i_11.toNat true) z_69).bind fun v_71 =>
    cond v_71
    (some (Ctl.ret false))
    (law05_InboxOrder_L1 r_1 r_2 q_261 r_15.1.Window r_15.1.L r_13.2.L r_13.2.At z_69 (a_10.set i_11.toNat true) (w64 (i_12 + (1 : Int)))))
    (law05_InboxOrder_L1 r_1 r_2 q_261 r_15.1.Window r_15.1.L r_13.2.L r_13.2.At z_69 (a_10.set i_11.toNat true) (w64 (i_12 + (1 : Int))))))
    ((gdA 14 i_11).bind fun u_72 =>
    (ixL a_10 i_11).bind fun v_73 =>
    Ctl.sub (law05_InboxOrder_L2 r_15.2.1 0 i_11) fun z_81 =>
    cond (decide (z_81 ≤ (w64 ((1 : Int) + r_2))))
    ((gdA 14 z_81).bind fun u_82 =>
    (ixL (a_10.set i_11.toNat true) z_81).bind fun v_83 =>
    cond v_83
    (some (Ctl.ret false))
    (law05_InboxOrder_L1 r_1 r_2 q_261 r_15.1.Window r_15.1.L r_13.2.L r_13.2.At z_81 (a_10.set i_11.toNat true) (w64 (i_12 + (1 : Int)))))
    (law05_InboxOrder_L1 r_1 r_2 q_261 r_15.1.Window r_15.1.L r_13.2.L r_13.2.At z_81 (a_10.set i_11.toNat true) (w64 (i_12 + (1 : Int))))))
    ((gdA 14 i_11).bind fun u_84 =>
    (ixL a_10 i_11).bind fun v_85 =>
    Ctl.sub (law05_InboxOrder_L2 r_15.2.1 0 i_11) fun z_93 =>
    cond (decide (z_93 ≤ (w64 ((1 : Int) + r_2))))
    ((gdA 14 z_93).bind fun u_94 =>
    (ixL (a_10.set i_11.toNat true) z_93).bind fun v_95 =>
    cond v_95
    (some (Ctl.ret false))
    (law05_InboxOrder_L1 r_1 r_2 q_261 r_15.1.Window r_15.1.L r_13.2.L r_13.2.At z_93 (a_10.set i_11.toNat true) (w64 (i_12 + (1 : Int)))))
    (law05_InboxOrder_L1 r_1 r_2 q_261 r_15.1.Window r_15.1.L r_13.2.L r_13.2.At z_93 (a_10.set i_11.toNat true) (w64 (i_12 + (1 : Int)))))))))
    ((keep_Src_More r_13.2).bind fun r_96 =>
    cond (!r_96)
    ((law05_numbered (⟨#[65, 82, 78]⟩ : ByteArray) i_11).bind fun r_97 =>
    (inbox_Receive (⟨i_6, a_7⟩ : Inbox) r_97).bind fun r_98 =>
    cond (r_98.2.2.2 != (0 : Int))
    (some (Ctl.ret false))
    ((gdA 14 i_11).bind fun u_99 =>
    (ixL a_10 i_11).bind fun v_100 =>
    cond (!(v_100 == (r_98.2.2.1 == (3 : Int))))
    (some (Ctl.ret false))
    ((gdA 14 i_11).bind fun u_101 =>
    (ixL a_10 i_11).bind fun v_102 =>
    cond (!v_102)
    (cond (!((r_98.2.2.1 == (1 : Int)) == (i_11 == i_11)))
    (some (Ctl.ret false))
    ((gdA 14 i_11).bind fun u_103 =>
    (ixL a_10 i_11).bind fun v_104 =>
    cond (!v_104)
    (cond (r_98.2.2.1 != (1 : Int))
    (cond (r_98.2.2.1 != (2 : Int))
    (some (Ctl.ret false))
    ((gdA 14 i_11).bind fun u_105 =>
    (ixL a_10 i_11).bind fun v_106 =>
    Ctl.sub (law05_InboxOrder_L2 r_98.2.1 0 i_11) fun z_114 =>
    cond (decide (z_114 ≤ (w64 ((1 : Int) + r_2))))
    ((gdA 14 z_114).bind fun u_115 =>
    (ixL (a_10.set i_11.toNat true) z_114).bind fun v_116 =>
    cond v_116
    (some (Ctl.ret false))
    (law05_InboxOrder_L1 r_1 r_2 q_261 r_98.1.Window r_98.1.L r_13.2.L r_13.2.At z_114 (a_10.set i_11.toNat true) (w64 (i_12 + (1 : Int)))))
    (law05_InboxOrder_L1 r_1 r_2 q_261 r_98.1.Window r_98.1.L r_13.2.L r_13.2.At z_114 (a_10.set i_11.toNat true) (w64 (i_12 + (1 : Int))))))
    ((gdA 14 i_11).bind fun u_117 =>
    (ixL a_10 i_11).bind fun v_118 =>
    Ctl.sub (law05_InboxOrder_L2 r_98.2.1 0 i_11) fun z_126 =>
    cond (decide (z_126 ≤ (w64 ((1 : Int) + r_2))))
    ((gdA 14 z_126).bind fun u_127 =>
    (ixL (a_10.set i_11.toNat true) z_126).bind fun v_128 =>
    cond v_128
    (some (Ctl.ret false))
    (law05_InboxOrder_L1 r_1 r_2 q_261 r_98.1.Window r_98.1.L r_13.2.L r_13.2.At z_126 (a_10.set i_11.toNat true) (w64 (i_12 + (1 : Int)))))
    (law05_InboxOrder_L1 r_1 r_2 q_261 r_98.1.Window r_98.1.L r_13.2.L r_13.2.At z_126 (a_10.set i_11.toNat true) (w64 (i_12 + (1 : Int))))))
    ((gdA 14 i_11).bind fun u_129 =>
    (ixL a_10 i_11).bind fun v_130 =>
    Ctl.sub (law05_InboxOrder_L2 r_98.2.1 0 i_11) fun z_138 =>
    cond (decide (z_138 ≤ (w64 ((1 : Int) + r_2))))
    ((gdA 14 z_138).bind fun u_139 =>
    (ixL (a_10.set i_11.toNat true) z_138).bind fun v_140 =>
    cond v_140
    (some (Ctl.ret false))
    (law05_InboxOrder_L1 r_1 r_2 q_261 r_98.1.Window r_98.1.L r_13.2.L r_13.2.At z_138 (a_10.set i_11.toNat true) (w64 (i_12 + (1 : Int)))))
    (law05_InboxOrder_L1 r_1 r_2 q_261 r_98.1.Window r_98.1.L r_13.2.L r_13.2.At z_138 (a_10.set i_11.toNat true) (w64 (i_12 + (1 : Int)))))))
    ((gdA 14 i_11).bind fun u_141 =>
    (ixL a_10 i_11).bind fun v_142 =>
    cond (!v_142)
    (cond (r_98.2.2.1 != (1 : Int))
    (cond (r_98.2.2.1 != (2 : Int))
    (some (Ctl.ret false))
    ((gdA 14 i_11).bind fun u_143 =>
    (ixL a_10 i_11).bind fun v_144 =>
    Ctl.sub (law05_InboxOrder_L2 r_98.2.1 0 i_11) fun z_152 =>
    cond (decide (z_152 ≤ (w64 ((1 : Int) + r_2))))
    ((gdA 14 z_152).bind fun u_153 =>
    (ixL (a_10.set i_11.toNat true) z_152).bind fun v_154 =>
    cond v_154
    (some (Ctl.ret false))
    (law05_InboxOrder_L1 r_1 r_2 q_261 r_98.1.Window r_98.1.L r_13.2.L r_13.2.At z_152 (a_10.set i_11.toNat true) (w64 (i_12 + (1 : Int)))))
    (law05_InboxOrder_L1 r_1 r_2 q_261 r_98.1.Window r_98.1.L r_13.2.L r_13.2.At z_152 (a_10.set i_11.toNat true) (w64 (i_12 + (1 : Int))))))
    ((gdA 14 i_11).bind fun u_155 =>
    (ixL a_10 i_11).bind fun v_156 =>
    Ctl.sub (law05_InboxOrder_L2 r_98.2.1 0 i_11) fun z_164 =>
    cond (decide (z_164 ≤ (w64 ((1 : Int) + r_2))))
    ((gdA 14 z_164).bind fun u_165 =>
    (ixL (a_10.set i_11.toNat true) z_164).bind fun v_166 =>
    cond v_166
    (some (Ctl.ret false))
    (law05_InboxOrder_L1 r_1 r_2 q_261 r_98.1.Window r_98.1.L r_13.2.L r_13.2.At z_164 (a_10.set i_11.toNat true) (w64 (i_12 + (1 : Int)))))
    (law05_InboxOrder_L1 r_1 r_2 q_261 r_98.1.Window r_98.1.L r_13.2.L r_13.2.At z_164 (a_10.set i_11.toNat true) (w64 (i_12 + (1 : Int))))))
    ((gdA 14 i_11).bind fun u_167 =>
    (ixL a_10 i_11).bind fun v_168 =>
    Ctl.sub (law05_InboxOrder_L2 r_98.2.1 0 i_11) fun z_176 =>
    cond (decide (z_176 ≤ (w64 ((1 : Int) + r_2))))
    ((gdA 14 z_176).bind fun u_177 =>
    (ixL (a_10.set i_11.toNat true) z_176).bind fun v_178 =>
    cond v_178
    (some (Ctl.ret false))
    (law05_InboxOrder_L1 r_1 r_2 q_261 r_98.1.Window r_98.1.L r_13.2.L r_13.2.At z_176 (a_10.set i_11.toNat true) (w64 (i_12 + (1 : Int)))))
    (law05_InboxOrder_L1 r_1 r_2 q_261 r_98.1.Window r_98.1.L r_13.2.L r_13.2.At z_176 (a_10.set i_11.toNat true) (w64 (i_12 + (1 : Int)))))))))
    ((law05_numbered (⟨#[65, 82, 78]⟩ : ByteArray) r_13.1).bind fun r_179 =>
    (inbox_Receive (⟨i_6, a_7⟩ : Inbox) r_179).bind fun r_180 =>
    cond (r_180.2.2.2 != (0 : Int))
    (some (Ctl.ret false))
    ((gdA 14 r_13.1).bind fun u_181 =>
    (ixL a_10 r_13.1).bind fun v_182 =>
    cond (!(v_182 == (r_180.2.2.1 == (3 : Int))))
    (some (Ctl.ret false))
    ((gdA 14 r_13.1).bind fun u_183 =>
    (ixL a_10 r_13.1).bind fun v_184 =>
    cond (!v_184)
    (cond (!((r_180.2.2.1 == (1 : Int)) == (r_13.1 == i_11)))
    (some (Ctl.ret false))
    ((gdA 14 r_13.1).bind fun u_185 =>
    (ixL a_10 r_13.1).bind fun v_186 =>
    cond (!v_186)
    (cond (r_180.2.2.1 != (1 : Int))
    (cond (r_180.2.2.1 != (2 : Int))
    (some (Ctl.ret false))
    ((gdA 14 r_13.1).bind fun u_187 =>
    (ixL a_10 r_13.1).bind fun v_188 =>
    Ctl.sub (law05_InboxOrder_L2 r_180.2.1 0 i_11) fun z_196 =>
    cond (decide (z_196 ≤ (w64 ((1 : Int) + r_2))))
    ((gdA 14 z_196).bind fun u_197 =>
    (ixL (a_10.set r_13.1.toNat true) z_196).bind fun v_198 =>
    cond v_198
    (some (Ctl.ret false))
    (law05_InboxOrder_L1 r_1 r_2 q_261 r_180.1.Window r_180.1.L r_13.2.L r_13.2.At z_196 (a_10.set r_13.1.toNat true) (w64 (i_12 + (1 : Int)))))
    (law05_InboxOrder_L1 r_1 r_2 q_261 r_180.1.Window r_180.1.L r_13.2.L r_13.2.At z_196 (a_10.set r_13.1.toNat true) (w64 (i_12 + (1 : Int))))))
    ((gdA 14 r_13.1).bind fun u_199 =>
    (ixL a_10 r_13.1).bind fun v_200 =>
    Ctl.sub (law05_InboxOrder_L2 r_180.2.1 0 i_11) fun z_208 =>
    cond (decide (z_208 ≤ (w64 ((1 : Int) + r_2))))
    ((gdA 14 z_208).bind fun u_209 =>
    (ixL (a_10.set r_13.1.toNat true) z_208).bind fun v_210 =>
    cond v_210
    (some (Ctl.ret false))
    (law05_InboxOrder_L1 r_1 r_2 q_261 r_180.1.Window r_180.1.L r_13.2.L r_13.2.At z_208 (a_10.set r_13.1.toNat true) (w64 (i_12 + (1 : Int)))))
    (law05_InboxOrder_L1 r_1 r_2 q_261 r_180.1.Window r_180.1.L r_13.2.L r_13.2.At z_208 (a_10.set r_13.1.toNat true) (w64 (i_12 + (1 : Int))))))
    ((gdA 14 r_13.1).bind fun u_211 =>
    (ixL a_10 r_13.1).bind fun v_212 =>
    Ctl.sub (law05_InboxOrder_L2 r_180.2.1 0 i_11) fun z_220 =>
    cond (decide (z_220 ≤ (w64 ((1 : Int) + r_2))))
    ((gdA 14 z_220).bind fun u_221 =>
    (ixL (a_10.set r_13.1.toNat true) z_220).bind fun v_222 =>
    cond v_222
    (some (Ctl.ret false))
    (law05_InboxOrder_L1 r_1 r_2 q_261 r_180.1.Window r_180.1.L r_13.2.L r_13.2.At z_220 (a_10.set r_13.1.toNat true) (w64 (i_12 + (1 : Int)))))
    (law05_InboxOrder_L1 r_1 r_2 q_261 r_180.1.Window r_180.1.L r_13.2.L r_13.2.At z_220 (a_10.set r_13.1.toNat true) (w64 (i_12 + (1 : Int)))))))
    ((gdA 14 r_13.1).bind fun u_223 =>
    (ixL a_10 r_13.1).bind fun v_224 =>
    cond (!v_224)
    (cond (r_180.2.2.1 != (1 : Int))
    (cond (r_180.2.2.1 != (2 : Int))
    (some (Ctl.ret false))
    ((gdA 14 r_13.1).bind fun u_225 =>
    (ixL a_10 r_13.1).bind fun v_226 =>
    Ctl.sub (law05_InboxOrder_L2 r_180.2.1 0 i_11) fun z_234 =>
    cond (decide (z_234 ≤ (w64 ((1 : Int) + r_2))))
    ((gdA 14 z_234).bind fun u_235 =>
    (ixL (a_10.set r_13.1.toNat true) z_234).bind fun v_236 =>
    cond v_236
    (some (Ctl.ret false))
    (law05_InboxOrder_L1 r_1 r_2 q_261 r_180.1.Window r_180.1.L r_13.2.L r_13.2.At z_234 (a_10.set r_13.1.toNat true) (w64 (i_12 + (1 : Int)))))
    (law05_InboxOrder_L1 r_1 r_2 q_261 r_180.1.Window r_180.1.L r_13.2.L r_13.2.At z_234 (a_10.set r_13.1.toNat true) (w64 (i_12 + (1 : Int))))))
    ((gdA 14 r_13.1).bind fun u_237 =>
    (ixL a_10 r_13.1).bind fun v_238 =>
    Ctl.sub (law05_InboxOrder_L2 r_180.2.1 0 i_11) fun z_246 =>
    cond (decide (z_246 ≤ (w64 ((1 : Int) + r_2))))
    ((gdA 14 z_246).bind fun u_247 =>
    (ixL (a_10.set r_13.1.toNat true) z_246).bind fun v_248 =>
    cond v_248
    (some (Ctl.ret false))
    (law05_InboxOrder_L1 r_1 r_2 q_261 r_180.1.Window r_180.1.L r_13.2.L r_13.2.At z_246 (a_10.set r_13.1.toNat true) (w64 (i_12 + (1 : Int)))))
    (law05_InboxOrder_L1 r_1 r_2 q_261 r_180.1.Window r_180.1.L r_13.2.L r_13.2.At z_246 (a_10.set r_13.1.toNat true) (w64 (i_12 + (1 : Int))))))
    ((gdA 14 r_13.1).bind fun u_249 =>
    (ixL a_10 r_13.1).bind fun v_250 =>
    Ctl.sub (law05_InboxOrder_L2 r_180.2.1 0 i_11) fun z_258 =>
    cond (decide (z_258 ≤ (w64 ((1 : Int) + r_2))))
    ((gdA 14 z_258).bind fun u_259 =>
    (ixL (a_10.set r_13.1.toNat true) z_258).bind fun v_260 =>
    cond v_260
    (some (Ctl.ret false))
    (law05_InboxOrder_L1 r_1 r_2 q_261 r_180.1.Window r_180.1.L r_13.2.L r_13.2.At z_258 (a_10.set r_13.1.toNat true) (w64 (i_12 + (1 : Int)))))
    (law05_InboxOrder_L1 r_1 r_2 q_261 r_180.1.Window r_180.1.L r_13.2.L r_13.2.At z_258 (a_10.set r_13.1.toNat true) (w64 (i_12 + (1 : Int)))))))))))
    (some (Ctl.brk (i_6, a_7, i_11))))
    (some (Ctl.brk (i_6, a_7, i_11)))
def law05_InboxOrder (x_0 : Int) (x_1 : Int) (x_2 : (List Int)) : Option (Bool) :=
  (keep_Mod x_0 (8 : Int)).bind fun r_1 =>
    (keep_Mod x_1 (12 : Int)).bind fun r_2 =>
    (inbox_New (w64 ((1 : Int) + r_1))).bind fun r_3 =>
    cond (r_3.2 != (0 : Int))
    (some false)
    ((keep_New x_2).bind fun r_4 =>
    (alL 14 false).bind fun l_5 =>
    Ctl.fin (law05_InboxOrder_L1 r_1 r_2 9223372036854775807 r_3.1.Window r_3.1.L r_4.L r_4.At (1 : Int) l_5 (0 : Int)) fun z_262 =>
    cond (z_262.2.2 == (w64 ((w64 ((1 : Int) + r_2)) + (1 : Int))))
    ((inbox_Missing (⟨z_262.1, z_262.2.1⟩ : Inbox) (⟨#[65, 82, 78]⟩ : ByteArray)).bind fun r_263 =>
    cond ((r_263.length : Int) == (0 : Int))
    ((law05_awake).bind fun r_264 =>
    some r_264)
    (some false))
    (some false))
end Go.Proofs.Ytpipggnfbgjefaa.Ex
