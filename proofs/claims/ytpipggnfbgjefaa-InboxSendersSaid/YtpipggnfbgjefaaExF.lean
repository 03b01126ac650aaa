/- What the functions of the program compute; printed by a program from their code. -/
import Derived.Test.YtpipggnfbgjefaaExT
import Derived.Lib.Bytealg
namespace Go.Proofs.Ytpipggnfbgjefaa.Ex
open Go.RowKit Go.Proofs.Ytpipggnfbgjefaa.Ax
set_option linter.unusedVariables false
set_option linter.unusedSimpArgs false
def inbox_New (x_0 : Int) : Option (Inbox × Int) :=
  cond (decide (x_0 < (1 : Int)))
    (some ((⟨(0 : Int), ([] : (List Sender))⟩ : Inbox), (1 : Int)))
    (cond (decide ((8 : Int) < x_0))
    (some ((⟨(0 : Int), ([] : (List Sender))⟩ : Inbox), (1 : Int)))
    (some ((⟨x_0, ([] : (List Sender))⟩ : Inbox), (0 : Int))))

def law05_numbered (x_0 : ByteArray) (x_1 : Int) : Option (Message) :=
  some (⟨(3 : Int), (0 : Int), x_0, x_1, (⟨(⟨(⟨#[]⟩ : ByteArray), (0 : Int), (⟨#[]⟩ : ByteArray), (0 : Int)⟩ : Flight), (⟨#[]⟩ : ByteArray), (⟨#[]⟩ : ByteArray)⟩ : Leg), (⟨(⟨(⟨#[]⟩ : ByteArray), (0 : Int), (⟨#[]⟩ : ByteArray), (0 : Int)⟩ : Flight), (⟨#[]⟩ : ByteArray), (⟨#[]⟩ : ByteArray)⟩ : Leg), ([] : (List Leg)), (⟨(0 : Int), (117 : Int), x_1⟩ : Plate), (1 : Int), false, (0 : Int), (0 : Int), (0 : Int), (⟨#[]⟩ : ByteArray), (⟨#[]⟩ : ByteArray), (0 : Int), (⟨#[65]⟩ : ByteArray), ([] : (List Int))⟩ : Message)

def message_in (x_0 : Int) (x_1 : Int) (x_2 : Int) : Option (Bool) :=
  cond (decide (x_1 ≤ x_0))
    (some (decide (x_0 ≤ x_2)))
    (some false)

def message_own (x_0 : Message) : Option (Message) :=
  cond (x_0.Kind == (1 : Int))
    (some (⟨x_0.Kind, x_0.Do, x_0.Port, x_0.Number, (⟨(⟨(⟨#[]⟩ : ByteArray), (0 : Int), (⟨#[]⟩ : ByteArray), (0 : Int)⟩ : Flight), (⟨#[]⟩ : ByteArray), (⟨#[]⟩ : ByteArray)⟩ : Leg), x_0.Out, x_0.Onward, x_0.First, x_0.Count, x_0.Load, x_0.Status, x_0.Sequence, x_0.Weight, x_0.Surname, x_0.Given, x_0.Exception, (⟨#[]⟩ : ByteArray), ([] : (List Int))⟩ : Message))
    (cond (x_0.Kind == (2 : Int))
    (some (⟨x_0.Kind, x_0.Do, x_0.Port, x_0.Number, x_0.In, x_0.Out, x_0.Onward, x_0.First, x_0.Count, x_0.Load, x_0.Status, x_0.Sequence, x_0.Weight, x_0.Surname, x_0.Given, x_0.Exception, (⟨#[]⟩ : ByteArray), ([] : (List Int))⟩ : Message))
    (cond (x_0.Kind == (3 : Int))
    (some (⟨x_0.Kind, (0 : Int), x_0.Port, x_0.Number, (⟨(⟨(⟨#[]⟩ : ByteArray), (0 : Int), (⟨#[]⟩ : ByteArray), (0 : Int)⟩ : Flight), (⟨#[]⟩ : ByteArray), (⟨#[]⟩ : ByteArray)⟩ : Leg), (⟨(⟨(⟨#[]⟩ : ByteArray), (0 : Int), (⟨#[]⟩ : ByteArray), (0 : Int)⟩ : Flight), (⟨#[]⟩ : ByteArray), (⟨#[]⟩ : ByteArray)⟩ : Leg), ([] : (List Leg)), x_0.First, x_0.Count, false, (0 : Int), (0 : Int), (0 : Int), (⟨#[]⟩ : ByteArray), (⟨#[]⟩ : ByteArray), (0 : Int), x_0.Node, ([] : (List Int))⟩ : Message))
    (cond (x_0.Kind == (4 : Int))
    (some (⟨x_0.Kind, (0 : Int), x_0.Port, x_0.Number, (⟨(⟨(⟨#[]⟩ : ByteArray), (0 : Int), (⟨#[]⟩ : ByteArray), (0 : Int)⟩ : Flight), (⟨#[]⟩ : ByteArray), (⟨#[]⟩ : ByteArray)⟩ : Leg), x_0.Out, ([] : (List Leg)), x_0.First, x_0.Count, false, (0 : Int), (0 : Int), (0 : Int), (⟨#[]⟩ : ByteArray), (⟨#[]⟩ : ByteArray), (0 : Int), (⟨#[]⟩ : ByteArray), ([] : (List Int))⟩ : Message))
    (cond (x_0.Kind == (5 : Int))
    (some (⟨x_0.Kind, (0 : Int), x_0.Port, x_0.Number, (⟨(⟨(⟨#[]⟩ : ByteArray), (0 : Int), (⟨#[]⟩ : ByteArray), (0 : Int)⟩ : Flight), (⟨#[]⟩ : ByteArray), (⟨#[]⟩ : ByteArray)⟩ : Leg), x_0.Out, ([] : (List Leg)), (⟨(0 : Int), (0 : Int), (0 : Int)⟩ : Plate), (0 : Int), false, (0 : Int), (0 : Int), (0 : Int), (⟨#[]⟩ : ByteArray), (⟨#[]⟩ : ByteArray), (0 : Int), (⟨#[]⟩ : ByteArray), x_0.List⟩ : Message))
    (some (⟨x_0.Kind, (0 : Int), x_0.Port, x_0.Number, (⟨(⟨(⟨#[]⟩ : ByteArray), (0 : Int), (⟨#[]⟩ : ByteArray), (0 : Int)⟩ : Flight), (⟨#[]⟩ : ByteArray), (⟨#[]⟩ : ByteArray)⟩ : Leg), (⟨(⟨(⟨#[]⟩ : ByteArray), (0 : Int), (⟨#[]⟩ : ByteArray), (0 : Int)⟩ : Flight), (⟨#[]⟩ : ByteArray), (⟨#[]⟩ : ByteArray)⟩ : Leg), ([] : (List Leg)), (⟨(0 : Int), (0 : Int), (0 : Int)⟩ : Plate), (0 : Int), false, (0 : Int), (0 : Int), (0 : Int), (⟨#[]⟩ : ByteArray), (⟨#[]⟩ : ByteArray), (0 : Int), (⟨#[]⟩ : ByteArray), ([] : (List Int))⟩ : Message))))))

def slices_Equal_Leg_L1 (x_1 : (List Leg)) : (List Leg) → Nat → Option (Ctl (Bool) (Unit))
  | [], k_2 => some (Ctl.brk ())
  | e_3 :: q_5, k_2 => (ixL x_1 (k_2 : Int)).bind fun e_4 =>
    cond (!((e_3.Flight.Carrier.toList == e_4.Flight.Carrier.toList) && ((e_3.Flight.Number == e_4.Flight.Number) && ((e_3.Flight.Suffix.toList == e_4.Flight.Suffix.toList) && ((e_3.Flight.Day == e_4.Flight.Day) && ((e_3.Port.toList == e_4.Port.toList) && ((e_3.Class.toList == e_4.Class.toList) && true)))))))
    (some (Ctl.ret false))
    (slices_Equal_Leg_L1 x_1 q_5 (k_2 + 1))
def slices_Equal_Leg (x_0 : (List Leg)) (x_1 : (List Leg)) : Option (Bool) :=
  cond ((x_0.length : Int) != (x_1.length : Int))
    (some false)
    (Ctl.fin (slices_Equal_Leg_L1 x_1 x_0 0) fun z_6 =>
    some true)

def slices_Equal_int_L1 (x_1 : (List Int)) : (List Int) → Nat → Option (Ctl (Bool) (Unit))
  | [], k_2 => some (Ctl.brk ())
  | e_3 :: q_5, k_2 => (ixL x_1 (k_2 : Int)).bind fun e_4 =>
    cond (e_3 != e_4)
    (some (Ctl.ret false))
    (slices_Equal_int_L1 x_1 q_5 (k_2 + 1))
def slices_Equal_int (x_0 : (List Int)) (x_1 : (List Int)) : Option (Bool) :=
  cond ((x_0.length : Int) != (x_1.length : Int))
    (some false)
    (Ctl.fin (slices_Equal_int_L1 x_1 x_0 0) fun z_6 =>
    some true)

def message_Same (x_0 : Message) (x_1 : Message) : Option (Bool) :=
  cond (x_0.Kind == x_1.Kind)
    (cond (x_0.Do == x_1.Do)
    (cond (x_0.Port.toList == x_1.Port.toList)
    (cond (x_0.Number == x_1.Number)
    (cond ((x_0.In.Flight.Carrier.toList == x_1.In.Flight.Carrier.toList) && ((x_0.In.Flight.Number == x_1.In.Flight.Number) && ((x_0.In.Flight.Suffix.toList == x_1.In.Flight.Suffix.toList) && ((x_0.In.Flight.Day == x_1.In.Flight.Day) && ((x_0.In.Port.toList == x_1.In.Port.toList) && ((x_0.In.Class.toList == x_1.In.Class.toList) && true))))))
    (cond ((x_0.Out.Flight.Carrier.toList == x_1.Out.Flight.Carrier.toList) && ((x_0.Out.Flight.Number == x_1.Out.Flight.Number) && ((x_0.Out.Flight.Suffix.toList == x_1.Out.Flight.Suffix.toList) && ((x_0.Out.Flight.Day == x_1.Out.Flight.Day) && ((x_0.Out.Port.toList == x_1.Out.Port.toList) && ((x_0.Out.Class.toList == x_1.Out.Class.toList) && true))))))
    ((slices_Equal_Leg x_0.Onward x_1.Onward).bind fun r_1 =>
    cond r_1
    (cond ((x_0.First.Lead == x_1.First.Lead) && ((x_0.First.Airline == x_1.First.Airline) && ((x_0.First.Serial == x_1.First.Serial) && true)))
    (cond (x_0.Count == x_1.Count)
    (cond (x_0.Load == x_1.Load)
    (cond (x_0.Status == x_1.Status)
    (cond (x_0.Sequence == x_1.Sequence)
    (cond (x_0.Weight == x_1.Weight)
    (cond (x_0.Surname.toList == x_1.Surname.toList)
    (cond (x_0.Given.toList == x_1.Given.toList)
    (cond (x_0.Exception == x_1.Exception)
    (cond (x_0.Node.toList == x_1.Node.toList)
    ((slices_Equal_int x_0.List x_1.List).bind fun r_2 =>
    some r_2)
    (some false))
    (some false))
    (some false))
    (some false))
    (some false))
    (some false))
    (some false))
    (some false))
    (some false))
    (some false))
    (some false))
    (some false))
    (some false))
    (some false))
    (some false))
    (some false))
    (some false)

def fields_Letter (x_0 : Int) : Option (Bool) :=
  cond (decide ((65 : Int) ≤ x_0))
    (some (decide (x_0 ≤ (90 : Int))))
    (some false)

def fields_All_L1 (x_0 : ByteArray) : Nat → Int → Option (Ctl (Bool) (Unit))
  | 0, _ => none
  | q_4 + 1, i_1 => cond (decide (i_1 < (x_0.size : Int)))
    ((ixS x_0 i_1).bind fun b_2 =>
    (fields_Letter b_2).bind fun r_3 =>
    cond (!r_3)
    (some (Ctl.ret false))
    (fields_All_L1 x_0 q_4 (w64 (i_1 + (1 : Int)))))
    (some (Ctl.brk ()))
def fields_All (x_0 : ByteArray) : Option (Bool) :=
  Ctl.fin (fields_All_L1 x_0 9223372036854775807 (0 : Int)) fun z_5 =>
    some true

def fields_Letters (x_0 : ByteArray) (x_1 : Int) (x_2 : Int) : Option (Bool) :=
  cond (decide (x_1 ≤ (x_0.size : Int)))
    (cond (decide ((x_0.size : Int) ≤ x_2))
    ((fields_All x_0).bind fun r_1 =>
    some r_1)
    (some false))
    (some false)

def flight_ValidPort (x_0 : ByteArray) : Option (Bool) :=
  (fields_Letters x_0 (3 : Int) (3 : Int)).bind fun r_1 =>
    some r_1

def fields_Digit (x_0 : Int) : Option (Bool) :=
  cond (decide ((48 : Int) ≤ x_0))
    (some (decide (x_0 ≤ (57 : Int))))
    (some false)

def flight_carrier_L1 (x_0 : ByteArray) : Nat → Int → Int → Option (Ctl (Bool) (Int))
  | 0, _, _ => none
  | q_7 + 1, i_1, i_2 => cond (decide (i_2 < (x_0.size : Int)))
    ((ixS x_0 i_2).bind fun b_3 =>
    (fields_Letter b_3).bind fun r_4 =>
    cond r_4
    (flight_carrier_L1 x_0 q_7 (w64 (i_1 + (1 : Int))) (w64 (i_2 + (1 : Int))))
    ((ixS x_0 i_2).bind fun b_5 =>
    (fields_Digit b_5).bind fun r_6 =>
    cond (!r_6)
    (some (Ctl.ret false))
    (flight_carrier_L1 x_0 q_7 i_1 (w64 (i_2 + (1 : Int))))))
    (some (Ctl.brk i_1))
def flight_carrier (x_0 : ByteArray) : Option (Bool) :=
  cond ((x_0.size : Int) != (2 : Int))
    (some false)
    (Ctl.fin (flight_carrier_L1 x_0 9223372036854775807 (0 : Int) (0 : Int)) fun z_8 =>
    some (decide ((0 : Int) < z_8)))

def flight_Valid (x_0 : Flight) : Option (Bool) :=
  (flight_carrier x_0.Carrier).bind fun r_1 =>
    cond r_1
    (cond (decide ((1 : Int) ≤ x_0.Number))
    (cond (decide (x_0.Number ≤ (9999 : Int)))
    ((fields_Letters x_0.Suffix (0 : Int) (1 : Int)).bind fun r_2 =>
    cond r_2
    (cond (decide ((0 : Int) ≤ x_0.Day))
    (some (decide (x_0.Day ≤ (99 : Int))))
    (some false))
    (some false))
    (some false))
    (some false))
    (some false)

def flight_ValidLeg (x_0 : Leg) : Option (Bool) :=
  (flight_Valid x_0.Flight).bind fun r_1 =>
    cond r_1
    ((flight_ValidPort x_0.Port).bind fun r_2 =>
    cond r_2
    (cond (x_0.Class.toList == (⟨#[70]⟩ : ByteArray).toList)
    (some true)
    (cond (x_0.Class.toList == (⟨#[67]⟩ : ByteArray).toList)
    (some true)
    (some (x_0.Class.toList == (⟨#[89]⟩ : ByteArray).toList))))
    (some false))
    (some false)

def message_describes (x_0 : Int) : Option (Bool) :=
  cond (x_0 == (1 : Int))
    (some true)
    (some (x_0 == (2 : Int)))

def fields_Name_f1 (x_0 : Int) : Option (Bool) :=
  (fields_Letter x_0).bind fun r_1 =>
    cond r_1
    (some true)
    ((fields_Digit x_0).bind fun r_2 =>
    some r_2)

def fields_All_v2_L1 (x_0 : ByteArray) : Nat → Int → Option (Ctl (Bool) (Unit))
  | 0, _ => none
  | q_4 + 1, i_1 => cond (decide (i_1 < (x_0.size : Int)))
    ((ixS x_0 i_1).bind fun b_2 =>
    (fields_Name_f1 b_2).bind fun r_3 =>
    cond (!r_3)
    (some (Ctl.ret false))
    (fields_All_v2_L1 x_0 q_4 (w64 (i_1 + (1 : Int)))))
    (some (Ctl.brk ()))
def fields_All_v2 (x_0 : ByteArray) : Option (Bool) :=
  Ctl.fin (fields_All_v2_L1 x_0 9223372036854775807 (0 : Int)) fun z_5 =>
    some true

def fields_Name (x_0 : ByteArray) (x_1 : Int) : Option (Bool) :=
  cond (!(x_0.toList == (⟨#[]⟩ : ByteArray).toList))
    (cond (decide ((x_0.size : Int) ≤ x_1))
    ((ixS x_0 (0 : Int)).bind fun b_1 =>
    (fields_Letter b_1).bind fun r_2 =>
    cond r_2
    ((fields_All_v2 x_0).bind fun r_3 =>
    some r_3)
    (some false))
    (some false))
    (some false)

def message_shaped_L1 : (List Leg) → Nat → Option (Ctl (Bool) (Unit))
  | [], k_5 => some (Ctl.brk ())
  | e_6 :: q_8, k_5 => (flight_ValidLeg e_6).bind fun r_7 =>
    cond (!r_7)
    (some (Ctl.ret false))
    (message_shaped_L1 q_8 (k_5 + 1))
def message_shaped (x_0 : Message) : Option (Bool) :=
  (flight_ValidPort x_0.Port).bind fun r_1 =>
    cond (!r_1)
    (some false)
    (cond (x_0.Kind == (2 : Int))
    ((flight_ValidLeg x_0.In).bind fun r_2 =>
    cond (!r_2)
    (some false)
    (cond (x_0.Kind != (3 : Int))
    ((flight_ValidLeg x_0.Out).bind fun r_3 =>
    cond (!r_3)
    (some false)
    (Ctl.fin (message_shaped_L1 x_0.Onward 0) fun z_9 =>
    (message_describes x_0.Kind).bind fun r_10 =>
    cond r_10
    ((fields_Letters x_0.Surname (1 : Int) (20 : Int)).bind fun r_11 =>
    cond (!r_11)
    (some false)
    ((fields_Letters x_0.Given (0 : Int) (20 : Int)).bind fun r_12 =>
    cond (!r_12)
    (some false)
    (some true)))
    (some true)))
    (Ctl.fin (message_shaped_L1 x_0.Onward 0) fun z_18 =>
    (message_describes x_0.Kind).bind fun r_19 =>
    cond r_19
    ((fields_Letters x_0.Surname (1 : Int) (20 : Int)).bind fun r_20 =>
    cond (!r_20)
    (some false)
    ((fields_Letters x_0.Given (0 : Int) (20 : Int)).bind fun r_21 =>
    cond (!r_21)
    (some false)
    ((fields_Name x_0.Node (12 : Int)).bind fun r_22 =>
    some r_22)))
    ((fields_Name x_0.Node (12 : Int)).bind fun r_23 =>
    some r_23))))
    (cond (x_0.Kind != (3 : Int))
    ((flight_ValidLeg x_0.Out).bind fun r_24 =>
    cond (!r_24)
    (some false)
    (Ctl.fin (message_shaped_L1 x_0.Onward 0) fun z_30 =>
    (message_describes x_0.Kind).bind fun r_31 =>
    cond r_31
    ((fields_Letters x_0.Surname (1 : Int) (20 : Int)).bind fun r_32 =>
    cond (!r_32)
    (some false)
    ((fields_Letters x_0.Given (0 : Int) (20 : Int)).bind fun r_33 =>
    cond (!r_33)
    (some false)
    (some true)))
    (some true)))
    (Ctl.fin (message_shaped_L1 x_0.Onward 0) fun z_39 =>
    (message_describes x_0.Kind).bind fun r_40 =>
    cond r_40
    ((fields_Letters x_0.Surname (1 : Int) (20 : Int)).bind fun r_41 =>
    cond (!r_41)
    (some false)
    ((fields_Letters x_0.Given (0 : Int) (20 : Int)).bind fun r_42 =>
    cond (!r_42)
    (some false)
    ((fields_Name x_0.Node (12 : Int)).bind fun r_43 =>
    some r_43)))
    ((fields_Name x_0.Node (12 : Int)).bind fun r_44 =>
    some r_44))))

def plate_Valid (x_0 : Plate) : Option (Bool) :=
  cond (decide ((0 : Int) ≤ x_0.Lead))
    (cond (decide (x_0.Lead ≤ (9 : Int)))
    (cond (decide ((1 : Int) ≤ x_0.Airline))
    (cond (decide (x_0.Airline ≤ (999 : Int)))
    (cond (decide ((0 : Int) ≤ x_0.Serial))
    (some (decide (x_0.Serial < (1000000 : Int))))
    (some false))
    (some false))
    (some false))
    (some false))
    (some false)

def message_ranged_f1 (x_0 : Int) : Option (Bool) :=
  (message_in x_0 (1 : Int) (999 : Int)).bind fun r_1 =>
    some (!r_1)

def slices_IndexFunc_int_L1 : (List Int) → Nat → Option (Ctl (Int) (Unit))
  | [], k_2 => some (Ctl.brk ())
  | e_3 :: q_5, k_2 => (message_ranged_f1 e_3).bind fun r_4 =>
    cond r_4
    (some (Ctl.ret (k_2 : Int)))
    (slices_IndexFunc_int_L1 q_5 (k_2 + 1))
def slices_IndexFunc_int (x_0 : (List Int)) : Option (Int) :=
  Ctl.fin (slices_IndexFunc_int_L1 x_0 0) fun z_6 =>
    some (-1 : Int)

def slices_ContainsFunc_int (x_0 : (List Int)) : Option (Bool) :=
  (slices_IndexFunc_int x_0).bind fun r_1 =>
    some (decide ((0 : Int) ≤ r_1))

def message_ranged (x_0 : Message) : Option (Bool) :=
  (message_in x_0.Number (1 : Int) (9999 : Int)).bind fun r_1 =>
    cond (!r_1)
    (some false)
    ((message_in x_0.Do (0 : Int) (2 : Int)).bind fun r_2 =>
    cond (!r_2)
    (some false)
    ((message_in x_0.Weight (0 : Int) (999 : Int)).bind fun r_3 =>
    cond (!r_3)
    (some false)
    ((message_in x_0.Exception (0 : Int) (3 : Int)).bind fun r_4 =>
    cond (!r_4)
    (some false)
    (cond (x_0.Kind != (5 : Int))
    ((plate_Valid x_0.First).bind fun r_5 =>
    cond (!r_5)
    (some false)
    ((message_in x_0.Count (1 : Int) (99 : Int)).bind fun r_6 =>
    cond (!r_6)
    (some false)
    ((message_describes x_0.Kind).bind fun r_7 =>
    cond r_7
    ((message_in x_0.Status (1 : Int) (4 : Int)).bind fun r_8 =>
    cond (!r_8)
    (some false)
    ((message_in x_0.Sequence (1 : Int) (999 : Int)).bind fun r_9 =>
    cond (!r_9)
    (some false)
    ((slices_ContainsFunc_int x_0.List).bind fun r_10 =>
    some (!r_10))))
    ((slices_ContainsFunc_int x_0.List).bind fun r_11 =>
    some (!r_11)))))
    ((message_describes x_0.Kind).bind fun r_12 =>
    cond r_12
    ((message_in x_0.Status (1 : Int) (4 : Int)).bind fun r_13 =>
    cond (!r_13)
    (some false)
    ((message_in x_0.Sequence (1 : Int) (999 : Int)).bind fun r_14 =>
    cond (!r_14)
    (some false)
    ((slices_ContainsFunc_int x_0.List).bind fun r_15 =>
    some (!r_15))))
    ((slices_ContainsFunc_int x_0.List).bind fun r_16 =>
    some (!r_16)))))))

def message_Validate_L1 (x_0 : Message) : Nat → Int → Option (Ctl (Int) (Unit))
  | 0, _ => none
  | q_9 + 1, i_6 => cond (decide (i_6 < (x_0.List.length : Int)))
    ((ixL x_0.List (w64 (i_6 - (1 : Int)))).bind fun e_7 =>
    (ixL x_0.List i_6).bind fun e_8 =>
    cond (decide (e_8 ≤ e_7))
    (some (Ctl.ret (9 : Int)))
    (message_Validate_L1 x_0 q_9 (w64 (i_6 + (1 : Int)))))
    (some (Ctl.brk ()))
def message_Validate (x_0 : Message) : Option (Int) :=
  (message_in x_0.Kind (1 : Int) (5 : Int)).bind fun r_1 =>
    cond (!r_1)
    (some (4 : Int))
    ((message_own x_0).bind fun r_2 =>
    (message_Same x_0 r_2).bind fun r_3 =>
    cond (!r_3)
    (some (7 : Int))
    (cond (decide ((3 : Int) < (x_0.Onward.length : Int)))
    (some (2 : Int))
    (cond (decide ((40 : Int) < (x_0.List.length : Int)))
    (some (2 : Int))
    ((message_shaped x_0).bind fun r_4 =>
    cond (!r_4)
    (some (3 : Int))
    ((message_ranged x_0).bind fun r_5 =>
    cond (!r_5)
    (some (1 : Int))
    (Ctl.fin (message_Validate_L1 x_0 9223372036854775807 (1 : Int)) fun z_10 =>
    some (0 : Int)))))))

def strings_Compare (x_0 : ByteArray) (x_1 : ByteArray) : Option (Int) :=
  some (Lib.compareBytes x_0.data.toList x_1.data.toList)

def inbox_find_f1 (x_0 : Sender) (x_1 : ByteArray) : Option (Int) :=
  (strings_Compare x_0.Port x_1).bind fun r_1 =>
    some r_1

def slices_BinarySearchFunc_string_L1 (x_0 : (List Sender)) (x_1 : ByteArray) : Nat → Int → Int → Option (Ctl (Int × Bool) (Int))
  | 0, _, _ => none
  | q_5 + 1, i_1, i_2 => cond (decide (i_1 < i_2))
    ((ixL x_0 (IntKind.i64.wrap (shrF .u64 (IntKind.u64.wrap (w64 (i_1 + i_2))) (1 : Int)))).bind fun e_3 =>
    (inbox_find_f1 e_3 x_1).bind fun r_4 =>
    cond (decide (r_4 < (0 : Int)))
    (slices_BinarySearchFunc_string_L1 x_0 x_1 q_5 (w64 ((IntKind.i64.wrap (shrF .u64 (IntKind.u64.wrap (w64 (i_1 + i_2))) (1 : Int))) + (1 : Int))) i_2)
    (slices_BinarySearchFunc_string_L1 x_0 x_1 q_5 i_1 (IntKind.i64.wrap (shrF .u64 (IntKind.u64.wrap (w64 (i_1 + i_2))) (1 : Int)))))
    (some (Ctl.brk i_1))
def slices_BinarySearchFunc_string (x_0 : (List Sender)) (x_1 : ByteArray) : Option (Int × Bool) :=
  Ctl.fin (slices_BinarySearchFunc_string_L1 x_0 x_1 9223372036854775807 (0 : Int) (x_0.length : Int)) fun z_6 =>
    cond (decide (z_6 < (x_0.length : Int)))
    ((ixL x_0 z_6).bind fun e_7 =>
    (inbox_find_f1 e_7 x_1).bind fun r_8 =>
    some (z_6, (r_8 == (0 : Int))))
    (some (z_6, false))

def inbox_find (x_0 : Inbox) (x_1 : ByteArray) : Option (Int × Bool) :=
  (slices_BinarySearchFunc_string x_0.L x_1).bind fun r_1 =>
    some (r_1.1, r_1.2)

def cmp_isNaN_int (x_0 : Int) : Option (Bool) :=
  some (x_0 != x_0)

def cmp_Compare_int (x_0 : Int) (x_1 : Int) : Option (Int) :=
  (cmp_isNaN_int x_0).bind fun r_1 =>
    (cmp_isNaN_int x_1).bind fun r_2 =>
    cond r_1
    (cond r_2
    (some (0 : Int))
    (some (-1 : Int)))
    (cond r_2
    (some (1 : Int))
    (cond (decide (x_0 < x_1))
    (some (-1 : Int))
    (cond (decide (x_1 < x_0))
    (some (1 : Int))
    (some (0 : Int)))))

def inbox_Receive_f1 (x_0 : Message) (x_1 : Int) : Option (Int) :=
  (cmp_Compare_int x_0.Number x_1).bind fun r_1 =>
    some r_1

def slices_BinarySearchFunc_int_L1 (x_0 : (List Message)) (x_1 : Int) : Nat → Int → Int → Option (Ctl (Int × Bool) (Int))
  | 0, _, _ => none
  | q_5 + 1, i_1, i_2 => cond (decide (i_1 < i_2))
    ((ixL x_0 (IntKind.i64.wrap (shrF .u64 (IntKind.u64.wrap (w64 (i_1 + i_2))) (1 : Int)))).bind fun e_3 =>
    (inbox_Receive_f1 e_3 x_1).bind fun r_4 =>
    cond (decide (r_4 < (0 : Int)))
    (slices_BinarySearchFunc_int_L1 x_0 x_1 q_5 (w64 ((IntKind.i64.wrap (shrF .u64 (IntKind.u64.wrap (w64 (i_1 + i_2))) (1 : Int))) + (1 : Int))) i_2)
    (slices_BinarySearchFunc_int_L1 x_0 x_1 q_5 i_1 (IntKind.i64.wrap (shrF .u64 (IntKind.u64.wrap (w64 (i_1 + i_2))) (1 : Int)))))
    (some (Ctl.brk i_1))
def slices_BinarySearchFunc_int (x_0 : (List Message)) (x_1 : Int) : Option (Int × Bool) :=
  Ctl.fin (slices_BinarySearchFunc_int_L1 x_0 x_1 9223372036854775807 (0 : Int) (x_0.length : Int)) fun z_6 =>
    cond (decide (z_6 < (x_0.length : Int)))
    ((ixL x_0 z_6).bind fun e_7 =>
    (inbox_Receive_f1 e_7 x_1).bind fun r_8 =>
    some (z_6, (r_8 == (0 : Int))))
    (some (z_6, false))

def slices_Clone_Leg (x_0 : (List Leg)) : Option ((List Leg)) :=
  apL [] x_0

def slices_Clone_int (x_0 : (List Int)) : Option ((List Int)) :=
  apL [] x_0

def inbox_copied (x_0 : Message) : Option (Message) :=
  (slices_Clone_Leg x_0.Onward).bind fun r_1 =>
    (slices_Clone_int x_0.List).bind fun r_2 =>
    some (⟨x_0.Kind, x_0.Do, x_0.Port, x_0.Number, x_0.In, x_0.Out, r_1, x_0.First, x_0.Count, x_0.Load, x_0.Status, x_0.Sequence, x_0.Weight, x_0.Surname, x_0.Given, x_0.Exception, x_0.Node, r_2⟩ : Message)

def inbox_clone_L2 : (List Message) → Nat → (List Message) → Option (Ctl (Inbox) ((List Message)))
  | [], k_7, a_5 => some (Ctl.brk a_5)
  | e_8 :: q_11, k_7, a_5 => (inbox_copied e_8).bind fun r_9 =>
    (apL a_5 ([r_9] : List Message)).bind fun l_10 =>
    inbox_clone_L2 q_11 (k_7 + 1) l_10
def inbox_clone_L1 : (List Sender) → Nat → (List Sender) → Option (Ctl (Inbox) ((List Sender)))
  | [], k_3, a_1 => some (Ctl.brk a_1)
  | e_4 :: q_14, k_3, a_1 => Ctl.sub (inbox_clone_L2 e_4.Held 0 ([] : List Message)) fun z_12 =>
    (apL a_1 ([(⟨e_4.Port, e_4.Next, z_12⟩ : Sender)] : List Sender)).bind fun l_13 =>
    inbox_clone_L1 q_14 (k_3 + 1) l_13
def inbox_clone (x_0 : Inbox) : Option (Inbox) :=
  Ctl.fin (inbox_clone_L1 x_0.L 0 ([] : List Sender)) fun z_15 =>
    some (⟨x_0.Window, z_15⟩ : Inbox)

def slices_Insert_Message (x_0 : (List Message)) (x_1 : Int) (x_2 : (List Message)) : Option ((List Message)) :=
  insL x_0 x_1 x_2

def slices_Clone_Message (x_0 : (List Message)) : Option ((List Message)) :=
  apL [] x_0

def inbox_release_L1 (x_1 : Nat) : Nat → (List Sender) → Int → Option (Ctl ((List Message) × (List Sender)) ((List Sender) × Int))
  | 0, _, _ => none
  | q_5 + 1, a_1, i_2 => (ixL a_1 (x_1 : Int)).bind fun v_3 =>
    cond (decide (i_2 < (v_3.Held.length : Int)))
    ((ixL v_3.Held i_2).bind fun e_4 =>
    cond (e_4.Number == v_3.Next)
    (inbox_release_L1 x_1 q_5 (a_1.set (x_1 : Int).toNat (⟨v_3.Port, (w64 (v_3.Next + (1 : Int))), v_3.Held⟩ : Sender)) (w64 (i_2 + (1 : Int))))
    (some (Ctl.brk (a_1, i_2))))
    (some (Ctl.brk (a_1, i_2)))
def inbox_release (x_0 : (List Sender)) (x_1 : Nat) : Option ((List Message) × (List Sender)) :=
  Ctl.fin (inbox_release_L1 x_1 9223372036854775807 x_0 (0 : Int)) fun z_6 =>
    (ixL z_6.1 (x_1 : Int)).bind fun v_7 =>
    (slL v_7.Held 0 z_6.2).bind fun l_8 =>
    (slices_Clone_Message l_8).bind fun r_9 =>
    (slL v_7.Held z_6.2 (v_7.Held.length : Int)).bind fun l_10 =>
    (slices_Clone_Message l_10).bind fun r_11 =>
    some (r_9, (z_6.1.set (x_1 : Int).toNat (⟨v_7.Port, v_7.Next, r_11⟩ : Sender)))

def slices_Insert_Message_v2 (x_0 : Int) (x_1 : (List Message)) : Option ((List Message)) :=
  insL ([] : List Message) x_0 x_1

def inbox_Receive (x_0 : Inbox) (x_1 : Message) : Option (Inbox × (List Message) × Int × Int) :=
  (message_Validate x_1).bind fun r_1 =>
    cond (r_1 != (0 : Int))
    (some ((⟨(0 : Int), ([] : (List Sender))⟩ : Inbox), ([] : (List Message)), (0 : Int), r_1))
    ((inbox_find x_0 x_1.Port).bind fun r_2 =>
    cond r_2.2
    ((ixL x_0.L r_2.1).bind fun e_3 =>
    (slices_BinarySearchFunc_int e_3.Held x_1.Number).bind fun r_4 =>
    cond (decide (x_1.Number < e_3.Next))
    ((inbox_clone x_0).bind fun r_5 =>
    some (r_5, ([] : (List Message)), (3 : Int), (0 : Int)))
    (cond (decide ((w64 (e_3.Next + x_0.Window)) ≤ x_1.Number))
    ((inbox_clone x_0).bind fun r_6 =>
    some (r_6, ([] : (List Message)), (4 : Int), (0 : Int)))
    (cond r_4.2
    ((ixL e_3.Held r_4.1).bind fun e_7 =>
    (message_Same e_7 x_1).bind fun r_8 =>
    cond r_8
    ((inbox_clone x_0).bind fun r_9 =>
    some (r_9, ([] : (List Message)), (3 : Int), (0 : Int)))
    ((inbox_clone x_0).bind fun r_10 =>
    some (r_10, ([] : (List Message)), (5 : Int), (0 : Int))))
    ((focE (inbox_clone x_0) (fun r => r.L) r_2.1).bind fun r_11 =>
    (inbox_copied x_1).bind fun r_12 =>
    (slices_Insert_Message r_11.2.Held r_4.1 ([r_12] : List Message)).bind fun r_13 =>
    (ixL (r_11.1.L.set r_2.1.toNat (⟨r_11.2.Port, r_11.2.Next, r_13⟩ : Sender)) r_2.1).bind fun v_14 =>
    cond (decide (v_14.Next < x_1.Number))
    (some ((⟨r_11.1.Window, (r_11.1.L.set r_2.1.toNat (⟨r_11.2.Port, r_11.2.Next, r_13⟩ : Sender))⟩ : Inbox), ([] : (List Message)), (2 : Int), (0 : Int)))
    ((inbox_release (r_11.1.L.set r_2.1.toNat (⟨r_11.2.Port, r_11.2.Next, r_13⟩ : Sender)) ((r_2.1).toNat)).bind fun r_15 =>
    some ((⟨r_11.1.Window, r_15.2⟩ : Inbox), r_15.1, (1 : Int), (0 : Int)))))))
    ((slices_BinarySearchFunc_int ([] : (List Message)) x_1.Number).bind fun r_16 =>
    cond (decide (x_1.Number < (1 : Int)))
    ((inbox_clone x_0).bind fun r_17 =>
    some (r_17, ([] : (List Message)), (3 : Int), (0 : Int)))
    (cond (decide ((w64 ((1 : Int) + x_0.Window)) ≤ x_1.Number))
    ((inbox_clone x_0).bind fun r_18 =>
    some (r_18, ([] : (List Message)), (4 : Int), (0 : Int)))
    (cond r_16.2
    (none)
    (cond (decide ((16 : Int) ≤ (x_0.L.length : Int)))
    (some ((⟨(0 : Int), ([] : (List Sender))⟩ : Inbox), ([] : (List Message)), (0 : Int), (2 : Int)))
    ((inbox_clone x_0).bind fun r_19 =>
    (insL r_19.L r_2.1 ([(⟨x_1.Port, (1 : Int), ([] : (List Message))⟩ : Sender)] : List Sender)).bind fun r_20 =>
    (inbox_copied x_1).bind fun r_21 =>
    (slices_Insert_Message_v2 r_16.1 ([r_21] : List Message)).bind fun r_22 =>
    (ixL (r_20.set r_2.1.toNat (⟨x_1.Port, (1 : Int), r_22⟩ : Sender)) r_2.1).bind fun v_23 =>
    cond (decide (v_23.Next < x_1.Number))
    (some ((⟨r_19.Window, (r_20.set r_2.1.toNat (⟨x_1.Port, (1 : Int), r_22⟩ : Sender))⟩ : Inbox), ([] : (List Message)), (2 : Int), (0 : Int)))
    ((inbox_release (r_20.set r_2.1.toNat (⟨x_1.Port, (1 : Int), r_22⟩ : Sender)) ((r_2.1).toNat)).bind fun r_24 =>
    some ((⟨r_19.Window, r_24.2⟩ : Inbox), r_24.1, (1 : Int), (0 : Int)))))))))

def inbox_Missing_L2 (e_8 : Message) : Nat → (List Int) → Int → Option (Ctl ((List Int)) ((List Int)))
  | 0, _, _ => none
  | q_12 + 1, a_9, i_10 => cond (decide (i_10 < e_8.Number))
    ((apL a_9 ([i_10] : List Int)).bind fun l_11 =>
    inbox_Missing_L2 e_8 q_12 l_11 (w64 (i_10 + (1 : Int))))
    (some (Ctl.brk a_9))
def inbox_Missing_L1 : (List Message) → Nat → (List Int) → Int → Option (Ctl ((List Int)) ((List Int)))
  | [], k_7, a_4, i_5 => some (Ctl.brk a_4)
  | e_8 :: q_14, k_7, a_4, i_5 => Ctl.sub (inbox_Missing_L2 e_8 9223372036854775807 a_4 i_5) fun z_13 =>
    inbox_Missing_L1 q_14 (k_7 + 1) z_13 (w64 (e_8.Number + (1 : Int)))
def inbox_Missing (x_0 : Inbox) (x_1 : ByteArray) : Option ((List Int)) :=
  (inbox_find x_0 x_1).bind fun r_1 =>
    cond (!r_1.2)
    (some ([] : (List Int)))
    ((ixL x_0.L r_1.1).bind fun e_2 =>
    (ixL x_0.L r_1.1).bind fun e_3 =>
    Ctl.fin (inbox_Missing_L1 e_3.Held 0 ([] : List Int) e_2.Next) fun z_15 =>
    some z_15)

def law05_awake : Option (Bool) :=
  (inbox_New (3 : Int)).bind fun r_1 =>
    (law05_numbered (⟨#[65, 82, 78]⟩ : ByteArray) (2 : Int)).bind fun r_2 =>
    (inbox_Receive r_1.1 r_2).bind fun r_3 =>
    (law05_numbered (⟨#[65, 82, 78]⟩ : ByteArray) (1 : Int)).bind fun r_4 =>
    (inbox_Receive r_3.1 r_4).bind fun r_5 =>
    cond (r_1.2 == (0 : Int))
    (cond (r_3.2.2.2 == (0 : Int))
    (cond (r_5.2.2.2 == (0 : Int))
    (cond ((r_3.2.1.length : Int) == (0 : Int))
    (cond (r_3.2.2.1 == (2 : Int))
    (cond (r_5.2.2.1 == (1 : Int))
    (cond ((r_5.2.1.length : Int) == (2 : Int))
    ((ixL r_5.2.1 (1 : Int)).bind fun e_6 =>
    cond (e_6.Number == (2 : Int))
    ((inbox_Missing r_3.1 (⟨#[65, 82, 78]⟩ : ByteArray)).bind fun r_7 =>
    some ((r_7.length : Int) == (1 : Int)))
    (some false))
    (some false))
    (some false))
    (some false))
    (some false))
    (some false))
    (some false))
    (some false)

def keep_New (x_0 : (List Int)) : Option (Src) :=
  cond (decide ((2000 : Int) < (x_0.length : Int)))
    ((slL x_0 0 (2000 : Int)).bind fun l_1 =>
    some (⟨l_1, (0 : Int)⟩ : Src))
    (some (⟨x_0, (0 : Int)⟩ : Src))

def keep_Src_Raw (x_0 : Src) : Option (Int × Src) :=
  cond (decide ((x_0.L.length : Int) ≤ x_0.At))
    (some ((0 : Int), x_0))
    ((ixL x_0.L (w64 ((w64 (x_0.At + (1 : Int))) - (1 : Int)))).bind fun e_1 =>
    some (e_1, (⟨x_0.L, (w64 (x_0.At + (1 : Int)))⟩ : Src)))

def keep_Mod (x_0 : Int) (x_1 : Int) : Option (Int) :=
  cond (decide (x_1 < (1 : Int)))
    (some (0 : Int))
    ((nz x_1).bind fun u_1 =>
    cond (decide ((x_0.tmod x_1) < (0 : Int)))
    (some (w64 ((x_0.tmod x_1) + x_1)))
    (some (x_0.tmod x_1)))

def keep_Src_N (x_0 : Src) (x_1 : Int) : Option (Int × Src) :=
  (keep_Src_Raw x_0).bind fun r_1 =>
    (keep_Mod r_1.1 x_1).bind fun r_2 =>
    some (r_2, r_1.2)

def keep_Src_Range (x_0 : Src) (x_1 : Int) (x_2 : Int) : Option (Int × Src) :=
  (keep_Src_N x_0 (w64 ((w64 (x_2 - x_1)) + (1 : Int)))).bind fun r_1 =>
    some ((w64 (x_1 + r_1.1)), r_1.2)

def ref05_New (x_0 : Int) : Option (Inbox × Int) :=
  cond (decide (x_0 < (1 : Int)))
    (some ((⟨(0 : Int), ([] : (List Sender))⟩ : Inbox), (1 : Int)))
    (cond (decide ((8 : Int) < x_0))
    (some ((⟨(0 : Int), ([] : (List Sender))⟩ : Inbox), (1 : Int)))
    (some ((⟨x_0, ([] : (List Sender))⟩ : Inbox), (0 : Int))))

def ref04_legs_L1 (x_1 : (List Leg)) : (List Leg) → Nat → Option (Ctl (Bool) (Unit))
  | [], k_2 => some (Ctl.brk ())
  | e_3 :: q_5, k_2 => (ixL x_1 (k_2 : Int)).bind fun e_4 =>
    cond (!((e_3.Flight.Carrier.toList == e_4.Flight.Carrier.toList) && ((e_3.Flight.Number == e_4.Flight.Number) && ((e_3.Flight.Suffix.toList == e_4.Flight.Suffix.toList) && ((e_3.Flight.Day == e_4.Flight.Day) && ((e_3.Port.toList == e_4.Port.toList) && ((e_3.Class.toList == e_4.Class.toList) && true)))))))
    (some (Ctl.ret false))
    (ref04_legs_L1 x_1 q_5 (k_2 + 1))
def ref04_legs (x_0 : (List Leg)) (x_1 : (List Leg)) : Option (Bool) :=
  cond ((x_0.length : Int) != (x_1.length : Int))
    (some false)
    (Ctl.fin (ref04_legs_L1 x_1 x_0 0) fun z_6 =>
    some true)

def keep_Ints_L1 (x_1 : (List Int)) : (List Int) → Nat → Option (Ctl (Bool) (Unit))
  | [], k_2 => some (Ctl.brk ())
  | e_3 :: q_5, k_2 => (ixL x_1 (k_2 : Int)).bind fun e_4 =>
    cond (e_3 != e_4)
    (some (Ctl.ret false))
    (keep_Ints_L1 x_1 q_5 (k_2 + 1))
def keep_Ints (x_0 : (List Int)) (x_1 : (List Int)) : Option (Bool) :=
  cond ((x_0.length : Int) != (x_1.length : Int))
    (some false)
    (Ctl.fin (keep_Ints_L1 x_1 x_0 0) fun z_6 =>
    some true)

def ref04_Same (x_0 : Message) (x_1 : Message) : Option (Bool) :=
  cond (x_0.Kind == x_1.Kind)
    (cond (x_0.Do == x_1.Do)
    (cond (x_0.Port.toList == x_1.Port.toList)
    (cond (x_0.Number == x_1.Number)
    (cond ((x_0.In.Flight.Carrier.toList == x_1.In.Flight.Carrier.toList) && ((x_0.In.Flight.Number == x_1.In.Flight.Number) && ((x_0.In.Flight.Suffix.toList == x_1.In.Flight.Suffix.toList) && ((x_0.In.Flight.Day == x_1.In.Flight.Day) && ((x_0.In.Port.toList == x_1.In.Port.toList) && ((x_0.In.Class.toList == x_1.In.Class.toList) && true))))))
    (cond ((x_0.Out.Flight.Carrier.toList == x_1.Out.Flight.Carrier.toList) && ((x_0.Out.Flight.Number == x_1.Out.Flight.Number) && ((x_0.Out.Flight.Suffix.toList == x_1.Out.Flight.Suffix.toList) && ((x_0.Out.Flight.Day == x_1.Out.Flight.Day) && ((x_0.Out.Port.toList == x_1.Out.Port.toList) && ((x_0.Out.Class.toList == x_1.Out.Class.toList) && true))))))
    ((ref04_legs x_0.Onward x_1.Onward).bind fun r_1 =>
    cond r_1
    (cond ((x_0.First.Lead == x_1.First.Lead) && ((x_0.First.Airline == x_1.First.Airline) && ((x_0.First.Serial == x_1.First.Serial) && true)))
    (cond (x_0.Count == x_1.Count)
    (cond (x_0.Load == x_1.Load)
    (cond (x_0.Status == x_1.Status)
    (cond (x_0.Sequence == x_1.Sequence)
    (cond (x_0.Weight == x_1.Weight)
    (cond (x_0.Surname.toList == x_1.Surname.toList)
    (cond (x_0.Given.toList == x_1.Given.toList)
    (cond (x_0.Exception == x_1.Exception)
    (cond (x_0.Node.toList == x_1.Node.toList)
    ((keep_Ints x_0.List x_1.List).bind fun r_2 =>
    some r_2)
    (some false))
    (some false))
    (some false))
    (some false))
    (some false))
    (some false))
    (some false))
    (some false))
    (some false))
    (some false))
    (some false))
    (some false))
    (some false))
    (some false))
    (some false))
    (some false))
    (some false)

def ref05_SameList_L1 (x_1 : (List Message)) : (List Message) → Nat → Option (Ctl (Bool) (Unit))
  | [], k_2 => some (Ctl.brk ())
  | e_3 :: q_6, k_2 => (ixL x_1 (k_2 : Int)).bind fun e_4 =>
    (ref04_Same e_3 e_4).bind fun r_5 =>
    cond (!r_5)
    (some (Ctl.ret false))
    (ref05_SameList_L1 x_1 q_6 (k_2 + 1))
def ref05_SameList (x_0 : (List Message)) (x_1 : (List Message)) : Option (Bool) :=
  cond ((x_0.length : Int) != (x_1.length : Int))
    (some false)
    (Ctl.fin (ref05_SameList_L1 x_1 x_0 0) fun z_7 =>
    some true)

def ref05_Same_L1 (x_1 : Inbox) : (List Sender) → Nat → Option (Ctl (Bool) (Unit))
  | [], k_2 => some (Ctl.brk ())
  | e_3 :: q_8, k_2 => (ixL x_1.L (k_2 : Int)).bind fun e_4 =>
    cond (!(e_3.Port.toList == e_4.Port.toList))
    (some (Ctl.ret false))
    ((ixL x_1.L (k_2 : Int)).bind fun e_5 =>
    cond (e_3.Next != e_5.Next)
    (some (Ctl.ret false))
    ((ixL x_1.L (k_2 : Int)).bind fun e_6 =>
    (ref05_SameList e_3.Held e_6.Held).bind fun r_7 =>
    cond (!r_7)
    (some (Ctl.ret false))
    (ref05_Same_L1 x_1 q_8 (k_2 + 1))))
def ref05_Same (x_0 : Inbox) (x_1 : Inbox) : Option (Bool) :=
  cond (x_0.Window != x_1.Window)
    (some false)
    (cond ((x_0.L.length : Int) != (x_1.L.length : Int))
    (some false)
    (Ctl.fin (ref05_Same_L1 x_1 x_0.L 0) fun z_9 =>
    some true))

def keep_Src_Text (x_0 : Src) (x_1 : (List ByteArray)) : Option (ByteArray × Src) :=
  (keep_Src_N x_0 (x_1.length : Int)).bind fun r_1 =>
    (ixL x_1 r_1.1).bind fun e_2 =>
    some (e_2, r_1.2)

def keep_Src_Pick (x_0 : Src) (x_1 : (List Int)) : Option (Int × Src) :=
  (keep_Src_N x_0 (x_1.length : Int)).bind fun r_1 =>
    (ixL x_1 r_1.1).bind fun e_2 =>
    some (e_2, r_1.2)

def keep_Src_AnyPlate (x_0 : Src) : Option (Plate × Src) :=
  (keep_Src_N x_0 (2 : Int)).bind fun r_1 =>
    (keep_Src_N r_1.2 (2 : Int)).bind fun r_2 =>
    (keep_Src_Pick r_2.2 ([(0 : Int), (1 : Int), (2 : Int), (3 : Int), (5 : Int), (999998 : Int), (999999 : Int)] : List Int)).bind fun r_3 =>
    some ((⟨r_1.1, (w64 ((117 : Int) + r_2.1)), r_3.1⟩ : Plate), r_3.2)

def keep_Src_Letters_L1 : Nat → (List Int) → Int → (List Int) → Int → Option (Ctl (ByteArray × Src) ((List Int) × Int × (List Int)))
  | 0, _, _, _, _ => none
  | q_9 + 1, a_3, i_4, a_5, i_6 => cond (decide (i_6 < (a_5.length : Int)))
    ((keep_Src_N (⟨a_3, i_4⟩ : Src) (26 : Int)).bind fun r_7 =>
    (ixL a_5 i_6).bind fun e_8 =>
    keep_Src_Letters_L1 q_9 r_7.2.L r_7.2.At (a_5.set i_6.toNat (IntKind.u8.wrap (w64 ((65 : Int) + r_7.1)))) (w64 (i_6 + (1 : Int))))
    (some (Ctl.brk (a_3, i_4, a_5)))
def keep_Src_Letters (x_0 : Src) (x_1 : Int) (x_2 : Int) : Option (ByteArray × Src) :=
  (keep_Src_Range x_0 x_1 x_2).bind fun r_1 =>
    (mkL r_1.1 (0 : Int)).bind fun l_2 =>
    Ctl.fin (keep_Src_Letters_L1 9223372036854775807 r_1.2.L r_1.2.At l_2 (0 : Int)) fun z_10 =>
    some ((bytesF z_10.2.2), (⟨z_10.1, z_10.2.1⟩ : Src))

def keep_Src_AnyFlight (x_0 : Src) : Option (Flight × Src) :=
  (keep_Src_Text x_0 ([(⟨#[83, 75]⟩ : ByteArray), (⟨#[65, 89]⟩ : ByteArray), (⟨#[52, 85]⟩ : ByteArray)] : List ByteArray)).bind fun r_1 =>
    (keep_Src_Pick r_1.2 ([(1 : Int), (123 : Int), (9999 : Int)] : List Int)).bind fun r_2 =>
    (keep_Src_Text r_2.2 ([(⟨#[]⟩ : ByteArray), (⟨#[]⟩ : ByteArray), (⟨#[65]⟩ : ByteArray)] : List ByteArray)).bind fun r_3 =>
    (keep_Src_Pick r_3.2 ([(7 : Int), (8 : Int), (0 : Int), (99 : Int)] : List Int)).bind fun r_4 =>
    some ((⟨r_1.1, r_2.1, r_3.1, r_4.1⟩ : Flight), r_4.2)

def keep_Src_Leg (x_0 : Src) : Option (Leg × Src) :=
  (keep_Src_AnyFlight x_0).bind fun r_1 =>
    (keep_Src_Text r_1.2 ([(⟨#[67, 80, 72]⟩ : ByteArray), (⟨#[65, 82, 78]⟩ : ByteArray), (⟨#[79, 83, 76]⟩ : ByteArray)] : List ByteArray)).bind fun r_2 =>
    (keep_Src_Text r_2.2 ([(⟨#[89]⟩ : ByteArray), (⟨#[67]⟩ : ByteArray), (⟨#[70]⟩ : ByteArray)] : List ByteArray)).bind fun r_3 =>
    some ((⟨r_1.1, r_2.1, r_3.1⟩ : Leg), r_3.2)

def keep_Src_Message_L1 : Nat → (List Int) → Int → (List Int) → Int → Int → Option (Ctl (Message × Src) ((List Int) × Int × (List Int)))
  | 0, _, _, _, _, _ => none
  | q_19 + 1, a_12, i_13, a_14, i_15, i_16 => cond (decide ((0 : Int) < i_16))
    ((keep_Src_Range (⟨a_12, i_13⟩ : Src) (1 : Int) (3 : Int)).bind fun r_17 =>
    (apL a_14 ([(w64 (i_15 + r_17.1))] : List Int)).bind fun l_18 =>
    keep_Src_Message_L1 q_19 r_17.2.L r_17.2.At l_18 (w64 (i_15 + r_17.1)) (w64 (i_16 - (1 : Int))))
    (some (Ctl.brk (a_12, i_13, a_14)))
def keep_Src_Message_L2 : Nat → (List Int) → Int → (List Leg) → Int → Option (Ctl (Message × Src) ((List Int) × Int × (List Int) × Int × (List Leg)))
  | 0, _, _, _, _ => none
  | q_33 + 1, a_27, i_28, a_29, i_30 => cond (decide ((0 : Int) < i_30))
    ((keep_Src_Leg (⟨a_27, i_28⟩ : Src)).bind fun r_31 =>
    (apL a_29 ([r_31.1] : List Leg)).bind fun l_32 =>
    keep_Src_Message_L2 q_33 r_31.2.L r_31.2.At l_32 (w64 (i_30 - (1 : Int))))
    (some (Ctl.brk (a_27, i_28, a_27, i_28, a_29)))
def keep_Src_Message (x_0 : Src) (x_1 : Int) : Option (Message × Src) :=
  cond (x_1 == (0 : Int))
    ((keep_Src_Range x_0 (1 : Int) (5 : Int)).bind fun r_1 =>
    (keep_Src_Text r_1.2 ([(⟨#[65, 82, 78]⟩ : ByteArray), (⟨#[67, 80, 72]⟩ : ByteArray)] : List ByteArray)).bind fun r_2 =>
    (keep_Src_Range r_2.2 (1 : Int) (12 : Int)).bind fun r_3 =>
    cond (r_1.1 == (3 : Int))
    ((keep_Src_AnyPlate r_3.2).bind fun r_4 =>
    (keep_Src_Range r_4.2 (1 : Int) (3 : Int)).bind fun r_5 =>
    (keep_Src_Letters r_5.2 (1 : Int) (4 : Int)).bind fun r_6 =>
    some ((⟨r_1.1, (0 : Int), r_2.1, r_3.1, (⟨(⟨(⟨#[]⟩ : ByteArray), (0 : Int), (⟨#[]⟩ : ByteArray), (0 : Int)⟩ : Flight), (⟨#[]⟩ : ByteArray), (⟨#[]⟩ : ByteArray)⟩ : Leg), (⟨(⟨(⟨#[]⟩ : ByteArray), (0 : Int), (⟨#[]⟩ : ByteArray), (0 : Int)⟩ : Flight), (⟨#[]⟩ : ByteArray), (⟨#[]⟩ : ByteArray)⟩ : Leg), ([] : (List Leg)), r_4.1, r_5.1, false, (0 : Int), (0 : Int), (0 : Int), (⟨#[]⟩ : ByteArray), (⟨#[]⟩ : ByteArray), (0 : Int), r_6.1, ([] : (List Int))⟩ : Message), r_6.2))
    (cond (r_1.1 == (4 : Int))
    ((keep_Src_AnyPlate r_3.2).bind fun r_7 =>
    (keep_Src_Range r_7.2 (1 : Int) (3 : Int)).bind fun r_8 =>
    (keep_Src_Leg r_8.2).bind fun r_9 =>
    some ((⟨r_1.1, (0 : Int), r_2.1, r_3.1, (⟨(⟨(⟨#[]⟩ : ByteArray), (0 : Int), (⟨#[]⟩ : ByteArray), (0 : Int)⟩ : Flight), (⟨#[]⟩ : ByteArray), (⟨#[]⟩ : ByteArray)⟩ : Leg), r_9.1, ([] : (List Leg)), r_7.1, r_8.1, false, (0 : Int), (0 : Int), (0 : Int), (⟨#[]⟩ : ByteArray), (⟨#[]⟩ : ByteArray), (0 : Int), (⟨#[]⟩ : ByteArray), ([] : (List Int))⟩ : Message), r_9.2))
    (cond (r_1.1 == (5 : Int))
    ((keep_Src_Leg r_3.2).bind fun r_10 =>
    (keep_Src_N r_10.2 (12 : Int)).bind fun r_11 =>
    Ctl.fin (keep_Src_Message_L1 9223372036854775807 r_11.2.L r_11.2.At ([] : List Int) (0 : Int) r_11.1) fun z_20 =>
    some ((⟨r_1.1, (0 : Int), r_2.1, r_3.1, (⟨(⟨(⟨#[]⟩ : ByteArray), (0 : Int), (⟨#[]⟩ : ByteArray), (0 : Int)⟩ : Flight), (⟨#[]⟩ : ByteArray), (⟨#[]⟩ : ByteArray)⟩ : Leg), r_10.1, ([] : (List Leg)), (⟨(0 : Int), (0 : Int), (0 : Int)⟩ : Plate), (0 : Int), false, (0 : Int), (0 : Int), (0 : Int), (⟨#[]⟩ : ByteArray), (⟨#[]⟩ : ByteArray), (0 : Int), (⟨#[]⟩ : ByteArray), z_20.2.2⟩ : Message), (⟨z_20.1, z_20.2.1⟩ : Src)))
    ((keep_Src_Pick r_3.2 ([(0 : Int), (0 : Int), (1 : Int), (2 : Int)] : List Int)).bind fun r_21 =>
    (keep_Src_Leg r_21.2).bind fun r_22 =>
    (keep_Src_AnyPlate r_22.2).bind fun r_23 =>
    (keep_Src_Range r_23.2 (1 : Int) (3 : Int)).bind fun r_24 =>
    cond (r_1.1 == (2 : Int))
    ((keep_Src_Leg r_24.2).bind fun r_25 =>
    (keep_Src_N r_25.2 (4 : Int)).bind fun r_26 =>
    Ctl.fin (keep_Src_Message_L2 9223372036854775807 r_26.2.L r_26.2.At ([] : List Leg) r_26.1) fun z_34 =>
    (keep_Src_N (⟨z_34.2.2.1, z_34.2.2.2.1⟩ : Src) (3 : Int)).bind fun r_35 =>
    (keep_Src_Range r_35.2 (1 : Int) (4 : Int)).bind fun r_36 =>
    (keep_Src_Range r_36.2 (1 : Int) (4 : Int)).bind fun r_37 =>
    (keep_Src_Pick r_37.2 ([(20 : Int), (0 : Int), (999 : Int)] : List Int)).bind fun r_38 =>
    (keep_Src_Letters r_38.2 (1 : Int) (6 : Int)).bind fun r_39 =>
    (keep_Src_Letters r_39.2 (0 : Int) (5 : Int)).bind fun r_40 =>
    (keep_Src_Range r_40.2 (0 : Int) (3 : Int)).bind fun r_41 =>
    some ((⟨r_1.1, r_21.1, r_2.1, r_3.1, r_25.1, r_22.1, z_34.2.2.2.2, r_23.1, r_24.1, (decide ((0 : Int) < r_35.1)), r_36.1, r_37.1, r_38.1, r_39.1, r_40.1, r_41.1, (⟨#[]⟩ : ByteArray), ([] : (List Int))⟩ : Message), r_41.2))
    ((keep_Src_N r_24.2 (4 : Int)).bind fun r_42 =>
    Ctl.fin (keep_Src_Message_L2 9223372036854775807 r_42.2.L r_42.2.At ([] : List Leg) r_42.1) fun z_50 =>
    (keep_Src_N (⟨z_50.2.2.1, z_50.2.2.2.1⟩ : Src) (3 : Int)).bind fun r_51 =>
    (keep_Src_Range r_51.2 (1 : Int) (4 : Int)).bind fun r_52 =>
    (keep_Src_Range r_52.2 (1 : Int) (4 : Int)).bind fun r_53 =>
    (keep_Src_Pick r_53.2 ([(20 : Int), (0 : Int), (999 : Int)] : List Int)).bind fun r_54 =>
    (keep_Src_Letters r_54.2 (1 : Int) (6 : Int)).bind fun r_55 =>
    (keep_Src_Letters r_55.2 (0 : Int) (5 : Int)).bind fun r_56 =>
    (keep_Src_Range r_56.2 (0 : Int) (3 : Int)).bind fun r_57 =>
    some ((⟨r_1.1, r_21.1, r_2.1, r_3.1, (⟨(⟨(⟨#[]⟩ : ByteArray), (0 : Int), (⟨#[]⟩ : ByteArray), (0 : Int)⟩ : Flight), (⟨#[]⟩ : ByteArray), (⟨#[]⟩ : ByteArray)⟩ : Leg), r_22.1, z_50.2.2.2.2, r_23.1, r_24.1, (decide ((0 : Int) < r_51.1)), r_52.1, r_53.1, r_54.1, r_55.1, r_56.1, r_57.1, (⟨#[]⟩ : ByteArray), ([] : (List Int))⟩ : Message), r_57.2))))))
    ((keep_Src_Text x_0 ([(⟨#[65, 82, 78]⟩ : ByteArray), (⟨#[67, 80, 72]⟩ : ByteArray)] : List ByteArray)).bind fun r_58 =>
    (keep_Src_Range r_58.2 (1 : Int) (12 : Int)).bind fun r_59 =>
    cond (x_1 == (3 : Int))
    ((keep_Src_AnyPlate r_59.2).bind fun r_60 =>
    (keep_Src_Range r_60.2 (1 : Int) (3 : Int)).bind fun r_61 =>
    (keep_Src_Letters r_61.2 (1 : Int) (4 : Int)).bind fun r_62 =>
    some ((⟨x_1, (0 : Int), r_58.1, r_59.1, (⟨(⟨(⟨#[]⟩ : ByteArray), (0 : Int), (⟨#[]⟩ : ByteArray), (0 : Int)⟩ : Flight), (⟨#[]⟩ : ByteArray), (⟨#[]⟩ : ByteArray)⟩ : Leg), (⟨(⟨(⟨#[]⟩ : ByteArray), (0 : Int), (⟨#[]⟩ : ByteArray), (0 : Int)⟩ : Flight), (⟨#[]⟩ : ByteArray), (⟨#[]⟩ : ByteArray)⟩ : Leg), ([] : (List Leg)), r_60.1, r_61.1, false, (0 : Int), (0 : Int), (0 : Int), (⟨#[]⟩ : ByteArray), (⟨#[]⟩ : ByteArray), (0 : Int), r_62.1, ([] : (List Int))⟩ : Message), r_62.2))
    (cond (x_1 == (4 : Int))
    ((keep_Src_AnyPlate r_59.2).bind fun r_63 =>
    (keep_Src_Range r_63.2 (1 : Int) (3 : Int)).bind fun r_64 =>
    (keep_Src_Leg r_64.2).bind fun r_65 =>
    some ((⟨x_1, (0 : Int), r_58.1, r_59.1, (⟨(⟨(⟨#[]⟩ : ByteArray), (0 : Int), (⟨#[]⟩ : ByteArray), (0 : Int)⟩ : Flight), (⟨#[]⟩ : ByteArray), (⟨#[]⟩ : ByteArray)⟩ : Leg), r_65.1, ([] : (List Leg)), r_63.1, r_64.1, false, (0 : Int), (0 : Int), (0 : Int), (⟨#[]⟩ : ByteArray), (⟨#[]⟩ : ByteArray), (0 : Int), (⟨#[]⟩ : ByteArray), ([] : (List Int))⟩ : Message), r_65.2))
    (cond (x_1 == (5 : Int))
    ((keep_Src_Leg r_59.2).bind fun r_66 =>
    (keep_Src_N r_66.2 (12 : Int)).bind fun r_67 =>
    Ctl.fin (keep_Src_Message_L1 9223372036854775807 r_67.2.L r_67.2.At ([] : List Int) (0 : Int) r_67.1) fun z_76 =>
    some ((⟨x_1, (0 : Int), r_58.1, r_59.1, (⟨(⟨(⟨#[]⟩ : ByteArray), (0 : Int), (⟨#[]⟩ : ByteArray), (0 : Int)⟩ : Flight), (⟨#[]⟩ : ByteArray), (⟨#[]⟩ : ByteArray)⟩ : Leg), r_66.1, ([] : (List Leg)), (⟨(0 : Int), (0 : Int), (0 : Int)⟩ : Plate), (0 : Int), false, (0 : Int), (0 : Int), (0 : Int), (⟨#[]⟩ : ByteArray), (⟨#[]⟩ : ByteArray), (0 : Int), (⟨#[]⟩ : ByteArray), z_76.2.2⟩ : Message), (⟨z_76.1, z_76.2.1⟩ : Src)))
    ((keep_Src_Pick r_59.2 ([(0 : Int), (0 : Int), (1 : Int), (2 : Int)] : List Int)).bind fun r_77 =>
    (keep_Src_Leg r_77.2).bind fun r_78 =>
    (keep_Src_AnyPlate r_78.2).bind fun r_79 =>
    (keep_Src_Range r_79.2 (1 : Int) (3 : Int)).bind fun r_80 =>
    cond (x_1 == (2 : Int))
    ((keep_Src_Leg r_80.2).bind fun r_81 =>
    (keep_Src_N r_81.2 (4 : Int)).bind fun r_82 =>
    Ctl.fin (keep_Src_Message_L2 9223372036854775807 r_82.2.L r_82.2.At ([] : List Leg) r_82.1) fun z_90 =>
    (keep_Src_N (⟨z_90.2.2.1, z_90.2.2.2.1⟩ : Src) (3 : Int)).bind fun r_91 =>
    (keep_Src_Range r_91.2 (1 : Int) (4 : Int)).bind fun r_92 =>
    (keep_Src_Range r_92.2 (1 : Int) (4 : Int)).bind fun r_93 =>
    (keep_Src_Pick r_93.2 ([(20 : Int), (0 : Int), (999 : Int)] : List Int)).bind fun r_94 =>
    (keep_Src_Letters r_94.2 (1 : Int) (6 : Int)).bind fun r_95 =>
    (keep_Src_Letters r_95.2 (0 : Int) (5 : Int)).bind fun r_96 =>
    (keep_Src_Range r_96.2 (0 : Int) (3 : Int)).bind fun r_97 =>
    some ((⟨x_1, r_77.1, r_58.1, r_59.1, r_81.1, r_78.1, z_90.2.2.2.2, r_79.1, r_80.1, (decide ((0 : Int) < r_91.1)), r_92.1, r_93.1, r_94.1, r_95.1, r_96.1, r_97.1, (⟨#[]⟩ : ByteArray), ([] : (List Int))⟩ : Message), r_97.2))
    ((keep_Src_N r_80.2 (4 : Int)).bind fun r_98 =>
    Ctl.fin (keep_Src_Message_L2 9223372036854775807 r_98.2.L r_98.2.At ([] : List Leg) r_98.1) fun z_106 =>
    (keep_Src_N (⟨z_106.2.2.1, z_106.2.2.2.1⟩ : Src) (3 : Int)).bind fun r_107 =>
    (keep_Src_Range r_107.2 (1 : Int) (4 : Int)).bind fun r_108 =>
    (keep_Src_Range r_108.2 (1 : Int) (4 : Int)).bind fun r_109 =>
    (keep_Src_Pick r_109.2 ([(20 : Int), (0 : Int), (999 : Int)] : List Int)).bind fun r_110 =>
    (keep_Src_Letters r_110.2 (1 : Int) (6 : Int)).bind fun r_111 =>
    (keep_Src_Letters r_111.2 (0 : Int) (5 : Int)).bind fun r_112 =>
    (keep_Src_Range r_112.2 (0 : Int) (3 : Int)).bind fun r_113 =>
    some ((⟨x_1, r_77.1, r_58.1, r_59.1, (⟨(⟨(⟨#[]⟩ : ByteArray), (0 : Int), (⟨#[]⟩ : ByteArray), (0 : Int)⟩ : Flight), (⟨#[]⟩ : ByteArray), (⟨#[]⟩ : ByteArray)⟩ : Leg), r_78.1, z_106.2.2.2.2, r_79.1, r_80.1, (decide ((0 : Int) < r_107.1)), r_108.1, r_109.1, r_110.1, r_111.1, r_112.1, r_113.1, (⟨#[]⟩ : ByteArray), ([] : (List Int))⟩ : Message), r_113.2))))))

def ref05_Sender_L1 (x_1 : ByteArray) : (List Sender) → Nat → Option (Ctl (Sender × Bool) (Unit))
  | [], k_2 => some (Ctl.brk ())
  | e_3 :: q_4, k_2 => cond (e_3.Port.toList == x_1.toList)
    (some (Ctl.ret (e_3, true)))
    (ref05_Sender_L1 x_1 q_4 (k_2 + 1))
def ref05_Sender (x_0 : Inbox) (x_1 : ByteArray) : Option (Sender × Bool) :=
  Ctl.fin (ref05_Sender_L1 x_1 x_0.L 0) fun z_5 =>
    some ((⟨x_1, (1 : Int), ([] : (List Message))⟩ : Sender), false)

def ref05_held_L1 (x_1 : Int) : (List Message) → Nat → Option (Ctl (Int) (Unit))
  | [], k_2 => some (Ctl.brk ())
  | e_3 :: q_4, k_2 => cond (e_3.Number == x_1)
    (some (Ctl.ret (k_2 : Int)))
    (ref05_held_L1 x_1 q_4 (k_2 + 1))
def ref05_held (x_0 : Sender) (x_1 : Int) : Option (Int) :=
  Ctl.fin (ref05_held_L1 x_1 x_0.Held 0) fun z_5 =>
    some (-1 : Int)

def ref05_Missing_L1 (r_1 : Sender × Bool) : Nat → (List Int) → Int → Option (Ctl ((List Int)) ((List Int)))
  | 0, _, _ => none
  | q_7 + 1, a_2, i_3 => (ixL r_1.1.Held (w64 ((r_1.1.Held.length : Int) - (1 : Int)))).bind fun e_4 =>
    cond (decide (i_3 < e_4.Number))
    ((ref05_held r_1.1 i_3).bind fun r_5 =>
    cond (decide (r_5 < (0 : Int)))
    ((apL a_2 ([i_3] : List Int)).bind fun l_6 =>
    ref05_Missing_L1 r_1 q_7 l_6 (w64 (i_3 + (1 : Int))))
    (ref05_Missing_L1 r_1 q_7 a_2 (w64 (i_3 + (1 : Int)))))
    (some (Ctl.brk a_2))
def ref05_Missing (x_0 : Inbox) (x_1 : ByteArray) : Option ((List Int)) :=
  (ref05_Sender x_0 x_1).bind fun r_1 =>
    cond ((r_1.1.Held.length : Int) == (0 : Int))
    (some ([] : (List Int)))
    (Ctl.fin (ref05_Missing_L1 r_1 9223372036854775807 ([] : List Int) r_1.1.Next) fun z_8 =>
    some z_8)

def inbox_Skip (x_0 : Inbox) (x_1 : ByteArray) : Option (Inbox × (List Message) × Int) :=
  (inbox_find x_0 x_1).bind fun r_1 =>
    cond (!r_1.2)
    (some ((⟨(0 : Int), ([] : (List Sender))⟩ : Inbox), ([] : (List Message)), (6 : Int)))
    ((ixL x_0.L r_1.1).bind fun e_2 =>
    cond ((e_2.Held.length : Int) == (0 : Int))
    (some ((⟨(0 : Int), ([] : (List Sender))⟩ : Inbox), ([] : (List Message)), (6 : Int)))
    ((inbox_clone x_0).bind fun r_3 =>
    (ixL r_3.L r_1.1).bind fun e_4 =>
    (ixL e_4.Held (0 : Int)).bind fun e_5 =>
    (inbox_release (r_3.L.set r_1.1.toNat (⟨e_4.Port, e_5.Number, e_4.Held⟩ : Sender)) ((r_1.1).toNat)).bind fun r_6 =>
    some ((⟨r_3.Window, r_6.2⟩ : Inbox), r_6.1, (0 : Int))))

def ref05_release_L1 (x_0 : Sender) : Nat → Int → (List Message) → (List Message) → Option (Ctl (Sender × (List Message)) (Int × (List Message) × (List Message)))
  | 0, _, _, _ => none
  | q_12 + 1, i_1, a_2, a_3 => (ref05_held (⟨x_0.Port, i_1, a_2⟩ : Sender) i_1).bind fun r_4 =>
    cond (decide ((0 : Int) ≤ r_4))
    ((ref05_held (⟨x_0.Port, i_1, a_2⟩ : Sender) i_1).bind fun r_5 =>
    (ixL a_2 r_5).bind fun e_6 =>
    (apL a_3 ([e_6] : List Message)).bind fun l_7 =>
    (slL a_2 0 r_5).bind fun l_8 =>
    (apL ([] : List Message) l_8).bind fun l_9 =>
    (slL a_2 (w64 (r_5 + (1 : Int))) (a_2.length : Int)).bind fun l_10 =>
    (apL l_9 l_10).bind fun l_11 =>
    ref05_release_L1 x_0 q_12 (w64 (i_1 + (1 : Int))) l_11 l_7)
    (some (Ctl.brk (i_1, a_2, a_3)))
def ref05_release (x_0 : Sender) : Option (Sender × (List Message)) :=
  Ctl.fin (ref05_release_L1 x_0 9223372036854775807 x_0.Next x_0.Held ([] : List Message)) fun z_13 =>
    some ((⟨x_0.Port, z_13.1, z_13.2.1⟩ : Sender), z_13.2.2)

def ref05_set_L1 (x_1 : Sender) : (List Sender) → Nat → (List Sender) → Bool → Option (Ctl (Inbox) ((List Sender) × Bool))
  | [], k_4, a_1, b_2 => some (Ctl.brk (a_1, b_2))
  | e_5 :: q_10, k_4, a_1, b_2 => cond (!b_2)
    (cond (!(Op.bytesLess e_5.Port.toList x_1.Port.toList))
    ((apL a_1 ([x_1] : List Sender)).bind fun l_6 =>
    cond (!(e_5.Port.toList == x_1.Port.toList))
    ((apL l_6 ([e_5] : List Sender)).bind fun l_7 =>
    ref05_set_L1 x_1 q_10 (k_4 + 1) l_7 true)
    (ref05_set_L1 x_1 q_10 (k_4 + 1) l_6 true))
    (cond (!(e_5.Port.toList == x_1.Port.toList))
    ((apL a_1 ([e_5] : List Sender)).bind fun l_8 =>
    ref05_set_L1 x_1 q_10 (k_4 + 1) l_8 b_2)
    (ref05_set_L1 x_1 q_10 (k_4 + 1) a_1 b_2)))
    (cond (!(e_5.Port.toList == x_1.Port.toList))
    ((apL a_1 ([e_5] : List Sender)).bind fun l_9 =>
    ref05_set_L1 x_1 q_10 (k_4 + 1) l_9 b_2)
    (ref05_set_L1 x_1 q_10 (k_4 + 1) a_1 b_2))
def ref05_set (x_0 : Inbox) (x_1 : Sender) : Option (Inbox) :=
  Ctl.fin (ref05_set_L1 x_1 x_0.L 0 ([] : List Sender) false) fun z_11 =>
    cond (!z_11.2)
    ((apL z_11.1 ([x_1] : List Sender)).bind fun l_12 =>
    some (⟨x_0.Window, l_12⟩ : Inbox))
    (some (⟨x_0.Window, z_11.1⟩ : Inbox))

def ref05_Skip (x_0 : Inbox) (x_1 : ByteArray) : Option (Inbox × (List Message) × Int) :=
  (ref05_Sender x_0 x_1).bind fun r_1 =>
    cond ((r_1.1.Held.length : Int) == (0 : Int))
    (some ((⟨(0 : Int), ([] : (List Sender))⟩ : Inbox), ([] : (List Message)), (6 : Int)))
    ((ixL r_1.1.Held (0 : Int)).bind fun e_2 =>
    (ref05_release (⟨r_1.1.Port, e_2.Number, r_1.1.Held⟩ : Sender)).bind fun r_3 =>
    (ref05_set x_0 r_3.1).bind fun r_4 =>
    some (r_4, r_3.2, (0 : Int)))

def ref04_in (x_0 : Int) (x_1 : Int) (x_2 : Int) : Option (Bool) :=
  cond (decide (x_1 ≤ x_0))
    (some (decide (x_0 ≤ x_2)))
    (some false)

def ref04_Bag (x_0 : Int) : Option (Bool) :=
  cond (x_0 == (1 : Int))
    (some true)
    (some (x_0 == (2 : Int)))

def ref04_own (x_0 : Message) : Option (Message) :=
  (ref04_Bag x_0.Kind).bind fun r_1 =>
    cond r_1
    (cond (x_0.Kind == (1 : Int))
    (some (⟨x_0.Kind, x_0.Do, x_0.Port, x_0.Number, (⟨(⟨(⟨#[]⟩ : ByteArray), (0 : Int), (⟨#[]⟩ : ByteArray), (0 : Int)⟩ : Flight), (⟨#[]⟩ : ByteArray), (⟨#[]⟩ : ByteArray)⟩ : Leg), x_0.Out, x_0.Onward, x_0.First, x_0.Count, x_0.Load, x_0.Status, x_0.Sequence, x_0.Weight, x_0.Surname, x_0.Given, x_0.Exception, (⟨#[]⟩ : ByteArray), ([] : (List Int))⟩ : Message))
    (some (⟨x_0.Kind, x_0.Do, x_0.Port, x_0.Number, x_0.In, x_0.Out, x_0.Onward, x_0.First, x_0.Count, x_0.Load, x_0.Status, x_0.Sequence, x_0.Weight, x_0.Surname, x_0.Given, x_0.Exception, (⟨#[]⟩ : ByteArray), ([] : (List Int))⟩ : Message)))
    (cond (x_0.Kind != (5 : Int))
    (cond (x_0.Kind == (3 : Int))
    (some (⟨x_0.Kind, (0 : Int), x_0.Port, x_0.Number, (⟨(⟨(⟨#[]⟩ : ByteArray), (0 : Int), (⟨#[]⟩ : ByteArray), (0 : Int)⟩ : Flight), (⟨#[]⟩ : ByteArray), (⟨#[]⟩ : ByteArray)⟩ : Leg), (⟨(⟨(⟨#[]⟩ : ByteArray), (0 : Int), (⟨#[]⟩ : ByteArray), (0 : Int)⟩ : Flight), (⟨#[]⟩ : ByteArray), (⟨#[]⟩ : ByteArray)⟩ : Leg), ([] : (List Leg)), x_0.First, x_0.Count, false, (0 : Int), (0 : Int), (0 : Int), (⟨#[]⟩ : ByteArray), (⟨#[]⟩ : ByteArray), (0 : Int), x_0.Node, ([] : (List Int))⟩ : Message))
    (cond (x_0.Kind == (4 : Int))
    (some (⟨x_0.Kind, (0 : Int), x_0.Port, x_0.Number, (⟨(⟨(⟨#[]⟩ : ByteArray), (0 : Int), (⟨#[]⟩ : ByteArray), (0 : Int)⟩ : Flight), (⟨#[]⟩ : ByteArray), (⟨#[]⟩ : ByteArray)⟩ : Leg), x_0.Out, ([] : (List Leg)), x_0.First, x_0.Count, false, (0 : Int), (0 : Int), (0 : Int), (⟨#[]⟩ : ByteArray), (⟨#[]⟩ : ByteArray), (0 : Int), (⟨#[]⟩ : ByteArray), ([] : (List Int))⟩ : Message))
    (some (⟨x_0.Kind, (0 : Int), x_0.Port, x_0.Number, (⟨(⟨(⟨#[]⟩ : ByteArray), (0 : Int), (⟨#[]⟩ : ByteArray), (0 : Int)⟩ : Flight), (⟨#[]⟩ : ByteArray), (⟨#[]⟩ : ByteArray)⟩ : Leg), x_0.Out, ([] : (List Leg)), x_0.First, x_0.Count, false, (0 : Int), (0 : Int), (0 : Int), (⟨#[]⟩ : ByteArray), (⟨#[]⟩ : ByteArray), (0 : Int), (⟨#[]⟩ : ByteArray), x_0.List⟩ : Message))))
    (cond (x_0.Kind == (3 : Int))
    (some (⟨x_0.Kind, (0 : Int), x_0.Port, x_0.Number, (⟨(⟨(⟨#[]⟩ : ByteArray), (0 : Int), (⟨#[]⟩ : ByteArray), (0 : Int)⟩ : Flight), (⟨#[]⟩ : ByteArray), (⟨#[]⟩ : ByteArray)⟩ : Leg), (⟨(⟨(⟨#[]⟩ : ByteArray), (0 : Int), (⟨#[]⟩ : ByteArray), (0 : Int)⟩ : Flight), (⟨#[]⟩ : ByteArray), (⟨#[]⟩ : ByteArray)⟩ : Leg), ([] : (List Leg)), (⟨(0 : Int), (0 : Int), (0 : Int)⟩ : Plate), (0 : Int), false, (0 : Int), (0 : Int), (0 : Int), (⟨#[]⟩ : ByteArray), (⟨#[]⟩ : ByteArray), (0 : Int), x_0.Node, ([] : (List Int))⟩ : Message))
    (cond (x_0.Kind == (4 : Int))
    (some (⟨x_0.Kind, (0 : Int), x_0.Port, x_0.Number, (⟨(⟨(⟨#[]⟩ : ByteArray), (0 : Int), (⟨#[]⟩ : ByteArray), (0 : Int)⟩ : Flight), (⟨#[]⟩ : ByteArray), (⟨#[]⟩ : ByteArray)⟩ : Leg), x_0.Out, ([] : (List Leg)), (⟨(0 : Int), (0 : Int), (0 : Int)⟩ : Plate), (0 : Int), false, (0 : Int), (0 : Int), (0 : Int), (⟨#[]⟩ : ByteArray), (⟨#[]⟩ : ByteArray), (0 : Int), (⟨#[]⟩ : ByteArray), ([] : (List Int))⟩ : Message))
    (some (⟨x_0.Kind, (0 : Int), x_0.Port, x_0.Number, (⟨(⟨(⟨#[]⟩ : ByteArray), (0 : Int), (⟨#[]⟩ : ByteArray), (0 : Int)⟩ : Flight), (⟨#[]⟩ : ByteArray), (⟨#[]⟩ : ByteArray)⟩ : Leg), x_0.Out, ([] : (List Leg)), (⟨(0 : Int), (0 : Int), (0 : Int)⟩ : Plate), (0 : Int), false, (0 : Int), (0 : Int), (0 : Int), (⟨#[]⟩ : ByteArray), (⟨#[]⟩ : ByteArray), (0 : Int), (⟨#[]⟩ : ByteArray), x_0.List⟩ : Message)))))

def ref02_Letter (x_0 : Int) : Option (Bool) :=
  cond (decide ((65 : Int) ≤ x_0))
    (some (decide (x_0 ≤ (90 : Int))))
    (some false)

def ref02_ValidPort (x_0 : ByteArray) : Option (Bool) :=
  cond ((x_0.size : Int) == (3 : Int))
    ((ixS x_0 (0 : Int)).bind fun b_1 =>
    (ref02_Letter b_1).bind fun r_2 =>
    cond r_2
    ((ixS x_0 (1 : Int)).bind fun b_3 =>
    (ref02_Letter b_3).bind fun r_4 =>
    cond r_4
    ((ixS x_0 (2 : Int)).bind fun b_5 =>
    (ref02_Letter b_5).bind fun r_6 =>
    some r_6)
    (some false))
    (some false))
    (some false)

def ref02_Digit (x_0 : Int) : Option (Bool) :=
  cond (decide ((48 : Int) ≤ x_0))
    (some (decide (x_0 ≤ (57 : Int))))
    (some false)

def ref02_Carrier (x_0 : ByteArray) : Option (Bool) :=
  cond ((x_0.size : Int) != (2 : Int))
    (some false)
    ((ixS x_0 (0 : Int)).bind fun b_1 =>
    (ref02_Letter b_1).bind fun r_2 =>
    (ixS x_0 (1 : Int)).bind fun b_3 =>
    (ref02_Letter b_3).bind fun r_4 =>
    cond r_2
    (cond r_4
    (some true)
    ((ixS x_0 (1 : Int)).bind fun b_5 =>
    (ref02_Digit b_5).bind fun r_6 =>
    cond r_6
    (some true)
    (some false)))
    ((ixS x_0 (0 : Int)).bind fun b_7 =>
    (ref02_Digit b_7).bind fun r_8 =>
    cond r_8
    (cond r_4
    (some r_4)
    ((ixS x_0 (1 : Int)).bind fun b_9 =>
    (ref02_Digit b_9).bind fun r_10 =>
    cond r_10
    (some r_4)
    (some false)))
    (some false)))

def ref02_Suffix (x_0 : ByteArray) : Option (Bool) :=
  cond (x_0.toList == (⟨#[]⟩ : ByteArray).toList)
    (some true)
    (cond ((x_0.size : Int) == (1 : Int))
    ((ixS x_0 (0 : Int)).bind fun b_1 =>
    (ref02_Letter b_1).bind fun r_2 =>
    some r_2)
    (some false))

def ref02_Valid (x_0 : Flight) : Option (Bool) :=
  (ref02_Carrier x_0.Carrier).bind fun r_1 =>
    cond r_1
    (cond (decide ((1 : Int) ≤ x_0.Number))
    (cond (decide (x_0.Number ≤ (9999 : Int)))
    ((ref02_Suffix x_0.Suffix).bind fun r_2 =>
    cond r_2
    (cond (decide ((0 : Int) ≤ x_0.Day))
    (some (decide (x_0.Day ≤ (99 : Int))))
    (some false))
    (some false))
    (some false))
    (some false))
    (some false)

def ref02_ValidClass (x_0 : ByteArray) : Option (Bool) :=
  cond (x_0.toList == (⟨#[70]⟩ : ByteArray).toList)
    (some true)
    (cond (x_0.toList == (⟨#[67]⟩ : ByteArray).toList)
    (some true)
    (some (x_0.toList == (⟨#[89]⟩ : ByteArray).toList)))

def ref02_ValidLeg (x_0 : Leg) : Option (Bool) :=
  (ref02_Valid x_0.Flight).bind fun r_1 =>
    cond r_1
    ((ref02_ValidPort x_0.Port).bind fun r_2 =>
    cond r_2
    ((ref02_ValidClass x_0.Class).bind fun r_3 =>
    some r_3)
    (some false))
    (some false)

def ref04_letters_L1 (x_0 : ByteArray) : Nat → Int → Option (Ctl (Bool) (Unit))
  | 0, _ => none
  | q_4 + 1, i_1 => cond (decide (i_1 < (x_0.size : Int)))
    ((ixS x_0 i_1).bind fun b_2 =>
    (ref02_Letter b_2).bind fun r_3 =>
    cond (!r_3)
    (some (Ctl.ret false))
    (ref04_letters_L1 x_0 q_4 (w64 (i_1 + (1 : Int)))))
    (some (Ctl.brk ()))
def ref04_letters (x_0 : ByteArray) (x_1 : Int) : Option (Bool) :=
  Ctl.fin (ref04_letters_L1 x_0 9223372036854775808 (0 : Int)) fun z_5 =>
    cond (decide (x_1 ≤ (x_0.size : Int)))
    (some (decide ((x_0.size : Int) ≤ (20 : Int))))
    (some false)

def ref04_Name_L1 (x_0 : ByteArray) : Nat → Int → Option (Ctl (Bool) (Unit))
  | 0, _ => none
  | q_8 + 1, i_3 => cond (decide (i_3 < (x_0.size : Int)))
    ((ixS x_0 i_3).bind fun b_4 =>
    (ref02_Letter b_4).bind fun r_5 =>
    cond (!r_5)
    ((ixS x_0 i_3).bind fun b_6 =>
    (ref02_Digit b_6).bind fun r_7 =>
    cond (!r_7)
    (some (Ctl.ret false))
    (ref04_Name_L1 x_0 q_8 (w64 (i_3 + (1 : Int)))))
    (ref04_Name_L1 x_0 q_8 (w64 (i_3 + (1 : Int)))))
    (some (Ctl.brk ()))
def ref04_Name (x_0 : ByteArray) : Option (Bool) :=
  cond (decide ((x_0.size : Int) < (1 : Int)))
    (some false)
    (cond (decide ((12 : Int) < (x_0.size : Int)))
    (some false)
    ((ixS x_0 (0 : Int)).bind fun b_1 =>
    (ref02_Letter b_1).bind fun r_2 =>
    cond (!r_2)
    (some false)
    (Ctl.fin (ref04_Name_L1 x_0 9223372036854775807 (0 : Int)) fun z_9 =>
    some true)))

def ref04_spelled_L1 : (List Leg) → Nat → Option (Ctl (Bool) (Unit))
  | [], k_5 => some (Ctl.brk ())
  | e_6 :: q_8, k_5 => (ref02_ValidLeg e_6).bind fun r_7 =>
    cond (!r_7)
    (some (Ctl.ret false))
    (ref04_spelled_L1 q_8 (k_5 + 1))
def ref04_spelled (x_0 : Message) : Option (Bool) :=
  (ref02_ValidPort x_0.Port).bind fun r_1 =>
    cond (!r_1)
    (some false)
    (cond (x_0.Kind != (3 : Int))
    ((ref02_ValidLeg x_0.Out).bind fun r_2 =>
    cond (!r_2)
    (some false)
    (cond (x_0.Kind == (2 : Int))
    ((ref02_ValidLeg x_0.In).bind fun r_3 =>
    cond (!r_3)
    (some false)
    (Ctl.fin (ref04_spelled_L1 x_0.Onward 0) fun z_9 =>
    (ref04_Bag x_0.Kind).bind fun r_10 =>
    cond (!r_10)
    (some true)
    ((ref04_letters x_0.Surname (1 : Int)).bind fun r_11 =>
    cond r_11
    ((ref04_letters x_0.Given (0 : Int)).bind fun r_12 =>
    some r_12)
    (some false))))
    (cond (x_0.Kind == (3 : Int))
    ((ref04_Name x_0.Node).bind fun r_13 =>
    cond (!r_13)
    (some false)
    (Ctl.fin (ref04_spelled_L1 x_0.Onward 0) fun z_19 =>
    (ref04_Bag x_0.Kind).bind fun r_20 =>
    cond (!r_20)
    (some true)
    ((ref04_letters x_0.Surname (1 : Int)).bind fun r_21 =>
    cond r_21
    ((ref04_letters x_0.Given (0 : Int)).bind fun r_22 =>
    some r_22)
    (some false))))
    (Ctl.fin (ref04_spelled_L1 x_0.Onward 0) fun z_28 =>
    (ref04_Bag x_0.Kind).bind fun r_29 =>
    cond (!r_29)
    (some true)
    ((ref04_letters x_0.Surname (1 : Int)).bind fun r_30 =>
    cond r_30
    ((ref04_letters x_0.Given (0 : Int)).bind fun r_31 =>
    some r_31)
    (some false))))))
    (cond (x_0.Kind == (2 : Int))
    ((ref02_ValidLeg x_0.In).bind fun r_32 =>
    cond (!r_32)
    (some false)
    (Ctl.fin (ref04_spelled_L1 x_0.Onward 0) fun z_38 =>
    (ref04_Bag x_0.Kind).bind fun r_39 =>
    cond (!r_39)
    (some true)
    ((ref04_letters x_0.Surname (1 : Int)).bind fun r_40 =>
    cond r_40
    ((ref04_letters x_0.Given (0 : Int)).bind fun r_41 =>
    some r_41)
    (some false))))
    (cond (x_0.Kind == (3 : Int))
    ((ref04_Name x_0.Node).bind fun r_42 =>
    cond (!r_42)
    (some false)
    (Ctl.fin (ref04_spelled_L1 x_0.Onward 0) fun z_48 =>
    (ref04_Bag x_0.Kind).bind fun r_49 =>
    cond (!r_49)
    (some true)
    ((ref04_letters x_0.Surname (1 : Int)).bind fun r_50 =>
    cond r_50
    ((ref04_letters x_0.Given (0 : Int)).bind fun r_51 =>
    some r_51)
    (some false))))
    (Ctl.fin (ref04_spelled_L1 x_0.Onward 0) fun z_57 =>
    (ref04_Bag x_0.Kind).bind fun r_58 =>
    cond (!r_58)
    (some true)
    ((ref04_letters x_0.Surname (1 : Int)).bind fun r_59 =>
    cond r_59
    ((ref04_letters x_0.Given (0 : Int)).bind fun r_60 =>
    some r_60)
    (some false))))))

def ref01_Valid (x_0 : Plate) : Option (Bool) :=
  cond (decide ((0 : Int) ≤ x_0.Lead))
    (cond (decide (x_0.Lead ≤ (9 : Int)))
    (cond (decide ((1 : Int) ≤ x_0.Airline))
    (cond (decide (x_0.Airline ≤ (999 : Int)))
    (cond (decide ((0 : Int) ≤ x_0.Serial))
    (some (decide (x_0.Serial ≤ (999999 : Int))))
    (some false))
    (some false))
    (some false))
    (some false))
    (some false)

def ref04_counted_L1 : (List Int) → Nat → Option (Ctl (Bool) (Unit))
  | [], k_11 => some (Ctl.brk ())
  | e_12 :: q_14, k_11 => (ref04_in e_12 (1 : Int) (999 : Int)).bind fun r_13 =>
    cond (!r_13)
    (some (Ctl.ret false))
    (ref04_counted_L1 q_14 (k_11 + 1))
def ref04_counted (x_0 : Message) : Option (Bool) :=
  (ref04_in x_0.Number (1 : Int) (9999 : Int)).bind fun r_1 =>
    cond (!r_1)
    (some false)
    (cond (x_0.Kind != (5 : Int))
    ((ref01_Valid x_0.First).bind fun r_2 =>
    cond (!r_2)
    (some false)
    ((ref04_in x_0.Count (1 : Int) (99 : Int)).bind fun r_3 =>
    cond (!r_3)
    (some false)
    ((ref04_Bag x_0.Kind).bind fun r_4 =>
    cond r_4
    ((ref04_in x_0.Do (0 : Int) (2 : Int)).bind fun r_5 =>
    cond (!r_5)
    (some false)
    ((ref04_in x_0.Status (1 : Int) (4 : Int)).bind fun r_6 =>
    cond (!r_6)
    (some false)
    ((ref04_in x_0.Sequence (1 : Int) (999 : Int)).bind fun r_7 =>
    cond (!r_7)
    (some false)
    ((ref04_in x_0.Weight (0 : Int) (999 : Int)).bind fun r_8 =>
    cond (!r_8)
    (some false)
    ((ref04_in x_0.Exception (0 : Int) (3 : Int)).bind fun r_9 =>
    cond (!r_9)
    (some false)
    (Ctl.fin (ref04_counted_L1 x_0.List 0) fun z_15 =>
    some true))))))
    (Ctl.fin (ref04_counted_L1 x_0.List 0) fun z_21 =>
    some true))))
    ((ref04_Bag x_0.Kind).bind fun r_22 =>
    cond r_22
    ((ref04_in x_0.Do (0 : Int) (2 : Int)).bind fun r_23 =>
    cond (!r_23)
    (some false)
    ((ref04_in x_0.Status (1 : Int) (4 : Int)).bind fun r_24 =>
    cond (!r_24)
    (some false)
    ((ref04_in x_0.Sequence (1 : Int) (999 : Int)).bind fun r_25 =>
    cond (!r_25)
    (some false)
    ((ref04_in x_0.Weight (0 : Int) (999 : Int)).bind fun r_26 =>
    cond (!r_26)
    (some false)
    ((ref04_in x_0.Exception (0 : Int) (3 : Int)).bind fun r_27 =>
    cond (!r_27)
    (some false)
    (Ctl.fin (ref04_counted_L1 x_0.List 0) fun z_33 =>
    some true))))))
    (Ctl.fin (ref04_counted_L1 x_0.List 0) fun z_39 =>
    some true)))

def ref04_Validate_L1 (x_0 : Message) : Nat → Int → Option (Ctl (Int) (Unit))
  | 0, _ => none
  | q_9 + 1, i_6 => cond (decide (i_6 < (x_0.List.length : Int)))
    ((ixL x_0.List i_6).bind fun e_7 =>
    (ixL x_0.List (w64 (i_6 - (1 : Int)))).bind fun e_8 =>
    cond (decide (e_7 ≤ e_8))
    (some (Ctl.ret (9 : Int)))
    (ref04_Validate_L1 x_0 q_9 (w64 (i_6 + (1 : Int)))))
    (some (Ctl.brk ()))
def ref04_Validate (x_0 : Message) : Option (Int) :=
  (ref04_in x_0.Kind (1 : Int) (5 : Int)).bind fun r_1 =>
    cond (!r_1)
    (some (4 : Int))
    ((ref04_own x_0).bind fun r_2 =>
    (ref04_Same x_0 r_2).bind fun r_3 =>
    cond (!r_3)
    (some (7 : Int))
    (cond (decide ((3 : Int) < (x_0.Onward.length : Int)))
    (some (2 : Int))
    (cond (decide ((40 : Int) < (x_0.List.length : Int)))
    (some (2 : Int))
    ((ref04_spelled x_0).bind fun r_4 =>
    cond (!r_4)
    (some (3 : Int))
    ((ref04_counted x_0).bind fun r_5 =>
    cond (!r_5)
    (some (1 : Int))
    (Ctl.fin (ref04_Validate_L1 x_0 9223372036854775807 (1 : Int)) fun z_10 =>
    some (0 : Int)))))))

def ref05_hold_L1 (x_1 : Message) : (List Message) → Nat → Option (Ctl (Sender) (Int))
  | [], k_2 => some (Ctl.brk (k_2 : Int))
  | e_3 :: q_4, k_2 => cond (decide (e_3.Number < x_1.Number))
    (ref05_hold_L1 x_1 q_4 (k_2 + 1))
    (some (Ctl.brk (k_2 : Int)))
def ref05_hold (x_0 : Sender) (x_1 : Message) : Option (Sender) :=
  Ctl.fin (ref05_hold_L1 x_1 x_0.Held 0) fun z_5 =>
    (slL x_0.Held 0 z_5).bind fun l_6 =>
    (apL ([] : List Message) l_6).bind fun l_7 =>
    (apL l_7 ([x_1] : List Message)).bind fun l_8 =>
    (slL x_0.Held z_5 (x_0.Held.length : Int)).bind fun l_9 =>
    (apL l_8 l_9).bind fun l_10 =>
    some (⟨x_0.Port, x_0.Next, l_10⟩ : Sender)

def ref05_Receive (x_0 : Inbox) (x_1 : Message) : Option (Inbox × (List Message) × Int × Int) :=
  (ref04_Validate x_1).bind fun r_1 =>
    cond (r_1 != (0 : Int))
    (some ((⟨(0 : Int), ([] : (List Sender))⟩ : Inbox), ([] : (List Message)), (0 : Int), r_1))
    ((ref05_Sender x_0 x_1.Port).bind fun r_2 =>
    cond (decide (x_1.Number < r_2.1.Next))
    (some (x_0, ([] : (List Message)), (3 : Int), (0 : Int)))
    (cond (decide (x_0.Window ≤ (w64 (x_1.Number - r_2.1.Next))))
    (some (x_0, ([] : (List Message)), (4 : Int), (0 : Int)))
    ((ref05_held r_2.1 x_1.Number).bind fun r_3 =>
    cond (decide ((0 : Int) ≤ r_3))
    ((ixL r_2.1.Held r_3).bind fun e_4 =>
    (ref04_Same e_4 x_1).bind fun r_5 =>
    cond r_5
    (some (x_0, ([] : (List Message)), (3 : Int), (0 : Int)))
    (some (x_0, ([] : (List Message)), (5 : Int), (0 : Int))))
    (cond (!r_2.2)
    (cond (decide ((16 : Int) ≤ (x_0.L.length : Int)))
    (some ((⟨(0 : Int), ([] : (List Sender))⟩ : Inbox), ([] : (List Message)), (0 : Int), (2 : Int)))
    (cond (x_1.Number == r_2.1.Next)
    ((ref05_hold r_2.1 x_1).bind fun r_6 =>
    (ref05_release r_6).bind fun r_7 =>
    (ref05_set x_0 r_7.1).bind fun r_8 =>
    some (r_8, r_7.2, (1 : Int), (0 : Int)))
    ((ref05_hold r_2.1 x_1).bind fun r_9 =>
    (ref05_release r_9).bind fun r_10 =>
    (ref05_set x_0 r_10.1).bind fun r_11 =>
    some (r_11, r_10.2, (2 : Int), (0 : Int)))))
    (cond (x_1.Number == r_2.1.Next)
    ((ref05_hold r_2.1 x_1).bind fun r_12 =>
    (ref05_release r_12).bind fun r_13 =>
    (ref05_set x_0 r_13.1).bind fun r_14 =>
    some (r_14, r_13.2, (1 : Int), (0 : Int)))
    ((ref05_hold r_2.1 x_1).bind fun r_15 =>
    (ref05_release r_15).bind fun r_16 =>
    (ref05_set x_0 r_16.1).bind fun r_17 =>
    some (r_17, r_16.2, (2 : Int), (0 : Int))))))))

def keep_Src_More (x_0 : Src) : Option (Bool) :=
  some (decide (x_0.At < (x_0.L.length : Int)))

def law05_InboxScript_L1 : (List Int) → Nat → Option (Ctl (Bool) (Unit))
  | [], k_6 => some (Ctl.brk ())
  | e_7 :: q_11, k_6 => (inbox_New e_7).bind fun r_8 =>
    (ref05_New e_7).bind fun r_9 =>
    cond (r_8.2 != r_9.2)
    (some (Ctl.ret false))
    ((ref05_Same r_8.1 r_9.1).bind fun r_10 =>
    cond (!r_10)
    (some (Ctl.ret false))
    (law05_InboxScript_L1 q_11 (k_6 + 1)))
def law05_InboxScript_L2 (x_2 : Message) : Nat → (List Int) → Int → Int → (List Sender) → Int → (List Sender) → Int → Option (Ctl (Bool) (Unit))
  | 0, _, _, _, _, _, _, _ => none
  | q_77 + 1, a_15, i_16, i_17, a_18, i_19, a_20, i_21 => cond (decide (i_21 < (30 : Int)))
    (cond (decide (i_21 < (3 : Int)))
    ((keep_Src_Message (⟨a_15, i_16⟩ : Src) (0 : Int)).bind fun r_22 =>
    cond (i_21 == (2 : Int))
    ((keep_Src_N r_22.2 (6 : Int)).bind fun r_23 =>
    cond (r_23.1 == (0 : Int))
    ((keep_Src_Text r_23.2 ([(⟨#[65, 82, 78]⟩ : ByteArray), (⟨#[67, 80, 72]⟩ : ByteArray), (⟨#[79, 83, 76]⟩ : ByteArray)] : List ByteArray)).bind fun r_24 =>
    (inbox_Missing (⟨i_17, a_18⟩ : Inbox) r_24.1).bind fun r_25 =>
    (ref05_Missing (⟨i_19, a_20⟩ : Inbox) r_24.1).bind fun r_26 =>
    (keep_Ints r_25 r_26).bind fun r_27 =>
    cond (!r_27)
    (some (Ctl.ret false))
    ((inbox_Skip (⟨i_17, a_18⟩ : Inbox) r_24.1).bind fun r_28 =>
    (ref05_Skip (⟨i_19, a_20⟩ : Inbox) r_24.1).bind fun r_29 =>
    cond (r_28.2.2 != r_29.2.2)
    (some (Ctl.ret false))
    ((ref05_Same r_28.1 r_29.1).bind fun r_30 =>
    cond (!r_30)
    (some (Ctl.ret false))
    ((ref05_SameList r_28.2.1 r_29.2.1).bind fun r_31 =>
    cond (!r_31)
    (some (Ctl.ret false))
    (cond (r_29.2.2 == (0 : Int))
    (law05_InboxScript_L2 x_2 q_77 r_24.2.L r_24.2.At r_28.1.Window r_28.1.L r_29.1.Window r_29.1.L (w64 (i_21 + (1 : Int))))
    (law05_InboxScript_L2 x_2 q_77 r_24.2.L r_24.2.At i_17 a_18 i_19 a_20 (w64 (i_21 + (1 : Int)))))))))
    ((inbox_Receive (⟨i_17, a_18⟩ : Inbox) x_2).bind fun r_32 =>
    (ref05_Receive (⟨i_19, a_20⟩ : Inbox) x_2).bind fun r_33 =>
    cond (r_32.2.2.2 != r_33.2.2.2)
    (some (Ctl.ret false))
    (cond (r_32.2.2.1 != r_33.2.2.1)
    (some (Ctl.ret false))
    ((ref05_Same r_32.1 r_33.1).bind fun r_34 =>
    cond (!r_34)
    (some (Ctl.ret false))
    ((ref05_SameList r_32.2.1 r_33.2.1).bind fun r_35 =>
    cond (!r_35)
    (some (Ctl.ret false))
    (cond (r_33.2.2.2 == (0 : Int))
    (law05_InboxScript_L2 x_2 q_77 r_23.2.L r_23.2.At r_32.1.Window r_32.1.L r_33.1.Window r_33.1.L (w64 (i_21 + (1 : Int))))
    (law05_InboxScript_L2 x_2 q_77 r_23.2.L r_23.2.At i_17 a_18 i_19 a_20 (w64 (i_21 + (1 : Int))))))))))
    ((keep_Src_N r_22.2 (6 : Int)).bind fun r_36 =>
    cond (r_36.1 == (0 : Int))
    ((keep_Src_Text r_36.2 ([(⟨#[65, 82, 78]⟩ : ByteArray), (⟨#[67, 80, 72]⟩ : ByteArray), (⟨#[79, 83, 76]⟩ : ByteArray)] : List ByteArray)).bind fun r_37 =>
    (inbox_Missing (⟨i_17, a_18⟩ : Inbox) r_37.1).bind fun r_38 =>
    (ref05_Missing (⟨i_19, a_20⟩ : Inbox) r_37.1).bind fun r_39 =>
    (keep_Ints r_38 r_39).bind fun r_40 =>
    cond (!r_40)
    (some (Ctl.ret false))
    ((inbox_Skip (⟨i_17, a_18⟩ : Inbox) r_37.1).bind fun r_41 =>
    (ref05_Skip (⟨i_19, a_20⟩ : Inbox) r_37.1).bind fun r_42 =>
    cond (r_41.2.2 != r_42.2.2)
    (some (Ctl.ret false))
    ((ref05_Same r_41.1 r_42.1).bind fun r_43 =>
    cond (!r_43)
    (some (Ctl.ret false))
    ((ref05_SameList r_41.2.1 r_42.2.1).bind fun r_44 =>
    cond (!r_44)
    (some (Ctl.ret false))
    (cond (r_42.2.2 == (0 : Int))
    (law05_InboxScript_L2 x_2 q_77 r_37.2.L r_37.2.At r_41.1.Window r_41.1.L r_42.1.Window r_42.1.L (w64 (i_21 + (1 : Int))))
    (law05_InboxScript_L2 x_2 q_77 r_37.2.L r_37.2.At i_17 a_18 i_19 a_20 (w64 (i_21 + (1 : Int)))))))))
    ((inbox_Receive (⟨i_17, a_18⟩ : Inbox) r_22.1).bind fun r_45 =>
    (ref05_Receive (⟨i_19, a_20⟩ : Inbox) r_22.1).bind fun r_46 =>
    cond (r_45.2.2.2 != r_46.2.2.2)
    (some (Ctl.ret false))
    (cond (r_45.2.2.1 != r_46.2.2.1)
    (some (Ctl.ret false))
    ((ref05_Same r_45.1 r_46.1).bind fun r_47 =>
    cond (!r_47)
    (some (Ctl.ret false))
    ((ref05_SameList r_45.2.1 r_46.2.1).bind fun r_48 =>
    cond (!r_48)
    (some (Ctl.ret false))
    (cond (r_46.2.2.2 == (0 : Int))
    (law05_InboxScript_L2 x_2 q_77 r_36.2.L r_36.2.At r_45.1.Window r_45.1.L r_46.1.Window r_46.1.L (w64 (i_21 + (1 : Int))))
    (law05_InboxScript_L2 x_2 q_77 r_36.2.L r_36.2.At i_17 a_18 i_19 a_20 (w64 (i_21 + (1 : Int)))))))))))
    ((keep_Src_More (⟨a_15, i_16⟩ : Src)).bind fun r_49 =>
    cond r_49
    ((keep_Src_Message (⟨a_15, i_16⟩ : Src) (0 : Int)).bind fun r_50 =>
    cond (i_21 == (2 : Int))
    ((keep_Src_N r_50.2 (6 : Int)).bind fun r_51 =>
    cond (r_51.1 == (0 : Int))
    ((keep_Src_Text r_51.2 ([(⟨#[65, 82, 78]⟩ : ByteArray), (⟨#[67, 80, 72]⟩ : ByteArray), (⟨#[79, 83, 76]⟩ : ByteArray)] : List ByteArray)).bind fun r_52 =>
    (inbox_Missing (⟨i_17, a_18⟩ : Inbox) r_52.1).bind fun r_53 =>
    (ref05_Missing (⟨i_19, a_20⟩ : Inbox) r_52.1).bind fun r_54 =>
    (keep_Ints r_53 r_54).bind fun r_55 =>
    cond (!r_55)
    (some (Ctl.ret false))
    ((inbox_Skip (⟨i_17, a_18⟩ : Inbox) r_52.1).bind fun r_56 =>
    (ref05_Skip (⟨i_19, a_20⟩ : Inbox) r_52.1).bind fun r_57 =>
    cond (r_56.2.2 != r_57.2.2)
    (some (Ctl.ret false))
    ((ref05_Same r_56.1 r_57.1).bind fun r_58 =>
    cond (!r_58)
    (some (Ctl.ret false))
    ((ref05_SameList r_56.2.1 r_57.2.1).bind fun r_59 =>
    cond (!r_59)
    (some (Ctl.ret false))
    (cond (r_57.2.2 == (0 : Int))
    (law05_InboxScript_L2 x_2 q_77 r_52.2.L r_52.2.At r_56.1.Window r_56.1.L r_57.1.Window r_57.1.L (w64 (i_21 + (1 : Int))))
    (law05_InboxScript_L2 x_2 q_77 r_52.2.L r_52.2.At i_17 a_18 i_19 a_20 (w64 (i_21 + (1 : Int)))))))))
    ((inbox_Receive (⟨i_17, a_18⟩ : Inbox) x_2).bind fun r_60 =>
    (ref05_Receive (⟨i_19, a_20⟩ : Inbox) x_2).bind fun r_61 =>
    cond (r_60.2.2.2 != r_61.2.2.2)
    (some (Ctl.ret false))
    (cond (r_60.2.2.1 != r_61.2.2.1)
    (some (Ctl.ret false))
    ((ref05_Same r_60.1 r_61.1).bind fun r_62 =>
    cond (!r_62)
    (some (Ctl.ret false))
    ((ref05_SameList r_60.2.1 r_61.2.1).bind fun r_63 =>
    cond (!r_63)
    (some (Ctl.ret false))
    (cond (r_61.2.2.2 == (0 : Int))
    (law05_InboxScript_L2 x_2 q_77 r_51.2.L r_51.2.At r_60.1.Window r_60.1.L r_61.1.Window r_61.1.L (w64 (i_21 + (1 : Int))))
    (law05_InboxScript_L2 x_2 q_77 r_51.2.L r_51.2.At i_17 a_18 i_19 a_20 (w64 (i_21 + (1 : Int))))))))))
    ((keep_Src_N r_50.2 (6 : Int)).bind fun r_64 =>
    cond (r_64.1 == (0 : Int))
    ((keep_Src_Text r_64.2 ([(⟨#[65, 82, 78]⟩ : ByteArray), (⟨#[67, 80, 72]⟩ : ByteArray), (⟨#[79, 83, 76]⟩ : ByteArray)] : List ByteArray)).bind fun r_65 =>
    (inbox_Missing (⟨i_17, a_18⟩ : Inbox) r_65.1).bind fun r_66 =>
    (ref05_Missing (⟨i_19, a_20⟩ : Inbox) r_65.1).bind fun r_67 =>
    (keep_Ints r_66 r_67).bind fun r_68 =>
    cond (!r_68)
    (some (Ctl.ret false))
    ((inbox_Skip (⟨i_17, a_18⟩ : Inbox) r_65.1).bind fun r_69 =>
    (ref05_Skip (⟨i_19, a_20⟩ : Inbox) r_65.1).bind fun r_70 =>
    cond (r_69.2.2 != r_70.2.2)
    (some (Ctl.ret false))
    ((ref05_Same r_69.1 r_70.1).bind fun r_71 =>
    cond (!r_71)
    (some (Ctl.ret false))
    ((ref05_SameList r_69.2.1 r_70.2.1).bind fun r_72 =>
    cond (!r_72)
    (some (Ctl.ret false))
    (cond (r_70.2.2 == (0 : Int))
    (law05_InboxScript_L2 x_2 q_77 r_65.2.L r_65.2.At r_69.1.Window r_69.1.L r_70.1.Window r_70.1.L (w64 (i_21 + (1 : Int))))
    (law05_InboxScript_L2 x_2 q_77 r_65.2.L r_65.2.At i_17 a_18 i_19 a_20 (w64 (i_21 + (1 : Int)))))))))
    ((inbox_Receive (⟨i_17, a_18⟩ : Inbox) r_50.1).bind fun r_73 =>
    (ref05_Receive (⟨i_19, a_20⟩ : Inbox) r_50.1).bind fun r_74 =>
    cond (r_73.2.2.2 != r_74.2.2.2)
    (some (Ctl.ret false))
    (cond (r_73.2.2.1 != r_74.2.2.1)
    (some (Ctl.ret false))
    ((ref05_Same r_73.1 r_74.1).bind fun r_75 =>
    cond (!r_75)
    (some (Ctl.ret false))
    ((ref05_SameList r_73.2.1 r_74.2.1).bind fun r_76 =>
    cond (!r_76)
    (some (Ctl.ret false))
    (cond (r_74.2.2.2 == (0 : Int))
    (law05_InboxScript_L2 x_2 q_77 r_64.2.L r_64.2.At r_73.1.Window r_73.1.L r_74.1.Window r_74.1.L (w64 (i_21 + (1 : Int))))
    (law05_InboxScript_L2 x_2 q_77 r_64.2.L r_64.2.At i_17 a_18 i_19 a_20 (w64 (i_21 + (1 : Int)))))))))))
    (some (Ctl.brk ()))))
    (some (Ctl.brk ()))
def law05_InboxScript (x_0 : Int) (x_1 : (List Int)) (x_2 : Message) : Option (Bool) :=
  cond (decide ((20 : Int) < (x_2.Onward.length : Int)))
    ((law05_awake).bind fun r_1 =>
    some r_1)
    (cond (decide ((100 : Int) < (x_2.List.length : Int)))
    ((law05_awake).bind fun r_2 =>
    some r_2)
    ((keep_New x_1).bind fun r_3 =>
    (keep_Src_Range r_3 (0 : Int) (9 : Int)).bind fun r_4 =>
    Ctl.fin (law05_InboxScript_L1 ([x_0, r_4.1] : List Int) 0) fun z_12 =>
    (keep_Src_Range r_4.2 (1 : Int) (4 : Int)).bind fun r_13 =>
    (inbox_New r_13.1).bind fun r_14 =>
    Ctl.fin (law05_InboxScript_L2 x_2 9223372036854775807 r_13.2.L r_13.2.At r_14.1.Window r_14.1.L r_14.1.Window r_14.1.L (0 : Int)) fun z_78 =>
    (law05_awake).bind fun r_79 =>
    some r_79))

def law05_InboxSenders_L1 : Nat → (List Int) → Int → Int → (List Sender) → Int → Int → (List Sender) → Option (Ctl (Bool) (Int × (List Sender) × Int × (List Sender)))
  | 0, _, _, _, _, _, _, _ => none
  | q_19 + 1, a_3, i_4, i_5, a_6, i_9, i_7, a_8 => cond (decide (i_9 < (30 : Int)))
    (cond (decide (i_9 < (4 : Int)))
    ((keep_Src_Message (⟨a_3, i_4⟩ : Src) (0 : Int)).bind fun r_10 =>
    (inbox_Receive (⟨i_5, a_6⟩ : Inbox) r_10.1).bind fun r_11 =>
    cond (r_11.2.2.2 != (0 : Int))
    (some (Ctl.ret false))
    (cond (!(r_10.1.Port.toList == (⟨#[65, 82, 78]⟩ : ByteArray).toList))
    (law05_InboxSenders_L1 q_19 r_10.2.L r_10.2.At r_11.1.Window r_11.1.L (w64 (i_9 + (1 : Int))) i_7 a_8)
    ((inbox_Receive (⟨i_7, a_8⟩ : Inbox) r_10.1).bind fun r_12 =>
    cond (r_12.2.2.2 != (0 : Int))
    (some (Ctl.ret false))
    ((ref05_SameList r_11.2.1 r_12.2.1).bind fun r_13 =>
    cond (!r_13)
    (some (Ctl.ret false))
    (law05_InboxSenders_L1 q_19 r_10.2.L r_10.2.At r_11.1.Window r_11.1.L (w64 (i_9 + (1 : Int))) r_12.1.Window r_12.1.L)))))
    ((keep_Src_More (⟨a_3, i_4⟩ : Src)).bind fun r_14 =>
    cond r_14
    ((keep_Src_Message (⟨a_3, i_4⟩ : Src) (0 : Int)).bind fun r_15 =>
    (inbox_Receive (⟨i_5, a_6⟩ : Inbox) r_15.1).bind fun r_16 =>
    cond (r_16.2.2.2 != (0 : Int))
    (some (Ctl.ret false))
    (cond (!(r_15.1.Port.toList == (⟨#[65, 82, 78]⟩ : ByteArray).toList))
    (law05_InboxSenders_L1 q_19 r_15.2.L r_15.2.At r_16.1.Window r_16.1.L (w64 (i_9 + (1 : Int))) i_7 a_8)
    ((inbox_Receive (⟨i_7, a_8⟩ : Inbox) r_15.1).bind fun r_17 =>
    cond (r_17.2.2.2 != (0 : Int))
    (some (Ctl.ret false))
    ((ref05_SameList r_16.2.1 r_17.2.1).bind fun r_18 =>
    cond (!r_18)
    (some (Ctl.ret false))
    (law05_InboxSenders_L1 q_19 r_15.2.L r_15.2.At r_16.1.Window r_16.1.L (w64 (i_9 + (1 : Int))) r_17.1.Window r_17.1.L)))))
    (some (Ctl.brk (i_5, a_6, i_7, a_8)))))
    (some (Ctl.brk (i_5, a_6, i_7, a_8)))
def law05_InboxSenders (x_0 : (List Int)) : Option (Bool) :=
  (keep_New x_0).bind fun r_1 =>
    (inbox_New (3 : Int)).bind fun r_2 =>
    cond (r_2.2 != (0 : Int))
    (some false)
    (Ctl.fin (law05_InboxSenders_L1 9223372036854775807 r_1.L r_1.At r_2.1.Window r_2.1.L (0 : Int) r_2.1.Window r_2.1.L) fun z_20 =>
    (inbox_Missing (⟨z_20.1, z_20.2.1⟩ : Inbox) (⟨#[65, 82, 78]⟩ : ByteArray)).bind fun r_21 =>
    (inbox_Missing (⟨z_20.2.2.1, z_20.2.2.2⟩ : Inbox) (⟨#[65, 82, 78]⟩ : ByteArray)).bind fun r_22 =>
    (keep_Ints r_21 r_22).bind fun r_23 =>
    cond r_23
    ((law05_awake).bind fun r_24 =>
    some r_24)
    (some false))

def law05_InboxGaps_L1 (x_0 : Int) : Nat → Int → (List Sender) → Int → Int → Option (Ctl (Bool) (Int × (List Sender) × Int))
  | 0, _, _, _, _ => none
  | q_9 + 1, i_2, a_3, i_4, i_5 => cond (decide (i_5 ≤ (8 : Int)))
    ((ng (IntKind.u64.wrap i_5)).bind fun u_6 =>
    cond ((andF .i64 (shrF .i64 x_0 (IntKind.u64.wrap i_5)) (1 : Int)) == (1 : Int))
    ((law05_numbered (⟨#[67, 80, 72]⟩ : ByteArray) i_5).bind fun r_7 =>
    (inbox_Receive (⟨i_2, a_3⟩ : Inbox) r_7).bind fun r_8 =>
    cond (r_8.2.2.2 != (0 : Int))
    (some (Ctl.ret false))
    (cond (r_8.2.2.1 != (2 : Int))
    (some (Ctl.ret false))
    (cond (decide ((0 : Int) < (r_8.2.1.length : Int)))
    (some (Ctl.ret false))
    (law05_InboxGaps_L1 x_0 q_9 r_8.1.Window r_8.1.L i_5 (w64 (i_5 + (1 : Int)))))))
    (law05_InboxGaps_L1 x_0 q_9 i_2 a_3 i_4 (w64 (i_5 + (1 : Int)))))
    (some (Ctl.brk (i_2, a_3, i_4)))
def law05_InboxGaps_L2 (x_0 : Int) (z_10 : Int × (List Sender) × Int) : Nat → (List Int) → Int → Option (Ctl (Bool) ((List Int)))
  | 0, _, _ => none
  | q_16 + 1, a_11, i_12 => cond (decide (i_12 < z_10.2.2))
    (cond (i_12 == (1 : Int))
    ((apL a_11 ([i_12] : List Int)).bind fun l_13 =>
    law05_InboxGaps_L2 x_0 z_10 q_16 l_13 (w64 (i_12 + (1 : Int))))
    ((ng (IntKind.u64.wrap i_12)).bind fun u_14 =>
    cond ((andF .i64 (shrF .i64 x_0 (IntKind.u64.wrap i_12)) (1 : Int)) == (0 : Int))
    ((apL a_11 ([i_12] : List Int)).bind fun l_15 =>
    law05_InboxGaps_L2 x_0 z_10 q_16 l_15 (w64 (i_12 + (1 : Int))))
    (law05_InboxGaps_L2 x_0 z_10 q_16 a_11 (w64 (i_12 + (1 : Int))))))
    (some (Ctl.brk a_11))
def law05_InboxGaps_L3 (x_0 : Int) : Nat → Int → Option (Ctl (Bool) (Int))
  | 0, _ => none
  | q_24 + 1, i_22 => (ng (IntKind.u64.wrap i_22)).bind fun u_23 =>
    cond ((andF .i64 (shrF .i64 x_0 (IntKind.u64.wrap i_22)) (1 : Int)) == (0 : Int))
    (law05_InboxGaps_L3 x_0 q_24 (w64 (i_22 + (1 : Int))))
    (some (Ctl.brk i_22))
def law05_InboxGaps (x_0 : Int) : Option (Bool) :=
  (inbox_New (8 : Int)).bind fun r_1 =>
    cond (r_1.2 != (0 : Int))
    (some false)
    (Ctl.fin (law05_InboxGaps_L1 x_0 9223372036854775807 r_1.1.Window r_1.1.L (0 : Int) (2 : Int)) fun z_10 =>
    Ctl.fin (law05_InboxGaps_L2 x_0 z_10 9223372036854775807 ([] : List Int) (1 : Int)) fun z_17 =>
    (inbox_Missing (⟨z_10.1, z_10.2.1⟩ : Inbox) (⟨#[67, 80, 72]⟩ : ByteArray)).bind fun r_18 =>
    (keep_Ints r_18 z_17).bind fun r_19 =>
    cond (!r_19)
    (some false)
    ((inbox_Skip (⟨z_10.1, z_10.2.1⟩ : Inbox) (⟨#[67, 80, 72]⟩ : ByteArray)).bind fun r_20 =>
    cond (z_10.2.2 == (0 : Int))
    (cond (r_20.2.2 == (6 : Int))
    ((law05_awake).bind fun r_21 =>
    some r_21)
    (some false))
    (Ctl.fin (law05_InboxGaps_L3 x_0 9223372036854775807 (2 : Int)) fun z_25 =>
    cond (r_20.2.2 == (0 : Int))
    (cond (decide ((1 : Int) ≤ (r_20.2.1.length : Int)))
    ((ixL r_20.2.1 (0 : Int)).bind fun e_26 =>
    cond (e_26.Number == z_25)
    ((ixL r_20.2.1 (w64 ((r_20.2.1.length : Int) - (1 : Int)))).bind fun e_27 =>
    cond (e_27.Number == (w64 ((w64 (z_25 + (r_20.2.1.length : Int))) - (1 : Int))))
    ((law05_awake).bind fun r_28 =>
    some r_28)
    (some false))
    (some false))
    (some false))
    (some false))))

def law05_InboxConflicts (x_0 : (List Int)) (x_1 : Int) : Option (Bool) :=
  (keep_New x_0).bind fun r_1 =>
    (inbox_New (8 : Int)).bind fun r_2 =>
    cond (r_2.2 != (0 : Int))
    (some false)
    ((keep_Mod x_1 (7 : Int)).bind fun r_3 =>
    (keep_Src_Message r_1 (0 : Int)).bind fun r_4 =>
    cond (r_4.1.Kind == (5 : Int))
    ((apL ([] : List Int) r_4.1.List).bind fun l_5 =>
    cond ((l_5.length : Int) == (0 : Int))
    ((inbox_Receive r_2.1 (⟨r_4.1.Kind, r_4.1.Do, r_4.1.Port, (w64 ((2 : Int) + r_3)), r_4.1.In, r_4.1.Out, r_4.1.Onward, r_4.1.First, r_4.1.Count, r_4.1.Load, r_4.1.Status, r_4.1.Sequence, r_4.1.Weight, r_4.1.Surname, r_4.1.Given, r_4.1.Exception, r_4.1.Node, r_4.1.List⟩ : Message)).bind fun r_6 =>
    (inbox_Receive r_6.1 (⟨r_4.1.Kind, r_4.1.Do, r_4.1.Port, (w64 ((2 : Int) + r_3)), r_4.1.In, r_4.1.Out, r_4.1.Onward, r_4.1.First, r_4.1.Count, r_4.1.Load, r_4.1.Status, r_4.1.Sequence, r_4.1.Weight, r_4.1.Surname, r_4.1.Given, r_4.1.Exception, r_4.1.Node, ([(7 : Int)] : List Int)⟩ : Message)).bind fun r_7 =>
    (inbox_Receive r_7.1 (⟨r_4.1.Kind, r_4.1.Do, r_4.1.Port, (w64 ((2 : Int) + r_3)), r_4.1.In, r_4.1.Out, r_4.1.Onward, r_4.1.First, r_4.1.Count, r_4.1.Load, r_4.1.Status, r_4.1.Sequence, r_4.1.Weight, r_4.1.Surname, r_4.1.Given, r_4.1.Exception, r_4.1.Node, r_4.1.List⟩ : Message)).bind fun r_8 =>
    cond (r_6.2.2.2 == (0 : Int))
    (cond (r_7.2.2.2 == (0 : Int))
    (cond (r_8.2.2.2 == (0 : Int))
    (cond (r_6.2.2.1 == (2 : Int))
    (cond (r_7.2.2.1 == (5 : Int))
    (cond (r_8.2.2.1 == (3 : Int))
    (cond ((r_7.2.1.length : Int) == (0 : Int))
    ((ref05_Same r_6.1 r_7.1).bind fun r_9 =>
    cond r_9
    ((ref05_Same r_6.1 r_8.1).bind fun r_10 =>
    cond r_10
    ((law05_awake).bind fun r_11 =>
    some r_11)
    (some false))
    (some false))
    (some false))
    (some false))
    (some false))
    (some false))
    (some false))
    (some false))
    (some false))
    ((slL l_5 (1 : Int) (l_5.length : Int)).bind fun l_12 =>
    (inbox_Receive r_2.1 (⟨r_4.1.Kind, r_4.1.Do, r_4.1.Port, (w64 ((2 : Int) + r_3)), r_4.1.In, r_4.1.Out, r_4.1.Onward, r_4.1.First, r_4.1.Count, r_4.1.Load, r_4.1.Status, r_4.1.Sequence, r_4.1.Weight, r_4.1.Surname, r_4.1.Given, r_4.1.Exception, r_4.1.Node, r_4.1.List⟩ : Message)).bind fun r_13 =>
    (inbox_Receive r_13.1 (⟨r_4.1.Kind, r_4.1.Do, r_4.1.Port, (w64 ((2 : Int) + r_3)), r_4.1.In, r_4.1.Out, r_4.1.Onward, r_4.1.First, r_4.1.Count, r_4.1.Load, r_4.1.Status, r_4.1.Sequence, r_4.1.Weight, r_4.1.Surname, r_4.1.Given, r_4.1.Exception, r_4.1.Node, l_12⟩ : Message)).bind fun r_14 =>
    (inbox_Receive r_14.1 (⟨r_4.1.Kind, r_4.1.Do, r_4.1.Port, (w64 ((2 : Int) + r_3)), r_4.1.In, r_4.1.Out, r_4.1.Onward, r_4.1.First, r_4.1.Count, r_4.1.Load, r_4.1.Status, r_4.1.Sequence, r_4.1.Weight, r_4.1.Surname, r_4.1.Given, r_4.1.Exception, r_4.1.Node, r_4.1.List⟩ : Message)).bind fun r_15 =>
    cond (r_13.2.2.2 == (0 : Int))
    (cond (r_14.2.2.2 == (0 : Int))
    (cond (r_15.2.2.2 == (0 : Int))
    (cond (r_13.2.2.1 == (2 : Int))
    (cond (r_14.2.2.1 == (5 : Int))
    (cond (r_15.2.2.1 == (3 : Int))
    (cond ((r_14.2.1.length : Int) == (0 : Int))
    ((ref05_Same r_13.1 r_14.1).bind fun r_16 =>
    cond r_16
    ((ref05_Same r_13.1 r_15.1).bind fun r_17 =>
    cond r_17
    ((law05_awake).bind fun r_18 =>
    some r_18)
    (some false))
    (some false))
    (some false))
    (some false))
    (some false))
    (some false))
    (some false))
    (some false))
    (some false)))
    ((inbox_Receive r_2.1 (⟨r_4.1.Kind, r_4.1.Do, r_4.1.Port, (w64 ((2 : Int) + r_3)), r_4.1.In, r_4.1.Out, r_4.1.Onward, r_4.1.First, r_4.1.Count, r_4.1.Load, r_4.1.Status, r_4.1.Sequence, r_4.1.Weight, r_4.1.Surname, r_4.1.Given, r_4.1.Exception, r_4.1.Node, r_4.1.List⟩ : Message)).bind fun r_19 =>
    (inbox_Receive r_19.1 (⟨r_4.1.Kind, r_4.1.Do, r_4.1.Port, (w64 ((2 : Int) + r_3)), r_4.1.In, r_4.1.Out, r_4.1.Onward, r_4.1.First, (w64 ((r_4.1.Count.tmod (3 : Int)) + (1 : Int))), r_4.1.Load, r_4.1.Status, r_4.1.Sequence, r_4.1.Weight, r_4.1.Surname, r_4.1.Given, r_4.1.Exception, r_4.1.Node, r_4.1.List⟩ : Message)).bind fun r_20 =>
    (inbox_Receive r_20.1 (⟨r_4.1.Kind, r_4.1.Do, r_4.1.Port, (w64 ((2 : Int) + r_3)), r_4.1.In, r_4.1.Out, r_4.1.Onward, r_4.1.First, r_4.1.Count, r_4.1.Load, r_4.1.Status, r_4.1.Sequence, r_4.1.Weight, r_4.1.Surname, r_4.1.Given, r_4.1.Exception, r_4.1.Node, r_4.1.List⟩ : Message)).bind fun r_21 =>
    cond (r_19.2.2.2 == (0 : Int))
    (cond (r_20.2.2.2 == (0 : Int))
    (cond (r_21.2.2.2 == (0 : Int))
    (cond (r_19.2.2.1 == (2 : Int))
    (cond (r_20.2.2.1 == (5 : Int))
    (cond (r_21.2.2.1 == (3 : Int))
    (cond ((r_20.2.1.length : Int) == (0 : Int))
    ((ref05_Same r_19.1 r_20.1).bind fun r_22 =>
    cond r_22
    ((ref05_Same r_19.1 r_21.1).bind fun r_23 =>
    cond r_23
    ((law05_awake).bind fun r_24 =>
    some r_24)
    (some false))
    (some false))
    (some false))
    (some false))
    (some false))
    (some false))
    (some false))
    (some false))
    (some false)))
end Go.Proofs.Ytpipggnfbgjefaa.Ex
