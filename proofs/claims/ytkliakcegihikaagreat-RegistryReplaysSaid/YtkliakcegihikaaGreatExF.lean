/- What the functions of the program compute; printed by a program from their code. -/
import Derived.Test.YtkliakcegihikaaGreatExT
import Derived.Lib.Bytealg
namespace Go.Proofs.YtkliakcegihikaaGreat.Ex
open Go.RowKit Go.Proofs.YtkliakcegihikaaGreat.Ax
set_option linter.unusedVariables false
set_option linter.unusedSimpArgs false
def keep_New (x_0 : (List Int)) : Option (Src) :=
 cond (decide ((2000 : Int) < (x_0.length : Int)))
  ((slL x_0 0 (2000 : Int)).bind fun l_1 =>
  some (⟨l_1, (0 : Int)⟩ : Src))
  (some (⟨x_0, (0 : Int)⟩ : Src))

def keep_Src_Raw (x_0 : Src) : Option (Int × Src) :=
 cond (decide ((x_0.L.length : Int) ≤ x_0.At))
  (some ((0 : Int), x_0))
  ((ixL x_0.L (w64 ((w64 (x_0.At + (1 : Int))) - (1 : Int)))).bind fun e_1 =>
  some (e_1, (⟨x_0.L, (w64 (x_0.At + (1 : Int)))⟩ : Src)))

def keep_Mod (x_0 : Int) (x_1 : Int) : Option (Int) :=
 cond (decide (x_1 < (1 : Int)))
  (some (0 : Int))
  ((nz x_1).bind fun u_1 =>
  cond (decide ((x_0.tmod x_1) < (0 : Int)))
  (some (w64 ((x_0.tmod x_1) + x_1)))
  (some (x_0.tmod x_1)))

def keep_Src_N (x_0 : Src) (x_1 : Int) : Option (Int × Src) :=
 (keep_Src_Raw x_0).bind fun r_1 =>
  (keep_Mod r_1.1 x_1).bind fun r_2 =>
  some (r_2, r_1.2)

def keep_Src_Range (x_0 : Src) (x_1 : Int) (x_2 : Int) : Option (Int × Src) :=
 (keep_Src_N x_0 (w64 ((w64 (x_2 - x_1)) + (1 : Int)))).bind fun r_1 =>
  some ((w64 (x_1 + r_1.1)), r_1.2)

def keep_Src_Text (x_0 : Src) (x_1 : (List ByteArray)) : Option (ByteArray × Src) :=
 (keep_Src_N x_0 (x_1.length : Int)).bind fun r_1 =>
  (ixL x_1 r_1.1).bind fun e_2 =>
  some (e_2, r_1.2)

def keep_Src_Pick (x_0 : Src) (x_1 : (List Int)) : Option (Int × Src) :=
 (keep_Src_N x_0 (x_1.length : Int)).bind fun r_1 =>
  (ixL x_1 r_1.1).bind fun e_2 =>
  some (e_2, r_1.2)

def keep_Src_AnyPlate (x_0 : Src) : Option (Plate × Src) :=
 (keep_Src_N x_0 (2 : Int)).bind fun r_1 =>
  (keep_Src_N r_1.2 (2 : Int)).bind fun r_2 =>
  (keep_Src_Pick r_2.2 ([(0 : Int), (1 : Int), (2 : Int), (3 : Int), (5 : Int), (999998 : Int), (999999 : Int)] : List Int)).bind fun r_3 =>
  some ((⟨r_1.1, (w64 ((117 : Int) + r_2.1)), r_3.1⟩ : Plate), r_3.2)

def keep_Src_Letters_L1 : Nat → (List Int) → Int → (List Int) → Int → Option (Ctl (ByteArray × Src) ((List Int) × Int × (List Int)))
 | 0, _, _, _, _ => none
 | q_9 + 1, a_3, i_4, a_5, i_6 => cond (decide (i_6 < (a_5.length : Int)))
  ((keep_Src_N (⟨a_3, i_4⟩ : Src) (26 : Int)).bind fun r_7 =>
  (ixL a_5 i_6).bind fun e_8 =>
  keep_Src_Letters_L1 q_9 r_7.2.L r_7.2.At (a_5.set i_6.toNat (IntKind.u8.wrap (w64 ((65 : Int) + r_7.1)))) (w64 (i_6 + (1 : Int))))
  (some (Ctl.brk (a_3, i_4, a_5)))
def keep_Src_Letters (x_0 : Src) (x_1 : Int) (x_2 : Int) : Option (ByteArray × Src) :=
 (keep_Src_Range x_0 x_1 x_2).bind fun r_1 =>
  (mkL r_1.1 (0 : Int)).bind fun l_2 =>
  Ctl.fin (keep_Src_Letters_L1 9223372036854775807 r_1.2.L r_1.2.At l_2 (0 : Int)) fun z_10 =>
  some ((bytesF z_10.2.2), (⟨z_10.1, z_10.2.1⟩ : Src))

def keep_Src_AnyFlight (x_0 : Src) : Option (Flight × Src) :=
 (keep_Src_Text x_0 ([(⟨#[83, 75]⟩ : ByteArray), (⟨#[65, 89]⟩ : ByteArray), (⟨#[52, 85]⟩ : ByteArray)] : List ByteArray)).bind fun r_1 =>
  (keep_Src_Pick r_1.2 ([(1 : Int), (123 : Int), (9999 : Int)] : List Int)).bind fun r_2 =>
  (keep_Src_Text r_2.2 ([(⟨#[]⟩ : ByteArray), (⟨#[]⟩ : ByteArray), (⟨#[65]⟩ : ByteArray)] : List ByteArray)).bind fun r_3 =>
  (keep_Src_Pick r_3.2 ([(7 : Int), (8 : Int), (0 : Int), (99 : Int)] : List Int)).bind fun r_4 =>
  some ((⟨r_1.1, r_2.1, r_3.1, r_4.1⟩ : Flight), r_4.2)

def keep_Src_Leg (x_0 : Src) : Option (Leg × Src) :=
 (keep_Src_AnyFlight x_0).bind fun r_1 =>
  (keep_Src_Text r_1.2 ([(⟨#[67, 80, 72]⟩ : ByteArray), (⟨#[65, 82, 78]⟩ : ByteArray), (⟨#[79, 83, 76]⟩ : ByteArray)] : List ByteArray)).bind fun r_2 =>
  (keep_Src_Text r_2.2 ([(⟨#[89]⟩ : ByteArray), (⟨#[67]⟩ : ByteArray), (⟨#[70]⟩ : ByteArray)] : List ByteArray)).bind fun r_3 =>
  some ((⟨r_1.1, r_2.1, r_3.1⟩ : Leg), r_3.2)

def keep_Src_Message_L1 : Nat → (List Int) → Int → (List Int) → Int → Int → Option (Ctl (Message × Src) ((List Int) × Int × (List Int)))
 | 0, _, _, _, _, _ => none
 | q_19 + 1, a_12, i_13, a_14, i_15, i_16 => cond (decide ((0 : Int) < i_16))
  ((keep_Src_Range (⟨a_12, i_13⟩ : Src) (1 : Int) (3 : Int)).bind fun r_17 =>
  (apL a_14 ([(w64 (i_15 + r_17.1))] : List Int)).bind fun l_18 =>
  keep_Src_Message_L1 q_19 r_17.2.L r_17.2.At l_18 (w64 (i_15 + r_17.1)) (w64 (i_16 - (1 : Int))))
  (some (Ctl.brk (a_12, i_13, a_14)))
def keep_Src_Message_L2 : Nat → (List Int) → Int → (List Leg) → Int → Option (Ctl (Message × Src) ((List Int) × Int × (List Int) × Int × (List Leg)))
 | 0, _, _, _, _ => none
 | q_33 + 1, a_27, i_28, a_29, i_30 => cond (decide ((0 : Int) < i_30))
  ((keep_Src_Leg (⟨a_27, i_28⟩ : Src)).bind fun r_31 =>
  (apL a_29 ([r_31.1] : List Leg)).bind fun l_32 =>
  keep_Src_Message_L2 q_33 r_31.2.L r_31.2.At l_32 (w64 (i_30 - (1 : Int))))
  (some (Ctl.brk (a_27, i_28, a_27, i_28, a_29)))
def keep_Src_Message (x_0 : Src) (x_1 : Int) : Option (Message × Src) :=
 cond (x_1 == (0 : Int))
  ((keep_Src_Range x_0 (1 : Int) (5 : Int)).bind fun r_1 =>
  (keep_Src_Text r_1.2 ([(⟨#[65, 82, 78]⟩ : ByteArray), (⟨#[67, 80, 72]⟩ : ByteArray)] : List ByteArray)).bind fun r_2 =>
  (keep_Src_Range r_2.2 (1 : Int) (12 : Int)).bind fun r_3 =>
  cond (r_1.1 == (3 : Int))
  ((keep_Src_AnyPlate r_3.2).bind fun r_4 =>
  (keep_Src_Range r_4.2 (1 : Int) (3 : Int)).bind fun r_5 =>
  (keep_Src_Letters r_5.2 (1 : Int) (4 : Int)).bind fun r_6 =>
  some ((⟨r_1.1, (0 : Int), r_2.1, r_3.1, (⟨(⟨(⟨#[]⟩ : ByteArray), (0 : Int), (⟨#[]⟩ : ByteArray), (0 : Int)⟩ : Flight), (⟨#[]⟩ : ByteArray), (⟨#[]⟩ : ByteArray)⟩ : Leg), (⟨(⟨(⟨#[]⟩ : ByteArray), (0 : Int), (⟨#[]⟩ : ByteArray), (0 : Int)⟩ : Flight), (⟨#[]⟩ : ByteArray), (⟨#[]⟩ : ByteArray)⟩ : Leg), ([] : (List Leg)), r_4.1, r_5.1, false, (0 : Int), (0 : Int), (0 : Int), (⟨#[]⟩ : ByteArray), (⟨#[]⟩ : ByteArray), (0 : Int), r_6.1, ([] : (List Int))⟩ : Message), r_6.2))
  (cond (r_1.1 == (4 : Int))
  ((keep_Src_AnyPlate r_3.2).bind fun r_7 =>
  (keep_Src_Range r_7.2 (1 : Int) (3 : Int)).bind fun r_8 =>
  (keep_Src_Leg r_8.2).bind fun r_9 =>
  some ((⟨r_1.1, (0 : Int), r_2.1, r_3.1, (⟨(⟨(⟨#[]⟩ : ByteArray), (0 : Int), (⟨#[]⟩ : ByteArray), (0 : Int)⟩ : Flight), (⟨#[]⟩ : ByteArray), (⟨#[]⟩ : ByteArray)⟩ : Leg), r_9.1, ([] : (List Leg)), r_7.1, r_8.1, false, (0 : Int), (0 : Int), (0 : Int), (⟨#[]⟩ : ByteArray), (⟨#[]⟩ : ByteArray), (0 : Int), (⟨#[]⟩ : ByteArray), ([] : (List Int))⟩ : Message), r_9.2))
  (cond (r_1.1 == (5 : Int))
  ((keep_Src_Leg r_3.2).bind fun r_10 =>
  (keep_Src_N r_10.2 (12 : Int)).bind fun r_11 =>
  Ctl.fin (keep_Src_Message_L1 9223372036854775807 r_11.2.L r_11.2.At ([] : List Int) (0 : Int) r_11.1) fun z_20 =>
  some ((⟨r_1.1, (0 : Int), r_2.1, r_3.1, (⟨(⟨(⟨#[]⟩ : ByteArray), (0 : Int), (⟨#[]⟩ : ByteArray), (0 : Int)⟩ : Flight), (⟨#[]⟩ : ByteArray), (⟨#[]⟩ : ByteArray)⟩ : Leg), r_10.1, ([] : (List Leg)), (⟨(0 : Int), (0 : Int), (0 : Int)⟩ : Plate), (0 : Int), false, (0 : Int), (0 : Int), (0 : Int), (⟨#[]⟩ : ByteArray), (⟨#[]⟩ : ByteArray), (0 : Int), (⟨#[]⟩ : ByteArray), z_20.2.2⟩ : Message), (⟨z_20.1, z_20.2.1⟩ : Src)))
  ((keep_Src_Pick r_3.2 ([(0 : Int), (0 : Int), (1 : Int), (2 : Int)] : List Int)).bind fun r_21 =>
  (keep_Src_Leg r_21.2).bind fun r_22 =>
  (keep_Src_AnyPlate r_22.2).bind fun r_23 =>
  (keep_Src_Range r_23.2 (1 : Int) (3 : Int)).bind fun r_24 =>
  cond (r_1.1 == (2 : Int))
  ((keep_Src_Leg r_24.2).bind fun r_25 =>
  (keep_Src_N r_25.2 (4 : Int)).bind fun r_26 =>
  Ctl.fin (keep_Src_Message_L2 9223372036854775807 r_26.2.L r_26.2.At ([] : List Leg) r_26.1) fun z_34 =>
  (keep_Src_N (⟨z_34.2.2.1, z_34.2.2.2.1⟩ : Src) (3 : Int)).bind fun r_35 =>
  (keep_Src_Range r_35.2 (1 : Int) (4 : Int)).bind fun r_36 =>
  (keep_Src_Range r_36.2 (1 : Int) (4 : Int)).bind fun r_37 =>
  (keep_Src_Pick r_37.2 ([(20 : Int), (0 : Int), (999 : Int)] : List Int)).bind fun r_38 =>
  (keep_Src_Letters r_38.2 (1 : Int) (6 : Int)).bind fun r_39 =>
  (keep_Src_Letters r_39.2 (0 : Int) (5 : Int)).bind fun r_40 =>
  (keep_Src_Range r_40.2 (0 : Int) (3 : Int)).bind fun r_41 =>
  some ((⟨r_1.1, r_21.1, r_2.1, r_3.1, r_25.1, r_22.1, z_34.2.2.2.2, r_23.1, r_24.1, (decide ((0 : Int) < r_35.1)), r_36.1, r_37.1, r_38.1, r_39.1, r_40.1, r_41.1, (⟨#[]⟩ : ByteArray), ([] : (List Int))⟩ : Message), r_41.2))
  ((keep_Src_N r_24.2 (4 : Int)).bind fun r_42 =>
  Ctl.fin (keep_Src_Message_L2 9223372036854775807 r_42.2.L r_42.2.At ([] : List Leg) r_42.1) fun z_50 =>
  (keep_Src_N (⟨z_50.2.2.1, z_50.2.2.2.1⟩ : Src) (3 : Int)).bind fun r_51 =>
  (keep_Src_Range r_51.2 (1 : Int) (4 : Int)).bind fun r_52 =>
  (keep_Src_Range r_52.2 (1 : Int) (4 : Int)).bind fun r_53 =>
  (keep_Src_Pick r_53.2 ([(20 : Int), (0 : Int), (999 : Int)] : List Int)).bind fun r_54 =>
  (keep_Src_Letters r_54.2 (1 : Int) (6 : Int)).bind fun r_55 =>
  (keep_Src_Letters r_55.2 (0 : Int) (5 : Int)).bind fun r_56 =>
  (keep_Src_Range r_56.2 (0 : Int) (3 : Int)).bind fun r_57 =>
  some ((⟨r_1.1, r_21.1, r_2.1, r_3.1, (⟨(⟨(⟨#[]⟩ : ByteArray), (0 : Int), (⟨#[]⟩ : ByteArray), (0 : Int)⟩ : Flight), (⟨#[]⟩ : ByteArray), (⟨#[]⟩ : ByteArray)⟩ : Leg), r_22.1, z_50.2.2.2.2, r_23.1, r_24.1, (decide ((0 : Int) < r_51.1)), r_52.1, r_53.1, r_54.1, r_55.1, r_56.1, r_57.1, (⟨#[]⟩ : ByteArray), ([] : (List Int))⟩ : Message), r_57.2))))))
  ((keep_Src_Text x_0 ([(⟨#[65, 82, 78]⟩ : ByteArray), (⟨#[67, 80, 72]⟩ : ByteArray)] : List ByteArray)).bind fun r_58 =>
  (keep_Src_Range r_58.2 (1 : Int) (12 : Int)).bind fun r_59 =>
  cond (x_1 == (3 : Int))
  ((keep_Src_AnyPlate r_59.2).bind fun r_60 =>
  (keep_Src_Range r_60.2 (1 : Int) (3 : Int)).bind fun r_61 =>
  (keep_Src_Letters r_61.2 (1 : Int) (4 : Int)).bind fun r_62 =>
  some ((⟨x_1, (0 : Int), r_58.1, r_59.1, (⟨(⟨(⟨#[]⟩ : ByteArray), (0 : Int), (⟨#[]⟩ : ByteArray), (0 : Int)⟩ : Flight), (⟨#[]⟩ : ByteArray), (⟨#[]⟩ : ByteArray)⟩ : Leg), (⟨(⟨(⟨#[]⟩ : ByteArray), (0 : Int), (⟨#[]⟩ : ByteArray), (0 : Int)⟩ : Flight), (⟨#[]⟩ : ByteArray), (⟨#[]⟩ : ByteArray)⟩ : Leg), ([] : (List Leg)), r_60.1, r_61.1, false, (0 : Int), (0 : Int), (0 : Int), (⟨#[]⟩ : ByteArray), (⟨#[]⟩ : ByteArray), (0 : Int), r_62.1, ([] : (List Int))⟩ : Message), r_62.2))
  (cond (x_1 == (4 : Int))
  ((keep_Src_AnyPlate r_59.2).bind fun r_63 =>
  (keep_Src_Range r_63.2 (1 : Int) (3 : Int)).bind fun r_64 =>
  (keep_Src_Leg r_64.2).bind fun r_65 =>
  some ((⟨x_1, (0 : Int), r_58.1, r_59.1, (⟨(⟨(⟨#[]⟩ : ByteArray), (0 : Int), (⟨#[]⟩ : ByteArray), (0 : Int)⟩ : Flight), (⟨#[]⟩ : ByteArray), (⟨#[]⟩ : ByteArray)⟩ : Leg), r_65.1, ([] : (List Leg)), r_63.1, r_64.1, false, (0 : Int), (0 : Int), (0 : Int), (⟨#[]⟩ : ByteArray), (⟨#[]⟩ : ByteArray), (0 : Int), (⟨#[]⟩ : ByteArray), ([] : (List Int))⟩ : Message), r_65.2))
  (cond (x_1 == (5 : Int))
  ((keep_Src_Leg r_59.2).bind fun r_66 =>
  (keep_Src_N r_66.2 (12 : Int)).bind fun r_67 =>
  Ctl.fin (keep_Src_Message_L1 9223372036854775807 r_67.2.L r_67.2.At ([] : List Int) (0 : Int) r_67.1) fun z_76 =>
  some ((⟨x_1, (0 : Int), r_58.1, r_59.1, (⟨(⟨(⟨#[]⟩ : ByteArray), (0 : Int), (⟨#[]⟩ : ByteArray), (0 : Int)⟩ : Flight), (⟨#[]⟩ : ByteArray), (⟨#[]⟩ : ByteArray)⟩ : Leg), r_66.1, ([] : (List Leg)), (⟨(0 : Int), (0 : Int), (0 : Int)⟩ : Plate), (0 : Int), false, (0 : Int), (0 : Int), (0 : Int), (⟨#[]⟩ : ByteArray), (⟨#[]⟩ : ByteArray), (0 : Int), (⟨#[]⟩ : ByteArray), z_76.2.2⟩ : Message), (⟨z_76.1, z_76.2.1⟩ : Src)))
  ((keep_Src_Pick r_59.2 ([(0 : Int), (0 : Int), (1 : Int), (2 : Int)] : List Int)).bind fun r_77 =>
  (keep_Src_Leg r_77.2).bind fun r_78 =>
  (keep_Src_AnyPlate r_78.2).bind fun r_79 =>
  (keep_Src_Range r_79.2 (1 : Int) (3 : Int)).bind fun r_80 =>
  cond (x_1 == (2 : Int))
  ((keep_Src_Leg r_80.2).bind fun r_81 =>
  (keep_Src_N r_81.2 (4 : Int)).bind fun r_82 =>
  Ctl.fin (keep_Src_Message_L2 9223372036854775807 r_82.2.L r_82.2.At ([] : List Leg) r_82.1) fun z_90 =>
  (keep_Src_N (⟨z_90.2.2.1, z_90.2.2.2.1⟩ : Src) (3 : Int)).bind fun r_91 =>
  (keep_Src_Range r_91.2 (1 : Int) (4 : Int)).bind fun r_92 =>
  (keep_Src_Range r_92.2 (1 : Int) (4 : Int)).bind fun r_93 =>
  (keep_Src_Pick r_93.2 ([(20 : Int), (0 : Int), (999 : Int)] : List Int)).bind fun r_94 =>
  (keep_Src_Letters r_94.2 (1 : Int) (6 : Int)).bind fun r_95 =>
  (keep_Src_Letters r_95.2 (0 : Int) (5 : Int)).bind fun r_96 =>
  (keep_Src_Range r_96.2 (0 : Int) (3 : Int)).bind fun r_97 =>
  some ((⟨x_1, r_77.1, r_58.1, r_59.1, r_81.1, r_78.1, z_90.2.2.2.2, r_79.1, r_80.1, (decide ((0 : Int) < r_91.1)), r_92.1, r_93.1, r_94.1, r_95.1, r_96.1, r_97.1, (⟨#[]⟩ : ByteArray), ([] : (List Int))⟩ : Message), r_97.2))
  ((keep_Src_N r_80.2 (4 : Int)).bind fun r_98 =>
  Ctl.fin (keep_Src_Message_L2 9223372036854775807 r_98.2.L r_98.2.At ([] : List Leg) r_98.1) fun z_106 =>
  (keep_Src_N (⟨z_106.2.2.1, z_106.2.2.2.1⟩ : Src) (3 : Int)).bind fun r_107 =>
  (keep_Src_Range r_107.2 (1 : Int) (4 : Int)).bind fun r_108 =>
  (keep_Src_Range r_108.2 (1 : Int) (4 : Int)).bind fun r_109 =>
  (keep_Src_Pick r_109.2 ([(20 : Int), (0 : Int), (999 : Int)] : List Int)).bind fun r_110 =>
  (keep_Src_Letters r_110.2 (1 : Int) (6 : Int)).bind fun r_111 =>
  (keep_Src_Letters r_111.2 (0 : Int) (5 : Int)).bind fun r_112 =>
  (keep_Src_Range r_112.2 (0 : Int) (3 : Int)).bind fun r_113 =>
  some ((⟨x_1, r_77.1, r_58.1, r_59.1, (⟨(⟨(⟨#[]⟩ : ByteArray), (0 : Int), (⟨#[]⟩ : ByteArray), (0 : Int)⟩ : Flight), (⟨#[]⟩ : ByteArray), (⟨#[]⟩ : ByteArray)⟩ : Leg), r_78.1, z_106.2.2.2.2, r_79.1, r_80.1, (decide ((0 : Int) < r_107.1)), r_108.1, r_109.1, r_110.1, r_111.1, r_112.1, r_113.1, (⟨#[]⟩ : ByteArray), ([] : (List Int))⟩ : Message), r_113.2))))))

def ref01_Valid (x_0 : Plate) : Option (Bool) :=
 cond (decide ((0 : Int) ≤ x_0.Lead))
  (cond (decide (x_0.Lead ≤ (9 : Int)))
  (cond (decide ((1 : Int) ≤ x_0.Airline))
  (cond (decide (x_0.Airline ≤ (999 : Int)))
  (cond (decide ((0 : Int) ≤ x_0.Serial))
  (some (decide (x_0.Serial ≤ (999999 : Int))))
  (some false))
  (some false))
  (some false))
  (some false))
  (some false)

def ref01_sign (x_0 : Int) (x_1 : Int) : Option (Int) :=
 cond (decide (x_0 < x_1))
  (some (-1 : Int))
  (cond (decide (x_1 < x_0))
  (some (1 : Int))
  (some (0 : Int)))

def ref01_Compare (x_0 : Plate) (x_1 : Plate) : Option (Int) :=
 (ref01_sign x_0.Lead x_1.Lead).bind fun r_1 =>
  cond (r_1 != (0 : Int))
  (some r_1)
  ((ref01_sign x_0.Airline x_1.Airline).bind fun r_2 =>
  cond (r_2 != (0 : Int))
  (some r_2)
  ((ref01_sign x_0.Serial x_1.Serial).bind fun r_3 =>
  some r_3))

def ref06_Validate_L1 : (List Bag) → Nat → Option (Ctl (Int) (Unit))
 | [], k_2 => some (Ctl.brk ())
 | e_3 :: q_5, k_2 => (ref01_Valid e_3.Plate).bind fun r_4 =>
  cond (!r_4)
  (some (Ctl.ret (1 : Int)))
  (ref06_Validate_L1 q_5 (k_2 + 1))
def ref06_Validate_L2 (x_0 : Registry) : Nat → Int → Option (Ctl (Int) (Unit))
 | 0, _ => none
 | q_11 + 1, i_7 => cond (decide (i_7 < (x_0.L.length : Int)))
  ((ixL x_0.L (w64 (i_7 - (1 : Int)))).bind fun e_8 =>
  (ixL x_0.L i_7).bind fun e_9 =>
  (ref01_Compare e_8.Plate e_9.Plate).bind fun r_10 =>
  cond (decide ((0 : Int) ≤ r_10))
  (some (Ctl.ret (9 : Int)))
  (ref06_Validate_L2 x_0 q_11 (w64 (i_7 + (1 : Int)))))
  (some (Ctl.brk ()))
def ref06_Validate (x_0 : Registry) : Option (Int) :=
 cond (decide ((200 : Int) < (x_0.L.length : Int)))
  (some (2 : Int))
  (Ctl.fin (ref06_Validate_L1 x_0.L 0) fun z_6 =>
  Ctl.fin (ref06_Validate_L2 x_0 9223372036854775807 (1 : Int)) fun z_12 =>
  some (0 : Int))

def ref04_in (x_0 : Int) (x_1 : Int) (x_2 : Int) : Option (Bool) :=
 cond (decide (x_1 ≤ x_0))
  (some (decide (x_0 ≤ x_2)))
  (some false)

def ref04_Bag (x_0 : Int) : Option (Bool) :=
 cond (x_0 == (1 : Int))
  (some true)
  (some (x_0 == (2 : Int)))

def ref04_own (x_0 : Message) : Option (Message) :=
 (ref04_Bag x_0.Kind).bind fun r_1 =>
  cond r_1
  (cond (x_0.Kind == (1 : Int))
  (some (⟨x_0.Kind, x_0.Do, x_0.Port, x_0.Number, (⟨(⟨(⟨#[]⟩ : ByteArray), (0 : Int), (⟨#[]⟩ : ByteArray), (0 : Int)⟩ : Flight), (⟨#[]⟩ : ByteArray), (⟨#[]⟩ : ByteArray)⟩ : Leg), x_0.Out, x_0.Onward, x_0.First, x_0.Count, x_0.Load, x_0.Status, x_0.Sequence, x_0.Weight, x_0.Surname, x_0.Given, x_0.Exception, (⟨#[]⟩ : ByteArray), ([] : (List Int))⟩ : Message))
  (some (⟨x_0.Kind, x_0.Do, x_0.Port, x_0.Number, x_0.In, x_0.Out, x_0.Onward, x_0.First, x_0.Count, x_0.Load, x_0.Status, x_0.Sequence, x_0.Weight, x_0.Surname, x_0.Given, x_0.Exception, (⟨#[]⟩ : ByteArray), ([] : (List Int))⟩ : Message)))
  (cond (x_0.Kind != (5 : Int))
  (cond (x_0.Kind == (3 : Int))
  (some (⟨x_0.Kind, (0 : Int), x_0.Port, x_0.Number, (⟨(⟨(⟨#[]⟩ : ByteArray), (0 : Int), (⟨#[]⟩ : ByteArray), (0 : Int)⟩ : Flight), (⟨#[]⟩ : ByteArray), (⟨#[]⟩ : ByteArray)⟩ : Leg), (⟨(⟨(⟨#[]⟩ : ByteArray), (0 : Int), (⟨#[]⟩ : ByteArray), (0 : Int)⟩ : Flight), (⟨#[]⟩ : ByteArray), (⟨#[]⟩ : ByteArray)⟩ : Leg), ([] : (List Leg)), x_0.First, x_0.Count, false, (0 : Int), (0 : Int), (0 : Int), (⟨#[]⟩ : ByteArray), (⟨#[]⟩ : ByteArray), (0 : Int), x_0.Node, ([] : (List Int))⟩ : Message))
  (cond (x_0.Kind == (4 : Int))
  (some (⟨x_0.Kind, (0 : Int), x_0.Port, x_0.Number, (⟨(⟨(⟨#[]⟩ : ByteArray), (0 : Int), (⟨#[]⟩ : ByteArray), (0 : Int)⟩ : Flight), (⟨#[]⟩ : ByteArray), (⟨#[]⟩ : ByteArray)⟩ : Leg), x_0.Out, ([] : (List Leg)), x_0.First, x_0.Count, false, (0 : Int), (0 : Int), (0 : Int), (⟨#[]⟩ : ByteArray), (⟨#[]⟩ : ByteArray), (0 : Int), (⟨#[]⟩ : ByteArray), ([] : (List Int))⟩ : Message))
  (some (⟨x_0.Kind, (0 : Int), x_0.Port, x_0.Number, (⟨(⟨(⟨#[]⟩ : ByteArray), (0 : Int), (⟨#[]⟩ : ByteArray), (0 : Int)⟩ : Flight), (⟨#[]⟩ : ByteArray), (⟨#[]⟩ : ByteArray)⟩ : Leg), x_0.Out, ([] : (List Leg)), x_0.First, x_0.Count, false, (0 : Int), (0 : Int), (0 : Int), (⟨#[]⟩ : ByteArray), (⟨#[]⟩ : ByteArray), (0 : Int), (⟨#[]⟩ : ByteArray), x_0.List⟩ : Message))))
  (cond (x_0.Kind == (3 : Int))
  (some (⟨x_0.Kind, (0 : Int), x_0.Port, x_0.Number, (⟨(⟨(⟨#[]⟩ : ByteArray), (0 : Int), (⟨#[]⟩ : ByteArray), (0 : Int)⟩ : Flight), (⟨#[]⟩ : ByteArray), (⟨#[]⟩ : ByteArray)⟩ : Leg), (⟨(⟨(⟨#[]⟩ : ByteArray), (0 : Int), (⟨#[]⟩ : ByteArray), (0 : Int)⟩ : Flight), (⟨#[]⟩ : ByteArray), (⟨#[]⟩ : ByteArray)⟩ : Leg), ([] : (List Leg)), (⟨(0 : Int), (0 : Int), (0 : Int)⟩ : Plate), (0 : Int), false, (0 : Int), (0 : Int), (0 : Int), (⟨#[]⟩ : ByteArray), (⟨#[]⟩ : ByteArray), (0 : Int), x_0.Node, ([] : (List Int))⟩ : Message))
  (cond (x_0.Kind == (4 : Int))
  (some (⟨x_0.Kind, (0 : Int), x_0.Port, x_0.Number, (⟨(⟨(⟨#[]⟩ : ByteArray), (0 : Int), (⟨#[]⟩ : ByteArray), (0 : Int)⟩ : Flight), (⟨#[]⟩ : ByteArray), (⟨#[]⟩ : ByteArray)⟩ : Leg), x_0.Out, ([] : (List Leg)), (⟨(0 : Int), (0 : Int), (0 : Int)⟩ : Plate), (0 : Int), false, (0 : Int), (0 : Int), (0 : Int), (⟨#[]⟩ : ByteArray), (⟨#[]⟩ : ByteArray), (0 : Int), (⟨#[]⟩ : ByteArray), ([] : (List Int))⟩ : Message))
  (some (⟨x_0.Kind, (0 : Int), x_0.Port, x_0.Number, (⟨(⟨(⟨#[]⟩ : ByteArray), (0 : Int), (⟨#[]⟩ : ByteArray), (0 : Int)⟩ : Flight), (⟨#[]⟩ : ByteArray), (⟨#[]⟩ : ByteArray)⟩ : Leg), x_0.Out, ([] : (List Leg)), (⟨(0 : Int), (0 : Int), (0 : Int)⟩ : Plate), (0 : Int), false, (0 : Int), (0 : Int), (0 : Int), (⟨#[]⟩ : ByteArray), (⟨#[]⟩ : ByteArray), (0 : Int), (⟨#[]⟩ : ByteArray), x_0.List⟩ : Message)))))

def ref04_legs_L1 (x_1 : (List Leg)) : (List Leg) → Nat → Option (Ctl (Bool) (Unit))
 | [], k_2 => some (Ctl.brk ())
 | e_3 :: q_5, k_2 => (ixL x_1 (k_2 : Int)).bind fun e_4 =>
  cond (!((e_3.Flight.Carrier.toList == e_4.Flight.Carrier.toList) && ((e_3.Flight.Number == e_4.Flight.Number) && ((e_3.Flight.Suffix.toList == e_4.Flight.Suffix.toList) && ((e_3.Flight.Day == e_4.Flight.Day) && ((e_3.Port.toList == e_4.Port.toList) && ((e_3.Class.toList == e_4.Class.toList) && true)))))))
  (some (Ctl.ret false))
  (ref04_legs_L1 x_1 q_5 (k_2 + 1))
def ref04_legs (x_0 : (List Leg)) (x_1 : (List Leg)) : Option (Bool) :=
 cond ((x_0.length : Int) != (x_1.length : Int))
  (some false)
  (Ctl.fin (ref04_legs_L1 x_1 x_0 0) fun z_6 =>
  some true)

def keep_Ints_L1 (x_1 : (List Int)) : (List Int) → Nat → Option (Ctl (Bool) (Unit))
 | [], k_2 => some (Ctl.brk ())
 | e_3 :: q_5, k_2 => (ixL x_1 (k_2 : Int)).bind fun e_4 =>
  cond (e_3 != e_4)
  (some (Ctl.ret false))
  (keep_Ints_L1 x_1 q_5 (k_2 + 1))
def keep_Ints (x_0 : (List Int)) (x_1 : (List Int)) : Option (Bool) :=
 cond ((x_0.length : Int) != (x_1.length : Int))
  (some false)
  (Ctl.fin (keep_Ints_L1 x_1 x_0 0) fun z_6 =>
  some true)

def ref04_Same (x_0 : Message) (x_1 : Message) : Option (Bool) :=
 cond (x_0.Kind == x_1.Kind)
  (cond (x_0.Do == x_1.Do)
  (cond (x_0.Port.toList == x_1.Port.toList)
  (cond (x_0.Number == x_1.Number)
  (cond ((x_0.In.Flight.Carrier.toList == x_1.In.Flight.Carrier.toList) && ((x_0.In.Flight.Number == x_1.In.Flight.Number) && ((x_0.In.Flight.Suffix.toList == x_1.In.Flight.Suffix.toList) && ((x_0.In.Flight.Day == x_1.In.Flight.Day) && ((x_0.In.Port.toList == x_1.In.Port.toList) && ((x_0.In.Class.toList == x_1.In.Class.toList) && true))))))
  (cond ((x_0.Out.Flight.Carrier.toList == x_1.Out.Flight.Carrier.toList) && ((x_0.Out.Flight.Number == x_1.Out.Flight.Number) && ((x_0.Out.Flight.Suffix.toList == x_1.Out.Flight.Suffix.toList) && ((x_0.Out.Flight.Day == x_1.Out.Flight.Day) && ((x_0.Out.Port.toList == x_1.Out.Port.toList) && ((x_0.Out.Class.toList == x_1.Out.Class.toList) && true))))))
  ((ref04_legs x_0.Onward x_1.Onward).bind fun r_1 =>
  cond r_1
  (cond ((x_0.First.Lead == x_1.First.Lead) && ((x_0.First.Airline == x_1.First.Airline) && ((x_0.First.Serial == x_1.First.Serial) && true)))
  (cond (x_0.Count == x_1.Count)
  (cond (x_0.Load == x_1.Load)
  (cond (x_0.Status == x_1.Status)
  (cond (x_0.Sequence == x_1.Sequence)
  (cond (x_0.Weight == x_1.Weight)
  (cond (x_0.Surname.toList == x_1.Surname.toList)
  (cond (x_0.Given.toList == x_1.Given.toList)
  (cond (x_0.Exception == x_1.Exception)
  (cond (x_0.Node.toList == x_1.Node.toList)
  ((keep_Ints x_0.List x_1.List).bind fun r_2 =>
  some r_2)
  (some false))
  (some false))
  (some false))
  (some false))
  (some false))
  (some false))
  (some false))
  (some false))
  (some false))
  (some false))
  (some false))
  (some false))
  (some false))
  (some false))
  (some false))
  (some false))
  (some false)

def ref02_Letter (x_0 : Int) : Option (Bool) :=
 cond (decide ((65 : Int) ≤ x_0))
  (some (decide (x_0 ≤ (90 : Int))))
  (some false)

def ref02_ValidPort (x_0 : ByteArray) : Option (Bool) :=
 cond ((x_0.size : Int) == (3 : Int))
  ((ixS x_0 (0 : Int)).bind fun b_1 =>
  (ref02_Letter b_1).bind fun r_2 =>
  cond r_2
  ((ixS x_0 (1 : Int)).bind fun b_3 =>
  (ref02_Letter b_3).bind fun r_4 =>
  cond r_4
  ((ixS x_0 (2 : Int)).bind fun b_5 =>
  (ref02_Letter b_5).bind fun r_6 =>
  some r_6)
  (some false))
  (some false))
  (some false)

def ref02_Digit (x_0 : Int) : Option (Bool) :=
 cond (decide ((48 : Int) ≤ x_0))
  (some (decide (x_0 ≤ (57 : Int))))
  (some false)

def ref02_Carrier (x_0 : ByteArray) : Option (Bool) :=
 cond ((x_0.size : Int) != (2 : Int))
  (some false)
  ((ixS x_0 (0 : Int)).bind fun b_1 =>
  (ref02_Letter b_1).bind fun r_2 =>
  (ixS x_0 (1 : Int)).bind fun b_3 =>
  (ref02_Letter b_3).bind fun r_4 =>
  cond r_2
  (cond r_4
  (some true)
  ((ixS x_0 (1 : Int)).bind fun b_5 =>
  (ref02_Digit b_5).bind fun r_6 =>
  cond r_6
  (some true)
  (some false)))
  ((ixS x_0 (0 : Int)).bind fun b_7 =>
  (ref02_Digit b_7).bind fun r_8 =>
  cond r_8
  (cond r_4
  (some r_4)
  ((ixS x_0 (1 : Int)).bind fun b_9 =>
  (ref02_Digit b_9).bind fun r_10 =>
  cond r_10
  (some r_4)
  (some false)))
  (some false)))

def ref02_Suffix (x_0 : ByteArray) : Option (Bool) :=
 cond (x_0.toList == (⟨#[]⟩ : ByteArray).toList)
  (some true)
  (cond ((x_0.size : Int) == (1 : Int))
  ((ixS x_0 (0 : Int)).bind fun b_1 =>
  (ref02_Letter b_1).bind fun r_2 =>
  some r_2)
  (some false))

def ref02_Valid (x_0 : Flight) : Option (Bool) :=
 (ref02_Carrier x_0.Carrier).bind fun r_1 =>
  cond r_1
  (cond (decide ((1 : Int) ≤ x_0.Number))
  (cond (decide (x_0.Number ≤ (9999 : Int)))
  ((ref02_Suffix x_0.Suffix).bind fun r_2 =>
  cond r_2
  (cond (decide ((0 : Int) ≤ x_0.Day))
  (some (decide (x_0.Day ≤ (99 : Int))))
  (some false))
  (some false))
  (some false))
  (some false))
  (some false)

def ref02_ValidClass (x_0 : ByteArray) : Option (Bool) :=
 cond (x_0.toList == (⟨#[70]⟩ : ByteArray).toList)
  (some true)
  (cond (x_0.toList == (⟨#[67]⟩ : ByteArray).toList)
  (some true)
  (some (x_0.toList == (⟨#[89]⟩ : ByteArray).toList)))

def ref02_ValidLeg (x_0 : Leg) : Option (Bool) :=
 (ref02_Valid x_0.Flight).bind fun r_1 =>
  cond r_1
  ((ref02_ValidPort x_0.Port).bind fun r_2 =>
  cond r_2
  ((ref02_ValidClass x_0.Class).bind fun r_3 =>
  some r_3)
  (some false))
  (some false)

def ref04_letters_L1 (x_0 : ByteArray) : Nat → Int → Option (Ctl (Bool) (Unit))
 | 0, _ => none
 | q_4 + 1, i_1 => cond (decide (i_1 < (x_0.size : Int)))
  ((ixS x_0 i_1).bind fun b_2 =>
  (ref02_Letter b_2).bind fun r_3 =>
  cond (!r_3)
  (some (Ctl.ret false))
  (ref04_letters_L1 x_0 q_4 (w64 (i_1 + (1 : Int)))))
  (some (Ctl.brk ()))
def ref04_letters (x_0 : ByteArray) (x_1 : Int) : Option (Bool) :=
 Ctl.fin (ref04_letters_L1 x_0 9223372036854775808 (0 : Int)) fun z_5 =>
  cond (decide (x_1 ≤ (x_0.size : Int)))
  (some (decide ((x_0.size : Int) ≤ (20 : Int))))
  (some false)

def ref04_Name_L1 (x_0 : ByteArray) : Nat → Int → Option (Ctl (Bool) (Unit))
 | 0, _ => none
 | q_8 + 1, i_3 => cond (decide (i_3 < (x_0.size : Int)))
  ((ixS x_0 i_3).bind fun b_4 =>
  (ref02_Letter b_4).bind fun r_5 =>
  cond (!r_5)
  ((ixS x_0 i_3).bind fun b_6 =>
  (ref02_Digit b_6).bind fun r_7 =>
  cond (!r_7)
  (some (Ctl.ret false))
  (ref04_Name_L1 x_0 q_8 (w64 (i_3 + (1 : Int)))))
  (ref04_Name_L1 x_0 q_8 (w64 (i_3 + (1 : Int)))))
  (some (Ctl.brk ()))
def ref04_Name (x_0 : ByteArray) : Option (Bool) :=
 cond (decide ((x_0.size : Int) < (1 : Int)))
  (some false)
  (cond (decide ((12 : Int) < (x_0.size : Int)))
  (some false)
  ((ixS x_0 (0 : Int)).bind fun b_1 =>
  (ref02_Letter b_1).bind fun r_2 =>
  cond (!r_2)
  (some false)
  (Ctl.fin (ref04_Name_L1 x_0 9223372036854775807 (0 : Int)) fun z_9 =>
  some true)))

def ref04_spelled_L1 : (List Leg) → Nat → Option (Ctl (Bool) (Unit))
 | [], k_5 => some (Ctl.brk ())
 | e_6 :: q_8, k_5 => (ref02_ValidLeg e_6).bind fun r_7 =>
  cond (!r_7)
  (some (Ctl.ret false))
  (ref04_spelled_L1 q_8 (k_5 + 1))
def ref04_spelled (x_0 : Message) : Option (Bool) :=
 (ref02_ValidPort x_0.Port).bind fun r_1 =>
  cond (!r_1)
  (some false)
  (cond (x_0.Kind != (3 : Int))
  ((ref02_ValidLeg x_0.Out).bind fun r_2 =>
  cond (!r_2)
  (some false)
  (cond (x_0.Kind == (2 : Int))
  ((ref02_ValidLeg x_0.In).bind fun r_3 =>
  cond (!r_3)
  (some false)
  (Ctl.fin (ref04_spelled_L1 x_0.Onward 0) fun z_9 =>
  (ref04_Bag x_0.Kind).bind fun r_10 =>
  cond (!r_10)
  (some true)
  ((ref04_letters x_0.Surname (1 : Int)).bind fun r_11 =>
  cond r_11
  ((ref04_letters x_0.Given (0 : Int)).bind fun r_12 =>
  some r_12)
  (some false))))
  (cond (x_0.Kind == (3 : Int))
  ((ref04_Name x_0.Node).bind fun r_13 =>
  cond (!r_13)
  (some false)
  (Ctl.fin (ref04_spelled_L1 x_0.Onward 0) fun z_19 =>
  (ref04_Bag x_0.Kind).bind fun r_20 =>
  cond (!r_20)
  (some true)
  ((ref04_letters x_0.Surname (1 : Int)).bind fun r_21 =>
  cond r_21
  ((ref04_letters x_0.Given (0 : Int)).bind fun r_22 =>
  some r_22)
  (some false))))
  (Ctl.fin (ref04_spelled_L1 x_0.Onward 0) fun z_28 =>
  (ref04_Bag x_0.Kind).bind fun r_29 =>
  cond (!r_29)
  (some true)
  ((ref04_letters x_0.Surname (1 : Int)).bind fun r_30 =>
  cond r_30
  ((ref04_letters x_0.Given (0 : Int)).bind fun r_31 =>
  some r_31)
  (some false))))))
  (cond (x_0.Kind == (2 : Int))
  ((ref02_ValidLeg x_0.In).bind fun r_32 =>
  cond (!r_32)
  (some false)
  (Ctl.fin (ref04_spelled_L1 x_0.Onward 0) fun z_38 =>
  (ref04_Bag x_0.Kind).bind fun r_39 =>
  cond (!r_39)
  (some true)
  ((ref04_letters x_0.Surname (1 : Int)).bind fun r_40 =>
  cond r_40
  ((ref04_letters x_0.Given (0 : Int)).bind fun r_41 =>
  some r_41)
  (some false))))
  (cond (x_0.Kind == (3 : Int))
  ((ref04_Name x_0.Node).bind fun r_42 =>
  cond (!r_42)
  (some false)
  (Ctl.fin (ref04_spelled_L1 x_0.Onward 0) fun z_48 =>
  (ref04_Bag x_0.Kind).bind fun r_49 =>
  cond (!r_49)
  (some true)
  ((ref04_letters x_0.Surname (1 : Int)).bind fun r_50 =>
  cond r_50
  ((ref04_letters x_0.Given (0 : Int)).bind fun r_51 =>
  some r_51)
  (some false))))
  (Ctl.fin (ref04_spelled_L1 x_0.Onward 0) fun z_57 =>
  (ref04_Bag x_0.Kind).bind fun r_58 =>
  cond (!r_58)
  (some true)
  ((ref04_letters x_0.Surname (1 : Int)).bind fun r_59 =>
  cond r_59
  ((ref04_letters x_0.Given (0 : Int)).bind fun r_60 =>
  some r_60)
  (some false))))))

def ref04_counted_L1 : (List Int) → Nat → Option (Ctl (Bool) (Unit))
 | [], k_11 => some (Ctl.brk ())
 | e_12 :: q_14, k_11 => (ref04_in e_12 (1 : Int) (999 : Int)).bind fun r_13 =>
  cond (!r_13)
  (some (Ctl.ret false))
  (ref04_counted_L1 q_14 (k_11 + 1))
def ref04_counted (x_0 : Message) : Option (Bool) :=
 (ref04_in x_0.Number (1 : Int) (9999 : Int)).bind fun r_1 =>
  cond (!r_1)
  (some false)
  (cond (x_0.Kind != (5 : Int))
  ((ref01_Valid x_0.First).bind fun r_2 =>
  cond (!r_2)
  (some false)
  ((ref04_in x_0.Count (1 : Int) (99 : Int)).bind fun r_3 =>
  cond (!r_3)
  (some false)
  ((ref04_Bag x_0.Kind).bind fun r_4 =>
  cond r_4
  ((ref04_in x_0.Do (0 : Int) (2 : Int)).bind fun r_5 =>
  cond (!r_5)
  (some false)
  ((ref04_in x_0.Status (1 : Int) (4 : Int)).bind fun r_6 =>
  cond (!r_6)
  (some false)
  ((ref04_in x_0.Sequence (1 : Int) (999 : Int)).bind fun r_7 =>
  cond (!r_7)
  (some false)
  ((ref04_in x_0.Weight (0 : Int) (999 : Int)).bind fun r_8 =>
  cond (!r_8)
  (some false)
  ((ref04_in x_0.Exception (0 : Int) (3 : Int)).bind fun r_9 =>
  cond (!r_9)
  (some false)
  (Ctl.fin (ref04_counted_L1 x_0.List 0) fun z_15 =>
  some true))))))
  (Ctl.fin (ref04_counted_L1 x_0.List 0) fun z_21 =>
  some true))))
  ((ref04_Bag x_0.Kind).bind fun r_22 =>
  cond r_22
  ((ref04_in x_0.Do (0 : Int) (2 : Int)).bind fun r_23 =>
  cond (!r_23)
  (some false)
  ((ref04_in x_0.Status (1 : Int) (4 : Int)).bind fun r_24 =>
  cond (!r_24)
  (some false)
  ((ref04_in x_0.Sequence (1 : Int) (999 : Int)).bind fun r_25 =>
  cond (!r_25)
  (some false)
  ((ref04_in x_0.Weight (0 : Int) (999 : Int)).bind fun r_26 =>
  cond (!r_26)
  (some false)
  ((ref04_in x_0.Exception (0 : Int) (3 : Int)).bind fun r_27 =>
  cond (!r_27)
  (some false)
  (Ctl.fin (ref04_counted_L1 x_0.List 0) fun z_33 =>
  some true))))))
  (Ctl.fin (ref04_counted_L1 x_0.List 0) fun z_39 =>
  some true)))

def ref04_Validate_L1 (x_0 : Message) : Nat → Int → Option (Ctl (Int) (Unit))
 | 0, _ => none
 | q_9 + 1, i_6 => cond (decide (i_6 < (x_0.List.length : Int)))
  ((ixL x_0.List i_6).bind fun e_7 =>
  (ixL x_0.List (w64 (i_6 - (1 : Int)))).bind fun e_8 =>
  cond (decide (e_7 ≤ e_8))
  (some (Ctl.ret (9 : Int)))
  (ref04_Validate_L1 x_0 q_9 (w64 (i_6 + (1 : Int)))))
  (some (Ctl.brk ()))
def ref04_Validate (x_0 : Message) : Option (Int) :=
 (ref04_in x_0.Kind (1 : Int) (5 : Int)).bind fun r_1 =>
  cond (!r_1)
  (some (4 : Int))
  ((ref04_own x_0).bind fun r_2 =>
  (ref04_Same x_0 r_2).bind fun r_3 =>
  cond (!r_3)
  (some (7 : Int))
  (cond (decide ((3 : Int) < (x_0.Onward.length : Int)))
  (some (2 : Int))
  (cond (decide ((40 : Int) < (x_0.List.length : Int)))
  (some (2 : Int))
  ((ref04_spelled x_0).bind fun r_4 =>
  cond (!r_4)
  (some (3 : Int))
  ((ref04_counted x_0).bind fun r_5 =>
  cond (!r_5)
  (some (1 : Int))
  (Ctl.fin (ref04_Validate_L1 x_0 9223372036854775807 (1 : Int)) fun z_10 =>
  some (0 : Int)))))))

def ref01_Run_L1 (x_0 : Plate) (x_1 : Int) : Nat → (List Plate) → Int → Option (Ctl ((List Plate) × Int) ((List Plate)))
 | 0, _, _ => none
 | q_5 + 1, a_2, i_3 => cond (decide (i_3 < x_1))
  ((apL a_2 ([(⟨x_0.Lead, x_0.Airline, ((w64 (x_0.Serial + i_3)).tmod (1000000 : Int))⟩ : Plate)] : List Plate)).bind fun l_4 =>
  ref01_Run_L1 x_0 x_1 q_5 l_4 (w64 (i_3 + (1 : Int))))
  (some (Ctl.brk a_2))
def ref01_Run (x_0 : Plate) (x_1 : Int) : Option ((List Plate) × Int) :=
 (ref01_Valid x_0).bind fun r_1 =>
  cond (!r_1)
  (some (([] : (List Plate)), (1 : Int)))
  (cond (decide (x_1 < (1 : Int)))
  (some (([] : (List Plate)), (1 : Int)))
  (cond (decide ((99 : Int) < x_1))
  (some (([] : (List Plate)), (1 : Int)))
  (Ctl.fin (ref01_Run_L1 x_0 x_1 9223372036854775807 ([] : List Plate) (0 : Int)) fun z_6 =>
  some (z_6, (0 : Int)))))

def ref04_Plates (x_0 : Message) : Option ((List Plate)) :=
 (ref01_Run x_0.First x_0.Count).bind fun r_1 =>
  some r_1.1

def ref06_index_L1 (x_1 : Plate) : (List Bag) → Nat → Option (Ctl (Int) (Unit))
 | [], k_2 => some (Ctl.brk ())
 | e_3 :: q_4, k_2 => cond ((e_3.Plate.Lead == x_1.Lead) && ((e_3.Plate.Airline == x_1.Airline) && ((e_3.Plate.Serial == x_1.Serial) && true)))
  (some (Ctl.ret (k_2 : Int)))
  (ref06_index_L1 x_1 q_4 (k_2 + 1))
def ref06_index (x_0 : Registry) (x_1 : Plate) : Option (Int) :=
 Ctl.fin (ref06_index_L1 x_1 x_0.L 0) fun z_5 =>
  some (-1 : Int)

def ref06_possible_L1 (x_0 : Registry) (x_1 : Message) : (List Plate) → Nat → Option (Ctl (Int) (Unit))
 | [], k_3 => some (Ctl.brk ())
 | e_4 :: q_6, k_3 => (ref06_index x_0 e_4).bind fun r_5 =>
  cond (x_1.Do == (0 : Int))
  (cond (decide ((0 : Int) ≤ r_5))
  (some (Ctl.ret (5 : Int)))
  (ref06_possible_L1 x_0 x_1 q_6 (k_3 + 1)))
  (cond (!(decide ((0 : Int) ≤ r_5)))
  (some (Ctl.ret (6 : Int)))
  (ref06_possible_L1 x_0 x_1 q_6 (k_3 + 1)))
def ref06_possible_L2 (x_0 : Registry) (x_1 : Message) : (List Plate) → Nat → Option (Ctl (Int) (Unit))
 | [], k_9 => some (Ctl.brk ())
 | e_10 :: q_13, k_9 => cond (x_1.Kind == (4 : Int))
  ((ref06_index x_0 e_10).bind fun r_11 =>
  (ixL x_0.L r_11).bind fun e_12 =>
  cond (!((e_12.Out.Flight.Carrier.toList == x_1.Out.Flight.Carrier.toList) && ((e_12.Out.Flight.Number == x_1.Out.Flight.Number) && ((e_12.Out.Flight.Suffix.toList == x_1.Out.Flight.Suffix.toList) && ((e_12.Out.Flight.Day == x_1.Out.Flight.Day) && true)))))
  (some (Ctl.ret (7 : Int)))
  (ref06_possible_L2 x_0 x_1 q_13 (k_9 + 1)))
  (some (Ctl.brk ()))
def ref06_possible_L4 (x_0 : Registry) : (List Plate) → Nat → Option (Ctl (Int) (Unit))
 | [], k_23 => some (Ctl.brk ())
 | e_24 :: q_26, k_23 => (ref06_index x_0 e_24).bind fun r_25 =>
  cond (!(decide ((0 : Int) ≤ r_25)))
  (some (Ctl.ret (6 : Int)))
  (ref06_possible_L4 x_0 q_26 (k_23 + 1))
def ref06_possible (x_0 : Registry) (x_1 : Message) (x_2 : (List Plate)) : Option (Int) :=
 (ref04_Bag x_1.Kind).bind fun r_1 =>
  cond r_1
  (Ctl.fin (ref06_possible_L1 x_0 x_1 x_2 0) fun z_7 =>
  cond (x_1.Do == (0 : Int))
  (cond (decide ((200 : Int) < (w64 ((x_0.L.length : Int) + (x_2.length : Int)))))
  (some (2 : Int))
  (Ctl.fin (ref06_possible_L2 x_0 x_1 x_2 0) fun z_14 =>
  some (0 : Int)))
  (Ctl.fin (ref06_possible_L2 x_0 x_1 x_2 0) fun z_21 =>
  some (0 : Int)))
  (Ctl.fin (ref06_possible_L4 x_0 x_2 0) fun z_27 =>
  Ctl.fin (ref06_possible_L2 x_0 x_1 x_2 0) fun z_34 =>
  some (0 : Int))

def ref06_Find (x_0 : Registry) (x_1 : Plate) : Option (Bag × Bool) :=
 (ref06_index x_0 x_1).bind fun r_1 =>
  (ref06_Validate x_0).bind fun r_2 =>
  cond (r_2 != (0 : Int))
  (some ((⟨(⟨(0 : Int), (0 : Int), (0 : Int)⟩ : Plate), (⟨(⟨(⟨#[]⟩ : ByteArray), (0 : Int), (⟨#[]⟩ : ByteArray), (0 : Int)⟩ : Flight), (⟨#[]⟩ : ByteArray), (⟨#[]⟩ : ByteArray)⟩ : Leg), (⟨(⟨(⟨#[]⟩ : ByteArray), (0 : Int), (⟨#[]⟩ : ByteArray), (0 : Int)⟩ : Flight), (⟨#[]⟩ : ByteArray), (⟨#[]⟩ : ByteArray)⟩ : Leg), ([] : (List Leg)), (0 : Int), (0 : Int), (0 : Int), false, (⟨#[]⟩ : ByteArray), (⟨#[]⟩ : ByteArray), (0 : Int), (⟨#[]⟩ : ByteArray), false⟩ : Bag), false))
  (cond (decide (r_1 < (0 : Int)))
  (some ((⟨(⟨(0 : Int), (0 : Int), (0 : Int)⟩ : Plate), (⟨(⟨(⟨#[]⟩ : ByteArray), (0 : Int), (⟨#[]⟩ : ByteArray), (0 : Int)⟩ : Flight), (⟨#[]⟩ : ByteArray), (⟨#[]⟩ : ByteArray)⟩ : Leg), (⟨(⟨(⟨#[]⟩ : ByteArray), (0 : Int), (⟨#[]⟩ : ByteArray), (0 : Int)⟩ : Flight), (⟨#[]⟩ : ByteArray), (⟨#[]⟩ : ByteArray)⟩ : Leg), ([] : (List Leg)), (0 : Int), (0 : Int), (0 : Int), false, (⟨#[]⟩ : ByteArray), (⟨#[]⟩ : ByteArray), (0 : Int), (⟨#[]⟩ : ByteArray), false⟩ : Bag), false))
  ((ixL x_0.L r_1).bind fun e_3 =>
  some (e_3, true)))

def ref06_without_L1 (x_1 : Plate) : (List Bag) → Nat → (List Bag) → Option (Ctl (Registry) ((List Bag)))
 | [], k_3, a_1 => some (Ctl.brk a_1)
 | e_4 :: q_6, k_3, a_1 => cond (!((e_4.Plate.Lead == x_1.Lead) && ((e_4.Plate.Airline == x_1.Airline) && ((e_4.Plate.Serial == x_1.Serial) && true))))
  ((apL a_1 ([e_4] : List Bag)).bind fun l_5 =>
  ref06_without_L1 x_1 q_6 (k_3 + 1) l_5)
  (ref06_without_L1 x_1 q_6 (k_3 + 1) a_1)
def ref06_without (x_0 : Registry) (x_1 : Plate) : Option (Registry) :=
 Ctl.fin (ref06_without_L1 x_1 x_0.L 0 ([] : List Bag)) fun z_7 =>
  some (⟨z_7⟩ : Registry)

def ref06_data (x_0 : Bag) (x_1 : Message) : Option (Bag) :=
 (apL ([] : List Leg) x_1.Onward).bind fun l_1 =>
  some (⟨x_0.Plate, x_1.In, x_1.Out, l_1, x_1.Sequence, x_1.Status, x_1.Weight, x_1.Load, x_1.Surname, x_1.Given, x_1.Exception, x_0.Node, x_0.Unloaded⟩ : Bag)

def ref06_with_L1 (x_1 : Bag) : (List Bag) → Nat → (List Bag) → Option (Ctl (Registry) ((List Bag) × Int))
 | [], k_3, a_1 => some (Ctl.brk (a_1, (k_3 : Int)))
 | e_4 :: q_7, k_3, a_1 => (ref01_Compare e_4.Plate x_1.Plate).bind fun r_5 =>
  cond (decide (r_5 < (0 : Int)))
  ((apL a_1 ([e_4] : List Bag)).bind fun l_6 =>
  ref06_with_L1 x_1 q_7 (k_3 + 1) l_6)
  (some (Ctl.brk (a_1, (k_3 : Int))))
def ref06_with (x_0 : Registry) (x_1 : Bag) : Option (Registry) :=
 Ctl.fin (ref06_with_L1 x_1 x_0.L 0 ([] : List Bag)) fun z_8 =>
  (apL z_8.1 ([x_1] : List Bag)).bind fun l_9 =>
  cond (decide (z_8.2 < (x_0.L.length : Int)))
  ((ixL x_0.L z_8.2).bind fun e_10 =>
  cond ((e_10.Plate.Lead == x_1.Plate.Lead) && ((e_10.Plate.Airline == x_1.Plate.Airline) && ((e_10.Plate.Serial == x_1.Plate.Serial) && true)))
  ((slL x_0.L (w64 (z_8.2 + (1 : Int))) (x_0.L.length : Int)).bind fun l_11 =>
  (apL l_9 l_11).bind fun l_12 =>
  some (⟨l_12⟩ : Registry))
  ((slL x_0.L z_8.2 (x_0.L.length : Int)).bind fun l_13 =>
  (apL l_9 l_13).bind fun l_14 =>
  some (⟨l_14⟩ : Registry)))
  ((slL x_0.L z_8.2 (x_0.L.length : Int)).bind fun l_15 =>
  (apL l_9 l_15).bind fun l_16 =>
  some (⟨l_16⟩ : Registry))

def ref06_Apply_L1 : Nat → Option (Ctl (Registry × Int) (Unit))
 | 0 => none
 | q_5 + 1 => some (Ctl.brk ())
def ref06_Apply_L2 (x_1 : Message) : (List Plate) → Nat → (List Bag) → Option (Ctl (Registry × Int) ((List Bag)))
 | [], k_10, a_8 => some (Ctl.brk a_8)
 | e_11 :: q_25, k_10, a_8 => (ref06_Find (⟨a_8⟩ : Registry) e_11).bind fun r_12 =>
  (ref04_Bag x_1.Kind).bind fun r_13 =>
  cond r_13
  (cond (x_1.Do == (2 : Int))
  ((ref06_without (⟨a_8⟩ : Registry) e_11).bind fun r_14 =>
  ref06_Apply_L2 x_1 q_25 (k_10 + 1) r_14.L)
  ((ref04_Bag x_1.Kind).bind fun r_15 =>
  cond r_15
  ((ref06_data (⟨e_11, r_12.1.In, r_12.1.Out, r_12.1.Onward, r_12.1.Sequence, r_12.1.Status, r_12.1.Weight, r_12.1.Load, r_12.1.Surname, r_12.1.Given, r_12.1.Exception, r_12.1.Node, r_12.1.Unloaded⟩ : Bag) x_1).bind fun r_16 =>
  (ref06_with (⟨a_8⟩ : Registry) r_16).bind fun r_17 =>
  ref06_Apply_L2 x_1 q_25 (k_10 + 1) r_17.L)
  (cond (x_1.Kind == (3 : Int))
  ((ref06_with (⟨a_8⟩ : Registry) (⟨e_11, r_12.1.In, r_12.1.Out, r_12.1.Onward, r_12.1.Sequence, r_12.1.Status, r_12.1.Weight, r_12.1.Load, r_12.1.Surname, r_12.1.Given, r_12.1.Exception, x_1.Node, r_12.1.Unloaded⟩ : Bag)).bind fun r_18 =>
  ref06_Apply_L2 x_1 q_25 (k_10 + 1) r_18.L)
  ((ref06_with (⟨a_8⟩ : Registry) (⟨e_11, r_12.1.In, r_12.1.Out, r_12.1.Onward, r_12.1.Sequence, r_12.1.Status, r_12.1.Weight, false, r_12.1.Surname, r_12.1.Given, r_12.1.Exception, r_12.1.Node, true⟩ : Bag)).bind fun r_19 =>
  ref06_Apply_L2 x_1 q_25 (k_10 + 1) r_19.L))))
  ((ref04_Bag x_1.Kind).bind fun r_20 =>
  cond r_20
  ((ref06_data (⟨e_11, r_12.1.In, r_12.1.Out, r_12.1.Onward, r_12.1.Sequence, r_12.1.Status, r_12.1.Weight, r_12.1.Load, r_12.1.Surname, r_12.1.Given, r_12.1.Exception, r_12.1.Node, r_12.1.Unloaded⟩ : Bag) x_1).bind fun r_21 =>
  (ref06_with (⟨a_8⟩ : Registry) r_21).bind fun r_22 =>
  ref06_Apply_L2 x_1 q_25 (k_10 + 1) r_22.L)
  (cond (x_1.Kind == (3 : Int))
  ((ref06_with (⟨a_8⟩ : Registry) (⟨e_11, r_12.1.In, r_12.1.Out, r_12.1.Onward, r_12.1.Sequence, r_12.1.Status, r_12.1.Weight, r_12.1.Load, r_12.1.Surname, r_12.1.Given, r_12.1.Exception, x_1.Node, r_12.1.Unloaded⟩ : Bag)).bind fun r_23 =>
  ref06_Apply_L2 x_1 q_25 (k_10 + 1) r_23.L)
  ((ref06_with (⟨a_8⟩ : Registry) (⟨e_11, r_12.1.In, r_12.1.Out, r_12.1.Onward, r_12.1.Sequence, r_12.1.Status, r_12.1.Weight, false, r_12.1.Surname, r_12.1.Given, r_12.1.Exception, r_12.1.Node, true⟩ : Bag)).bind fun r_24 =>
  ref06_Apply_L2 x_1 q_25 (k_10 + 1) r_24.L)))
def ref06_Apply (x_0 : Registry) (x_1 : Message) : Option (Registry × Int) :=
 (ref06_Validate x_0).bind fun r_1 =>
  cond (r_1 != (0 : Int))
  (some ((⟨([] : (List Bag))⟩ : Registry), r_1))
  ((ref04_Validate x_1).bind fun r_2 =>
  cond (r_2 != (0 : Int))
  (some ((⟨([] : (List Bag))⟩ : Registry), r_2))
  ((ref04_Plates x_1).bind fun r_3 =>
  cond (x_1.Kind == (5 : Int))
  ((ref06_possible x_0 x_1 ([] : (List Plate))).bind fun r_4 =>
  cond (r_4 != (0 : Int))
  (some ((⟨([] : (List Bag))⟩ : Registry), r_4))
  (Ctl.fin (ref06_Apply_L1 9223372036854775807) fun z_6 =>
  some (x_0, (0 : Int))))
  ((ref06_possible x_0 x_1 r_3).bind fun r_7 =>
  cond (r_7 != (0 : Int))
  (some ((⟨([] : (List Bag))⟩ : Registry), r_7))
  (Ctl.fin (ref06_Apply_L2 x_1 r_3 0 x_0.L) fun z_26 =>
  some ((⟨z_26⟩ : Registry), (0 : Int))))))

def inbox_New (x_0 : Int) : Option (Inbox × Int) :=
 cond (decide (x_0 < (1 : Int)))
  (some ((⟨(0 : Int), ([] : (List Sender))⟩ : Inbox), (1 : Int)))
  (cond (decide ((8 : Int) < x_0))
  (some ((⟨(0 : Int), ([] : (List Sender))⟩ : Inbox), (1 : Int)))
  (some ((⟨x_0, ([] : (List Sender))⟩ : Inbox), (0 : Int))))

def keep_Src_More (x_0 : Src) : Option (Bool) :=
 some (decide (x_0.At < (x_0.L.length : Int)))

def message_in (x_0 : Int) (x_1 : Int) (x_2 : Int) : Option (Bool) :=
 cond (decide (x_1 ≤ x_0))
  (some (decide (x_0 ≤ x_2)))
  (some false)

def message_own (x_0 : Message) : Option (Message) :=
 cond (x_0.Kind == (1 : Int))
  (some (⟨x_0.Kind, x_0.Do, x_0.Port, x_0.Number, (⟨(⟨(⟨#[]⟩ : ByteArray), (0 : Int), (⟨#[]⟩ : ByteArray), (0 : Int)⟩ : Flight), (⟨#[]⟩ : ByteArray), (⟨#[]⟩ : ByteArray)⟩ : Leg), x_0.Out, x_0.Onward, x_0.First, x_0.Count, x_0.Load, x_0.Status, x_0.Sequence, x_0.Weight, x_0.Surname, x_0.Given, x_0.Exception, (⟨#[]⟩ : ByteArray), ([] : (List Int))⟩ : Message))
  (cond (x_0.Kind == (2 : Int))
  (some (⟨x_0.Kind, x_0.Do, x_0.Port, x_0.Number, x_0.In, x_0.Out, x_0.Onward, x_0.First, x_0.Count, x_0.Load, x_0.Status, x_0.Sequence, x_0.Weight, x_0.Surname, x_0.Given, x_0.Exception, (⟨#[]⟩ : ByteArray), ([] : (List Int))⟩ : Message))
  (cond (x_0.Kind == (3 : Int))
  (some (⟨x_0.Kind, (0 : Int), x_0.Port, x_0.Number, (⟨(⟨(⟨#[]⟩ : ByteArray), (0 : Int), (⟨#[]⟩ : ByteArray), (0 : Int)⟩ : Flight), (⟨#[]⟩ : ByteArray), (⟨#[]⟩ : ByteArray)⟩ : Leg), (⟨(⟨(⟨#[]⟩ : ByteArray), (0 : Int), (⟨#[]⟩ : ByteArray), (0 : Int)⟩ : Flight), (⟨#[]⟩ : ByteArray), (⟨#[]⟩ : ByteArray)⟩ : Leg), ([] : (List Leg)), x_0.First, x_0.Count, false, (0 : Int), (0 : Int), (0 : Int), (⟨#[]⟩ : ByteArray), (⟨#[]⟩ : ByteArray), (0 : Int), x_0.Node, ([] : (List Int))⟩ : Message))
  (cond (x_0.Kind == (4 : Int))
  (some (⟨x_0.Kind, (0 : Int), x_0.Port, x_0.Number, (⟨(⟨(⟨#[]⟩ : ByteArray), (0 : Int), (⟨#[]⟩ : ByteArray), (0 : Int)⟩ : Flight), (⟨#[]⟩ : ByteArray), (⟨#[]⟩ : ByteArray)⟩ : Leg), x_0.Out, ([] : (List Leg)), x_0.First, x_0.Count, false, (0 : Int), (0 : Int), (0 : Int), (⟨#[]⟩ : ByteArray), (⟨#[]⟩ : ByteArray), (0 : Int), (⟨#[]⟩ : ByteArray), ([] : (List Int))⟩ : Message))
  (cond (x_0.Kind == (5 : Int))
  (some (⟨x_0.Kind, (0 : Int), x_0.Port, x_0.Number, (⟨(⟨(⟨#[]⟩ : ByteArray), (0 : Int), (⟨#[]⟩ : ByteArray), (0 : Int)⟩ : Flight), (⟨#[]⟩ : ByteArray), (⟨#[]⟩ : ByteArray)⟩ : Leg), x_0.Out, ([] : (List Leg)), (⟨(0 : Int), (0 : Int), (0 : Int)⟩ : Plate), (0 : Int), false, (0 : Int), (0 : Int), (0 : Int), (⟨#[]⟩ : ByteArray), (⟨#[]⟩ : ByteArray), (0 : Int), (⟨#[]⟩ : ByteArray), x_0.List⟩ : Message))
  (some (⟨x_0.Kind, (0 : Int), x_0.Port, x_0.Number, (⟨(⟨(⟨#[]⟩ : ByteArray), (0 : Int), (⟨#[]⟩ : ByteArray), (0 : Int)⟩ : Flight), (⟨#[]⟩ : ByteArray), (⟨#[]⟩ : ByteArray)⟩ : Leg), (⟨(⟨(⟨#[]⟩ : ByteArray), (0 : Int), (⟨#[]⟩ : ByteArray), (0 : Int)⟩ : Flight), (⟨#[]⟩ : ByteArray), (⟨#[]⟩ : ByteArray)⟩ : Leg), ([] : (List Leg)), (⟨(0 : Int), (0 : Int), (0 : Int)⟩ : Plate), (0 : Int), false, (0 : Int), (0 : Int), (0 : Int), (⟨#[]⟩ : ByteArray), (⟨#[]⟩ : ByteArray), (0 : Int), (⟨#[]⟩ : ByteArray), ([] : (List Int))⟩ : Message))))))

def slices_Equal_Leg_L1 (x_1 : (List Leg)) : (List Leg) → Nat → Option (Ctl (Bool) (Unit))
 | [], k_2 => some (Ctl.brk ())
 | e_3 :: q_5, k_2 => (ixL x_1 (k_2 : Int)).bind fun e_4 =>
  cond (!((e_3.Flight.Carrier.toList == e_4.Flight.Carrier.toList) && ((e_3.Flight.Number == e_4.Flight.Number) && ((e_3.Flight.Suffix.toList == e_4.Flight.Suffix.toList) && ((e_3.Flight.Day == e_4.Flight.Day) && ((e_3.Port.toList == e_4.Port.toList) && ((e_3.Class.toList == e_4.Class.toList) && true)))))))
  (some (Ctl.ret false))
  (slices_Equal_Leg_L1 x_1 q_5 (k_2 + 1))
def slices_Equal_Leg (x_0 : (List Leg)) (x_1 : (List Leg)) : Option (Bool) :=
 cond ((x_0.length : Int) != (x_1.length : Int))
  (some false)
  (Ctl.fin (slices_Equal_Leg_L1 x_1 x_0 0) fun z_6 =>
  some true)

def slices_Equal_int_L1 (x_1 : (List Int)) : (List Int) → Nat → Option (Ctl (Bool) (Unit))
 | [], k_2 => some (Ctl.brk ())
 | e_3 :: q_5, k_2 => (ixL x_1 (k_2 : Int)).bind fun e_4 =>
  cond (e_3 != e_4)
  (some (Ctl.ret false))
  (slices_Equal_int_L1 x_1 q_5 (k_2 + 1))
def slices_Equal_int (x_0 : (List Int)) (x_1 : (List Int)) : Option (Bool) :=
 cond ((x_0.length : Int) != (x_1.length : Int))
  (some false)
  (Ctl.fin (slices_Equal_int_L1 x_1 x_0 0) fun z_6 =>
  some true)

def message_Same (x_0 : Message) (x_1 : Message) : Option (Bool) :=
 cond (x_0.Kind == x_1.Kind)
  (cond (x_0.Do == x_1.Do)
  (cond (x_0.Port.toList == x_1.Port.toList)
  (cond (x_0.Number == x_1.Number)
  (cond ((x_0.In.Flight.Carrier.toList == x_1.In.Flight.Carrier.toList) && ((x_0.In.Flight.Number == x_1.In.Flight.Number) && ((x_0.In.Flight.Suffix.toList == x_1.In.Flight.Suffix.toList) && ((x_0.In.Flight.Day == x_1.In.Flight.Day) && ((x_0.In.Port.toList == x_1.In.Port.toList) && ((x_0.In.Class.toList == x_1.In.Class.toList) && true))))))
  (cond ((x_0.Out.Flight.Carrier.toList == x_1.Out.Flight.Carrier.toList) && ((x_0.Out.Flight.Number == x_1.Out.Flight.Number) && ((x_0.Out.Flight.Suffix.toList == x_1.Out.Flight.Suffix.toList) && ((x_0.Out.Flight.Day == x_1.Out.Flight.Day) && ((x_0.Out.Port.toList == x_1.Out.Port.toList) && ((x_0.Out.Class.toList == x_1.Out.Class.toList) && true))))))
  ((slices_Equal_Leg x_0.Onward x_1.Onward).bind fun r_1 =>
  cond r_1
  (cond ((x_0.First.Lead == x_1.First.Lead) && ((x_0.First.Airline == x_1.First.Airline) && ((x_0.First.Serial == x_1.First.Serial) && true)))
  (cond (x_0.Count == x_1.Count)
  (cond (x_0.Load == x_1.Load)
  (cond (x_0.Status == x_1.Status)
  (cond (x_0.Sequence == x_1.Sequence)
  (cond (x_0.Weight == x_1.Weight)
  (cond (x_0.Surname.toList == x_1.Surname.toList)
  (cond (x_0.Given.toList == x_1.Given.toList)
  (cond (x_0.Exception == x_1.Exception)
  (cond (x_0.Node.toList == x_1.Node.toList)
  ((slices_Equal_int x_0.List x_1.List).bind fun r_2 =>
  some r_2)
  (some false))
  (some false))
  (some false))
  (some false))
  (some false))
  (some false))
  (some false))
  (some false))
  (some false))
  (some false))
  (some false))
  (some false))
  (some false))
  (some false))
  (some false))
  (some false))
  (some false)

def fields_Letter (x_0 : Int) : Option (Bool) :=
 cond (decide ((65 : Int) ≤ x_0))
  (some (decide (x_0 ≤ (90 : Int))))
  (some false)

def fields_All_L1 (x_0 : ByteArray) : Nat → Int → Option (Ctl (Bool) (Unit))
 | 0, _ => none
 | q_4 + 1, i_1 => cond (decide (i_1 < (x_0.size : Int)))
  ((ixS x_0 i_1).bind fun b_2 =>
  (fields_Letter b_2).bind fun r_3 =>
  cond (!r_3)
  (some (Ctl.ret false))
  (fields_All_L1 x_0 q_4 (w64 (i_1 + (1 : Int)))))
  (some (Ctl.brk ()))
def fields_All (x_0 : ByteArray) : Option (Bool) :=
 Ctl.fin (fields_All_L1 x_0 9223372036854775807 (0 : Int)) fun z_5 =>
  some true

def fields_Letters (x_0 : ByteArray) (x_1 : Int) (x_2 : Int) : Option (Bool) :=
 cond (decide (x_1 ≤ (x_0.size : Int)))
  (cond (decide ((x_0.size : Int) ≤ x_2))
  ((fields_All x_0).bind fun r_1 =>
  some r_1)
  (some false))
  (some false)

def flight_ValidPort (x_0 : ByteArray) : Option (Bool) :=
 (fields_Letters x_0 (3 : Int) (3 : Int)).bind fun r_1 =>
  some r_1

def fields_Digit (x_0 : Int) : Option (Bool) :=
 cond (decide ((48 : Int) ≤ x_0))
  (some (decide (x_0 ≤ (57 : Int))))
  (some false)

def flight_carrier_L1 (x_0 : ByteArray) : Nat → Int → Int → Option (Ctl (Bool) (Int))
 | 0, _, _ => none
 | q_7 + 1, i_1, i_2 => cond (decide (i_2 < (x_0.size : Int)))
  ((ixS x_0 i_2).bind fun b_3 =>
  (fields_Letter b_3).bind fun r_4 =>
  cond r_4
  (flight_carrier_L1 x_0 q_7 (w64 (i_1 + (1 : Int))) (w64 (i_2 + (1 : Int))))
  ((ixS x_0 i_2).bind fun b_5 =>
  (fields_Digit b_5).bind fun r_6 =>
  cond (!r_6)
  (some (Ctl.ret false))
  (flight_carrier_L1 x_0 q_7 i_1 (w64 (i_2 + (1 : Int))))))
  (some (Ctl.brk i_1))
def flight_carrier (x_0 : ByteArray) : Option (Bool) :=
 cond ((x_0.size : Int) != (2 : Int))
  (some false)
  (Ctl.fin (flight_carrier_L1 x_0 9223372036854775807 (0 : Int) (0 : Int)) fun z_8 =>
  some (decide ((0 : Int) < z_8)))

def flight_Valid (x_0 : Flight) : Option (Bool) :=
 (flight_carrier x_0.Carrier).bind fun r_1 =>
  cond r_1
  (cond (decide ((1 : Int) ≤ x_0.Number))
  (cond (decide (x_0.Number ≤ (9999 : Int)))
  ((fields_Letters x_0.Suffix (0 : Int) (1 : Int)).bind fun r_2 =>
  cond r_2
  (cond (decide ((0 : Int) ≤ x_0.Day))
  (some (decide (x_0.Day ≤ (99 : Int))))
  (some false))
  (some false))
  (some false))
  (some false))
  (some false)

def flight_ValidLeg (x_0 : Leg) : Option (Bool) :=
 (flight_Valid x_0.Flight).bind fun r_1 =>
  cond r_1
  ((flight_ValidPort x_0.Port).bind fun r_2 =>
  cond r_2
  (cond (x_0.Class.toList == (⟨#[70]⟩ : ByteArray).toList)
  (some true)
  (cond (x_0.Class.toList == (⟨#[67]⟩ : ByteArray).toList)
  (some true)
  (some (x_0.Class.toList == (⟨#[89]⟩ : ByteArray).toList))))
  (some false))
  (some false)

def message_describes (x_0 : Int) : Option (Bool) :=
 cond (x_0 == (1 : Int))
  (some true)
  (some (x_0 == (2 : Int)))

def fields_Name_f1 (x_0 : Int) : Option (Bool) :=
 (fields_Letter x_0).bind fun r_1 =>
  cond r_1
  (some true)
  ((fields_Digit x_0).bind fun r_2 =>
  some r_2)

def fields_All_v2_L1 (x_0 : ByteArray) : Nat → Int → Option (Ctl (Bool) (Unit))
 | 0, _ => none
 | q_4 + 1, i_1 => cond (decide (i_1 < (x_0.size : Int)))
  ((ixS x_0 i_1).bind fun b_2 =>
  (fields_Name_f1 b_2).bind fun r_3 =>
  cond (!r_3)
  (some (Ctl.ret false))
  (fields_All_v2_L1 x_0 q_4 (w64 (i_1 + (1 : Int)))))
  (some (Ctl.brk ()))
def fields_All_v2 (x_0 : ByteArray) : Option (Bool) :=
 Ctl.fin (fields_All_v2_L1 x_0 9223372036854775807 (0 : Int)) fun z_5 =>
  some true

def fields_Name (x_0 : ByteArray) (x_1 : Int) : Option (Bool) :=
 cond (!(x_0.toList == (⟨#[]⟩ : ByteArray).toList))
  (cond (decide ((x_0.size : Int) ≤ x_1))
  ((ixS x_0 (0 : Int)).bind fun b_1 =>
  (fields_Letter b_1).bind fun r_2 =>
  cond r_2
  ((fields_All_v2 x_0).bind fun r_3 =>
  some r_3)
  (some false))
  (some false))
  (some false)

def message_shaped_L1 : (List Leg) → Nat → Option (Ctl (Bool) (Unit))
 | [], k_5 => some (Ctl.brk ())
 | e_6 :: q_8, k_5 => (flight_ValidLeg e_6).bind fun r_7 =>
  cond (!r_7)
  (some (Ctl.ret false))
  (message_shaped_L1 q_8 (k_5 + 1))
def message_shaped (x_0 : Message) : Option (Bool) :=
 (flight_ValidPort x_0.Port).bind fun r_1 =>
  cond (!r_1)
  (some false)
  (cond (x_0.Kind == (2 : Int))
  ((flight_ValidLeg x_0.In).bind fun r_2 =>
  cond (!r_2)
  (some false)
  (cond (x_0.Kind != (3 : Int))
  ((flight_ValidLeg x_0.Out).bind fun r_3 =>
  cond (!r_3)
  (some false)
  (Ctl.fin (message_shaped_L1 x_0.Onward 0) fun z_9 =>
  (message_describes x_0.Kind).bind fun r_10 =>
  cond r_10
  ((fields_Letters x_0.Surname (1 : Int) (20 : Int)).bind fun r_11 =>
  cond (!r_11)
  (some false)
  ((fields_Letters x_0.Given (0 : Int) (20 : Int)).bind fun r_12 =>
  cond (!r_12)
  (some false)
  (some true)))
  (some true)))
  (Ctl.fin (message_shaped_L1 x_0.Onward 0) fun z_18 =>
  (message_describes x_0.Kind).bind fun r_19 =>
  cond r_19
  ((fields_Letters x_0.Surname (1 : Int) (20 : Int)).bind fun r_20 =>
  cond (!r_20)
  (some false)
  ((fields_Letters x_0.Given (0 : Int) (20 : Int)).bind fun r_21 =>
  cond (!r_21)
  (some false)
  ((fields_Name x_0.Node (12 : Int)).bind fun r_22 =>
  some r_22)))
  ((fields_Name x_0.Node (12 : Int)).bind fun r_23 =>
  some r_23))))
  (cond (x_0.Kind != (3 : Int))
  ((flight_ValidLeg x_0.Out).bind fun r_24 =>
  cond (!r_24)
  (some false)
  (Ctl.fin (message_shaped_L1 x_0.Onward 0) fun z_30 =>
  (message_describes x_0.Kind).bind fun r_31 =>
  cond r_31
  ((fields_Letters x_0.Surname (1 : Int) (20 : Int)).bind fun r_32 =>
  cond (!r_32)
  (some false)
  ((fields_Letters x_0.Given (0 : Int) (20 : Int)).bind fun r_33 =>
  cond (!r_33)
  (some false)
  (some true)))
  (some true)))
  (Ctl.fin (message_shaped_L1 x_0.Onward 0) fun z_39 =>
  (message_describes x_0.Kind).bind fun r_40 =>
  cond r_40
  ((fields_Letters x_0.Surname (1 : Int) (20 : Int)).bind fun r_41 =>
  cond (!r_41)
  (some false)
  ((fields_Letters x_0.Given (0 : Int) (20 : Int)).bind fun r_42 =>
  cond (!r_42)
  (some false)
  ((fields_Name x_0.Node (12 : Int)).bind fun r_43 =>
  some r_43)))
  ((fields_Name x_0.Node (12 : Int)).bind fun r_44 =>
  some r_44))))

def plate_Valid (x_0 : Plate) : Option (Bool) :=
 cond (decide ((0 : Int) ≤ x_0.Lead))
  (cond (decide (x_0.Lead ≤ (9 : Int)))
  (cond (decide ((1 : Int) ≤ x_0.Airline))
  (cond (decide (x_0.Airline ≤ (999 : Int)))
  (cond (decide ((0 : Int) ≤ x_0.Serial))
  (some (decide (x_0.Serial < (1000000 : Int))))
  (some false))
  (some false))
  (some false))
  (some false))
  (some false)

def message_ranged_f1 (x_0 : Int) : Option (Bool) :=
 (message_in x_0 (1 : Int) (999 : Int)).bind fun r_1 =>
  some (!r_1)

def slices_IndexFunc_int_L1 : (List Int) → Nat → Option (Ctl (Int) (Unit))
 | [], k_2 => some (Ctl.brk ())
 | e_3 :: q_5, k_2 => (message_ranged_f1 e_3).bind fun r_4 =>
  cond r_4
  (some (Ctl.ret (k_2 : Int)))
  (slices_IndexFunc_int_L1 q_5 (k_2 + 1))
def slices_IndexFunc_int (x_0 : (List Int)) : Option (Int) :=
 Ctl.fin (slices_IndexFunc_int_L1 x_0 0) fun z_6 =>
  some (-1 : Int)

def slices_ContainsFunc_int (x_0 : (List Int)) : Option (Bool) :=
 (slices_IndexFunc_int x_0).bind fun r_1 =>
  some (decide ((0 : Int) ≤ r_1))

def message_ranged (x_0 : Message) : Option (Bool) :=
 (message_in x_0.Number (1 : Int) (9999 : Int)).bind fun r_1 =>
  cond (!r_1)
  (some false)
  ((message_in x_0.Do (0 : Int) (2 : Int)).bind fun r_2 =>
  cond (!r_2)
  (some false)
  ((message_in x_0.Weight (0 : Int) (999 : Int)).bind fun r_3 =>
  cond (!r_3)
  (some false)
  ((message_in x_0.Exception (0 : Int) (3 : Int)).bind fun r_4 =>
  cond (!r_4)
  (some false)
  (cond (x_0.Kind != (5 : Int))
  ((plate_Valid x_0.First).bind fun r_5 =>
  cond (!r_5)
  (some false)
  ((message_in x_0.Count (1 : Int) (99 : Int)).bind fun r_6 =>
  cond (!r_6)
  (some false)
  ((message_describes x_0.Kind).bind fun r_7 =>
  cond r_7
  ((message_in x_0.Status (1 : Int) (4 : Int)).bind fun r_8 =>
  cond (!r_8)
  (some false)
  ((message_in x_0.Sequence (1 : Int) (999 : Int)).bind fun r_9 =>
  cond (!r_9)
  (some false)
  ((slices_ContainsFunc_int x_0.List).bind fun r_10 =>
  some (!r_10))))
  ((slices_ContainsFunc_int x_0.List).bind fun r_11 =>
  some (!r_11)))))
  ((message_describes x_0.Kind).bind fun r_12 =>
  cond r_12
  ((message_in x_0.Status (1 : Int) (4 : Int)).bind fun r_13 =>
  cond (!r_13)
  (some false)
  ((message_in x_0.Sequence (1 : Int) (999 : Int)).bind fun r_14 =>
  cond (!r_14)
  (some false)
  ((slices_ContainsFunc_int x_0.List).bind fun r_15 =>
  some (!r_15))))
  ((slices_ContainsFunc_int x_0.List).bind fun r_16 =>
  some (!r_16)))))))

def message_Validate_L1 (x_0 : Message) : Nat → Int → Option (Ctl (Int) (Unit))
 | 0, _ => none
 | q_9 + 1, i_6 => cond (decide (i_6 < (x_0.List.length : Int)))
  ((ixL x_0.List (w64 (i_6 - (1 : Int)))).bind fun e_7 =>
  (ixL x_0.List i_6).bind fun e_8 =>
  cond (decide (e_8 ≤ e_7))
  (some (Ctl.ret (9 : Int)))
  (message_Validate_L1 x_0 q_9 (w64 (i_6 + (1 : Int)))))
  (some (Ctl.brk ()))
def message_Validate (x_0 : Message) : Option (Int) :=
 (message_in x_0.Kind (1 : Int) (5 : Int)).bind fun r_1 =>
  cond (!r_1)
  (some (4 : Int))
  ((message_own x_0).bind fun r_2 =>
  (message_Same x_0 r_2).bind fun r_3 =>
  cond (!r_3)
  (some (7 : Int))
  (cond (decide ((3 : Int) < (x_0.Onward.length : Int)))
  (some (2 : Int))
  (cond (decide ((40 : Int) < (x_0.List.length : Int)))
  (some (2 : Int))
  ((message_shaped x_0).bind fun r_4 =>
  cond (!r_4)
  (some (3 : Int))
  ((message_ranged x_0).bind fun r_5 =>
  cond (!r_5)
  (some (1 : Int))
  (Ctl.fin (message_Validate_L1 x_0 9223372036854775807 (1 : Int)) fun z_10 =>
  some (0 : Int)))))))

def strings_Compare (x_0 : ByteArray) (x_1 : ByteArray) : Option (Int) :=
 some (Lib.compareBytes x_0.data.toList x_1.data.toList)

def inbox_find_f1 (x_0 : Sender) (x_1 : ByteArray) : Option (Int) :=
 (strings_Compare x_0.Port x_1).bind fun r_1 =>
  some r_1

def slices_BinarySearchFunc_string_L1 (x_0 : (List Sender)) (x_1 : ByteArray) : Nat → Int → Int → Option (Ctl (Int × Bool) (Int))
 | 0, _, _ => none
 | q_5 + 1, i_1, i_2 => cond (decide (i_1 < i_2))
  ((ixL x_0 (IntKind.i64.wrap (shrF .u64 (IntKind.u64.wrap (w64 (i_1 + i_2))) (1 : Int)))).bind fun e_3 =>
  (inbox_find_f1 e_3 x_1).bind fun r_4 =>
  cond (decide (r_4 < (0 : Int)))
  (slices_BinarySearchFunc_string_L1 x_0 x_1 q_5 (w64 ((IntKind.i64.wrap (shrF .u64 (IntKind.u64.wrap (w64 (i_1 + i_2))) (1 : Int))) + (1 : Int))) i_2)
  (slices_BinarySearchFunc_string_L1 x_0 x_1 q_5 i_1 (IntKind.i64.wrap (shrF .u64 (IntKind.u64.wrap (w64 (i_1 + i_2))) (1 : Int)))))
  (some (Ctl.brk i_1))
def slices_BinarySearchFunc_string (x_0 : (List Sender)) (x_1 : ByteArray) : Option (Int × Bool) :=
 Ctl.fin (slices_BinarySearchFunc_string_L1 x_0 x_1 9223372036854775807 (0 : Int) (x_0.length : Int)) fun z_6 =>
  cond (decide (z_6 < (x_0.length : Int)))
  ((ixL x_0 z_6).bind fun e_7 =>
  (inbox_find_f1 e_7 x_1).bind fun r_8 =>
  some (z_6, (r_8 == (0 : Int))))
  (some (z_6, false))

def inbox_find (x_0 : Inbox) (x_1 : ByteArray) : Option (Int × Bool) :=
 (slices_BinarySearchFunc_string x_0.L x_1).bind fun r_1 =>
  some (r_1.1, r_1.2)

def cmp_isNaN_int (x_0 : Int) : Option (Bool) :=
 some (x_0 != x_0)

def cmp_Compare_int (x_0 : Int) (x_1 : Int) : Option (Int) :=
 (cmp_isNaN_int x_0).bind fun r_1 =>
  (cmp_isNaN_int x_1).bind fun r_2 =>
  cond r_1
  (cond r_2
  (some (0 : Int))
  (some (-1 : Int)))
  (cond r_2
  (some (1 : Int))
  (cond (decide (x_0 < x_1))
  (some (-1 : Int))
  (cond (decide (x_1 < x_0))
  (some (1 : Int))
  (some (0 : Int)))))

def inbox_Receive_f1 (x_0 : Message) (x_1 : Int) : Option (Int) :=
 (cmp_Compare_int x_0.Number x_1).bind fun r_1 =>
  some r_1

def slices_BinarySearchFunc_int_L1 (x_0 : (List Message)) (x_1 : Int) : Nat → Int → Int → Option (Ctl (Int × Bool) (Int))
 | 0, _, _ => none
 | q_5 + 1, i_1, i_2 => cond (decide (i_1 < i_2))
  ((ixL x_0 (IntKind.i64.wrap (shrF .u64 (IntKind.u64.wrap (w64 (i_1 + i_2))) (1 : Int)))).bind fun e_3 =>
  (inbox_Receive_f1 e_3 x_1).bind fun r_4 =>
  cond (decide (r_4 < (0 : Int)))
  (slices_BinarySearchFunc_int_L1 x_0 x_1 q_5 (w64 ((IntKind.i64.wrap (shrF .u64 (IntKind.u64.wrap (w64 (i_1 + i_2))) (1 : Int))) + (1 : Int))) i_2)
  (slices_BinarySearchFunc_int_L1 x_0 x_1 q_5 i_1 (IntKind.i64.wrap (shrF .u64 (IntKind.u64.wrap (w64 (i_1 + i_2))) (1 : Int)))))
  (some (Ctl.brk i_1))
def slices_BinarySearchFunc_int (x_0 : (List Message)) (x_1 : Int) : Option (Int × Bool) :=
 Ctl.fin (slices_BinarySearchFunc_int_L1 x_0 x_1 9223372036854775807 (0 : Int) (x_0.length : Int)) fun z_6 =>
  cond (decide (z_6 < (x_0.length : Int)))
  ((ixL x_0 z_6).bind fun e_7 =>
  (inbox_Receive_f1 e_7 x_1).bind fun r_8 =>
  some (z_6, (r_8 == (0 : Int))))
  (some (z_6, false))

def slices_Clone_Leg (x_0 : (List Leg)) : Option ((List Leg)) :=
 apL [] x_0

def slices_Clone_int (x_0 : (List Int)) : Option ((List Int)) :=
 apL [] x_0

def inbox_copied (x_0 : Message) : Option (Message) :=
 (slices_Clone_Leg x_0.Onward).bind fun r_1 =>
  (slices_Clone_int x_0.List).bind fun r_2 =>
  some (⟨x_0.Kind, x_0.Do, x_0.Port, x_0.Number, x_0.In, x_0.Out, r_1, x_0.First, x_0.Count, x_0.Load, x_0.Status, x_0.Sequence, x_0.Weight, x_0.Surname, x_0.Given, x_0.Exception, x_0.Node, r_2⟩ : Message)

def inbox_clone_L2 : (List Message) → Nat → (List Message) → Option (Ctl (Inbox) ((List Message)))
 | [], k_7, a_5 => some (Ctl.brk a_5)
 | e_8 :: q_11, k_7, a_5 => (inbox_copied e_8).bind fun r_9 =>
  (apL a_5 ([r_9] : List Message)).bind fun l_10 =>
  inbox_clone_L2 q_11 (k_7 + 1) l_10
def inbox_clone_L1 : (List Sender) → Nat → (List Sender) → Option (Ctl (Inbox) ((List Sender)))
 | [], k_3, a_1 => some (Ctl.brk a_1)
 | e_4 :: q_14, k_3, a_1 => Ctl.sub (inbox_clone_L2 e_4.Held 0 ([] : List Message)) fun z_12 =>
  (apL a_1 ([(⟨e_4.Port, e_4.Next, z_12⟩ : Sender)] : List Sender)).bind fun l_13 =>
  inbox_clone_L1 q_14 (k_3 + 1) l_13
def inbox_clone (x_0 : Inbox) : Option (Inbox) :=
 Ctl.fin (inbox_clone_L1 x_0.L 0 ([] : List Sender)) fun z_15 =>
  some (⟨x_0.Window, z_15⟩ : Inbox)

def slices_Insert_Message (x_0 : (List Message)) (x_1 : Int) (x_2 : (List Message)) : Option ((List Message)) :=
 insL x_0 x_1 x_2

def slices_Clone_Message (x_0 : (List Message)) : Option ((List Message)) :=
 apL [] x_0

def inbox_release_L1 (x_1 : Nat) : Nat → (List Sender) → Int → Option (Ctl ((List Message) × (List Sender)) ((List Sender) × Int))
 | 0, _, _ => none
 | q_5 + 1, a_1, i_2 => (ixL a_1 (x_1 : Int)).bind fun v_3 =>
  cond (decide (i_2 < (v_3.Held.length : Int)))
  ((ixL v_3.Held i_2).bind fun e_4 =>
  cond (e_4.Number == v_3.Next)
  (inbox_release_L1 x_1 q_5 (a_1.set (x_1 : Int).toNat (⟨v_3.Port, (w64 (v_3.Next + (1 : Int))), v_3.Held⟩ : Sender)) (w64 (i_2 + (1 : Int))))
  (some (Ctl.brk (a_1, i_2))))
  (some (Ctl.brk (a_1, i_2)))
def inbox_release (x_0 : (List Sender)) (x_1 : Nat) : Option ((List Message) × (List Sender)) :=
 Ctl.fin (inbox_release_L1 x_1 9223372036854775807 x_0 (0 : Int)) fun z_6 =>
  (ixL z_6.1 (x_1 : Int)).bind fun v_7 =>
  (slL v_7.Held 0 z_6.2).bind fun l_8 =>
  (slices_Clone_Message l_8).bind fun r_9 =>
  (slL v_7.Held z_6.2 (v_7.Held.length : Int)).bind fun l_10 =>
  (slices_Clone_Message l_10).bind fun r_11 =>
  some (r_9, (z_6.1.set (x_1 : Int).toNat (⟨v_7.Port, v_7.Next, r_11⟩ : Sender)))

def slices_Insert_Message_v2 (x_0 : Int) (x_1 : (List Message)) : Option ((List Message)) :=
 insL ([] : List Message) x_0 x_1

def inbox_Receive (x_0 : Inbox) (x_1 : Message) : Option (Inbox × (List Message) × Int × Int) :=
 (message_Validate x_1).bind fun r_1 =>
  cond (r_1 != (0 : Int))
  (some ((⟨(0 : Int), ([] : (List Sender))⟩ : Inbox), ([] : (List Message)), (0 : Int), r_1))
  ((inbox_find x_0 x_1.Port).bind fun r_2 =>
  cond r_2.2
  ((ixL x_0.L r_2.1).bind fun e_3 =>
  (slices_BinarySearchFunc_int e_3.Held x_1.Number).bind fun r_4 =>
  cond (decide (x_1.Number < e_3.Next))
  ((inbox_clone x_0).bind fun r_5 =>
  some (r_5, ([] : (List Message)), (3 : Int), (0 : Int)))
  (cond (decide ((w64 (e_3.Next + x_0.Window)) ≤ x_1.Number))
  ((inbox_clone x_0).bind fun r_6 =>
  some (r_6, ([] : (List Message)), (4 : Int), (0 : Int)))
  (cond r_4.2
  ((ixL e_3.Held r_4.1).bind fun e_7 =>
  (message_Same e_7 x_1).bind fun r_8 =>
  cond r_8
  ((inbox_clone x_0).bind fun r_9 =>
  some (r_9, ([] : (List Message)), (3 : Int), (0 : Int)))
  ((inbox_clone x_0).bind fun r_10 =>
  some (r_10, ([] : (List Message)), (5 : Int), (0 : Int))))
  ((focE (inbox_clone x_0) (fun r => r.L) r_2.1).bind fun r_11 =>
  (inbox_copied x_1).bind fun r_12 =>
  (slices_Insert_Message r_11.2.Held r_4.1 ([r_12] : List Message)).bind fun r_13 =>
  (ixL (r_11.1.L.set r_2.1.toNat (⟨r_11.2.Port, r_11.2.Next, r_13⟩ : Sender)) r_2.1).bind fun v_14 =>
  cond (decide (v_14.Next < x_1.Number))
  (some ((⟨r_11.1.Window, (r_11.1.L.set r_2.1.toNat (⟨r_11.2.Port, r_11.2.Next, r_13⟩ : Sender))⟩ : Inbox), ([] : (List Message)), (2 : Int), (0 : Int)))
  ((inbox_release (r_11.1.L.set r_2.1.toNat (⟨r_11.2.Port, r_11.2.Next, r_13⟩ : Sender)) ((r_2.1).toNat)).bind fun r_15 =>
  some ((⟨r_11.1.Window, r_15.2⟩ : Inbox), r_15.1, (1 : Int), (0 : Int)))))))
  ((slices_BinarySearchFunc_int ([] : (List Message)) x_1.Number).bind fun r_16 =>
  cond (decide (x_1.Number < (1 : Int)))
  ((inbox_clone x_0).bind fun r_17 =>
  some (r_17, ([] : (List Message)), (3 : Int), (0 : Int)))
  (cond (decide ((w64 ((1 : Int) + x_0.Window)) ≤ x_1.Number))
  ((inbox_clone x_0).bind fun r_18 =>
  some (r_18, ([] : (List Message)), (4 : Int), (0 : Int)))
  (cond r_16.2
  (none)
  (cond (decide ((16 : Int) ≤ (x_0.L.length : Int)))
  (some ((⟨(0 : Int), ([] : (List Sender))⟩ : Inbox), ([] : (List Message)), (0 : Int), (2 : Int)))
  ((inbox_clone x_0).bind fun r_19 =>
  (insL r_19.L r_2.1 ([(⟨x_1.Port, (1 : Int), ([] : (List Message))⟩ : Sender)] : List Sender)).bind fun r_20 =>
  (inbox_copied x_1).bind fun r_21 =>
  (slices_Insert_Message_v2 r_16.1 ([r_21] : List Message)).bind fun r_22 =>
  (ixL (r_20.set r_2.1.toNat (⟨x_1.Port, (1 : Int), r_22⟩ : Sender)) r_2.1).bind fun v_23 =>
  cond (decide (v_23.Next < x_1.Number))
  (some ((⟨r_19.Window, (r_20.set r_2.1.toNat (⟨x_1.Port, (1 : Int), r_22⟩ : Sender))⟩ : Inbox), ([] : (List Message)), (2 : Int), (0 : Int)))
  ((inbox_release (r_20.set r_2.1.toNat (⟨x_1.Port, (1 : Int), r_22⟩ : Sender)) ((r_2.1).toNat)).bind fun r_24 =>
  some ((⟨r_19.Window, r_24.2⟩ : Inbox), r_24.1, (1 : Int), (0 : Int)))))))))

def cmp_Or_int_L1 : (List Int) → Nat → Option (Ctl (Int) (Unit))
 | [], k_2 => some (Ctl.brk ())
 | e_3 :: q_4, k_2 => cond (e_3 != (0 : Int))
  (some (Ctl.ret e_3))
  (cmp_Or_int_L1 q_4 (k_2 + 1))
def cmp_Or_int (x_0 : (List Int)) : Option (Int) :=
 Ctl.fin (cmp_Or_int_L1 x_0 0) fun z_5 =>
  some (0 : Int)

def plate_Compare (x_0 : Plate) (x_1 : Plate) : Option (Int) :=
 (cmp_Compare_int x_0.Lead x_1.Lead).bind fun r_1 =>
  (cmp_Compare_int x_0.Airline x_1.Airline).bind fun r_2 =>
  (cmp_Compare_int x_0.Serial x_1.Serial).bind fun r_3 =>
  (cmp_Or_int ([r_1, r_2, r_3] : List Int)).bind fun r_4 =>
  some r_4

def registry_Validate_L1 : (List Bag) → Nat → Option (Ctl (Int) (Unit))
 | [], k_2 => some (Ctl.brk ())
 | e_3 :: q_5, k_2 => (plate_Valid e_3.Plate).bind fun r_4 =>
  cond (!r_4)
  (some (Ctl.ret (1 : Int)))
  (registry_Validate_L1 q_5 (k_2 + 1))
def registry_Validate_L2 (x_0 : Registry) : Nat → Int → Option (Ctl (Int) (Unit))
 | 0, _ => none
 | q_11 + 1, i_7 => cond (decide (i_7 < (x_0.L.length : Int)))
  ((ixL x_0.L (w64 (i_7 - (1 : Int)))).bind fun e_8 =>
  (ixL x_0.L i_7).bind fun e_9 =>
  (plate_Compare e_8.Plate e_9.Plate).bind fun r_10 =>
  cond (decide ((0 : Int) ≤ r_10))
  (some (Ctl.ret (9 : Int)))
  (registry_Validate_L2 x_0 q_11 (w64 (i_7 + (1 : Int)))))
  (some (Ctl.brk ()))
def registry_Validate (x_0 : Registry) : Option (Int) :=
 cond (decide ((200 : Int) < (x_0.L.length : Int)))
  (some (2 : Int))
  (Ctl.fin (registry_Validate_L1 x_0.L 0) fun z_6 =>
  Ctl.fin (registry_Validate_L2 x_0 9223372036854775807 (1 : Int)) fun z_12 =>
  some (0 : Int))

def registry_copied (x_0 : Bag) : Option (Bag) :=
 (slices_Clone_Leg x_0.Onward).bind fun r_1 =>
  some (⟨x_0.Plate, x_0.In, x_0.Out, r_1, x_0.Sequence, x_0.Status, x_0.Weight, x_0.Load, x_0.Surname, x_0.Given, x_0.Exception, x_0.Node, x_0.Unloaded⟩ : Bag)

def registry_clone_L1 : (List Bag) → Nat → (List Bag) → Option (Ctl ((List Bag)) ((List Bag)))
 | [], k_3, a_1 => some (Ctl.brk a_1)
 | e_4 :: q_7, k_3, a_1 => (registry_copied e_4).bind fun r_5 =>
  (apL a_1 ([r_5] : List Bag)).bind fun l_6 =>
  registry_clone_L1 q_7 (k_3 + 1) l_6
def registry_clone (x_0 : (List Bag)) : Option ((List Bag)) :=
 Ctl.fin (registry_clone_L1 x_0 0 ([] : List Bag)) fun z_8 =>
  some z_8

def plate_Run_L1 (x_0 : Plate) (x_1 : Int) : Nat → (List Plate) → Int → Option (Ctl ((List Plate) × Int) ((List Plate)))
 | 0, _, _ => none
 | q_5 + 1, a_2, i_3 => cond (decide (i_3 < x_1))
  ((apL a_2 ([(⟨x_0.Lead, x_0.Airline, ((w64 (x_0.Serial + i_3)).tmod (1000000 : Int))⟩ : Plate)] : List Plate)).bind fun l_4 =>
  plate_Run_L1 x_0 x_1 q_5 l_4 (w64 (i_3 + (1 : Int))))
  (some (Ctl.brk a_2))
def plate_Run (x_0 : Plate) (x_1 : Int) : Option ((List Plate) × Int) :=
 (plate_Valid x_0).bind fun r_1 =>
  cond (!r_1)
  (some (([] : (List Plate)), (1 : Int)))
  (cond (decide (x_1 < (1 : Int)))
  (some (([] : (List Plate)), (1 : Int)))
  (cond (decide ((99 : Int) < x_1))
  (some (([] : (List Plate)), (1 : Int)))
  (Ctl.fin (plate_Run_L1 x_0 x_1 9223372036854775807 ([] : List Plate) (0 : Int)) fun z_6 =>
  some (z_6, (0 : Int)))))

def message_Plates (x_0 : Message) : Option ((List Plate)) :=
 (plate_Run x_0.First x_0.Count).bind fun r_1 =>
  some r_1.1

def registry_at_f1 (x_0 : Int) (x_1 : (List Bag)) (x_2 : Plate) : Option (Bool) :=
 (ixL x_1 x_0).bind fun e_1 =>
  (plate_Compare e_1.Plate x_2).bind fun r_2 =>
  some (decide ((0 : Int) ≤ r_2))

def sort_Search_L1 (x_1 : (List Bag)) (x_2 : Plate) : Nat → Int → Int → Option (Ctl (Int × (List Bag) × Plate) (Int))
 | 0, _, _ => none
 | q_4 + 1, i_1, i_2 => cond (decide (i_1 < i_2))
  ((registry_at_f1 (IntKind.i64.wrap (shrF .u64 (IntKind.u64.wrap (w64 (i_1 + i_2))) (1 : Int))) x_1 x_2).bind fun r_3 =>
  cond (!r_3)
  (sort_Search_L1 x_1 x_2 q_4 (w64 ((IntKind.i64.wrap (shrF .u64 (IntKind.u64.wrap (w64 (i_1 + i_2))) (1 : Int))) + (1 : Int))) i_2)
  (sort_Search_L1 x_1 x_2 q_4 i_1 (IntKind.i64.wrap (shrF .u64 (IntKind.u64.wrap (w64 (i_1 + i_2))) (1 : Int)))))
  (some (Ctl.brk i_1))
def sort_Search (x_0 : Int) (x_1 : (List Bag)) (x_2 : Plate) : Option (Int × (List Bag) × Plate) :=
 Ctl.fin (sort_Search_L1 x_1 x_2 9223372036854775807 (0 : Int) x_0) fun z_5 =>
  some (z_5, x_1, x_2)

def registry_at (x_0 : (List Bag)) (x_1 : Plate) : Option (Int × Bool) :=
 (sort_Search (x_0.length : Int) x_0 x_1).bind fun r_1 =>
  cond (decide (r_1.1 < (r_1.2.1.length : Int)))
  ((ixL r_1.2.1 r_1.1).bind fun e_2 =>
  some (r_1.1, ((e_2.Plate.Lead == r_1.2.2.Lead) && ((e_2.Plate.Airline == r_1.2.2.Airline) && ((e_2.Plate.Serial == r_1.2.2.Serial) && true)))))
  (some (r_1.1, false))

def registry_fresh (x_0 : Message) : Option (Bool) :=
 cond (x_0.Kind == (1 : Int))
  (some (x_0.Do == (0 : Int)))
  (cond (x_0.Kind == (2 : Int))
  (some (x_0.Do == (0 : Int)))
  (some false))

def registry_refused_L1 (x_0 : (List Bag)) (x_1 : Message) : (List Plate) → Nat → Int → Option (Ctl (Int) (Int))
 | [], k_3, i_1 => some (Ctl.brk i_1)
 | e_4 :: q_9, k_3, i_1 => (registry_at x_0 e_4).bind fun r_5 =>
  cond r_5.2
  ((registry_fresh x_1).bind fun r_6 =>
  cond r_6
  (some (Ctl.ret (5 : Int)))
  (cond (x_1.Kind == (4 : Int))
  ((ixL x_0 r_5.1).bind fun e_7 =>
  cond (!((e_7.Out.Flight.Carrier.toList == x_1.Out.Flight.Carrier.toList) && ((e_7.Out.Flight.Number == x_1.Out.Flight.Number) && ((e_7.Out.Flight.Suffix.toList == x_1.Out.Flight.Suffix.toList) && ((e_7.Out.Flight.Day == x_1.Out.Flight.Day) && true)))))
  (registry_refused_L1 x_0 x_1 q_9 (k_3 + 1) (7 : Int))
  (registry_refused_L1 x_0 x_1 q_9 (k_3 + 1) i_1))
  (registry_refused_L1 x_0 x_1 q_9 (k_3 + 1) i_1)))
  ((registry_fresh x_1).bind fun r_8 =>
  cond (!r_8)
  (some (Ctl.ret (6 : Int)))
  (registry_refused_L1 x_0 x_1 q_9 (k_3 + 1) i_1))
def registry_refused (x_0 : (List Bag)) (x_1 : Message) (x_2 : (List Plate)) : Option (Int) :=
 Ctl.fin (registry_refused_L1 x_0 x_1 x_2 0 (0 : Int)) fun z_10 =>
  (registry_fresh x_1).bind fun r_11 =>
  cond r_11
  (cond (decide ((200 : Int) < (w64 ((x_0.length : Int) + (x_2.length : Int)))))
  (some (2 : Int))
  (some z_10))
  (some z_10)

def registry_described (x_0 : Message) (x_1 : Plate) : Option (Bag) :=
 (registry_copied (⟨x_1, x_0.In, x_0.Out, x_0.Onward, x_0.Sequence, x_0.Status, x_0.Weight, x_0.Load, x_0.Surname, x_0.Given, x_0.Exception, (⟨#[]⟩ : ByteArray), false⟩ : Bag)).bind fun r_1 =>
  some r_1

def registry_change (x_0 : Bag) (x_1 : Message) : Option (Bag) :=
 cond (x_1.Kind == (3 : Int))
  (some (⟨x_0.Plate, x_0.In, x_0.Out, x_0.Onward, x_0.Sequence, x_0.Status, x_0.Weight, x_0.Load, x_0.Surname, x_0.Given, x_0.Exception, x_1.Node, x_0.Unloaded⟩ : Bag))
  (cond (x_1.Kind == (4 : Int))
  (some (⟨x_0.Plate, x_0.In, x_0.Out, x_0.Onward, x_0.Sequence, x_0.Status, x_0.Weight, false, x_0.Surname, x_0.Given, x_0.Exception, x_0.Node, true⟩ : Bag))
  ((registry_described x_1 x_0.Plate).bind fun r_1 =>
  some (⟨r_1.Plate, r_1.In, r_1.Out, r_1.Onward, r_1.Sequence, r_1.Status, r_1.Weight, r_1.Load, r_1.Surname, r_1.Given, r_1.Exception, x_0.Node, x_0.Unloaded⟩ : Bag)))

def registry_Apply_L1 (x_1 : Message) : (List Plate) → Nat → (List Bag) → Option (Ctl (Registry × Int) ((List Bag)))
 | [], k_8, a_6 => some (Ctl.brk a_6)
 | e_9 :: q_22, k_8, a_6 => (registry_at a_6 e_9).bind fun r_10 =>
  cond (!r_10.2)
  ((slL a_6 0 r_10.1).bind fun l_11 =>
  (registry_described x_1 e_9).bind fun r_12 =>
  (slL a_6 r_10.1 (a_6.length : Int)).bind fun l_13 =>
  (apL ([r_12] : List Bag) l_13).bind fun l_14 =>
  (apL l_11 l_14).bind fun l_15 =>
  registry_Apply_L1 x_1 q_22 (k_8 + 1) l_15)
  (cond (x_1.Do == (2 : Int))
  ((slL a_6 0 r_10.1).bind fun l_16 =>
  (slL a_6 (w64 (r_10.1 + (1 : Int))) (a_6.length : Int)).bind fun l_17 =>
  (apL l_16 l_17).bind fun l_18 =>
  registry_Apply_L1 x_1 q_22 (k_8 + 1) l_18)
  ((ixL a_6 r_10.1).bind fun e_19 =>
  (registry_change e_19 x_1).bind fun r_20 =>
  (ixL a_6 r_10.1).bind fun e_21 =>
  registry_Apply_L1 x_1 q_22 (k_8 + 1) (a_6.set r_10.1.toNat r_20)))
def registry_Apply (x_0 : Registry) (x_1 : Message) : Option (Registry × Int) :=
 (registry_Validate x_0).bind fun r_1 =>
  cond (r_1 != (0 : Int))
  (some ((⟨([] : (List Bag))⟩ : Registry), r_1))
  ((message_Validate x_1).bind fun r_2 =>
  cond (r_2 != (0 : Int))
  (some ((⟨([] : (List Bag))⟩ : Registry), r_2))
  ((registry_clone x_0.L).bind fun r_3 =>
  cond (x_1.Kind == (5 : Int))
  (some ((⟨r_3⟩ : Registry), (0 : Int)))
  ((message_Plates x_1).bind fun r_4 =>
  (registry_refused r_3 x_1 r_4).bind fun r_5 =>
  cond (r_5 != (0 : Int))
  (some ((⟨([] : (List Bag))⟩ : Registry), r_5))
  (Ctl.fin (registry_Apply_L1 x_1 r_4 0 r_3) fun z_23 =>
  some ((⟨z_23⟩ : Registry), (0 : Int))))))

def ref06_SameBag_L1 (x_1 : Bag) : (List Leg) → Nat → Option (Ctl (Bool) (Unit))
 | [], k_2 => some (Ctl.brk ())
 | e_3 :: q_5, k_2 => (ixL x_1.Onward (k_2 : Int)).bind fun e_4 =>
  cond (!((e_3.Flight.Carrier.toList == e_4.Flight.Carrier.toList) && ((e_3.Flight.Number == e_4.Flight.Number) && ((e_3.Flight.Suffix.toList == e_4.Flight.Suffix.toList) && ((e_3.Flight.Day == e_4.Flight.Day) && ((e_3.Port.toList == e_4.Port.toList) && ((e_3.Class.toList == e_4.Class.toList) && true)))))))
  (some (Ctl.ret false))
  (ref06_SameBag_L1 x_1 q_5 (k_2 + 1))
def ref06_SameBag (x_0 : Bag) (x_1 : Bag) : Option (Bool) :=
 cond ((x_0.Onward.length : Int) != (x_1.Onward.length : Int))
  (some false)
  (Ctl.fin (ref06_SameBag_L1 x_1 x_0.Onward 0) fun z_6 =>
  cond ((x_0.Plate.Lead == x_1.Plate.Lead) && ((x_0.Plate.Airline == x_1.Plate.Airline) && ((x_0.Plate.Serial == x_1.Plate.Serial) && true)))
  (cond ((x_0.In.Flight.Carrier.toList == x_1.In.Flight.Carrier.toList) && ((x_0.In.Flight.Number == x_1.In.Flight.Number) && ((x_0.In.Flight.Suffix.toList == x_1.In.Flight.Suffix.toList) && ((x_0.In.Flight.Day == x_1.In.Flight.Day) && ((x_0.In.Port.toList == x_1.In.Port.toList) && ((x_0.In.Class.toList == x_1.In.Class.toList) && true))))))
  (cond ((x_0.Out.Flight.Carrier.toList == x_1.Out.Flight.Carrier.toList) && ((x_0.Out.Flight.Number == x_1.Out.Flight.Number) && ((x_0.Out.Flight.Suffix.toList == x_1.Out.Flight.Suffix.toList) && ((x_0.Out.Flight.Day == x_1.Out.Flight.Day) && ((x_0.Out.Port.toList == x_1.Out.Port.toList) && ((x_0.Out.Class.toList == x_1.Out.Class.toList) && true))))))
  (cond (x_0.Sequence == x_1.Sequence)
  (cond (x_0.Status == x_1.Status)
  (cond (x_0.Weight == x_1.Weight)
  (cond (x_0.Load == x_1.Load)
  (cond (x_0.Surname.toList == x_1.Surname.toList)
  (cond (x_0.Given.toList == x_1.Given.toList)
  (cond (x_0.Exception == x_1.Exception)
  (cond (x_0.Node.toList == x_1.Node.toList)
  (some (x_0.Unloaded == x_1.Unloaded))
  (some false))
  (some false))
  (some false))
  (some false))
  (some false))
  (some false))
  (some false))
  (some false))
  (some false))
  (some false))
  (some false))

def ref06_Same_L1 (x_1 : Registry) : (List Bag) → Nat → Option (Ctl (Bool) (Unit))
 | [], k_2 => some (Ctl.brk ())
 | e_3 :: q_6, k_2 => (ixL x_1.L (k_2 : Int)).bind fun e_4 =>
  (ref06_SameBag e_3 e_4).bind fun r_5 =>
  cond (!r_5)
  (some (Ctl.ret false))
  (ref06_Same_L1 x_1 q_6 (k_2 + 1))
def ref06_Same (x_0 : Registry) (x_1 : Registry) : Option (Bool) :=
 cond ((x_0.L.length : Int) != (x_1.L.length : Int))
  (some false)
  (Ctl.fin (ref06_Same_L1 x_1 x_0.L 0) fun z_7 =>
  some true)

def law06_source (x_0 : Plate) (x_1 : Int) : Option (Message) :=
 some (⟨(1 : Int), (0 : Int), (⟨#[65, 82, 78]⟩ : ByteArray), (1 : Int), (⟨(⟨(⟨#[]⟩ : ByteArray), (0 : Int), (⟨#[]⟩ : ByteArray), (0 : Int)⟩ : Flight), (⟨#[]⟩ : ByteArray), (⟨#[]⟩ : ByteArray)⟩ : Leg), (⟨(⟨(⟨#[83, 75]⟩ : ByteArray), (123 : Int), (⟨#[]⟩ : ByteArray), (7 : Int)⟩ : Flight), (⟨#[67, 80, 72]⟩ : ByteArray), (⟨#[89]⟩ : ByteArray)⟩ : Leg), ([] : (List Leg)), x_0, x_1, true, (1 : Int), (4 : Int), (20 : Int), (⟨#[68, 79, 69]⟩ : ByteArray), (⟨#[]⟩ : ByteArray), (0 : Int), (⟨#[]⟩ : ByteArray), ([] : (List Int))⟩ : Message)

def registry_Find (x_0 : Registry) (x_1 : Plate) : Option (Bag × Bool) :=
 (registry_Validate x_0).bind fun r_1 =>
  cond (r_1 != (0 : Int))
  (some ((⟨(⟨(0 : Int), (0 : Int), (0 : Int)⟩ : Plate), (⟨(⟨(⟨#[]⟩ : ByteArray), (0 : Int), (⟨#[]⟩ : ByteArray), (0 : Int)⟩ : Flight), (⟨#[]⟩ : ByteArray), (⟨#[]⟩ : ByteArray)⟩ : Leg), (⟨(⟨(⟨#[]⟩ : ByteArray), (0 : Int), (⟨#[]⟩ : ByteArray), (0 : Int)⟩ : Flight), (⟨#[]⟩ : ByteArray), (⟨#[]⟩ : ByteArray)⟩ : Leg), ([] : (List Leg)), (0 : Int), (0 : Int), (0 : Int), false, (⟨#[]⟩ : ByteArray), (⟨#[]⟩ : ByteArray), (0 : Int), (⟨#[]⟩ : ByteArray), false⟩ : Bag), false))
  ((registry_at x_0.L x_1).bind fun r_2 =>
  cond (!r_2.2)
  (some ((⟨(⟨(0 : Int), (0 : Int), (0 : Int)⟩ : Plate), (⟨(⟨(⟨#[]⟩ : ByteArray), (0 : Int), (⟨#[]⟩ : ByteArray), (0 : Int)⟩ : Flight), (⟨#[]⟩ : ByteArray), (⟨#[]⟩ : ByteArray)⟩ : Leg), (⟨(⟨(⟨#[]⟩ : ByteArray), (0 : Int), (⟨#[]⟩ : ByteArray), (0 : Int)⟩ : Flight), (⟨#[]⟩ : ByteArray), (⟨#[]⟩ : ByteArray)⟩ : Leg), ([] : (List Leg)), (0 : Int), (0 : Int), (0 : Int), false, (⟨#[]⟩ : ByteArray), (⟨#[]⟩ : ByteArray), (0 : Int), (⟨#[]⟩ : ByteArray), false⟩ : Bag), false))
  ((ixL x_0.L r_2.1).bind fun e_3 =>
  (registry_copied e_3).bind fun r_4 =>
  some (r_4, true)))

def law06_awake : Option (Bool) :=
 (law06_source (⟨(0 : Int), (117 : Int), (1 : Int)⟩ : Plate) (2 : Int)).bind fun r_1 =>
  (registry_Apply (⟨([] : (List Bag))⟩ : Registry) r_1).bind fun r_2 =>
  (registry_Find r_2.1 (⟨(0 : Int), (117 : Int), (2 : Int)⟩ : Plate)).bind fun r_3 =>
  cond (r_2.2 == (0 : Int))
  (cond ((r_2.1.L.length : Int) == (2 : Int))
  (cond r_3.2
  (cond (r_3.1.Sequence == (4 : Int))
  (some (r_3.1.Surname.toList == (⟨#[68, 79, 69]⟩ : ByteArray).toList))
  (some false))
  (some false))
  (some false))
  (some false)

def law06_RegistryReplays_L1 : Nat → (List Int) → Int → (List Message) → (List Bag) → Int → Option (Ctl (Bool) ((List Message) × (List Bag)))
 | 0, _, _, _, _, _ => none
 | q_10 + 1, a_2, i_3, a_5, a_4, i_6 => cond (decide (i_6 ≤ (8 : Int)))
  ((keep_Src_Message (⟨a_2, i_3⟩ : Src) (0 : Int)).bind fun r_7 =>
  (apL a_5 ([(⟨r_7.1.Kind, r_7.1.Do, (⟨#[65, 82, 78]⟩ : ByteArray), i_6, r_7.1.In, r_7.1.Out, r_7.1.Onward, r_7.1.First, r_7.1.Count, r_7.1.Load, r_7.1.Status, r_7.1.Sequence, r_7.1.Weight, r_7.1.Surname, r_7.1.Given, r_7.1.Exception, r_7.1.Node, r_7.1.List⟩ : Message)] : List Message)).bind fun l_8 =>
  (ref06_Apply (⟨a_4⟩ : Registry) (⟨r_7.1.Kind, r_7.1.Do, (⟨#[65, 82, 78]⟩ : ByteArray), i_6, r_7.1.In, r_7.1.Out, r_7.1.Onward, r_7.1.First, r_7.1.Count, r_7.1.Load, r_7.1.Status, r_7.1.Sequence, r_7.1.Weight, r_7.1.Surname, r_7.1.Given, r_7.1.Exception, r_7.1.Node, r_7.1.List⟩ : Message)).bind fun r_9 =>
  cond (r_9.2 == (0 : Int))
  (law06_RegistryReplays_L1 q_10 r_7.2.L r_7.2.At l_8 r_9.1.L (w64 (i_6 + (1 : Int))))
  (law06_RegistryReplays_L1 q_10 r_7.2.L r_7.2.At l_8 a_4 (w64 (i_6 + (1 : Int)))))
  (some (Ctl.brk (a_5, a_4)))
def law06_RegistryReplays_L3 : (List Message) → Nat → (List Bag) → Int → Option (Ctl (Bool) ((List Bag) × Int))
 | [], k_27, a_24, i_25 => some (Ctl.brk (a_24, i_25))
 | e_28 :: q_30, k_27, a_24, i_25 => (registry_Apply (⟨a_24⟩ : Registry) e_28).bind fun r_29 =>
  cond (r_29.2 == (0 : Int))
  (law06_RegistryReplays_L3 q_30 (k_27 + 1) r_29.1.L (w64 (i_25 + (1 : Int))))
  (law06_RegistryReplays_L3 q_30 (k_27 + 1) a_24 (w64 (i_25 + (1 : Int))))
def law06_RegistryReplays_L2 (z_11 : (List Message) × (List Bag)) : Nat → Int → (List Sender) → (List Bag) → (List Int) → Int → Int → Int → Option (Ctl (Bool) ((List Bag) × Int))
 | 0, _, _, _, _, _, _, _ => none
 | q_53 + 1, i_14, a_15, a_16, a_17, i_18, i_19, i_20 => cond (decide (i_20 < (60 : Int)))
  (cond (decide (i_19 ≤ (8 : Int)))
  ((keep_Src_Range (⟨a_17, i_18⟩ : Src) (1 : Int) (if (w64 (i_19 + (3 : Int))) < (8 : Int) then (w64 (i_19 + (3 : Int))) else (8 : Int))).bind fun r_21 =>
  cond (decide ((40 : Int) ≤ i_20))
  ((ixL z_11.1 (w64 (i_19 - (1 : Int)))).bind fun e_22 =>
  (inbox_Receive (⟨i_14, a_15⟩ : Inbox) e_22).bind fun r_23 =>
  cond (r_23.2.2.2 != (0 : Int))
  (some (Ctl.ret false))
  (Ctl.sub (law06_RegistryReplays_L3 r_23.2.1 0 a_16 i_19) fun z_31 =>
  law06_RegistryReplays_L2 z_11 q_53 r_23.1.Window r_23.1.L z_31.1 r_21.2.L r_21.2.At z_31.2 (w64 (i_20 + (1 : Int)))))
  ((keep_Src_More r_21.2).bind fun r_32 =>
  cond (!r_32)
  ((ixL z_11.1 (w64 (i_19 - (1 : Int)))).bind fun e_33 =>
  (inbox_Receive (⟨i_14, a_15⟩ : Inbox) e_33).bind fun r_34 =>
  cond (r_34.2.2.2 != (0 : Int))
  (some (Ctl.ret false))
  (Ctl.sub (law06_RegistryReplays_L3 r_34.2.1 0 a_16 i_19) fun z_42 =>
  law06_RegistryReplays_L2 z_11 q_53 r_34.1.Window r_34.1.L z_42.1 r_21.2.L r_21.2.At z_42.2 (w64 (i_20 + (1 : Int)))))
  ((ixL z_11.1 (w64 (r_21.1 - (1 : Int)))).bind fun e_43 =>
  (inbox_Receive (⟨i_14, a_15⟩ : Inbox) e_43).bind fun r_44 =>
  cond (r_44.2.2.2 != (0 : Int))
  (some (Ctl.ret false))
  (Ctl.sub (law06_RegistryReplays_L3 r_44.2.1 0 a_16 i_19) fun z_52 =>
  law06_RegistryReplays_L2 z_11 q_53 r_44.1.Window r_44.1.L z_52.1 r_21.2.L r_21.2.At z_52.2 (w64 (i_20 + (1 : Int)))))))
  (some (Ctl.brk (a_16, i_19))))
  (some (Ctl.brk (a_16, i_19)))
def law06_RegistryReplays (x_0 : (List Int)) (x_1 : (List Int)) : Option (Bool) :=
 (keep_New x_0).bind fun r_1 =>
  Ctl.fin (law06_RegistryReplays_L1 9223372036854775807 r_1.L r_1.At ([] : List Message) ([] : List Bag) (1 : Int)) fun z_11 =>
  (inbox_New (4 : Int)).bind fun r_12 =>
  cond (r_12.2 != (0 : Int))
  (some false)
  ((keep_New x_1).bind fun r_13 =>
  Ctl.fin (law06_RegistryReplays_L2 z_11 9223372036854775807 r_12.1.Window r_12.1.L ([] : List Bag) r_13.L r_13.At (1 : Int) (0 : Int)) fun z_54 =>
  cond (z_54.2 == (9 : Int))
  ((ref06_Same (⟨z_54.1⟩ : Registry) (⟨z_11.2⟩ : Registry)).bind fun r_55 =>
  cond r_55
  ((law06_awake).bind fun r_56 =>
  some r_56)
  (some false))
  (some false))
end Go.Proofs.YtkliakcegihikaaGreat.Ex
