/- The types of the program, as Lean has them; printed by a program. -/
import Derived.Test.YtkajegjghfbgaaaFoc
namespace Go.Proofs.Ytkajegjghfbgaaa.Ex
open Go.RowKit Go.Proofs.Ytkajegjghfbgaaa.Ax
set_option linter.unusedVariables false
set_option linter.unusedSimpArgs false
structure Minimum where
  From : Int
  To : Int
  Ticks : Int
  deriving DecidableEq

def encMinimum (x : Minimum) : List AV := [.int .i64 x.From, .int .i64 x.To, .int .i64 x.Ticks]

structure Src where
  L : (List Int)
  At : Int
  deriving DecidableEq

def encSrc (x : Src) : List AV := [.lst 1 (x.L.map iA), .int .i64 x.At]

structure A6_Int where
  e0 : Int
  e1 : Int
  e2 : Int
  e3 : Int
  e4 : Int
  e5 : Int
  deriving DecidableEq

def encA6_Int (x : A6_Int) : List AV := [.int .i64 x.e0, .int .i64 x.e1, .int .i64 x.e2, .int .i64 x.e3, .int .i64 x.e4, .int .i64 x.e5]

structure A6_A6_Int where
  e0 : A6_Int
  e1 : A6_Int
  e2 : A6_Int
  e3 : A6_Int
  e4 : A6_Int
  e5 : A6_Int
  deriving DecidableEq

def encA6_A6_Int (x : A6_A6_Int) : List AV := [.int .i64 x.e0.e0, .int .i64 x.e0.e1, .int .i64 x.e0.e2, .int .i64 x.e0.e3, .int .i64 x.e0.e4, .int .i64 x.e0.e5, .int .i64 x.e1.e0, .int .i64 x.e1.e1, .int .i64 x.e1.e2, .int .i64 x.e1.e3, .int .i64 x.e1.e4, .int .i64 x.e1.e5, .int .i64 x.e2.e0, .int .i64 x.e2.e1, .int .i64 x.e2.e2, .int .i64 x.e2.e3, .int .i64 x.e2.e4, .int .i64 x.e2.e5, .int .i64 x.e3.e0, .int .i64 x.e3.e1, .int .i64 x.e3.e2, .int .i64 x.e3.e3, .int .i64 x.e3.e4, .int .i64 x.e3.e5, .int .i64 x.e4.e0, .int .i64 x.e4.e1, .int .i64 x.e4.e2, .int .i64 x.e4.e3, .int .i64 x.e4.e4, .int .i64 x.e4.e5, .int .i64 x.e5.e0, .int .i64 x.e5.e1, .int .i64 x.e5.e2, .int .i64 x.e5.e3, .int .i64 x.e5.e4, .int .i64 x.e5.e5]

structure Plate where
  Lead : Int
  Airline : Int
  Serial : Int
  deriving DecidableEq

def encPlate (x : Plate) : List AV := [.int .i64 x.Lead, .int .i64 x.Airline, .int .i64 x.Serial]

structure Connecting where
  Plate : Plate
  Ready : Int
  From : Int
  To : Int
  Category : Int
  deriving DecidableEq

def encConnecting (x : Connecting) : List AV := [.int .i64 x.Plate.Lead, .int .i64 x.Plate.Airline, .int .i64 x.Plate.Serial, .int .i64 x.Ready, .int .i64 x.From, .int .i64 x.To, .int .i64 x.Category]

structure HoldRule where
  Kind : Int
  N : Int
  Most : Int
  deriving DecidableEq

def encHoldRule (x : HoldRule) : List AV := [.int .i64 x.Kind, .int .i64 x.N, .int .i64 x.Most]

structure Hold where
  Wait : Int
  Rule : Int
  Left : (List Plate)
  deriving DecidableEq

def encHold (x : Hold) : List AV := [.int .i64 x.Wait, .int .i64 x.Rule, .lst 3 (x.Left.map encPlate)]

structure Late where
  need : Int
  category : Int
  deriving DecidableEq

def encLate (x : Late) : List AV := [.int .i64 x.need, .int .i64 x.category]
end Go.Proofs.Ytkajegjghfbgaaa.Ex
