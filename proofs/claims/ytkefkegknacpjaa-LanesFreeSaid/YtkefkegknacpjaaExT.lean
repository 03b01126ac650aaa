/- The types of the program, as Lean has them; printed by a program. -/
import Derived.Test.YtkefkegknacpjaaFoc
namespace Go.Proofs.Ytkefkegknacpjaa.Ex
open Go.RowKit Go.Proofs.Ytkefkegknacpjaa.Ax
set_option linter.unusedVariables false
set_option linter.unusedSimpArgs false
structure Stored where
  Bag : Int
  Due : Int
  deriving DecidableEq

def encStored (x : Stored) : List AV := [.int .i64 x.Bag, .int .i64 x.Due]

structure Src where
  L : (List Int)
  At : Int
  deriving DecidableEq

def encSrc (x : Src) : List AV := [.lst 1 (x.L.map iA), .int .i64 x.At]

structure Lanes where
  Depth : Int
  L : (List (List Stored))
  deriving DecidableEq

def encLanes (x : Lanes) : List AV := [.int .i64 x.Depth, .lst 1 (x.L.map (lA 2 encStored))]
end Go.Proofs.Ytkefkegknacpjaa.Ex
