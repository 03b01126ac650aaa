/- The types of the program, as Lean has them; printed by a program. -/
import Derived.Test.YtidhgcgbdjjdlaaFoc
namespace Go.Proofs.Ytidhgcgbdjjdlaa.Ex
open Go.RowKit Go.Proofs.Ytidhgcgbdjjdlaa.Ax
set_option linter.unusedVariables false
set_option linter.unusedSimpArgs false
structure A4_Int where
  e0 : Int
  e1 : Int
  e2 : Int
  e3 : Int
  deriving DecidableEq

def encA4_Int (x : A4_Int) : List AV := [.int .i64 x.e0, .int .i64 x.e1, .int .i64 x.e2, .int .i64 x.e3]

structure Src where
  L : (List Int)
  At : Int
  deriving DecidableEq

def encSrc (x : Src) : List AV := [.lst 1 (x.L.map iA), .int .i64 x.At]

structure Check where
  Bag : Int
  Level : Int
  Since : Int
  Image : Int
  State : Int
  deriving DecidableEq

def encCheck (x : Check) : List AV := [.int .i64 x.Bag, .int .i64 x.Level, .int .i64 x.Since, .int .i64 x.Image, .int .i64 x.State]

structure Screening where
  Limits : A4_Int
  Next : Int
  L : (List Check)
  deriving DecidableEq

def encScreening (x : Screening) : List AV := [.int .i64 x.Limits.e0, .int .i64 x.Limits.e1, .int .i64 x.Limits.e2, .int .i64 x.Limits.e3, .int .i64 x.Next, .lst 5 (x.L.map encCheck)]

structure Keeper where
  s : Screening
  deriving DecidableEq

def encKeeper (x : Keeper) : List AV := [.int .i64 x.s.Limits.e0, .int .i64 x.s.Limits.e1, .int .i64 x.s.Limits.e2, .int .i64 x.s.Limits.e3, .int .i64 x.s.Next, .lst 5 (x.s.L.map encCheck)]

structure Alarm where
  Image : Int
  Bag : Int
  Level : Int
  Deadline : Int
  deriving DecidableEq

def encAlarm (x : Alarm) : List AV := [.int .i64 x.Image, .int .i64 x.Bag, .int .i64 x.Level, .int .i64 x.Deadline]

structure A2_Int where
  e0 : Int
  e1 : Int
  deriving DecidableEq

def encA2_Int (x : A2_Int) : List AV := [.int .i64 x.e0, .int .i64 x.e1]
end Go.Proofs.Ytidhgcgbdjjdlaa.Ex
