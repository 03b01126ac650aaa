/- The types of the program, as Lean has them; printed by a program. -/
import Derived.Test.YtpipggnfbgjefaaFoc
namespace Go.Proofs.Ytpipggnfbgjefaa.Ex
open Go.RowKit Go.Proofs.Ytpipggnfbgjefaa.Ax
set_option linter.unusedVariables false
set_option linter.unusedSimpArgs false
structure Flight where
  Carrier : ByteArray
  Number : Int
  Suffix : ByteArray
  Day : Int
  deriving DecidableEq

def encFlight (x : Flight) : List AV := [.str x.Carrier, .int .i64 x.Number, .str x.Suffix, .int .i64 x.Day]

structure Leg where
  Flight : Flight
  Port : ByteArray
  Class : ByteArray
  deriving DecidableEq

def encLeg (x : Leg) : List AV := [.str x.Flight.Carrier, .int .i64 x.Flight.Number, .str x.Flight.Suffix, .int .i64 x.Flight.Day, .str x.Port, .str x.Class]

structure Plate where
  Lead : Int
  Airline : Int
  Serial : Int
  deriving DecidableEq

def encPlate (x : Plate) : List AV := [.int .i64 x.Lead, .int .i64 x.Airline, .int .i64 x.Serial]

structure Message where
  Kind : Int
  Do : Int
  Port : ByteArray
  Number : Int
  In : Leg
  Out : Leg
  Onward : (List Leg)
  First : Plate
  Count : Int
  Load : Bool
  Status : Int
  Sequence : Int
  Weight : Int
  Surname : ByteArray
  Given : ByteArray
  Exception : Int
  Node : ByteArray
  List : (List Int)
  deriving DecidableEq

def encMessage (x : Message) : List AV := [.int .i64 x.Kind, .int .i64 x.Do, .str x.Port, .int .i64 x.Number, .str x.In.Flight.Carrier, .int .i64 x.In.Flight.Number, .str x.In.Flight.Suffix, .int .i64 x.In.Flight.Day, .str x.In.Port, .str x.In.Class, .str x.Out.Flight.Carrier, .int .i64 x.Out.Flight.Number, .str x.Out.Flight.Suffix, .int .i64 x.Out.Flight.Day, .str x.Out.Port, .str x.Out.Class, .lst 6 (x.Onward.map encLeg), .int .i64 x.First.Lead, .int .i64 x.First.Airline, .int .i64 x.First.Serial, .int .i64 x.Count, .bool x.Load, .int .i64 x.Status, .int .i64 x.Sequence, .int .i64 x.Weight, .str x.Surname, .str x.Given, .int .i64 x.Exception, .str x.Node, .lst 1 (x.List.map iA)]

structure Sender where
  Port : ByteArray
  Next : Int
  Held : (List Message)
  deriving DecidableEq

def encSender (x : Sender) : List AV := [.str x.Port, .int .i64 x.Next, .lst 30 (x.Held.map encMessage)]

structure Inbox where
  Window : Int
  L : (List Sender)
  deriving DecidableEq

def encInbox (x : Inbox) : List AV := [.int .i64 x.Window, .lst 3 (x.L.map encSender)]

structure Src where
  L : (List Int)
  At : Int
  deriving DecidableEq

def encSrc (x : Src) : List AV := [.lst 1 (x.L.map iA), .int .i64 x.At]
end Go.Proofs.Ytpipggnfbgjefaa.Ex
