/- The types of the program, as Lean has them; printed by a program. -/
import Derived.Test.YtbiofbmjonmglaaDoorExB
namespace Go.Proofs.YtbiofbmjonmglaaDoor.Ex
open Go.RowKit Go.Proofs.YtbiofbmjonmglaaDoor.Ax
set_option linter.unusedVariables false
set_option linter.unusedSimpArgs false
structure Plate where
  Lead : Int
  Airline : Int
  Serial : Int
  deriving DecidableEq

def encPlate (x : Plate) : List AV := [.int .i64 x.Lead, .int .i64 x.Airline, .int .i64 x.Serial]

structure Flight where
  Carrier : ByteArray
  Number : Int
  Suffix : ByteArray
  Day : Int
  deriving DecidableEq

def encFlight (x : Flight) : List AV := [.str x.Carrier, .int .i64 x.Number, .str x.Suffix, .int .i64 x.Day]

structure Leg where
  Flight : Flight
  Port : ByteArray
  Class : ByteArray
  deriving DecidableEq

def encLeg (x : Leg) : List AV := [.str x.Flight.Carrier, .int .i64 x.Flight.Number, .str x.Flight.Suffix, .int .i64 x.Flight.Day, .str x.Port, .str x.Class]

structure Bag where
  Plate : Plate
  In : Leg
  Out : Leg
  Onward : (List Leg)
  Sequence : Int
  Status : Int
  Weight : Int
  Load : Bool
  Surname : ByteArray
  Given : ByteArray
  Exception : Int
  Node : ByteArray
  Unloaded : Bool
  deriving DecidableEq

def encBag (x : Bag) : List AV := [.int .i64 x.Plate.Lead, .int .i64 x.Plate.Airline, .int .i64 x.Plate.Serial, .str x.In.Flight.Carrier, .int .i64 x.In.Flight.Number, .str x.In.Flight.Suffix, .int .i64 x.In.Flight.Day, .str x.In.Port, .str x.In.Class, .str x.Out.Flight.Carrier, .int .i64 x.Out.Flight.Number, .str x.Out.Flight.Suffix, .int .i64 x.Out.Flight.Day, .str x.Out.Port, .str x.Out.Class, .lst 6 (x.Onward.map encLeg), .int .i64 x.Sequence, .int .i64 x.Status, .int .i64 x.Weight, .bool x.Load, .str x.Surname, .str x.Given, .int .i64 x.Exception, .str x.Node, .bool x.Unloaded]

structure Facts where
  Known : Bool
  Bag : Bag
  Copies : Int
  Cleared : Bool
  deriving DecidableEq

def encFacts (x : Facts) : List AV := [.bool x.Known, .int .i64 x.Bag.Plate.Lead, .int .i64 x.Bag.Plate.Airline, .int .i64 x.Bag.Plate.Serial, .str x.Bag.In.Flight.Carrier, .int .i64 x.Bag.In.Flight.Number, .str x.Bag.In.Flight.Suffix, .int .i64 x.Bag.In.Flight.Day, .str x.Bag.In.Port, .str x.Bag.In.Class, .str x.Bag.Out.Flight.Carrier, .int .i64 x.Bag.Out.Flight.Number, .str x.Bag.Out.Flight.Suffix, .int .i64 x.Bag.Out.Flight.Day, .str x.Bag.Out.Port, .str x.Bag.Out.Class, .lst 6 (x.Bag.Onward.map encLeg), .int .i64 x.Bag.Sequence, .int .i64 x.Bag.Status, .int .i64 x.Bag.Weight, .bool x.Bag.Load, .str x.Bag.Surname, .str x.Bag.Given, .int .i64 x.Bag.Exception, .str x.Bag.Node, .bool x.Bag.Unloaded, .int .i64 x.Copies, .bool x.Cleared]

structure Manifest where
  Flight : Flight
  Version : Int
  Boarded : (List Int)
  Ever : (List Int)
  deriving DecidableEq

def encManifest (x : Manifest) : List AV := [.str x.Flight.Carrier, .int .i64 x.Flight.Number, .str x.Flight.Suffix, .int .i64 x.Flight.Day, .int .i64 x.Version, .lst 1 (x.Boarded.map iA), .lst 1 (x.Ever.map iA)]

structure Departure where
  Flight : Flight
  Port : ByteArray
  Opens : Int
  Closes : Int
  Leaves : Int
  Stand : Int
  State : Int
  deriving DecidableEq

def encDeparture (x : Departure) : List AV := [.str x.Flight.Carrier, .int .i64 x.Flight.Number, .str x.Flight.Suffix, .int .i64 x.Flight.Day, .str x.Port, .int .i64 x.Opens, .int .i64 x.Closes, .int .i64 x.Leaves, .int .i64 x.Stand, .int .i64 x.State]

structure Src where
  L : (List Int)
  At : Int
  deriving DecidableEq

def encSrc (x : Src) : List AV := [.lst 1 (x.L.map iA), .int .i64 x.At]

structure Decision where
  Granted : Bool
  Rule : Int
  Reason : Int
  deriving DecidableEq

def encDecision (x : Decision) : List AV := [.bool x.Granted, .int .i64 x.Rule, .int .i64 x.Reason]

structure Message where
  Kind : Int
  Do : Int
  Port : ByteArray
  Number : Int
  In : Leg
  Out : Leg
  Onward : (List Leg)
  First : Plate
  Count : Int
  Load : Bool
  Status : Int
  Sequence : Int
  Weight : Int
  Surname : ByteArray
  Given : ByteArray
  Exception : Int
  Node : ByteArray
  List : (List Int)
  deriving DecidableEq

def encMessage (x : Message) : List AV := [.int .i64 x.Kind, .int .i64 x.Do, .str x.Port, .int .i64 x.Number, .str x.In.Flight.Carrier, .int .i64 x.In.Flight.Number, .str x.In.Flight.Suffix, .int .i64 x.In.Flight.Day, .str x.In.Port, .str x.In.Class, .str x.Out.Flight.Carrier, .int .i64 x.Out.Flight.Number, .str x.Out.Flight.Suffix, .int .i64 x.Out.Flight.Day, .str x.Out.Port, .str x.Out.Class, .lst 6 (x.Onward.map encLeg), .int .i64 x.First.Lead, .int .i64 x.First.Airline, .int .i64 x.First.Serial, .int .i64 x.Count, .bool x.Load, .int .i64 x.Status, .int .i64 x.Sequence, .int .i64 x.Weight, .str x.Surname, .str x.Given, .int .i64 x.Exception, .str x.Node, .lst 1 (x.List.map iA)]

structure Ruling where
  Plate : Plate
  Decision : Decision
  deriving DecidableEq

def encRuling (x : Ruling) : List AV := [.int .i64 x.Plate.Lead, .int .i64 x.Plate.Airline, .int .i64 x.Plate.Serial, .bool x.Decision.Granted, .int .i64 x.Decision.Rule, .int .i64 x.Decision.Reason]

structure Revision where
  Kind : Int
  Amount : Int
  Flight : Flight
  deriving DecidableEq

def encRevision (x : Revision) : List AV := [.int .i64 x.Kind, .int .i64 x.Amount, .str x.Flight.Carrier, .int .i64 x.Flight.Number, .str x.Flight.Suffix, .int .i64 x.Flight.Day]
end Go.Proofs.YtbiofbmjonmglaaDoor.Ex
