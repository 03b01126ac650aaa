/- Messages that are drawn (keep.Src.Message) are valid: the drawing. -/
import Derived.Test.YtpipggnfbgjefaaIg
namespace Go.Proofs.Ytpipggnfbgjefaa.Ex.Ig
open Go.RowKit Go.Proofs.Ytpipggnfbgjefaa.Ax
set_option linter.unusedVariables false
set_option linter.unusedSimpArgs false

def arn : ByteArray := ⟨#[65, 82, 78]⟩
def cph : ByteArray := ⟨#[67, 80, 72]⟩
/-- a message that was drawn -/
structure Gen (m : Message) : Prop where
  val : Val m
  port : m.Port = arn ∨ m.Port = cph
  num : m.Number ≤ 12
  lst : m.List.length ≤ 12
  cnt : m.Kind ≠ 5 → m.Count ≤ 3
  lmx : ∀ x ∈ m.List, x ≤ 36
  seq : isBag m → m.Sequence ≤ 4
end Go.Proofs.Ytpipggnfbgjefaa.Ex.Ig
