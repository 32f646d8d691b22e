/- The kinds of elements of this seat. -/
import Derived.WalkKit
namespace Go.Proofs.Ythjikjhddddplaa
set_option linter.unusedVariables false
set_option linter.unusedSimpArgs false
structure Pkt where
  to : Int
  data : ByteArray
  deriving DecidableEq
structure Flt where
  pkt : Pkt
  due : Int
  deriving DecidableEq
inductive El where
  | i64
  | pkt
  | flt
  deriving DecidableEq
@[reducible] def ty : El → Type
  | .i64 => Int
  | .pkt => Pkt
  | .flt => Flt
end Go.Proofs.Ythjikjhddddplaa
