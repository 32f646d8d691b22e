/-
  Csexp: what functions that call themselves and turn an object yield.
-/
import Derived.Test.YtpbkhdeehlikfaaDoorCA
namespace Go.Proofs.YtpbkhdeehlikfaaDoor
set_option linter.unusedVariables false
set_option linter.unusedSimpArgs false
set_option linter.unusedSectionVars false
open Go.RowKit

def addF (g : prodL [.bool, .str, .sl .sexp, .int .i64, .int .i64, .bool]) (K X : Kn) : Prop :=
  K (.tu []) [some (.cells [.int .i64 (madd ⟨g.1, g.2.1, g.2.2.1⟩ g.2.2.2.2.1 g.2.2.2.2.2.1 g.2.2.2.1).1, .bool (madd ⟨g.1, g.2.1, g.2.2.1⟩ g.2.2.2.2.1 g.2.2.2.2.2.1 g.2.2.2.1).2])]
end Go.Proofs.YtpbkhdeehlikfaaDoor
