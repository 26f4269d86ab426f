/-
  Events: contracts of the program's Plain, Span.
-/
import Derived.Test.YtkoknleopmlhcaaEvRight2
namespace Go.Proofs.Ytkoknleopmlhcaa
open Go.RowKit
set_option linter.unusedVariables false
set_option linter.unusedSimpArgs false
set_option linter.unnecessarySimpa false
set_option maxRecDepth 100000

end Go.Proofs.Ytkoknleopmlhcaa
