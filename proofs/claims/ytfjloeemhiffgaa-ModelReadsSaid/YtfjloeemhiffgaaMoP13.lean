/-
  What the law ModelWrites answers, checked against the program.
-/
import Derived.Test.YtfjloeemhiffgaaMoPc
set_option linter.unusedVariables false
set_option maxHeartbeats 0
set_option maxRecDepth 100000
namespace Go.Proofs
open Go Go.Sym

end Go.Proofs
