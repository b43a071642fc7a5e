/-
  Functions of the program, as the calculus has them.
-/
import Derived.Test.YtgjlpcbolldhhaaGreatB6e36091
import Derived.Test.YtgjlpcbolldhhaaGreatB908dfaa
set_option linter.unusedSimpArgs false
set_option linter.unusedVariables false
set_option maxHeartbeats 10000000
set_option maxRecDepth 100000
namespace Go.Proofs.YtgjlpcbolldhhaaGreat
end Go.Proofs.YtgjlpcbolldhhaaGreat
