/-
  Functions of the program, as the calculus has them.
-/
import Derived.Test.YtcembpbhkcbnhaaGreatBe288a21
import Derived.Test.YtcembpbhkcbnhaaGreatB0bc26b5
set_option linter.unusedSimpArgs false
set_option linter.unusedVariables false
set_option maxHeartbeats 10000000
set_option maxRecDepth 100000
namespace Go.Proofs.YtcembpbhkcbnhaaGreat
end Go.Proofs.YtcembpbhkcbnhaaGreat
