/-
  Functions of the program, as the calculus has them.
-/
import Derived.Test.YtnmcgdpmikhohaaGreatBa479406
import Derived.Test.YtnmcgdpmikhohaaGreatB952402b
import Derived.Test.YtnmcgdpmikhohaaGreatB9fe4c98
import Derived.Test.YtnmcgdpmikhohaaGreatB7f0f41d
set_option linter.unusedSimpArgs false
set_option linter.unusedVariables false
set_option maxHeartbeats 10000000
set_option maxRecDepth 100000
namespace Go.Proofs.YtnmcgdpmikhohaaGreat
end Go.Proofs.YtnmcgdpmikhohaaGreat
