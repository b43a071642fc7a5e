/-
  Functions of the program, as the calculus has them.
-/
import Derived.Test.YtnmcgdpmikhohaaGreatB3ab8dd0
import Derived.Test.YtnmcgdpmikhohaaGreatB952402b
import Derived.Test.YtnmcgdpmikhohaaGreatB3cf3770
set_option linter.unusedSimpArgs false
set_option linter.unusedVariables false
set_option maxHeartbeats 10000000
set_option maxRecDepth 100000
namespace Go.Proofs.YtnmcgdpmikhohaaGreat
end Go.Proofs.YtnmcgdpmikhohaaGreat
