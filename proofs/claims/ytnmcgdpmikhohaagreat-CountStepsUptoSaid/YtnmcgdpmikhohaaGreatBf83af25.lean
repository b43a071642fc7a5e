/-
  Functions of the program, as the calculus has them.
-/
import Derived.Test.YtnmcgdpmikhohaaGreatB7f1db76
import Derived.Test.YtnmcgdpmikhohaaGreatB952402b
import Derived.Test.YtnmcgdpmikhohaaGreatB6d663e5
import Derived.Test.YtnmcgdpmikhohaaGreatB3183c91
set_option linter.unusedSimpArgs false
set_option linter.unusedVariables false
set_option maxHeartbeats 10000000
set_option maxRecDepth 100000
namespace Go.Proofs.YtnmcgdpmikhohaaGreat
end Go.Proofs.YtnmcgdpmikhohaaGreat
