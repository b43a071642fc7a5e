/-
  A purge in a small world, by reckoning.
-/
import Derived.Test.YtnmcgdpmikhohaaGreatB83c1336
set_option linter.unusedSimpArgs false
set_option linter.unusedVariables false
set_option maxHeartbeats 10000000
set_option maxRecDepth 100000
namespace Go.Proofs.YtnmcgdpmikhohaaGreat
open Go Go.Sim
end Go.Proofs.YtnmcgdpmikhohaaGreat
