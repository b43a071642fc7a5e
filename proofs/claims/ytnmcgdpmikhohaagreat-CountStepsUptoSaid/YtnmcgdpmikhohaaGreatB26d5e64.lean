/-
  Closed facts of the program's text, each by reckoning.
-/
import Derived.Test.YtnmcgdpmikhohaaGreatBc8303cb
import Derived.Test.YtnmcgdpmikhohaaGreatRows
import Derived.Test.YtnmcgdpmikhohaaGreatProg
import Derived.ProofKit
import Derived.JoinedCond
set_option linter.unusedSimpArgs false
set_option linter.unusedVariables false
set_option maxHeartbeats 10000000
set_option maxRecDepth 100000
namespace Go.Proofs.YtnmcgdpmikhohaaGreat
open Go Go.ChangeShapes Go.WideShapes Go.ChangeAt Go.RowKit
theorem t_countSteps_unfollowed:Tryz.prog.unfollowed 5=Rows.countStepsUptoRow.unfollowed:=by kernel_rfl
theorem t_countSteps_recurses:Tryz.prog.recurses 5=Rows.countStepsUptoRow.recurses:=by kernel_rfl
end Go.Proofs.YtnmcgdpmikhohaaGreat
