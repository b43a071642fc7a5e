/-
  Closed facts of the program's text, each by reckoning.
-/
import Derived.Test.YtcembpbhkcbnhaaGreatBab93df0
import Derived.Test.YtcembpbhkcbnhaaGreatRows
import Derived.Test.YtcembpbhkcbnhaaGreatProg
import Derived.ProofKit
import Derived.JoinedCond
set_option linter.unusedSimpArgs false
set_option linter.unusedVariables false
set_option maxHeartbeats 10000000
set_option maxRecDepth 100000
namespace Go.Proofs.YtcembpbhkcbnhaaGreat
open Go Go.ChangeShapes Go.WideShapes Go.ChangeAt Go.RowKit
theorem t_witnessReplays_unfollowed:Tryz.prog.unfollowed 3=Rows.witnessReplaysUptoRow.unfollowed:=by kernel_rfl
theorem t_witnessReplays_recurses:Tryz.prog.recurses 3=Rows.witnessReplaysUptoRow.recurses:=by kernel_rfl
end Go.Proofs.YtcembpbhkcbnhaaGreat
