/-
  Closed facts of the program's text, each by reckoning.
-/
import Derived.Test.YtgjlpcbolldhhaaGreatB9462065
import Derived.Test.YtgjlpcbolldhhaaGreatRows
import Derived.Test.YtgjlpcbolldhhaaGreatProg
import Derived.ProofKit
import Derived.JoinedCond
set_option linter.unusedSimpArgs false
set_option linter.unusedVariables false
set_option maxHeartbeats 10000000
set_option maxRecDepth 100000
namespace Go.Proofs.YtgjlpcbolldhhaaGreat
open Go Go.ChangeShapes Go.WideShapes Go.ChangeAt Go.RowKit
theorem t_witnessOrders_unfollowed : Tryz.prog.unfollowed 3 = Rows.witnessOrdersUptoRow.unfollowed := by kernel_rfl
theorem t_witnessOrders_recurses : Tryz.prog.recurses 3 = Rows.witnessOrdersUptoRow.recurses := by kernel_rfl
end Go.Proofs.YtgjlpcbolldhhaaGreat
