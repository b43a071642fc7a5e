/-
  Part of the calculus in which the claim is proved: Closed facts of the program's text, each by reckoning
-/
import Derived.Test.YtcjncbkhbllchaaGreatRows
import Derived.Test.YtcjncbkhbllchaaGreatProg
import Derived.ProofKit
import Derived.JoinedCond
set_option linter.unusedSimpArgs false
set_option linter.unusedVariables false
set_option maxHeartbeats 10000000
set_option maxRecDepth 100000
namespace Go.Proofs.YtcjncbkhbllchaaGreat
open Go Go.ChangeShapes Go.WideShapes Go.ChangeAt Go.RowKit
theorem t_shardServes_unfollowed : Tryz.prog.unfollowed 6 = Rows.shardServesUptoRow.unfollowed := by kernel_rfl
theorem t_shardServes_recurses : Tryz.prog.recurses 6 = Rows.shardServesUptoRow.recurses := by kernel_rfl
end Go.Proofs.YtcjncbkhbllchaaGreat
