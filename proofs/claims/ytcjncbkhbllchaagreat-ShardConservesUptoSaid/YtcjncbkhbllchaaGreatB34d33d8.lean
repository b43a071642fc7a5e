/-
  Closed facts of the program's text, each by reckoning.
-/
import Derived.Test.YtcjncbkhbllchaaGreatRows
import Derived.Test.YtcjncbkhbllchaaGreatProg
import Derived.ProofKit
import Derived.JoinedCond
set_option linter.unusedSimpArgs false
set_option linter.unusedVariables false
namespace Go.Proofs.YtcjncbkhbllchaaGreat
open Go Go.ChangeShapes Go.WideShapes Go.ChangeAt Go.RowKit
theorem t_shardConserves_unfollowed : Tryz.prog.unfollowed 5 = Rows.shardConservesUptoRow.unfollowed := by kernel_rfl
theorem t_shardConserves_recurses : Tryz.prog.recurses 5 = Rows.shardConservesUptoRow.recurses := by kernel_rfl
end Go.Proofs.YtcjncbkhbllchaaGreat
