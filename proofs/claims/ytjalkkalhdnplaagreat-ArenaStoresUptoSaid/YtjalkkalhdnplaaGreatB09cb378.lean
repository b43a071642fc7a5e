/-
  Closed facts of the program's text, each by reckoning.
-/
import Derived.Test.YtjalkkalhdnplaaGreatB954cd94
import Derived.Test.YtjalkkalhdnplaaGreatRows
import Derived.Test.YtjalkkalhdnplaaGreatProg
import Derived.ProofKit
import Derived.JoinedCond
set_option linter.unusedSimpArgs false
set_option linter.unusedVariables false
set_option maxHeartbeats 10000000
set_option maxRecDepth 100000
namespace Go.Proofs.YtjalkkalhdnplaaGreat
open Go Go.ChangeShapes Go.WideShapes Go.ChangeAt Go.RowKit
theorem t_arenaStores_unfollowed:Tryz.prog.unfollowed 5=Rows.arenaStoresUptoRow.unfollowed:=by kernel_rfl
theorem t_arenaStores_recurses:Tryz.prog.recurses 5=Rows.arenaStoresUptoRow.recurses:=by kernel_rfl
end Go.Proofs.YtjalkkalhdnplaaGreat
