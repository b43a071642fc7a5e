/-
  Closed facts of the program's text, each by reckoning.
-/
import Derived.Test.YtcjncbkhbllchaaGreatRows
import Derived.Test.YtcjncbkhbllchaaGreatProg
import Derived.ProofKit
import Derived.JoinedCond
set_option linter.unusedSimpArgs false
set_option linter.unusedVariables false
namespace Go.Proofs.YtcjncbkhbllchaaGreat
open Go Go.ChangeShapes Go.WideShapes Go.ChangeAt Go.RowKit
theorem t_shardLeases_inPlace : Tryz.prog.inPlace 3 = Rows.shardLeasesUptoRow.inPlace := by kernel_rfl
theorem t_shardLeases_varsNamed : Tryz.prog.varsNamed 3 = Rows.shardLeasesUptoRow.named := by kernel_rfl
end Go.Proofs.YtcjncbkhbllchaaGreat
