/-
  Closed facts of the program's text, each by reckoning.
-/
import Derived.Test.YtfggldgdejjlnaaGreatB8b3390d
import Derived.Test.YtfggldgdejjlnaaGreatRows
import Derived.Test.YtfggldgdejjlnaaGreatProg
import Derived.ProofKit
import Derived.JoinedCond
set_option linter.unusedSimpArgs false
set_option linter.unusedVariables false
set_option maxHeartbeats 10000000
set_option maxRecDepth 100000
namespace Go.Proofs.YtfggldgdejjlnaaGreat
open Go Go.ChangeShapes Go.WideShapes Go.ChangeAt Go.RowKit
theorem t_shardHalves_inPlace : Tryz.prog.inPlace 3 = Rows.shardHalvesUptoRow.inPlace := by kernel_rfl
theorem t_shardHalves_varsNamed : Tryz.prog.varsNamed 3 = Rows.shardHalvesUptoRow.named := by kernel_rfl
end Go.Proofs.YtfggldgdejjlnaaGreat
