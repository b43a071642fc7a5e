/-
  Closed facts of the program's text, each by reckoning.
-/
import Derived.Test.YtcembpbhkcbnhaaGreatBab93df0
import Derived.Test.YtcembpbhkcbnhaaGreatRows
import Derived.Test.YtcembpbhkcbnhaaGreatProg
import Derived.ProofKit
import Derived.JoinedCond
set_option linter.unusedSimpArgs false
set_option linter.unusedVariables false
set_option maxHeartbeats 10000000
set_option maxRecDepth 100000
namespace Go.Proofs.YtcembpbhkcbnhaaGreat
open Go Go.ChangeShapes Go.WideShapes Go.ChangeAt Go.RowKit
theorem t_witnessReplays_inPlace:Tryz.prog.inPlace 3=Rows.witnessReplaysUptoRow.inPlace:=by kernel_rfl
theorem t_witnessReplays_varsNamed:Tryz.prog.varsNamed 3=Rows.witnessReplaysUptoRow.named:=by kernel_rfl
end Go.Proofs.YtcembpbhkcbnhaaGreat
