/-
  Closed facts of the program's text, each by reckoning.
-/
import Derived.Test.YtcembpbhkcbnhaaGreatRows
import Derived.Test.YtcembpbhkcbnhaaGreatProg
import Derived.ProofKit
import Derived.JoinedCond
import Derived.Test.YtcembpbhkcbnhaaGreatB7923a18
import Derived.Test.YtcembpbhkcbnhaaGreatB1bc7e7f
set_option linter.unusedSimpArgs false
set_option linter.unusedVariables false
set_option maxHeartbeats 10000000
set_option maxRecDepth 100000
namespace Go.Proofs.YtcembpbhkcbnhaaGreat
open Go Go.ChangeShapes Go.WideShapes Go.ChangeAt Go.RowKit
theorem t_witnessReplays_n:Tryz.prog.funcNamed Rows.witnessReplaysUptoRow.func=some 3:=by kernel_rfl
theorem t_witnessReplays_j:joinedFacts Tryz.prog 3 Tryz.f3 (Rows.OpenSpec.upto Rows.witnessReplaysSpec).bare Rows.witnessReplaysUptoRow=true:=by
 unfold joinedFacts;rw[t_witnessReplays_inPlace,t_witnessReplays_unfollowed,t_witnessReplays_recurses,t_witnessReplays_varsNamed]
 kernel_rfl
theorem t_witnessReplays_i:Tryz.f3.isInstance Tryz.prog Rows.witnessReplaysUptoRow.origin Rows.witnessReplaysUptoRow.targs:=of_decide_eq_true (by kernel_rfl)
theorem t_witnessReplays_w:Tryz.f3.isWrapper Tryz.prog Rows.witnessReplaysUptoRow.wrapper Rows.witnessReplaysUptoRow.mainSum:=by unfold Func.isWrapper;first|(rw[zabo (by decide+kernel)];kernel_rfl)|(rw[zabn (by decide+kernel)];exact⟨rfl,rfl⟩)
end Go.Proofs.YtcembpbhkcbnhaaGreat
