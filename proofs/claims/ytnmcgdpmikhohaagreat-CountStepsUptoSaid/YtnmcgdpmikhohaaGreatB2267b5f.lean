/-
  Closed facts of the program's text, each by reckoning.
-/
import Derived.Test.YtnmcgdpmikhohaaGreatRows
import Derived.Test.YtnmcgdpmikhohaaGreatProg
import Derived.ProofKit
import Derived.JoinedCond
import Derived.Test.YtnmcgdpmikhohaaGreatBb4df81a
import Derived.Test.YtnmcgdpmikhohaaGreatB26d5e64
set_option linter.unusedSimpArgs false
set_option linter.unusedVariables false
set_option maxHeartbeats 10000000
set_option maxRecDepth 100000
namespace Go.Proofs.YtnmcgdpmikhohaaGreat
open Go Go.ChangeShapes Go.WideShapes Go.ChangeAt Go.RowKit
theorem t_countSteps_n:Tryz.prog.funcNamed Rows.countStepsUptoRow.func=some 5:=by kernel_rfl
theorem t_countSteps_j:joinedFacts Tryz.prog 5 Tryz.f5 (Rows.OpenSpec.upto Rows.countStepsSpec).bare Rows.countStepsUptoRow=true:=by
 unfold joinedFacts;rw[t_countSteps_inPlace,t_countSteps_unfollowed,t_countSteps_recurses,t_countSteps_varsNamed]
 kernel_rfl
theorem t_countSteps_i:Tryz.f5.isInstance Tryz.prog Rows.countStepsUptoRow.origin Rows.countStepsUptoRow.targs:=of_decide_eq_true (by kernel_rfl)
theorem t_countSteps_w:Tryz.f5.isWrapper Tryz.prog Rows.countStepsUptoRow.wrapper Rows.countStepsUptoRow.mainSum:=by unfold Func.isWrapper;first|(rw[zabo (by decide+kernel)];kernel_rfl)|(rw[zabn (by decide+kernel)];exact⟨rfl,rfl⟩)
end Go.Proofs.YtnmcgdpmikhohaaGreat
