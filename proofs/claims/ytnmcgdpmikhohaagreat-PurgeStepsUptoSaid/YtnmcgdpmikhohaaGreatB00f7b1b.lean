/-
  Closed facts of the program's text, each by reckoning.
-/
import Derived.Test.YtnmcgdpmikhohaaGreatRows
import Derived.Test.YtnmcgdpmikhohaaGreatProg
import Derived.ProofKit
import Derived.JoinedCond
import Derived.Test.YtnmcgdpmikhohaaGreatB44ee70e
import Derived.Test.YtnmcgdpmikhohaaGreatB17e7fdd
set_option linter.unusedSimpArgs false
set_option linter.unusedVariables false
set_option maxHeartbeats 10000000
set_option maxRecDepth 100000
namespace Go.Proofs.YtnmcgdpmikhohaaGreat
open Go Go.ChangeShapes Go.WideShapes Go.ChangeAt Go.RowKit
theorem t_purgeSteps_n:Tryz.prog.funcNamed Rows.purgeStepsUptoRow.func=some 3:=by kernel_rfl
theorem t_purgeSteps_j:joinedFacts Tryz.prog 3 Tryz.f3 (Rows.OpenSpec.upto Rows.purgeStepsSpec).bare Rows.purgeStepsUptoRow=true:=by
 unfold joinedFacts;rw[t_purgeSteps_inPlace,t_purgeSteps_unfollowed,t_purgeSteps_recurses,t_purgeSteps_varsNamed]
 kernel_rfl
theorem t_purgeSteps_i:Tryz.f3.isInstance Tryz.prog Rows.purgeStepsUptoRow.origin Rows.purgeStepsUptoRow.targs:=of_decide_eq_true (by kernel_rfl)
theorem t_purgeSteps_w:Tryz.f3.isWrapper Tryz.prog Rows.purgeStepsUptoRow.wrapper Rows.purgeStepsUptoRow.mainSum:=by unfold Func.isWrapper;first|(rw[zabo (by decide+kernel)];kernel_rfl)|(rw[zabn (by decide+kernel)];exact⟨rfl,rfl⟩)
end Go.Proofs.YtnmcgdpmikhohaaGreat
