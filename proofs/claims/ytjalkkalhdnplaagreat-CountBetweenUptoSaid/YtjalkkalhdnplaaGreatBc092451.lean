/-
  Closed facts of the program's text, each by reckoning.
-/
import Derived.Test.YtjalkkalhdnplaaGreatRows
import Derived.Test.YtjalkkalhdnplaaGreatProg
import Derived.ProofKit
import Derived.JoinedCond
import Derived.Test.YtjalkkalhdnplaaGreatB209fa07
import Derived.Test.YtjalkkalhdnplaaGreatB689f48a
set_option linter.unusedSimpArgs false
set_option linter.unusedVariables false
set_option maxHeartbeats 10000000
set_option maxRecDepth 100000
namespace Go.Proofs.YtjalkkalhdnplaaGreat
open Go Go.ChangeShapes Go.WideShapes Go.ChangeAt Go.RowKit
theorem t_countBetween_n:Tryz.prog.funcNamed Rows.countBetweenUptoRow.func=some 3:=by kernel_rfl
theorem t_countBetween_j:joinedFacts Tryz.prog 3 Tryz.f3 (Rows.OpenSpec.upto Rows.countBetweenSpec).bare Rows.countBetweenUptoRow=true:=by
 unfold joinedFacts;rw[t_countBetween_inPlace,t_countBetween_unfollowed,t_countBetween_recurses,t_countBetween_varsNamed]
 kernel_rfl
theorem t_countBetween_i:Tryz.f3.isInstance Tryz.prog Rows.countBetweenUptoRow.origin Rows.countBetweenUptoRow.targs:=of_decide_eq_true (by kernel_rfl)
theorem t_countBetween_w:Tryz.f3.isWrapper Tryz.prog Rows.countBetweenUptoRow.wrapper Rows.countBetweenUptoRow.mainSum:=by unfold Func.isWrapper;first|(rw[zWz (by decide+kernel)];kernel_rfl)|(rw[zWy (by decide+kernel)];exact⟨rfl,rfl⟩)
end Go.Proofs.YtjalkkalhdnplaaGreat
