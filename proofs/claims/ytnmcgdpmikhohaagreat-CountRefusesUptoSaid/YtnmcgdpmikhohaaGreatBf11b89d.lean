/-
  Closed facts of the program's text, each by reckoning.
-/
import Derived.Test.YtnmcgdpmikhohaaGreatRows
import Derived.Test.YtnmcgdpmikhohaaGreatProg
import Derived.ProofKit
import Derived.JoinedCond
import Derived.Test.YtnmcgdpmikhohaaGreatBa4af86e
import Derived.Test.YtnmcgdpmikhohaaGreatB88b389f
set_option linter.unusedSimpArgs false
set_option linter.unusedVariables false
set_option maxHeartbeats 10000000
set_option maxRecDepth 100000
namespace Go.Proofs.YtnmcgdpmikhohaaGreat
open Go Go.ChangeShapes Go.WideShapes Go.ChangeAt Go.RowKit
theorem t_countRefuses_n:Tryz.prog.funcNamed Rows.countRefusesUptoRow.func=some 6:=by kernel_rfl
theorem t_countRefuses_j:joinedFacts Tryz.prog 6 Tryz.f6 (Rows.OpenSpec.upto Rows.countRefusesSpec).bare Rows.countRefusesUptoRow=true:=by
 unfold joinedFacts;rw[t_countRefuses_inPlace,t_countRefuses_unfollowed,t_countRefuses_recurses,t_countRefuses_varsNamed]
 kernel_rfl
theorem t_countRefuses_i:Tryz.f6.isInstance Tryz.prog Rows.countRefusesUptoRow.origin Rows.countRefusesUptoRow.targs:=of_decide_eq_true (by kernel_rfl)
theorem t_countRefuses_w:Tryz.f6.isWrapper Tryz.prog Rows.countRefusesUptoRow.wrapper Rows.countRefusesUptoRow.mainSum:=by unfold Func.isWrapper;first|(rw[zabo (by decide+kernel)];kernel_rfl)|(rw[zabn (by decide+kernel)];exact⟨rfl,rfl⟩)
end Go.Proofs.YtnmcgdpmikhohaaGreat
