/-
  Closed facts of the program's text, each by reckoning.
-/
import Derived.Test.YtnmcgdpmikhohaaGreatRows
import Derived.Test.YtnmcgdpmikhohaaGreatProg
import Derived.ProofKit
import Derived.JoinedCond
import Derived.Test.YtnmcgdpmikhohaaGreatB4e41f2c
import Derived.Test.YtnmcgdpmikhohaaGreatBb0fa5e8
set_option linter.unusedSimpArgs false
set_option linter.unusedVariables false
set_option maxHeartbeats 10000000
set_option maxRecDepth 100000
namespace Go.Proofs.YtnmcgdpmikhohaaGreat
open Go Go.ChangeShapes Go.WideShapes Go.ChangeAt Go.RowKit
theorem t_purgeRefuses_n:Tryz.prog.funcNamed Rows.purgeRefusesUptoRow.func=some 4:=by kernel_rfl
theorem t_purgeRefuses_j:joinedFacts Tryz.prog 4 Tryz.f4 (Rows.OpenSpec.upto Rows.purgeRefusesSpec).bare Rows.purgeRefusesUptoRow=true:=by
 unfold joinedFacts;rw[t_purgeRefuses_inPlace,t_purgeRefuses_unfollowed,t_purgeRefuses_recurses,t_purgeRefuses_varsNamed]
 kernel_rfl
theorem t_purgeRefuses_i:Tryz.f4.isInstance Tryz.prog Rows.purgeRefusesUptoRow.origin Rows.purgeRefusesUptoRow.targs:=of_decide_eq_true (by kernel_rfl)
theorem t_purgeRefuses_w:Tryz.f4.isWrapper Tryz.prog Rows.purgeRefusesUptoRow.wrapper Rows.purgeRefusesUptoRow.mainSum:=by unfold Func.isWrapper;first|(rw[zabo (by decide+kernel)];kernel_rfl)|(rw[zabn (by decide+kernel)];exact⟨rfl,rfl⟩)
end Go.Proofs.YtnmcgdpmikhohaaGreat
