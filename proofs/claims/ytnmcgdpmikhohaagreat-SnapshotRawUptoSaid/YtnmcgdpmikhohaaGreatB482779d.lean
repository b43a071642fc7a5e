/-
  Closed facts of the program's text, each by reckoning.
-/
import Derived.Test.YtnmcgdpmikhohaaGreatRows
import Derived.Test.YtnmcgdpmikhohaaGreatProg
import Derived.ProofKit
import Derived.JoinedCond
import Derived.Test.YtnmcgdpmikhohaaGreatB5efee36
import Derived.Test.YtnmcgdpmikhohaaGreatBf80981f
set_option linter.unusedSimpArgs false
set_option linter.unusedVariables false
set_option maxHeartbeats 10000000
set_option maxRecDepth 100000
namespace Go.Proofs.YtnmcgdpmikhohaaGreat
open Go Go.ChangeShapes Go.WideShapes Go.ChangeAt Go.RowKit
theorem t_snapshotRaw_n:Tryz.prog.funcNamed Rows.snapshotRawUptoRow.func=some 7:=by kernel_rfl
theorem t_snapshotRaw_j:joinedFacts Tryz.prog 7 Tryz.f7 (Rows.OpenSpec.upto Rows.snapshotRawSpec).bare Rows.snapshotRawUptoRow=true:=by
 unfold joinedFacts;rw[t_snapshotRaw_inPlace,t_snapshotRaw_unfollowed,t_snapshotRaw_recurses,t_snapshotRaw_varsNamed]
 kernel_rfl
theorem t_snapshotRaw_i:Tryz.f7.isInstance Tryz.prog Rows.snapshotRawUptoRow.origin Rows.snapshotRawUptoRow.targs:=of_decide_eq_true (by kernel_rfl)
theorem t_snapshotRaw_w:Tryz.f7.isWrapper Tryz.prog Rows.snapshotRawUptoRow.wrapper Rows.snapshotRawUptoRow.mainSum:=by unfold Func.isWrapper;first|(rw[zabo (by decide+kernel)];kernel_rfl)|(rw[zabn (by decide+kernel)];exact⟨rfl,rfl⟩)
end Go.Proofs.YtnmcgdpmikhohaaGreat
