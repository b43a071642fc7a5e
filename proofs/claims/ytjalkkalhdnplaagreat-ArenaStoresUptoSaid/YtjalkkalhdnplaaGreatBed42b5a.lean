/-
  Closed facts of the program's text, each by reckoning.
-/
import Derived.Test.YtjalkkalhdnplaaGreatRows
import Derived.Test.YtjalkkalhdnplaaGreatProg
import Derived.ProofKit
import Derived.JoinedCond
import Derived.Test.YtjalkkalhdnplaaGreatB9eac24e
import Derived.Test.YtjalkkalhdnplaaGreatB09cb378
set_option linter.unusedSimpArgs false
set_option linter.unusedVariables false
set_option maxHeartbeats 10000000
set_option maxRecDepth 100000
namespace Go.Proofs.YtjalkkalhdnplaaGreat
open Go Go.ChangeShapes Go.WideShapes Go.ChangeAt Go.RowKit
theorem t_arenaStores_n:Tryz.prog.funcNamed Rows.arenaStoresUptoRow.func=some 5:=by kernel_rfl
theorem t_arenaStores_j:joinedFacts Tryz.prog 5 Tryz.f5 (Rows.OpenSpec.upto Rows.arenaStoresSpec).bare Rows.arenaStoresUptoRow=true:=by
 unfold joinedFacts;rw[t_arenaStores_inPlace,t_arenaStores_unfollowed,t_arenaStores_recurses,t_arenaStores_varsNamed]
 kernel_rfl
theorem t_arenaStores_i:Tryz.f5.isInstance Tryz.prog Rows.arenaStoresUptoRow.origin Rows.arenaStoresUptoRow.targs:=of_decide_eq_true (by kernel_rfl)
theorem t_arenaStores_w:Tryz.f5.isWrapper Tryz.prog Rows.arenaStoresUptoRow.wrapper Rows.arenaStoresUptoRow.mainSum:=by unfold Func.isWrapper;first|(rw[zYQ (by decide+kernel)];kernel_rfl)|(rw[zYP (by decide+kernel)];exact⟨rfl,rfl⟩)
end Go.Proofs.YtjalkkalhdnplaaGreat
