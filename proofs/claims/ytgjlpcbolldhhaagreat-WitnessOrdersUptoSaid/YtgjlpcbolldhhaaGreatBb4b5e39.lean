/-
  Closed facts of the program's text, each by reckoning.
-/
import Derived.Test.YtgjlpcbolldhhaaGreatRows
import Derived.Test.YtgjlpcbolldhhaaGreatProg
import Derived.ProofKit
import Derived.JoinedCond
import Derived.Test.YtgjlpcbolldhhaaGreatB13db2d8
import Derived.Test.YtgjlpcbolldhhaaGreatB1774ae5
set_option linter.unusedSimpArgs false
set_option linter.unusedVariables false
set_option maxHeartbeats 10000000
set_option maxRecDepth 100000
namespace Go.Proofs.YtgjlpcbolldhhaaGreat
open Go Go.ChangeShapes Go.WideShapes Go.ChangeAt Go.RowKit
theorem t_witnessOrders_n : Tryz.prog.funcNamed Rows.witnessOrdersUptoRow.func = some 3 := by kernel_rfl
theorem t_witnessOrders_j : joinedFacts Tryz.prog 3 Tryz.f3 (Rows.OpenSpec.upto Rows.witnessOrdersSpec).bare Rows.witnessOrdersUptoRow = true := by
 unfold joinedFacts;rw [t_witnessOrders_inPlace, t_witnessOrders_unfollowed, t_witnessOrders_recurses, t_witnessOrders_varsNamed]
 kernel_rfl
theorem t_witnessOrders_i : Tryz.f3.isInstance Tryz.prog Rows.witnessOrdersUptoRow.origin Rows.witnessOrdersUptoRow.targs := of_decide_eq_true (by kernel_rfl)
theorem t_witnessOrders_w : Tryz.f3.isWrapper Tryz.prog Rows.witnessOrdersUptoRow.wrapper Rows.witnessOrdersUptoRow.mainSum := by unfold Func.isWrapper; first | (rw [zKN (by decide +kernel)]; kernel_rfl) | (rw [zKM (by decide +kernel)]; exact ⟨rfl, rfl⟩)
end Go.Proofs.YtgjlpcbolldhhaaGreat
