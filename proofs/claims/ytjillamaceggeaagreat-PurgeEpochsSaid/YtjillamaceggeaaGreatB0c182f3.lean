/-
  Closed facts of the program's text, each by reckoning.
-/
import Derived.Test.YtjillamaceggeaaGreatRows
import Derived.Test.YtjillamaceggeaaGreatProg
import Derived.ProofKit
import Derived.JoinedCond
import Derived.Test.YtjillamaceggeaaGreatBeda013d
import Derived.Test.YtjillamaceggeaaGreatB549eec0
set_option linter.unusedSimpArgs false
set_option linter.unusedVariables false
namespace Go.Proofs.YtjillamaceggeaaGreat
open Go Go.ChangeShapes Go.WideShapes Go.ChangeAt Go.RowKit
theorem t_purgeEpochs_n : Tryz.prog.funcNamed Rows.purgeEpochsRow.func = some 3 := by kernel_rfl
theorem t_purgeEpochs_j : joinedFacts Tryz.prog 3 Tryz.f3 Rows.purgeEpochsSpec Rows.purgeEpochsRow = true := by
  unfold joinedFacts
  rw [t_purgeEpochs_inPlace, t_purgeEpochs_unfollowed, t_purgeEpochs_recurses, t_purgeEpochs_varsNamed]
  kernel_rfl
theorem t_purgeEpochs_i : Tryz.f3.isInstance Tryz.prog Rows.purgeEpochsRow.origin Rows.purgeEpochsRow.targs := of_decide_eq_true (by kernel_rfl)
theorem t_purgeEpochs_w : Tryz.f3.isWrapper Tryz.prog Rows.purgeEpochsRow.wrapper Rows.purgeEpochsRow.mainSum := by unfold Func.isWrapper; first | (rw [if_pos (by decide +kernel)]; kernel_rfl) | (rw [if_neg (by decide +kernel)]; exact ⟨rfl, rfl⟩)
end Go.Proofs.YtjillamaceggeaaGreat
