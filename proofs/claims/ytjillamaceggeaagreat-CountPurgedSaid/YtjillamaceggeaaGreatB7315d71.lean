/-
  Closed facts of the program's text, each by reckoning.
-/
import Derived.Test.YtjillamaceggeaaGreatRows
import Derived.Test.YtjillamaceggeaaGreatProg
import Derived.ProofKit
import Derived.JoinedCond
import Derived.Test.YtjillamaceggeaaGreatB3d36f50
import Derived.Test.YtjillamaceggeaaGreatBbe65690
set_option linter.unusedSimpArgs false
set_option linter.unusedVariables false
namespace Go.Proofs.YtjillamaceggeaaGreat
open Go Go.ChangeShapes Go.WideShapes Go.ChangeAt Go.RowKit
theorem t_countPurged_n : Tryz.prog.funcNamed Rows.countPurgedRow.func = some 5 := by kernel_rfl
theorem t_countPurged_j : joinedFacts Tryz.prog 5 Tryz.f5 Rows.countPurgedSpec Rows.countPurgedRow = true := by
  unfold joinedFacts
  rw [t_countPurged_inPlace, t_countPurged_unfollowed, t_countPurged_recurses, t_countPurged_varsNamed]
  kernel_rfl
theorem t_countPurged_i : Tryz.f5.isInstance Tryz.prog Rows.countPurgedRow.origin Rows.countPurgedRow.targs := of_decide_eq_true (by kernel_rfl)
theorem t_countPurged_w : Tryz.f5.isWrapper Tryz.prog Rows.countPurgedRow.wrapper Rows.countPurgedRow.mainSum := by unfold Func.isWrapper; first | (rw [if_pos (by decide +kernel)]; kernel_rfl) | (rw [if_neg (by decide +kernel)]; exact ⟨rfl, rfl⟩)
end Go.Proofs.YtjillamaceggeaaGreat
