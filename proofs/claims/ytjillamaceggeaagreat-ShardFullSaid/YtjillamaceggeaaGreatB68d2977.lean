/-
  Closed facts of the program's text, each by reckoning.
-/
import Derived.Test.YtjillamaceggeaaGreatRows
import Derived.Test.YtjillamaceggeaaGreatProg
import Derived.ProofKit
import Derived.JoinedCond
import Derived.Test.YtjillamaceggeaaGreatBbc8f9aa
import Derived.Test.YtjillamaceggeaaGreatB9f687fd
set_option linter.unusedSimpArgs false
set_option linter.unusedVariables false
namespace Go.Proofs.YtjillamaceggeaaGreat
open Go Go.ChangeShapes Go.WideShapes Go.ChangeAt Go.RowKit
theorem t_shardFull_n : Tryz.prog.funcNamed Rows.shardFullRow.func = some 7 := by kernel_rfl
theorem t_shardFull_j : joinedFacts Tryz.prog 7 Tryz.f7 Rows.shardFullSpec Rows.shardFullRow = true := by
  unfold joinedFacts
  rw [t_shardFull_inPlace, t_shardFull_unfollowed, t_shardFull_recurses, t_shardFull_varsNamed]
  kernel_rfl
theorem t_shardFull_i : Tryz.f7.isInstance Tryz.prog Rows.shardFullRow.origin Rows.shardFullRow.targs := of_decide_eq_true (by kernel_rfl)
theorem t_shardFull_w : Tryz.f7.isWrapper Tryz.prog Rows.shardFullRow.wrapper Rows.shardFullRow.mainSum := by unfold Func.isWrapper; first | (rw [if_pos (by decide +kernel)]; kernel_rfl) | (rw [if_neg (by decide +kernel)]; exact ⟨rfl, rfl⟩)
end Go.Proofs.YtjillamaceggeaaGreat
