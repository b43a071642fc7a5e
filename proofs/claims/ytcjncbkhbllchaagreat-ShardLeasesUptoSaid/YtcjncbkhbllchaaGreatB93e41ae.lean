/-
  Closed facts of the program's text, each by reckoning.
-/
import Derived.Test.YtcjncbkhbllchaaGreatRows
import Derived.Test.YtcjncbkhbllchaaGreatProg
import Derived.ProofKit
import Derived.JoinedCond
import Derived.Test.YtcjncbkhbllchaaGreatB7bc66bc
import Derived.Test.YtcjncbkhbllchaaGreatBa2c7faf
set_option linter.unusedSimpArgs false
set_option linter.unusedVariables false
namespace Go.Proofs.YtcjncbkhbllchaaGreat
open Go Go.ChangeShapes Go.WideShapes Go.ChangeAt Go.RowKit
theorem t_shardLeases_n : Tryz.prog.funcNamed Rows.shardLeasesUptoRow.func = some 3 := by kernel_rfl
theorem t_shardLeases_j : joinedFacts Tryz.prog 3 Tryz.f3 (Rows.OpenSpec.upto Rows.shardLeasesSpec).bare Rows.shardLeasesUptoRow = true := by
  unfold joinedFacts
  rw [t_shardLeases_inPlace, t_shardLeases_unfollowed, t_shardLeases_recurses, t_shardLeases_varsNamed]
  kernel_rfl
theorem t_shardLeases_i : Tryz.f3.isInstance Tryz.prog Rows.shardLeasesUptoRow.origin Rows.shardLeasesUptoRow.targs := of_decide_eq_true (by kernel_rfl)
theorem t_shardLeases_w : Tryz.f3.isWrapper Tryz.prog Rows.shardLeasesUptoRow.wrapper Rows.shardLeasesUptoRow.mainSum := by unfold Func.isWrapper; first | (rw [if_pos (by decide +kernel)]; kernel_rfl) | (rw [if_neg (by decide +kernel)]; exact ⟨rfl, rfl⟩)
end Go.Proofs.YtcjncbkhbllchaaGreat
