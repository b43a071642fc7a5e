/-
  Closed facts of the program's text, each by reckoning.
-/
import Derived.Test.YtcjncbkhbllchaaGreatRows
import Derived.Test.YtcjncbkhbllchaaGreatProg
import Derived.ProofKit
import Derived.JoinedCond
import Derived.Test.YtcjncbkhbllchaaGreatB16b64da
import Derived.Test.YtcjncbkhbllchaaGreatB34d33d8
set_option linter.unusedSimpArgs false
set_option linter.unusedVariables false
namespace Go.Proofs.YtcjncbkhbllchaaGreat
open Go Go.ChangeShapes Go.WideShapes Go.ChangeAt Go.RowKit
theorem t_shardConserves_n : Tryz.prog.funcNamed Rows.shardConservesUptoRow.func = some 5 := by kernel_rfl
theorem t_shardConserves_j : joinedFacts Tryz.prog 5 Tryz.f5 (Rows.OpenSpec.upto Rows.shardConservesSpec).bare Rows.shardConservesUptoRow = true := by
 unfold joinedFacts
 rw [t_shardConserves_inPlace, t_shardConserves_unfollowed, t_shardConserves_recurses, t_shardConserves_varsNamed]
 kernel_rfl
theorem t_shardConserves_i : Tryz.f5.isInstance Tryz.prog Rows.shardConservesUptoRow.origin Rows.shardConservesUptoRow.targs := of_decide_eq_true (by kernel_rfl)
theorem t_shardConserves_w : Tryz.f5.isWrapper Tryz.prog Rows.shardConservesUptoRow.wrapper Rows.shardConservesUptoRow.mainSum := by unfold Func.isWrapper; first | (rw [if_pos (by decide +kernel)]; kernel_rfl) | (rw [if_neg (by decide +kernel)]; exact ⟨rfl, rfl⟩)
end Go.Proofs.YtcjncbkhbllchaaGreat
