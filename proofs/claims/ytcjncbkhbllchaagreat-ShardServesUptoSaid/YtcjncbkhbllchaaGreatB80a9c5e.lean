/-
  Part of the calculus in which the claim is proved: Closed facts of the program's text, each by reckoning
-/
import Derived.Test.YtcjncbkhbllchaaGreatRows
import Derived.Test.YtcjncbkhbllchaaGreatProg
import Derived.ProofKit
import Derived.JoinedCond
import Derived.Test.YtcjncbkhbllchaaGreatB13ae2f7
import Derived.Test.YtcjncbkhbllchaaGreatBfd486da
set_option linter.unusedSimpArgs false
set_option linter.unusedVariables false
set_option maxHeartbeats 10000000
set_option maxRecDepth 100000
namespace Go.Proofs.YtcjncbkhbllchaaGreat
open Go Go.ChangeShapes Go.WideShapes Go.ChangeAt Go.RowKit
theorem t_shardServes_n : Tryz.prog.funcNamed Rows.shardServesUptoRow.func = some 6 := by kernel_rfl
theorem t_shardServes_j : joinedFacts Tryz.prog 6 Tryz.f6 (Rows.OpenSpec.upto Rows.shardServesSpec).bare Rows.shardServesUptoRow = true := by
 unfold joinedFacts
 rw [t_shardServes_inPlace, t_shardServes_unfollowed, t_shardServes_recurses, t_shardServes_varsNamed]
 kernel_rfl
theorem t_shardServes_i : Tryz.f6.isInstance Tryz.prog Rows.shardServesUptoRow.origin Rows.shardServesUptoRow.targs := of_decide_eq_true (by kernel_rfl)
theorem t_shardServes_w : Tryz.f6.isWrapper Tryz.prog Rows.shardServesUptoRow.wrapper Rows.shardServesUptoRow.mainSum := by unfold Func.isWrapper; first | (rw [if_pos (by decide +kernel)]; kernel_rfl) | (rw [if_neg (by decide +kernel)]; exact ⟨rfl, rfl⟩)
end Go.Proofs.YtcjncbkhbllchaaGreat
