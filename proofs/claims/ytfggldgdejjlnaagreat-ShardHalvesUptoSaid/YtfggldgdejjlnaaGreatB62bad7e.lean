/-
  Closed facts of the program's text, each by reckoning.
-/
import Derived.Test.YtfggldgdejjlnaaGreatRows
import Derived.Test.YtfggldgdejjlnaaGreatProg
import Derived.ProofKit
import Derived.JoinedCond
import Derived.Test.YtfggldgdejjlnaaGreatB9971ff8
import Derived.Test.YtfggldgdejjlnaaGreatBe3d5e5f
set_option linter.unusedSimpArgs false
set_option linter.unusedVariables false
set_option maxHeartbeats 10000000
set_option maxRecDepth 100000
namespace Go.Proofs.YtfggldgdejjlnaaGreat
open Go Go.ChangeShapes Go.WideShapes Go.ChangeAt Go.RowKit
theorem t_shardHalves_n : Tryz.prog.funcNamed Rows.shardHalvesUptoRow.func = some 3 := by kernel_rfl
theorem t_shardHalves_j : joinedFacts Tryz.prog 3 Tryz.f3 (Rows.OpenSpec.upto Rows.shardHalvesSpec).bare Rows.shardHalvesUptoRow = true := by
 unfold joinedFacts;rw [t_shardHalves_inPlace, t_shardHalves_unfollowed, t_shardHalves_recurses, t_shardHalves_varsNamed]
 kernel_rfl
theorem t_shardHalves_i : Tryz.f3.isInstance Tryz.prog Rows.shardHalvesUptoRow.origin Rows.shardHalvesUptoRow.targs := of_decide_eq_true (by kernel_rfl)
theorem t_shardHalves_w : Tryz.f3.isWrapper Tryz.prog Rows.shardHalvesUptoRow.wrapper Rows.shardHalvesUptoRow.mainSum := by unfold Func.isWrapper; first | (rw [zQO (by decide +kernel)]; kernel_rfl) | (rw [zQN (by decide +kernel)]; exact ⟨rfl, rfl⟩)
end Go.Proofs.YtfggldgdejjlnaaGreat
