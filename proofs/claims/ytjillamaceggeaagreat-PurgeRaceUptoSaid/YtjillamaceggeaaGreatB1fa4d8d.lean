/-
  Closed facts of the program's text, each by reckoning.
-/
import Derived.Test.YtjillamaceggeaaGreatRows
import Derived.Test.YtjillamaceggeaaGreatProg
import Derived.ProofKit
import Derived.JoinedCond
import Derived.Test.YtjillamaceggeaaGreatB728bd94
import Derived.Test.YtjillamaceggeaaGreatB288ee3b
set_option linter.unusedSimpArgs false
set_option linter.unusedVariables false
namespace Go.Proofs.YtjillamaceggeaaGreat
open Go Go.ChangeShapes Go.WideShapes Go.ChangeAt Go.RowKit
theorem t_purgeRace_n : Tryz.prog.funcNamed Rows.purgeRaceUptoRow.func = some 4 := by kernel_rfl
theorem t_purgeRace_j : joinedFacts Tryz.prog 4 Tryz.f4 (Rows.OpenSpec.upto Rows.purgeRaceSpec).bare Rows.purgeRaceUptoRow = true := by
  unfold joinedFacts
  rw [t_purgeRace_inPlace, t_purgeRace_unfollowed, t_purgeRace_recurses, t_purgeRace_varsNamed]
  kernel_rfl
theorem t_purgeRace_i : Tryz.f4.isInstance Tryz.prog Rows.purgeRaceUptoRow.origin Rows.purgeRaceUptoRow.targs := of_decide_eq_true (by kernel_rfl)
theorem t_purgeRace_w : Tryz.f4.isWrapper Tryz.prog Rows.purgeRaceUptoRow.wrapper Rows.purgeRaceUptoRow.mainSum := by unfold Func.isWrapper; first | (rw [if_pos (by decide +kernel)]; kernel_rfl) | (rw [if_neg (by decide +kernel)]; exact ⟨rfl, rfl⟩)
end Go.Proofs.YtjillamaceggeaaGreat
