/-
  Closed facts of the program's text, each by reckoning.
-/
import Derived.Test.YtjillamaceggeaaGreatRows
import Derived.Test.YtjillamaceggeaaGreatProg
import Derived.ProofKit
import Derived.JoinedCond
set_option linter.unusedSimpArgs false
set_option linter.unusedVariables false
namespace Go.Proofs.YtjillamaceggeaaGreat
open Go Go.ChangeShapes Go.WideShapes Go.ChangeAt Go.RowKit
theorem t_countPurged_inPlace : Tryz.prog.inPlace 5 = Rows.countPurgedRow.inPlace := by kernel_rfl
theorem t_countPurged_varsNamed : Tryz.prog.varsNamed 5 = Rows.countPurgedRow.named := by kernel_rfl
end Go.Proofs.YtjillamaceggeaaGreat
