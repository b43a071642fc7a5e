/-
  Closed facts of the program's text, each by reckoning.
-/
import Derived.Test.YtnmcgdpmikhohaaGreatBc8303cb
import Derived.Test.YtnmcgdpmikhohaaGreatRows
import Derived.Test.YtnmcgdpmikhohaaGreatProg
import Derived.ProofKit
import Derived.JoinedCond
set_option linter.unusedSimpArgs false
set_option linter.unusedVariables false
set_option maxHeartbeats 10000000
set_option maxRecDepth 100000
namespace Go.Proofs.YtnmcgdpmikhohaaGreat
open Go Go.ChangeShapes Go.WideShapes Go.ChangeAt Go.RowKit
theorem t_arenaSwaps_inPlace:Tryz.prog.inPlace 9=Rows.arenaSwapsUptoRow.inPlace:=by kernel_rfl
theorem t_arenaSwaps_varsNamed:Tryz.prog.varsNamed 9=Rows.arenaSwapsUptoRow.named:=by kernel_rfl
end Go.Proofs.YtnmcgdpmikhohaaGreat
