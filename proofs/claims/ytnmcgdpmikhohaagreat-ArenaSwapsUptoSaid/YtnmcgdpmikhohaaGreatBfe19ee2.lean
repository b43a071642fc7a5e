/-
  Closed facts of the program's text, each by reckoning.
-/
import Derived.Test.YtnmcgdpmikhohaaGreatRows
import Derived.Test.YtnmcgdpmikhohaaGreatProg
import Derived.ProofKit
import Derived.JoinedCond
import Derived.Test.YtnmcgdpmikhohaaGreatB7b40d86
import Derived.Test.YtnmcgdpmikhohaaGreatB8c2acac
set_option linter.unusedSimpArgs false
set_option linter.unusedVariables false
set_option maxHeartbeats 10000000
set_option maxRecDepth 100000
namespace Go.Proofs.YtnmcgdpmikhohaaGreat
open Go Go.ChangeShapes Go.WideShapes Go.ChangeAt Go.RowKit
theorem t_arenaSwaps_n:Tryz.prog.funcNamed Rows.arenaSwapsUptoRow.func=some 9:=by kernel_rfl
theorem t_arenaSwaps_j:joinedFacts Tryz.prog 9 Tryz.f9 (Rows.OpenSpec.upto Rows.arenaSwapsSpec).bare Rows.arenaSwapsUptoRow=true:=by
 unfold joinedFacts;rw[t_arenaSwaps_inPlace,t_arenaSwaps_unfollowed,t_arenaSwaps_recurses,t_arenaSwaps_varsNamed]
 kernel_rfl
theorem t_arenaSwaps_i:Tryz.f9.isInstance Tryz.prog Rows.arenaSwapsUptoRow.origin Rows.arenaSwapsUptoRow.targs:=of_decide_eq_true (by kernel_rfl)
theorem t_arenaSwaps_w:Tryz.f9.isWrapper Tryz.prog Rows.arenaSwapsUptoRow.wrapper Rows.arenaSwapsUptoRow.mainSum:=by unfold Func.isWrapper;first|(rw[zabo (by decide+kernel)];kernel_rfl)|(rw[zabn (by decide+kernel)];exact⟨rfl,rfl⟩)
end Go.Proofs.YtnmcgdpmikhohaaGreat
