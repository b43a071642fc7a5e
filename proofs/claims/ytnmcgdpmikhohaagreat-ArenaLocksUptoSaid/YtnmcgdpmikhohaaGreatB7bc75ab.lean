/-
  Closed facts of the program's text, each by reckoning.
-/
import Derived.Test.YtnmcgdpmikhohaaGreatRows
import Derived.Test.YtnmcgdpmikhohaaGreatProg
import Derived.ProofKit
import Derived.JoinedCond
import Derived.Test.YtnmcgdpmikhohaaGreatB8493776
import Derived.Test.YtnmcgdpmikhohaaGreatBb9a19dc
set_option linter.unusedSimpArgs false
set_option linter.unusedVariables false
set_option maxHeartbeats 10000000
set_option maxRecDepth 100000
namespace Go.Proofs.YtnmcgdpmikhohaaGreat
open Go Go.ChangeShapes Go.WideShapes Go.ChangeAt Go.RowKit
theorem t_arenaLocks_n:Tryz.prog.funcNamed Rows.arenaLocksUptoRow.func=some 8:=by kernel_rfl
theorem t_arenaLocks_j:joinedFacts Tryz.prog 8 Tryz.f8 (Rows.OpenSpec.upto Rows.arenaLocksSpec).bare Rows.arenaLocksUptoRow=true:=by
 unfold joinedFacts;rw[t_arenaLocks_inPlace,t_arenaLocks_unfollowed,t_arenaLocks_recurses,t_arenaLocks_varsNamed]
 kernel_rfl
theorem t_arenaLocks_i:Tryz.f8.isInstance Tryz.prog Rows.arenaLocksUptoRow.origin Rows.arenaLocksUptoRow.targs:=of_decide_eq_true (by kernel_rfl)
theorem t_arenaLocks_w:Tryz.f8.isWrapper Tryz.prog Rows.arenaLocksUptoRow.wrapper Rows.arenaLocksUptoRow.mainSum:=by unfold Func.isWrapper;first|(rw[zabo (by decide+kernel)];kernel_rfl)|(rw[zabn (by decide+kernel)];exact⟨rfl,rfl⟩)
end Go.Proofs.YtnmcgdpmikhohaaGreat
