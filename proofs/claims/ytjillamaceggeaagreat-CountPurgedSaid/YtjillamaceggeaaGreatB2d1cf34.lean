/-
  A count that is awake: the messages are sent.
-/
import Derived.Test.YtjillamaceggeaaGreatB9086ad8
set_option linter.unusedSimpArgs false
set_option linter.unusedVariables false
namespace Go.Proofs.YtjillamaceggeaaGreat
open Go Go.Sim
set_option linter.unusedSimpArgs false
set_option linter.unusedVariables false
set_option maxHeartbeats 10000000
set_option maxRecDepth 100000
namespace Aw
theorem new_0 : callF G 60 N_ref30_New [.d (setQ 0)] [] = some (.d (.tup [v0 0, .int .i64 0]), []) := by kernel_rfl
theorem inv_0 : callF G 60 N_ref30_Invoke [.d (v0 0), .d inv1] [] = some (.d (.tup [v1 0, .int .i64 1, .int .i64 0]), []) := by kernel_rfl
theorem fin_0 : callF G 60 N_ref30_Finish [.d (v1 0)] [] = some (.d (.tup [v2 0, .int .i64 13, .int .i64 0]), []) := by kernel_rfl
theorem inv_1 : callF G 60 N_ref30_Invoke [.d (v2 0), .d inv1] [] = some (.d (.tup [v3 0, .int .i64 2, .int .i64 0]), []) := by kernel_rfl
theorem fin_1 : callF G 60 N_ref30_Finish [.d (v3 0)] [] = some (.d (.tup [v4 0, .int .i64 13, .int .i64 0]), []) := by kernel_rfl
end Aw
end Go.Proofs.YtjillamaceggeaaGreat
