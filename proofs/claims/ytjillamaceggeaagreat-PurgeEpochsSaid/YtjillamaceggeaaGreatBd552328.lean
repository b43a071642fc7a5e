/-
  Purges one after the other: messages that are sent.
  Purges one after the other: messages that are sent.
  Purges one after the other: messages that are sent.
  Purges one after the other: concrete parts.
  Purges one after the other: concrete parts.
  Purges one after the other: the law.
-/
import Derived.Test.YtjillamaceggeaaGreatB65c6baf
set_option linter.unusedSimpArgs false
set_option linter.unusedVariables false
namespace Go.Proofs.YtjillamaceggeaaGreat
open Go Go.Sim
set_option linter.unusedSimpArgs false
set_option linter.unusedVariables false
set_option maxHeartbeats 10000000
set_option maxRecDepth 100000
theorem new_65531 : callF G 60 N_ref30_New [.d (setQ 65531)] [] = some (.d (.tup [v0 65531, .int .i64 0]), []) := by kernel_rfl
theorem inv_65531_0 : callF G 60 N_ref30_Invoke [.d (v0 65531), .d inv1] [] = some (.d (.tup [v1 65531, .int .i64 1, .int .i64 0]), []) := by kernel_rfl
theorem fin_65531_0 : callF G 60 N_ref30_Finish [.d (v1 65531)] [] = some (.d (.tup [v2 65531, .int .i64 13, .int .i64 0]), []) := by kernel_rfl
theorem inv_65531_1 : callF G 60 N_ref30_Invoke [.d (v2 65531), .d inv1] [] = some (.d (.tup [v3 65531, .int .i64 2, .int .i64 0]), []) := by kernel_rfl
theorem fin_65531_1 : callF G 60 N_ref30_Finish [.d (v3 65531)] [] = some (.d (.tup [v4 65531, .int .i64 13, .int .i64 0]), []) := by kernel_rfl
theorem new_65532 : callF G 60 N_ref30_New [.d (setQ 65532)] [] = some (.d (.tup [v0 65532, .int .i64 0]), []) := by kernel_rfl
theorem inv_65532_0 : callF G 60 N_ref30_Invoke [.d (v0 65532), .d inv1] [] = some (.d (.tup [v1 65532, .int .i64 1, .int .i64 0]), []) := by kernel_rfl
theorem fin_65532_0 : callF G 60 N_ref30_Finish [.d (v1 65532)] [] = some (.d (.tup [v2 65532, .int .i64 13, .int .i64 0]), []) := by kernel_rfl
theorem inv_65532_1 : callF G 60 N_ref30_Invoke [.d (v2 65532), .d inv1] [] = some (.d (.tup [v3 65532, .int .i64 2, .int .i64 0]), []) := by kernel_rfl
theorem fin_65532_1 : callF G 60 N_ref30_Finish [.d (v3 65532)] [] = some (.d (.tup [v4 65532, .int .i64 13, .int .i64 0]), []) := by kernel_rfl
end Go.Proofs.YtjillamaceggeaaGreat

namespace Go.Proofs.YtjillamaceggeaaGreat
open Go Go.Sim
set_option linter.unusedSimpArgs false
set_option linter.unusedVariables false
set_option maxHeartbeats 10000000
set_option maxRecDepth 100000
theorem new_65533 : callF G 60 N_ref30_New [.d (setQ 65533)] [] = some (.d (.tup [v0 65533, .int .i64 0]), []) := by kernel_rfl
theorem inv_65533_0 : callF G 60 N_ref30_Invoke [.d (v0 65533), .d inv1] [] = some (.d (.tup [v1 65533, .int .i64 1, .int .i64 0]), []) := by kernel_rfl
theorem fin_65533_0 : callF G 60 N_ref30_Finish [.d (v1 65533)] [] = some (.d (.tup [v2 65533, .int .i64 13, .int .i64 0]), []) := by kernel_rfl
theorem inv_65533_1 : callF G 60 N_ref30_Invoke [.d (v2 65533), .d inv1] [] = some (.d (.tup [v3 65533, .int .i64 2, .int .i64 0]), []) := by kernel_rfl
theorem fin_65533_1 : callF G 60 N_ref30_Finish [.d (v3 65533)] [] = some (.d (.tup [v4 65533, .int .i64 13, .int .i64 0]), []) := by kernel_rfl
theorem new_65534 : callF G 60 N_ref30_New [.d (setQ 65534)] [] = some (.d (.tup [v0 65534, .int .i64 0]), []) := by kernel_rfl
theorem inv_65534_0 : callF G 60 N_ref30_Invoke [.d (v0 65534), .d inv1] [] = some (.d (.tup [v1 65534, .int .i64 1, .int .i64 0]), []) := by kernel_rfl
theorem fin_65534_0 : callF G 60 N_ref30_Finish [.d (v1 65534)] [] = some (.d (.tup [v2 65534, .int .i64 13, .int .i64 0]), []) := by kernel_rfl
theorem inv_65534_1 : callF G 60 N_ref30_Invoke [.d (v2 65534), .d inv1] [] = some (.d (.tup [v3 65534, .int .i64 2, .int .i64 0]), []) := by kernel_rfl
theorem fin_65534_1 : callF G 60 N_ref30_Finish [.d (v3 65534)] [] = some (.d (.tup [v4 65534, .int .i64 13, .int .i64 0]), []) := by kernel_rfl
end Go.Proofs.YtjillamaceggeaaGreat

namespace Go.Proofs.YtjillamaceggeaaGreat
open Go Go.Sim
set_option linter.unusedSimpArgs false
set_option linter.unusedVariables false
set_option maxHeartbeats 10000000
set_option maxRecDepth 100000
theorem new_65535 : callF G 60 N_ref30_New [.d (setQ 65535)] [] = some (.d (.tup [v0 65535, .int .i64 0]), []) := by kernel_rfl
theorem inv_65535_0 : callF G 60 N_ref30_Invoke [.d (v0 65535), .d inv1] [] = some (.d (.tup [v1 65535, .int .i64 1, .int .i64 0]), []) := by kernel_rfl
theorem fin_65535_0 : callF G 60 N_ref30_Finish [.d (v1 65535)] [] = some (.d (.tup [v2 65535, .int .i64 13, .int .i64 0]), []) := by kernel_rfl
theorem inv_65535_1 : callF G 60 N_ref30_Invoke [.d (v2 65535), .d inv1] [] = some (.d (.tup [v3 65535, .int .i64 2, .int .i64 0]), []) := by kernel_rfl
theorem fin_65535_1 : callF G 60 N_ref30_Finish [.d (v3 65535)] [] = some (.d (.tup [v4 65535, .int .i64 13, .int .i64 0]), []) := by kernel_rfl
theorem new_65536 : callF G 60 N_ref30_New [.d (setQ 65536)] [] = some (.d (.tup [v0 65536, .int .i64 0]), []) := by kernel_rfl
theorem inv_65536_0 : callF G 60 N_ref30_Invoke [.d (v0 65536), .d inv1] [] = some (.d (.tup [v1 65536, .int .i64 1, .int .i64 0]), []) := by kernel_rfl
theorem fin_65536_0 : callF G 60 N_ref30_Finish [.d (v1 65536)] [] = some (.d (.tup [v2 65536, .int .i64 13, .int .i64 0]), []) := by kernel_rfl
theorem inv_65536_1 : callF G 60 N_ref30_Invoke [.d (v2 65536), .d inv1] [] = some (.d (.tup [v3 65536, .int .i64 2, .int .i64 0]), []) := by kernel_rfl
theorem fin_65536_1 : callF G 60 N_ref30_Finish [.d (v3 65536)] [] = some (.d (.tup [v4 65536, .int .i64 13, .int .i64 0]), []) := by kernel_rfl
end Go.Proofs.YtjillamaceggeaaGreat

namespace Go.Proofs.YtjillamaceggeaaGreat
open Go Go.Sim
set_option linter.unusedSimpArgs false
set_option linter.unusedVariables false
set_option maxHeartbeats 10000000
set_option maxRecDepth 100000
theorem awake_c : callF G 60 N_law21_awake [] [] = some (.d (.bool true), []) := by kernel_rfl
end Go.Proofs.YtjillamaceggeaaGreat

namespace Go.Proofs.YtjillamaceggeaaGreat
open Go Go.Sim
set_option linter.unusedSimpArgs false
set_option linter.unusedVariables false
set_option maxHeartbeats 10000000
set_option maxRecDepth 100000
theorem same_65531_65531 : callF G 60 N_ref12_Same [.d (aE 65531 65531), .d (aE 65531 65531)] [] = some (.d (.bool true), []) := by kernel_rfl
theorem same_65531_65532 : callF G 60 N_ref12_Same [.d (aE 65531 65532), .d (aE 65531 65532)] [] = some (.d (.bool true), []) := by kernel_rfl
theorem same_65531_65533 : callF G 60 N_ref12_Same [.d (aE 65531 65533), .d (aE 65531 65533)] [] = some (.d (.bool true), []) := by kernel_rfl
theorem same_65531_65534 : callF G 60 N_ref12_Same [.d (aE 65531 65534), .d (aE 65531 65534)] [] = some (.d (.bool true), []) := by kernel_rfl
theorem same_65531_65535 : callF G 60 N_ref12_Same [.d (aE 65531 65535), .d (aE 65531 65535)] [] = some (.d (.bool true), []) := by kernel_rfl
theorem same_65531_65536 : callF G 60 N_ref12_Same [.d (aE 65531 65536), .d (aE 65531 65536)] [] = some (.d (.bool true), []) := by kernel_rfl
theorem same_65532_65532 : callF G 60 N_ref12_Same [.d (aE 65532 65532), .d (aE 65532 65532)] [] = some (.d (.bool true), []) := by kernel_rfl
theorem same_65532_65533 : callF G 60 N_ref12_Same [.d (aE 65532 65533), .d (aE 65532 65533)] [] = some (.d (.bool true), []) := by kernel_rfl
theorem same_65532_65534 : callF G 60 N_ref12_Same [.d (aE 65532 65534), .d (aE 65532 65534)] [] = some (.d (.bool true), []) := by kernel_rfl
theorem same_65532_65535 : callF G 60 N_ref12_Same [.d (aE 65532 65535), .d (aE 65532 65535)] [] = some (.d (.bool true), []) := by kernel_rfl
theorem same_65532_65536 : callF G 60 N_ref12_Same [.d (aE 65532 65536), .d (aE 65532 65536)] [] = some (.d (.bool true), []) := by kernel_rfl
theorem same_65533_65533 : callF G 60 N_ref12_Same [.d (aE 65533 65533), .d (aE 65533 65533)] [] = some (.d (.bool true), []) := by kernel_rfl
theorem same_65533_65534 : callF G 60 N_ref12_Same [.d (aE 65533 65534), .d (aE 65533 65534)] [] = some (.d (.bool true), []) := by kernel_rfl
theorem same_65533_65535 : callF G 60 N_ref12_Same [.d (aE 65533 65535), .d (aE 65533 65535)] [] = some (.d (.bool true), []) := by kernel_rfl
theorem same_65533_65536 : callF G 60 N_ref12_Same [.d (aE 65533 65536), .d (aE 65533 65536)] [] = some (.d (.bool true), []) := by kernel_rfl
theorem same_65534_65534 : callF G 60 N_ref12_Same [.d (aE 65534 65534), .d (aE 65534 65534)] [] = some (.d (.bool true), []) := by kernel_rfl
theorem same_65534_65535 : callF G 60 N_ref12_Same [.d (aE 65534 65535), .d (aE 65534 65535)] [] = some (.d (.bool true), []) := by kernel_rfl
theorem same_65534_65536 : callF G 60 N_ref12_Same [.d (aE 65534 65536), .d (aE 65534 65536)] [] = some (.d (.bool true), []) := by kernel_rfl
theorem same_65535_65535 : callF G 60 N_ref12_Same [.d (aE 65535 65535), .d (aE 65535 65535)] [] = some (.d (.bool true), []) := by kernel_rfl
theorem same_65535_65536 : callF G 60 N_ref12_Same [.d (aE 65535 65536), .d (aE 65535 65536)] [] = some (.d (.bool true), []) := by kernel_rfl
theorem same_65536_65536 : callF G 60 N_ref12_Same [.d (aE 65536 65536), .d (aE 65536 65536)] [] = some (.d (.bool true), []) := by kernel_rfl
theorem start_65531_0 : callF G 60 N_ref17_Start [.d (.int .i64 1), .d invQ, .d (setQ 65531), .d (.int .i64 0)] [] = some (.d (.tup [taskQ 0 65531 0 0, .int .i64 0]), []) := by kernel_rfl
theorem start_65531_1 : callF G 60 N_ref17_Start [.d (.int .i64 1), .d invQ, .d (setQ 65531), .d (.int .i64 10)] [] = some (.d (.tup [taskQ 10 65531 0 0, .int .i64 0]), []) := by kernel_rfl
theorem start_65531_2 : callF G 60 N_ref17_Start [.d (.int .i64 1), .d invQ, .d (setQ 65531), .d (.int .i64 20)] [] = some (.d (.tup [taskQ 20 65531 0 0, .int .i64 0]), []) := by kernel_rfl
theorem start_65531_3 : callF G 60 N_ref17_Start [.d (.int .i64 1), .d invQ, .d (setQ 65531), .d (.int .i64 30)] [] = some (.d (.tup [taskQ 30 65531 0 0, .int .i64 0]), []) := by kernel_rfl
theorem start_65531_4 : callF G 60 N_ref17_Start [.d (.int .i64 1), .d invQ, .d (setQ 65531), .d (.int .i64 40)] [] = some (.d (.tup [taskQ 40 65531 0 0, .int .i64 0]), []) := by kernel_rfl
theorem start_65531_5 : callF G 60 N_ref17_Start [.d (.int .i64 1), .d invQ, .d (setQ 65531), .d (.int .i64 50)] [] = some (.d (.tup [taskQ 50 65531 0 0, .int .i64 0]), []) := by kernel_rfl
theorem start_65531_6 : callF G 60 N_ref17_Start [.d (.int .i64 1), .d invQ, .d (setQ 65531), .d (.int .i64 60)] [] = some (.d (.tup [taskQ 60 65531 0 0, .int .i64 0]), []) := by kernel_rfl
theorem start_65531_7 : callF G 60 N_ref17_Start [.d (.int .i64 1), .d invQ, .d (setQ 65531), .d (.int .i64 70)] [] = some (.d (.tup [taskQ 70 65531 0 0, .int .i64 0]), []) := by kernel_rfl
theorem start_65531_8 : callF G 60 N_ref17_Start [.d (.int .i64 1), .d invQ, .d (setQ 65531), .d (.int .i64 80)] [] = some (.d (.tup [taskQ 80 65531 0 0, .int .i64 0]), []) := by kernel_rfl
theorem start_65532_0 : callF G 60 N_ref17_Start [.d (.int .i64 1), .d invQ, .d (setQ 65532), .d (.int .i64 0)] [] = some (.d (.tup [taskQ 0 65532 0 0, .int .i64 0]), []) := by kernel_rfl
theorem start_65532_1 : callF G 60 N_ref17_Start [.d (.int .i64 1), .d invQ, .d (setQ 65532), .d (.int .i64 10)] [] = some (.d (.tup [taskQ 10 65532 0 0, .int .i64 0]), []) := by kernel_rfl
theorem start_65532_2 : callF G 60 N_ref17_Start [.d (.int .i64 1), .d invQ, .d (setQ 65532), .d (.int .i64 20)] [] = some (.d (.tup [taskQ 20 65532 0 0, .int .i64 0]), []) := by kernel_rfl
theorem start_65532_3 : callF G 60 N_ref17_Start [.d (.int .i64 1), .d invQ, .d (setQ 65532), .d (.int .i64 30)] [] = some (.d (.tup [taskQ 30 65532 0 0, .int .i64 0]), []) := by kernel_rfl
theorem start_65532_4 : callF G 60 N_ref17_Start [.d (.int .i64 1), .d invQ, .d (setQ 65532), .d (.int .i64 40)] [] = some (.d (.tup [taskQ 40 65532 0 0, .int .i64 0]), []) := by kernel_rfl
theorem start_65532_5 : callF G 60 N_ref17_Start [.d (.int .i64 1), .d invQ, .d (setQ 65532), .d (.int .i64 50)] [] = some (.d (.tup [taskQ 50 65532 0 0, .int .i64 0]), []) := by kernel_rfl
theorem start_65532_6 : callF G 60 N_ref17_Start [.d (.int .i64 1), .d invQ, .d (setQ 65532), .d (.int .i64 60)] [] = some (.d (.tup [taskQ 60 65532 0 0, .int .i64 0]), []) := by kernel_rfl
theorem start_65532_7 : callF G 60 N_ref17_Start [.d (.int .i64 1), .d invQ, .d (setQ 65532), .d (.int .i64 70)] [] = some (.d (.tup [taskQ 70 65532 0 0, .int .i64 0]), []) := by kernel_rfl
theorem start_65532_8 : callF G 60 N_ref17_Start [.d (.int .i64 1), .d invQ, .d (setQ 65532), .d (.int .i64 80)] [] = some (.d (.tup [taskQ 80 65532 0 0, .int .i64 0]), []) := by kernel_rfl
theorem start_65533_0 : callF G 60 N_ref17_Start [.d (.int .i64 1), .d invQ, .d (setQ 65533), .d (.int .i64 0)] [] = some (.d (.tup [taskQ 0 65533 0 0, .int .i64 0]), []) := by kernel_rfl
theorem start_65533_1 : callF G 60 N_ref17_Start [.d (.int .i64 1), .d invQ, .d (setQ 65533), .d (.int .i64 10)] [] = some (.d (.tup [taskQ 10 65533 0 0, .int .i64 0]), []) := by kernel_rfl
theorem start_65533_2 : callF G 60 N_ref17_Start [.d (.int .i64 1), .d invQ, .d (setQ 65533), .d (.int .i64 20)] [] = some (.d (.tup [taskQ 20 65533 0 0, .int .i64 0]), []) := by kernel_rfl
theorem start_65533_3 : callF G 60 N_ref17_Start [.d (.int .i64 1), .d invQ, .d (setQ 65533), .d (.int .i64 30)] [] = some (.d (.tup [taskQ 30 65533 0 0, .int .i64 0]), []) := by kernel_rfl
theorem start_65533_4 : callF G 60 N_ref17_Start [.d (.int .i64 1), .d invQ, .d (setQ 65533), .d (.int .i64 40)] [] = some (.d (.tup [taskQ 40 65533 0 0, .int .i64 0]), []) := by kernel_rfl
theorem start_65533_5 : callF G 60 N_ref17_Start [.d (.int .i64 1), .d invQ, .d (setQ 65533), .d (.int .i64 50)] [] = some (.d (.tup [taskQ 50 65533 0 0, .int .i64 0]), []) := by kernel_rfl
theorem start_65533_6 : callF G 60 N_ref17_Start [.d (.int .i64 1), .d invQ, .d (setQ 65533), .d (.int .i64 60)] [] = some (.d (.tup [taskQ 60 65533 0 0, .int .i64 0]), []) := by kernel_rfl
theorem start_65533_7 : callF G 60 N_ref17_Start [.d (.int .i64 1), .d invQ, .d (setQ 65533), .d (.int .i64 70)] [] = some (.d (.tup [taskQ 70 65533 0 0, .int .i64 0]), []) := by kernel_rfl
theorem start_65533_8 : callF G 60 N_ref17_Start [.d (.int .i64 1), .d invQ, .d (setQ 65533), .d (.int .i64 80)] [] = some (.d (.tup [taskQ 80 65533 0 0, .int .i64 0]), []) := by kernel_rfl
theorem start_65534_0 : callF G 60 N_ref17_Start [.d (.int .i64 1), .d invQ, .d (setQ 65534), .d (.int .i64 0)] [] = some (.d (.tup [taskQ 0 65534 0 0, .int .i64 0]), []) := by kernel_rfl
theorem start_65534_1 : callF G 60 N_ref17_Start [.d (.int .i64 1), .d invQ, .d (setQ 65534), .d (.int .i64 10)] [] = some (.d (.tup [taskQ 10 65534 0 0, .int .i64 0]), []) := by kernel_rfl
theorem start_65534_2 : callF G 60 N_ref17_Start [.d (.int .i64 1), .d invQ, .d (setQ 65534), .d (.int .i64 20)] [] = some (.d (.tup [taskQ 20 65534 0 0, .int .i64 0]), []) := by kernel_rfl
theorem start_65534_3 : callF G 60 N_ref17_Start [.d (.int .i64 1), .d invQ, .d (setQ 65534), .d (.int .i64 30)] [] = some (.d (.tup [taskQ 30 65534 0 0, .int .i64 0]), []) := by kernel_rfl
theorem start_65534_4 : callF G 60 N_ref17_Start [.d (.int .i64 1), .d invQ, .d (setQ 65534), .d (.int .i64 40)] [] = some (.d (.tup [taskQ 40 65534 0 0, .int .i64 0]), []) := by kernel_rfl
theorem start_65534_5 : callF G 60 N_ref17_Start [.d (.int .i64 1), .d invQ, .d (setQ 65534), .d (.int .i64 50)] [] = some (.d (.tup [taskQ 50 65534 0 0, .int .i64 0]), []) := by kernel_rfl
theorem start_65534_6 : callF G 60 N_ref17_Start [.d (.int .i64 1), .d invQ, .d (setQ 65534), .d (.int .i64 60)] [] = some (.d (.tup [taskQ 60 65534 0 0, .int .i64 0]), []) := by kernel_rfl
theorem start_65534_7 : callF G 60 N_ref17_Start [.d (.int .i64 1), .d invQ, .d (setQ 65534), .d (.int .i64 70)] [] = some (.d (.tup [taskQ 70 65534 0 0, .int .i64 0]), []) := by kernel_rfl
theorem start_65534_8 : callF G 60 N_ref17_Start [.d (.int .i64 1), .d invQ, .d (setQ 65534), .d (.int .i64 80)] [] = some (.d (.tup [taskQ 80 65534 0 0, .int .i64 0]), []) := by kernel_rfl
theorem start_65535_0 : callF G 60 N_ref17_Start [.d (.int .i64 1), .d invQ, .d (setQ 65535), .d (.int .i64 0)] [] = some (.d (.tup [taskQ 0 65535 0 0, .int .i64 0]), []) := by kernel_rfl
theorem start_65535_1 : callF G 60 N_ref17_Start [.d (.int .i64 1), .d invQ, .d (setQ 65535), .d (.int .i64 10)] [] = some (.d (.tup [taskQ 10 65535 0 0, .int .i64 0]), []) := by kernel_rfl
theorem start_65535_2 : callF G 60 N_ref17_Start [.d (.int .i64 1), .d invQ, .d (setQ 65535), .d (.int .i64 20)] [] = some (.d (.tup [taskQ 20 65535 0 0, .int .i64 0]), []) := by kernel_rfl
theorem start_65535_3 : callF G 60 N_ref17_Start [.d (.int .i64 1), .d invQ, .d (setQ 65535), .d (.int .i64 30)] [] = some (.d (.tup [taskQ 30 65535 0 0, .int .i64 0]), []) := by kernel_rfl
theorem start_65535_4 : callF G 60 N_ref17_Start [.d (.int .i64 1), .d invQ, .d (setQ 65535), .d (.int .i64 40)] [] = some (.d (.tup [taskQ 40 65535 0 0, .int .i64 0]), []) := by kernel_rfl
theorem start_65535_5 : callF G 60 N_ref17_Start [.d (.int .i64 1), .d invQ, .d (setQ 65535), .d (.int .i64 50)] [] = some (.d (.tup [taskQ 50 65535 0 0, .int .i64 0]), []) := by kernel_rfl
theorem start_65535_6 : callF G 60 N_ref17_Start [.d (.int .i64 1), .d invQ, .d (setQ 65535), .d (.int .i64 60)] [] = some (.d (.tup [taskQ 60 65535 0 0, .int .i64 0]), []) := by kernel_rfl
theorem start_65535_7 : callF G 60 N_ref17_Start [.d (.int .i64 1), .d invQ, .d (setQ 65535), .d (.int .i64 70)] [] = some (.d (.tup [taskQ 70 65535 0 0, .int .i64 0]), []) := by kernel_rfl
theorem start_65535_8 : callF G 60 N_ref17_Start [.d (.int .i64 1), .d invQ, .d (setQ 65535), .d (.int .i64 80)] [] = some (.d (.tup [taskQ 80 65535 0 0, .int .i64 0]), []) := by kernel_rfl
theorem start_65536_0 : callF G 60 N_ref17_Start [.d (.int .i64 1), .d invQ, .d (setQ 65536), .d (.int .i64 0)] [] = some (.d (.tup [taskQ 0 65536 0 0, .int .i64 0]), []) := by kernel_rfl
theorem start_65536_1 : callF G 60 N_ref17_Start [.d (.int .i64 1), .d invQ, .d (setQ 65536), .d (.int .i64 10)] [] = some (.d (.tup [taskQ 10 65536 0 0, .int .i64 0]), []) := by kernel_rfl
theorem start_65536_2 : callF G 60 N_ref17_Start [.d (.int .i64 1), .d invQ, .d (setQ 65536), .d (.int .i64 20)] [] = some (.d (.tup [taskQ 20 65536 0 0, .int .i64 0]), []) := by kernel_rfl
theorem start_65536_3 : callF G 60 N_ref17_Start [.d (.int .i64 1), .d invQ, .d (setQ 65536), .d (.int .i64 30)] [] = some (.d (.tup [taskQ 30 65536 0 0, .int .i64 0]), []) := by kernel_rfl
theorem start_65536_4 : callF G 60 N_ref17_Start [.d (.int .i64 1), .d invQ, .d (setQ 65536), .d (.int .i64 40)] [] = some (.d (.tup [taskQ 40 65536 0 0, .int .i64 0]), []) := by kernel_rfl
theorem start_65536_5 : callF G 60 N_ref17_Start [.d (.int .i64 1), .d invQ, .d (setQ 65536), .d (.int .i64 50)] [] = some (.d (.tup [taskQ 50 65536 0 0, .int .i64 0]), []) := by kernel_rfl
theorem start_65536_6 : callF G 60 N_ref17_Start [.d (.int .i64 1), .d invQ, .d (setQ 65536), .d (.int .i64 60)] [] = some (.d (.tup [taskQ 60 65536 0 0, .int .i64 0]), []) := by kernel_rfl
theorem start_65536_7 : callF G 60 N_ref17_Start [.d (.int .i64 1), .d invQ, .d (setQ 65536), .d (.int .i64 70)] [] = some (.d (.tup [taskQ 70 65536 0 0, .int .i64 0]), []) := by kernel_rfl
theorem start_65536_8 : callF G 60 N_ref17_Start [.d (.int .i64 1), .d invQ, .d (setQ 65536), .d (.int .i64 80)] [] = some (.d (.tup [taskQ 80 65536 0 0, .int .i64 0]), []) := by kernel_rfl
end Go.Proofs.YtjillamaceggeaaGreat

namespace Go.Proofs.YtjillamaceggeaaGreat
open Go Go.Sim
set_option linter.unusedSimpArgs false
set_option linter.unusedVariables false
set_option maxHeartbeats 10000000
set_option maxRecDepth 100000
theorem cl {f : FuncId} {args : List AV} {os : Heap} {p : AV × Heap} (h : callF G 60 f args os = some p) : callL G f args os = some p := callL_iff.2 ⟨60, h⟩
theorem law_k (x y k m : Nat) (E : Int) (hk : k ≤ 5) (hm : m ≤ 8) (hE : E + k = 65536) (hx : (x : Int).tmod 6 = k) (hy : (y : Int).tmod 9 = m)
    (hs : ∀ i : Nat, i ≤ 8 → callL G N_ref17_Start [.d (.int .i64 1), .d invQ, .d (setQ E), .d (.int .i64 (10 * (i : Int)))] [] = some (.d (.tup [taskQ (10 * (i : Int)) E 0 0, .int .i64 0]), []))
    (hsame : ∀ e, E ≤ e → e ≤ 65536 → callL G N_ref12_Same [.d (aE E e), .d (aE E e)] [] = some (.d (.bool true), []))
    (hl : callL G N_base_Loaded [.d (setQ E), .d (.int .i64 2)] [] = some (.d (aE E E), [])) : callL G N_law21_PurgeEpochs [.d (.int .u8 x), .d (.int .u8 y)] [] = some (.d (.bool true), []) := by
  have h1 := cl two_c
  have h2 := cl awake_c
  have h3 := pe_loop x y k m E hk hm hE hx hy hs hsame 0 (by omega)
  clear hs hsame
  have e : (if (0 : Nat) < k then E + ((0 : Nat) : Int) else 65536) = E := by split <;> omega
  have e2 : 65536 - (k : Int) = E := by omega
  rw [e] at h3
  clear e
  simp only [peS, aE, aQ, setQ, Int.natCast_zero] at *
  generalize slQ E = A, stQ E = B, dQ1 = C, dQ2 = F at *
  rw [callL_code g_law21_PurgeEpochs (by simp)]; simp -implicitDefEqProofs (maxSteps := 4000000) (disch := omega) only [c_law21_PurgeEpochs, r_law21_PurgeEpochs, getDT, go_sem, *]; (try simp only [pA, pB, pC, pD, pE, pF, pG, pH, pI, pJ, pK, pL, pM, pN, pO, pP, if_true, if_false]); repeat' (first | done | rfl | ((first | refine iteC (fun hq => ?_) (fun hq => ?_) | refine iteP (fun hq => ?_) (fun hq => ?_)) <;> (try (first | (exfalso; omega) | contradiction)) <;> (try simp -implicitDefEqProofs (maxSteps := 4000000) (disch := omega) only [getDT, go_sem, *]) <;> (try simp only [pA, pB, pC, pD, pE, pF, pG, pH, pI, pJ, pK, pL, pM, pN, pO, pP, if_true, if_false]))); (all_goals try rfl); (all_goals try (repeat' (first | done | rfl | (exfalso; omega) | contradiction | (refine iteR (fun hq => ?_) (fun hq => ?_)))))
theorem epochs_ok (x y : Nat) (h1 : x < 256) (h2 : y < 256) : callL G N_law21_PurgeEpochs [.d (.int .u8 x), .d (.int .u8 y)] [] = some (.d (.bool true), []) := by
  have hx : (x : Int).tmod 6 = ((x % 6 : Nat) : Int) := by rw [Int.tmod_eq_emod_of_nonneg (by omega)]; omega
  have hy : (y : Int).tmod 9 = ((y % 9 : Nat) : Int) := by rw [Int.tmod_eq_emod_of_nonneg (by omega)]; omega
  have hm : y % 9 ≤ 8 := by omega
  generalize y % 9 = m at *
  have hk : x % 6 = 0 ∨ x % 6 = 1 ∨ x % 6 = 2 ∨ x % 6 = 3 ∨ x % 6 = 4 ∨ x % 6 = 5 := by omega
  rcases hk with hk | hk | hk | hk | hk | hk
  · rw [hk] at hx
    refine law_k x y 0 m 65536 (by omega) hm (by omega) hx hy (fun i hi => ?_) (fun e g1 g2 => ?_) (load_E 65536 (cl new_65536) (cl inv_65536_0) (cl fin_65536_0) (cl inv_65536_1) (cl fin_65536_1))
    · rcases (show i = 0 ∨ i = 1 ∨ i = 2 ∨ i = 3 ∨ i = 4 ∨ i = 5 ∨ i = 6 ∨ i = 7 ∨ i = 8 by omega) with rfl | rfl | rfl | rfl | rfl | rfl | rfl | rfl | rfl
      · exact cl start_65536_0
      · exact cl start_65536_1
      · exact cl start_65536_2
      · exact cl start_65536_3
      · exact cl start_65536_4
      · exact cl start_65536_5
      · exact cl start_65536_6
      · exact cl start_65536_7
      · exact cl start_65536_8
    · rcases (show e = 65536 by omega) with rfl
      · exact cl same_65536_65536
  · rw [hk] at hx
    refine law_k x y 1 m 65535 (by omega) hm (by omega) hx hy (fun i hi => ?_) (fun e g1 g2 => ?_) (load_E 65535 (cl new_65535) (cl inv_65535_0) (cl fin_65535_0) (cl inv_65535_1) (cl fin_65535_1))
    · rcases (show i = 0 ∨ i = 1 ∨ i = 2 ∨ i = 3 ∨ i = 4 ∨ i = 5 ∨ i = 6 ∨ i = 7 ∨ i = 8 by omega) with rfl | rfl | rfl | rfl | rfl | rfl | rfl | rfl | rfl
      · exact cl start_65535_0
      · exact cl start_65535_1
      · exact cl start_65535_2
      · exact cl start_65535_3
      · exact cl start_65535_4
      · exact cl start_65535_5
      · exact cl start_65535_6
      · exact cl start_65535_7
      · exact cl start_65535_8
    · rcases (show e = 65535 ∨ e = 65536 by omega) with rfl | rfl
      · exact cl same_65535_65535
      · exact cl same_65535_65536
  · rw [hk] at hx
    refine law_k x y 2 m 65534 (by omega) hm (by omega) hx hy (fun i hi => ?_) (fun e g1 g2 => ?_) (load_E 65534 (cl new_65534) (cl inv_65534_0) (cl fin_65534_0) (cl inv_65534_1) (cl fin_65534_1))
    · rcases (show i = 0 ∨ i = 1 ∨ i = 2 ∨ i = 3 ∨ i = 4 ∨ i = 5 ∨ i = 6 ∨ i = 7 ∨ i = 8 by omega) with rfl | rfl | rfl | rfl | rfl | rfl | rfl | rfl | rfl
      · exact cl start_65534_0
      · exact cl start_65534_1
      · exact cl start_65534_2
      · exact cl start_65534_3
      · exact cl start_65534_4
      · exact cl start_65534_5
      · exact cl start_65534_6
      · exact cl start_65534_7
      · exact cl start_65534_8
    · rcases (show e = 65534 ∨ e = 65535 ∨ e = 65536 by omega) with rfl | rfl | rfl
      · exact cl same_65534_65534
      · exact cl same_65534_65535
      · exact cl same_65534_65536
  · rw [hk] at hx
    refine law_k x y 3 m 65533 (by omega) hm (by omega) hx hy (fun i hi => ?_) (fun e g1 g2 => ?_) (load_E 65533 (cl new_65533) (cl inv_65533_0) (cl fin_65533_0) (cl inv_65533_1) (cl fin_65533_1))
    · rcases (show i = 0 ∨ i = 1 ∨ i = 2 ∨ i = 3 ∨ i = 4 ∨ i = 5 ∨ i = 6 ∨ i = 7 ∨ i = 8 by omega) with rfl | rfl | rfl | rfl | rfl | rfl | rfl | rfl | rfl
      · exact cl start_65533_0
      · exact cl start_65533_1
      · exact cl start_65533_2
      · exact cl start_65533_3
      · exact cl start_65533_4
      · exact cl start_65533_5
      · exact cl start_65533_6
      · exact cl start_65533_7
      · exact cl start_65533_8
    · rcases (show e = 65533 ∨ e = 65534 ∨ e = 65535 ∨ e = 65536 by omega) with rfl | rfl | rfl | rfl
      · exact cl same_65533_65533
      · exact cl same_65533_65534
      · exact cl same_65533_65535
      · exact cl same_65533_65536
  · rw [hk] at hx
    refine law_k x y 4 m 65532 (by omega) hm (by omega) hx hy (fun i hi => ?_) (fun e g1 g2 => ?_) (load_E 65532 (cl new_65532) (cl inv_65532_0) (cl fin_65532_0) (cl inv_65532_1) (cl fin_65532_1))
    · rcases (show i = 0 ∨ i = 1 ∨ i = 2 ∨ i = 3 ∨ i = 4 ∨ i = 5 ∨ i = 6 ∨ i = 7 ∨ i = 8 by omega) with rfl | rfl | rfl | rfl | rfl | rfl | rfl | rfl | rfl
      · exact cl start_65532_0
      · exact cl start_65532_1
      · exact cl start_65532_2
      · exact cl start_65532_3
      · exact cl start_65532_4
      · exact cl start_65532_5
      · exact cl start_65532_6
      · exact cl start_65532_7
      · exact cl start_65532_8
    · rcases (show e = 65532 ∨ e = 65533 ∨ e = 65534 ∨ e = 65535 ∨ e = 65536 by omega) with rfl | rfl | rfl | rfl | rfl
      · exact cl same_65532_65532
      · exact cl same_65532_65533
      · exact cl same_65532_65534
      · exact cl same_65532_65535
      · exact cl same_65532_65536
  · rw [hk] at hx
    refine law_k x y 5 m 65531 (by omega) hm (by omega) hx hy (fun i hi => ?_) (fun e g1 g2 => ?_) (load_E 65531 (cl new_65531) (cl inv_65531_0) (cl fin_65531_0) (cl inv_65531_1) (cl fin_65531_1))
    · rcases (show i = 0 ∨ i = 1 ∨ i = 2 ∨ i = 3 ∨ i = 4 ∨ i = 5 ∨ i = 6 ∨ i = 7 ∨ i = 8 by omega) with rfl | rfl | rfl | rfl | rfl | rfl | rfl | rfl | rfl
      · exact cl start_65531_0
      · exact cl start_65531_1
      · exact cl start_65531_2
      · exact cl start_65531_3
      · exact cl start_65531_4
      · exact cl start_65531_5
      · exact cl start_65531_6
      · exact cl start_65531_7
      · exact cl start_65531_8
    · rcases (show e = 65531 ∨ e = 65532 ∨ e = 65533 ∨ e = 65534 ∨ e = 65535 ∨ e = 65536 by omega) with rfl | rfl | rfl | rfl | rfl | rfl
      · exact cl same_65531_65531
      · exact cl same_65531_65532
      · exact cl same_65531_65533
      · exact cl same_65531_65534
      · exact cl same_65531_65535
      · exact cl same_65531_65536
end Go.Proofs.YtjillamaceggeaaGreat
