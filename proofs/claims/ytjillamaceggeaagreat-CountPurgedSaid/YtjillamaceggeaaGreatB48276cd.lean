/-
  A count behind a purge: runs.
-/
import Derived.Test.YtjillamaceggeaaGreatBf1436d6
set_option linter.unusedSimpArgs false
set_option linter.unusedVariables false
namespace Go.Proofs.YtjillamaceggeaaGreat
open Go Go.Sim
set_option linter.unusedSimpArgs false
set_option linter.unusedVariables false
set_option maxHeartbeats 10000000
set_option maxRecDepth 100000
def resC : D := .agg [.int .i64 0, .int .i64 0, .sl [], .sl [], .int .i64 0, .int .i64 0, .int .i64 0]
def evC : D := .agg [.int .i64 4, .int .i64 1, .int .i64 0, .int .i64 8, .int .i64 0, .int .i64 1, .int .i64 0, .sl [], .int .i64 0, .int .i64 0]
theorem two_c : callF G 60 N_base_Two [.d (.int .i64 2), .d (.int .i64 6), .d (.int .i64 1)] [] = some (.d u6, []) := by kernel_rfl
theorem new_c : callF G 60 N_ref30_New [.d u6] [] = some (.d (.tup [.agg W0, .int .i64 0]), []) := by kernel_rfl
theorem run_0 : callF G 60 N_law22_run [.d b0, .d u6, .d invC, .d (.int .i64 0)] [] = some (.d (.tup [b0, .sl [resC], .sl [evC], .int .i64 6]), []) := by kernel_rfl
theorem run_1 : callF G 60 N_law22_run [.d b1, .d u6, .d invC, .d (.int .i64 0)] [] = some (.d (.tup [b1, .sl [resC], .sl [evC], .int .i64 6]), []) := by kernel_rfl
theorem run_2 : callF G 60 N_law22_run [.d b2, .d u6, .d invC, .d (.int .i64 0)] [] = some (.d (.tup [b2, .sl [resC], .sl [evC], .int .i64 6]), []) := by kernel_rfl
theorem run_3 : callF G 60 N_law22_run [.d b3, .d u6, .d invC, .d (.int .i64 0)] [] = some (.d (.tup [b3, .sl [resC], .sl [evC], .int .i64 6]), []) := by kernel_rfl
theorem run_4 : callF G 60 N_law22_run [.d b4, .d u6, .d invC, .d (.int .i64 0)] [] = some (.d (.tup [b4, .sl [resC], .sl [evC], .int .i64 6]), []) := by kernel_rfl
theorem run_5 : callF G 60 N_law22_run [.d b5, .d u6, .d invC, .d (.int .i64 0)] [] = some (.d (.tup [b5, .sl [resC], .sl [evC], .int .i64 6]), []) := by kernel_rfl
theorem run_6 : callF G 60 N_law22_run [.d b6, .d u6, .d invC, .d (.int .i64 0)] [] = some (.d (.tup [b6, .sl [resC], .sl [evC], .int .i64 6]), []) := by kernel_rfl
theorem run_7 : callF G 60 N_law22_run [.d b7, .d u6, .d invC, .d (.int .i64 0)] [] = some (.d (.tup [b7, .sl [resC], .sl [evC], .int .i64 6]), []) := by kernel_rfl
theorem inv_0 : callF G 60 N_ref30_Invoke [.d (.agg W0), .d inv1] [] = some (.d (.tup [.agg W0_0, .int .i64 1, .int .i64 0]), []) := by kernel_rfl
theorem inv_1 : callF G 60 N_ref30_Invoke [.d (.agg W0_13), .d inv1] [] = some (.d (.tup [.agg W1_0, .int .i64 2, .int .i64 0]), []) := by kernel_rfl
theorem inv_2 : callF G 60 N_ref30_Invoke [.d (.agg W1_13), .d inv1] [] = some (.d (.tup [.agg W2_0, .int .i64 3, .int .i64 0]), []) := by kernel_rfl
theorem inv_3 : callF G 60 N_ref30_Invoke [.d (.agg W2_13), .d inv1] [] = some (.d (.tup [.agg W3_0, .int .i64 4, .int .i64 0]), []) := by kernel_rfl
theorem inv_4 : callF G 60 N_ref30_Invoke [.d (.agg W3_13), .d inv1] [] = some (.d (.tup [.agg W4_0, .int .i64 5, .int .i64 0]), []) := by kernel_rfl
theorem inv_5 : callF G 60 N_ref30_Invoke [.d (.agg W4_13), .d inv1] [] = some (.d (.tup [.agg W5_0, .int .i64 6, .int .i64 0]), []) := by kernel_rfl
theorem inv_6 : callF G 60 N_ref30_Invoke [.d (.agg W5_13), .d inv1] [] = some (.d (.tup [.agg W6_0, .int .i64 7, .int .i64 0]), []) := by kernel_rfl
end Go.Proofs.YtjillamaceggeaaGreat
