/-
  A count behind a purge: messages that are sent.
-/
import Derived.Test.YtjillamaceggeaaGreatBf1436d6
import Derived.Test.YtjillamaceggeaaGreatB5512f7d
set_option linter.unusedSimpArgs false
set_option linter.unusedVariables false
namespace Go.Proofs.YtjillamaceggeaaGreat
open Go Go.Sim
set_option linter.unusedSimpArgs false
set_option linter.unusedVariables false
set_option maxHeartbeats 10000000
set_option maxRecDepth 100000
theorem st_1_0 : callF G 60 N_ref30_step [.d (.agg W1_0), .d (.int .i64 1)] [] = some (.d (.tup [.agg W1_1, .int .i64 0]), []) := by kernel_rfl
theorem st_1_1 : callF G 60 N_ref30_step [.d (.agg W1_1), .d (.int .i64 1)] [] = some (.d (.tup [.agg W1_2, .int .i64 0]), []) := by kernel_rfl
theorem st_1_2 : callF G 60 N_ref30_step [.d (.agg W1_2), .d (.int .i64 1)] [] = some (.d (.tup [.agg W1_3, .int .i64 0]), []) := by kernel_rfl
theorem st_1_3 : callF G 60 N_ref30_step [.d (.agg W1_3), .d (.int .i64 1)] [] = some (.d (.tup [.agg W1_4, .int .i64 0]), []) := by kernel_rfl
theorem st_1_4 : callF G 60 N_ref30_step [.d (.agg W1_4), .d (.int .i64 1)] [] = some (.d (.tup [.agg W1_5, .int .i64 0]), []) := by kernel_rfl
theorem st_1_5 : callF G 60 N_ref30_step [.d (.agg W1_5), .d (.int .i64 1)] [] = some (.d (.tup [.agg W1_6, .int .i64 0]), []) := by kernel_rfl
theorem st_1_6 : callF G 60 N_ref30_step [.d (.agg W1_6), .d (.int .i64 1)] [] = some (.d (.tup [.agg W1_7, .int .i64 0]), []) := by kernel_rfl
theorem st_1_7 : callF G 60 N_ref30_step [.d (.agg W1_7), .d (.int .i64 1)] [] = some (.d (.tup [.agg W1_8, .int .i64 0]), []) := by kernel_rfl
theorem st_1_8 : callF G 60 N_ref30_step [.d (.agg W1_8), .d (.int .i64 1)] [] = some (.d (.tup [.agg W1_9, .int .i64 0]), []) := by kernel_rfl
theorem st_1_9 : callF G 60 N_ref30_step [.d (.agg W1_9), .d (.int .i64 1)] [] = some (.d (.tup [.agg W1_10, .int .i64 0]), []) := by kernel_rfl
theorem st_1_10 : callF G 60 N_ref30_step [.d (.agg W1_10), .d (.int .i64 1)] [] = some (.d (.tup [.agg W1_11, .int .i64 0]), []) := by kernel_rfl
theorem st_1_11 : callF G 60 N_ref30_step [.d (.agg W1_11), .d (.int .i64 1)] [] = some (.d (.tup [.agg W1_12, .int .i64 0]), []) := by kernel_rfl
theorem st_1_12 : callF G 60 N_ref30_step [.d (.agg W1_12), .d (.int .i64 1)] [] = some (.d (.tup [.agg W1_13, .int .i64 0]), []) := by kernel_rfl
theorem op_1_0 : callF G 60 N_ref30_Open [.d (.agg W1_0)] [] = some (.d (.sl [.int .i64 1]), []) := by kernel_rfl
theorem op_1_1 : callF G 60 N_ref30_Open [.d (.agg W1_1)] [] = some (.d (.sl [.int .i64 1]), []) := by kernel_rfl
theorem op_1_2 : callF G 60 N_ref30_Open [.d (.agg W1_2)] [] = some (.d (.sl [.int .i64 1]), []) := by kernel_rfl
theorem op_1_3 : callF G 60 N_ref30_Open [.d (.agg W1_3)] [] = some (.d (.sl [.int .i64 1]), []) := by kernel_rfl
theorem op_1_4 : callF G 60 N_ref30_Open [.d (.agg W1_4)] [] = some (.d (.sl [.int .i64 1]), []) := by kernel_rfl
theorem op_1_5 : callF G 60 N_ref30_Open [.d (.agg W1_5)] [] = some (.d (.sl [.int .i64 1]), []) := by kernel_rfl
theorem op_1_6 : callF G 60 N_ref30_Open [.d (.agg W1_6)] [] = some (.d (.sl [.int .i64 1]), []) := by kernel_rfl
theorem op_1_7 : callF G 60 N_ref30_Open [.d (.agg W1_7)] [] = some (.d (.sl [.int .i64 1]), []) := by kernel_rfl
theorem op_1_8 : callF G 60 N_ref30_Open [.d (.agg W1_8)] [] = some (.d (.sl [.int .i64 1]), []) := by kernel_rfl
theorem op_1_9 : callF G 60 N_ref30_Open [.d (.agg W1_9)] [] = some (.d (.sl [.int .i64 1]), []) := by kernel_rfl
theorem op_1_10 : callF G 60 N_ref30_Open [.d (.agg W1_10)] [] = some (.d (.sl [.int .i64 1]), []) := by kernel_rfl
theorem op_1_11 : callF G 60 N_ref30_Open [.d (.agg W1_11)] [] = some (.d (.sl [.int .i64 1]), []) := by kernel_rfl
theorem op_1_12 : callF G 60 N_ref30_Open [.d (.agg W1_12)] [] = some (.d (.sl [.int .i64 1]), []) := by kernel_rfl
theorem op_1_13 : callF G 60 N_ref30_Open [.d (.agg W1_13)] [] = some (.d (.sl []), []) := by kernel_rfl
theorem bd_1 : callF G 60 N_ref30_Bound [.d (.agg W1_0)] [] = some (.d (.int .i64 (256 : Nat)), []) := by kernel_rfl
theorem fin_1 : callL G N_ref30_Finish [.d (.agg W1_0)] [] = some (.d (.tup [.agg W1_13, .int .i64 (13 : Nat), .int .i64 0]), []) :=
  finish_ok ws1 1 13 256 (by omega) (by omega) (fun i hi => by
    match i, hi with
    | 0, _ => rfl
    | 1, _ => rfl
    | 2, _ => rfl
    | 3, _ => rfl
    | 4, _ => rfl
    | 5, _ => rfl
    | 6, _ => rfl
    | 7, _ => rfl
    | 8, _ => rfl
    | 9, _ => rfl
    | 10, _ => rfl
    | 11, _ => rfl
    | 12, _ => rfl
    | 13, _ => rfl
    | i + 14, hi => omega) (callL_iff.2 ⟨60, bd_1⟩) (fun i hi => by
    match i, hi with
    | 0, _ => exact callL_iff.2 ⟨60, op_1_0⟩
    | 1, _ => exact callL_iff.2 ⟨60, op_1_1⟩
    | 2, _ => exact callL_iff.2 ⟨60, op_1_2⟩
    | 3, _ => exact callL_iff.2 ⟨60, op_1_3⟩
    | 4, _ => exact callL_iff.2 ⟨60, op_1_4⟩
    | 5, _ => exact callL_iff.2 ⟨60, op_1_5⟩
    | 6, _ => exact callL_iff.2 ⟨60, op_1_6⟩
    | 7, _ => exact callL_iff.2 ⟨60, op_1_7⟩
    | 8, _ => exact callL_iff.2 ⟨60, op_1_8⟩
    | 9, _ => exact callL_iff.2 ⟨60, op_1_9⟩
    | 10, _ => exact callL_iff.2 ⟨60, op_1_10⟩
    | 11, _ => exact callL_iff.2 ⟨60, op_1_11⟩
    | 12, _ => exact callL_iff.2 ⟨60, op_1_12⟩
    | i + 13, hi => omega) (callL_iff.2 ⟨60, op_1_13⟩) (fun i hi => by
    match i, hi with
    | 0, _ => exact callL_iff.2 ⟨60, st_1_0⟩
    | 1, _ => exact callL_iff.2 ⟨60, st_1_1⟩
    | 2, _ => exact callL_iff.2 ⟨60, st_1_2⟩
    | 3, _ => exact callL_iff.2 ⟨60, st_1_3⟩
    | 4, _ => exact callL_iff.2 ⟨60, st_1_4⟩
    | 5, _ => exact callL_iff.2 ⟨60, st_1_5⟩
    | 6, _ => exact callL_iff.2 ⟨60, st_1_6⟩
    | 7, _ => exact callL_iff.2 ⟨60, st_1_7⟩
    | 8, _ => exact callL_iff.2 ⟨60, st_1_8⟩
    | 9, _ => exact callL_iff.2 ⟨60, st_1_9⟩
    | 10, _ => exact callL_iff.2 ⟨60, st_1_10⟩
    | 11, _ => exact callL_iff.2 ⟨60, st_1_11⟩
    | 12, _ => exact callL_iff.2 ⟨60, st_1_12⟩
    | i + 13, hi => omega)
theorem st_5_0 : callF G 60 N_ref30_step [.d (.agg W5_0), .d (.int .i64 5)] [] = some (.d (.tup [.agg W5_1, .int .i64 0]), []) := by kernel_rfl
theorem st_5_1 : callF G 60 N_ref30_step [.d (.agg W5_1), .d (.int .i64 5)] [] = some (.d (.tup [.agg W5_2, .int .i64 0]), []) := by kernel_rfl
theorem st_5_2 : callF G 60 N_ref30_step [.d (.agg W5_2), .d (.int .i64 5)] [] = some (.d (.tup [.agg W5_3, .int .i64 0]), []) := by kernel_rfl
theorem st_5_3 : callF G 60 N_ref30_step [.d (.agg W5_3), .d (.int .i64 5)] [] = some (.d (.tup [.agg W5_4, .int .i64 0]), []) := by kernel_rfl
theorem st_5_4 : callF G 60 N_ref30_step [.d (.agg W5_4), .d (.int .i64 5)] [] = some (.d (.tup [.agg W5_5, .int .i64 0]), []) := by kernel_rfl
theorem st_5_5 : callF G 60 N_ref30_step [.d (.agg W5_5), .d (.int .i64 5)] [] = some (.d (.tup [.agg W5_6, .int .i64 0]), []) := by kernel_rfl
theorem st_5_6 : callF G 60 N_ref30_step [.d (.agg W5_6), .d (.int .i64 5)] [] = some (.d (.tup [.agg W5_7, .int .i64 0]), []) := by kernel_rfl
theorem st_5_7 : callF G 60 N_ref30_step [.d (.agg W5_7), .d (.int .i64 5)] [] = some (.d (.tup [.agg W5_8, .int .i64 0]), []) := by kernel_rfl
theorem st_5_8 : callF G 60 N_ref30_step [.d (.agg W5_8), .d (.int .i64 5)] [] = some (.d (.tup [.agg W5_9, .int .i64 0]), []) := by kernel_rfl
theorem st_5_9 : callF G 60 N_ref30_step [.d (.agg W5_9), .d (.int .i64 5)] [] = some (.d (.tup [.agg W5_10, .int .i64 0]), []) := by kernel_rfl
theorem st_5_10 : callF G 60 N_ref30_step [.d (.agg W5_10), .d (.int .i64 5)] [] = some (.d (.tup [.agg W5_11, .int .i64 0]), []) := by kernel_rfl
theorem st_5_11 : callF G 60 N_ref30_step [.d (.agg W5_11), .d (.int .i64 5)] [] = some (.d (.tup [.agg W5_12, .int .i64 0]), []) := by kernel_rfl
theorem st_5_12 : callF G 60 N_ref30_step [.d (.agg W5_12), .d (.int .i64 5)] [] = some (.d (.tup [.agg W5_13, .int .i64 0]), []) := by kernel_rfl
theorem op_5_0 : callF G 60 N_ref30_Open [.d (.agg W5_0)] [] = some (.d (.sl [.int .i64 5]), []) := by kernel_rfl
theorem op_5_1 : callF G 60 N_ref30_Open [.d (.agg W5_1)] [] = some (.d (.sl [.int .i64 5]), []) := by kernel_rfl
theorem op_5_2 : callF G 60 N_ref30_Open [.d (.agg W5_2)] [] = some (.d (.sl [.int .i64 5]), []) := by kernel_rfl
theorem op_5_3 : callF G 60 N_ref30_Open [.d (.agg W5_3)] [] = some (.d (.sl [.int .i64 5]), []) := by kernel_rfl
theorem op_5_4 : callF G 60 N_ref30_Open [.d (.agg W5_4)] [] = some (.d (.sl [.int .i64 5]), []) := by kernel_rfl
theorem op_5_5 : callF G 60 N_ref30_Open [.d (.agg W5_5)] [] = some (.d (.sl [.int .i64 5]), []) := by kernel_rfl
theorem op_5_6 : callF G 60 N_ref30_Open [.d (.agg W5_6)] [] = some (.d (.sl [.int .i64 5]), []) := by kernel_rfl
theorem op_5_7 : callF G 60 N_ref30_Open [.d (.agg W5_7)] [] = some (.d (.sl [.int .i64 5]), []) := by kernel_rfl
theorem op_5_8 : callF G 60 N_ref30_Open [.d (.agg W5_8)] [] = some (.d (.sl [.int .i64 5]), []) := by kernel_rfl
theorem op_5_9 : callF G 60 N_ref30_Open [.d (.agg W5_9)] [] = some (.d (.sl [.int .i64 5]), []) := by kernel_rfl
theorem op_5_10 : callF G 60 N_ref30_Open [.d (.agg W5_10)] [] = some (.d (.sl [.int .i64 5]), []) := by kernel_rfl
theorem op_5_11 : callF G 60 N_ref30_Open [.d (.agg W5_11)] [] = some (.d (.sl [.int .i64 5]), []) := by kernel_rfl
theorem op_5_12 : callF G 60 N_ref30_Open [.d (.agg W5_12)] [] = some (.d (.sl [.int .i64 5]), []) := by kernel_rfl
theorem op_5_13 : callF G 60 N_ref30_Open [.d (.agg W5_13)] [] = some (.d (.sl []), []) := by kernel_rfl
theorem bd_5 : callF G 60 N_ref30_Bound [.d (.agg W5_0)] [] = some (.d (.int .i64 (256 : Nat)), []) := by kernel_rfl
theorem fin_5 : callL G N_ref30_Finish [.d (.agg W5_0)] [] = some (.d (.tup [.agg W5_13, .int .i64 (13 : Nat), .int .i64 0]), []) :=
  finish_ok ws5 5 13 256 (by omega) (by omega) (fun i hi => by
    match i, hi with
    | 0, _ => rfl
    | 1, _ => rfl
    | 2, _ => rfl
    | 3, _ => rfl
    | 4, _ => rfl
    | 5, _ => rfl
    | 6, _ => rfl
    | 7, _ => rfl
    | 8, _ => rfl
    | 9, _ => rfl
    | 10, _ => rfl
    | 11, _ => rfl
    | 12, _ => rfl
    | 13, _ => rfl
    | i + 14, hi => omega) (callL_iff.2 ⟨60, bd_5⟩) (fun i hi => by
    match i, hi with
    | 0, _ => exact callL_iff.2 ⟨60, op_5_0⟩
    | 1, _ => exact callL_iff.2 ⟨60, op_5_1⟩
    | 2, _ => exact callL_iff.2 ⟨60, op_5_2⟩
    | 3, _ => exact callL_iff.2 ⟨60, op_5_3⟩
    | 4, _ => exact callL_iff.2 ⟨60, op_5_4⟩
    | 5, _ => exact callL_iff.2 ⟨60, op_5_5⟩
    | 6, _ => exact callL_iff.2 ⟨60, op_5_6⟩
    | 7, _ => exact callL_iff.2 ⟨60, op_5_7⟩
    | 8, _ => exact callL_iff.2 ⟨60, op_5_8⟩
    | 9, _ => exact callL_iff.2 ⟨60, op_5_9⟩
    | 10, _ => exact callL_iff.2 ⟨60, op_5_10⟩
    | 11, _ => exact callL_iff.2 ⟨60, op_5_11⟩
    | 12, _ => exact callL_iff.2 ⟨60, op_5_12⟩
    | i + 13, hi => omega) (callL_iff.2 ⟨60, op_5_13⟩) (fun i hi => by
    match i, hi with
    | 0, _ => exact callL_iff.2 ⟨60, st_5_0⟩
    | 1, _ => exact callL_iff.2 ⟨60, st_5_1⟩
    | 2, _ => exact callL_iff.2 ⟨60, st_5_2⟩
    | 3, _ => exact callL_iff.2 ⟨60, st_5_3⟩
    | 4, _ => exact callL_iff.2 ⟨60, st_5_4⟩
    | 5, _ => exact callL_iff.2 ⟨60, st_5_5⟩
    | 6, _ => exact callL_iff.2 ⟨60, st_5_6⟩
    | 7, _ => exact callL_iff.2 ⟨60, st_5_7⟩
    | 8, _ => exact callL_iff.2 ⟨60, st_5_8⟩
    | 9, _ => exact callL_iff.2 ⟨60, st_5_9⟩
    | 10, _ => exact callL_iff.2 ⟨60, st_5_10⟩
    | 11, _ => exact callL_iff.2 ⟨60, st_5_11⟩
    | 12, _ => exact callL_iff.2 ⟨60, st_5_12⟩
    | i + 13, hi => omega)
end Go.Proofs.YtjillamaceggeaaGreat
