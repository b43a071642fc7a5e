/-
  A count behind a purge: messages that are sent.
-/
import Derived.Test.YtjillamaceggeaaGreatBf1436d6
import Derived.Test.YtjillamaceggeaaGreatB5512f7d
set_option linter.unusedSimpArgs false
set_option linter.unusedVariables false
namespace Go.Proofs.YtjillamaceggeaaGreat
open Go Go.Sim
set_option linter.unusedSimpArgs false
set_option linter.unusedVariables false
set_option maxHeartbeats 10000000
set_option maxRecDepth 100000
theorem st_2_0 : callF G 60 N_ref30_step [.d (.agg W2_0), .d (.int .i64 2)] [] = some (.d (.tup [.agg W2_1, .int .i64 0]), []) := by kernel_rfl
theorem st_2_1 : callF G 60 N_ref30_step [.d (.agg W2_1), .d (.int .i64 2)] [] = some (.d (.tup [.agg W2_2, .int .i64 0]), []) := by kernel_rfl
theorem st_2_2 : callF G 60 N_ref30_step [.d (.agg W2_2), .d (.int .i64 2)] [] = some (.d (.tup [.agg W2_3, .int .i64 0]), []) := by kernel_rfl
theorem st_2_3 : callF G 60 N_ref30_step [.d (.agg W2_3), .d (.int .i64 2)] [] = some (.d (.tup [.agg W2_4, .int .i64 0]), []) := by kernel_rfl
theorem st_2_4 : callF G 60 N_ref30_step [.d (.agg W2_4), .d (.int .i64 2)] [] = some (.d (.tup [.agg W2_5, .int .i64 0]), []) := by kernel_rfl
theorem st_2_5 : callF G 60 N_ref30_step [.d (.agg W2_5), .d (.int .i64 2)] [] = some (.d (.tup [.agg W2_6, .int .i64 0]), []) := by kernel_rfl
theorem st_2_6 : callF G 60 N_ref30_step [.d (.agg W2_6), .d (.int .i64 2)] [] = some (.d (.tup [.agg W2_7, .int .i64 0]), []) := by kernel_rfl
theorem st_2_7 : callF G 60 N_ref30_step [.d (.agg W2_7), .d (.int .i64 2)] [] = some (.d (.tup [.agg W2_8, .int .i64 0]), []) := by kernel_rfl
theorem st_2_8 : callF G 60 N_ref30_step [.d (.agg W2_8), .d (.int .i64 2)] [] = some (.d (.tup [.agg W2_9, .int .i64 0]), []) := by kernel_rfl
theorem st_2_9 : callF G 60 N_ref30_step [.d (.agg W2_9), .d (.int .i64 2)] [] = some (.d (.tup [.agg W2_10, .int .i64 0]), []) := by kernel_rfl
theorem st_2_10 : callF G 60 N_ref30_step [.d (.agg W2_10), .d (.int .i64 2)] [] = some (.d (.tup [.agg W2_11, .int .i64 0]), []) := by kernel_rfl
theorem st_2_11 : callF G 60 N_ref30_step [.d (.agg W2_11), .d (.int .i64 2)] [] = some (.d (.tup [.agg W2_12, .int .i64 0]), []) := by kernel_rfl
theorem st_2_12 : callF G 60 N_ref30_step [.d (.agg W2_12), .d (.int .i64 2)] [] = some (.d (.tup [.agg W2_13, .int .i64 0]), []) := by kernel_rfl
theorem op_2_0 : callF G 60 N_ref30_Open [.d (.agg W2_0)] [] = some (.d (.sl [.int .i64 2]), []) := by kernel_rfl
theorem op_2_1 : callF G 60 N_ref30_Open [.d (.agg W2_1)] [] = some (.d (.sl [.int .i64 2]), []) := by kernel_rfl
theorem op_2_2 : callF G 60 N_ref30_Open [.d (.agg W2_2)] [] = some (.d (.sl [.int .i64 2]), []) := by kernel_rfl
theorem op_2_3 : callF G 60 N_ref30_Open [.d (.agg W2_3)] [] = some (.d (.sl [.int .i64 2]), []) := by kernel_rfl
theorem op_2_4 : callF G 60 N_ref30_Open [.d (.agg W2_4)] [] = some (.d (.sl [.int .i64 2]), []) := by kernel_rfl
theorem op_2_5 : callF G 60 N_ref30_Open [.d (.agg W2_5)] [] = some (.d (.sl [.int .i64 2]), []) := by kernel_rfl
theorem op_2_6 : callF G 60 N_ref30_Open [.d (.agg W2_6)] [] = some (.d (.sl [.int .i64 2]), []) := by kernel_rfl
theorem op_2_7 : callF G 60 N_ref30_Open [.d (.agg W2_7)] [] = some (.d (.sl [.int .i64 2]), []) := by kernel_rfl
theorem op_2_8 : callF G 60 N_ref30_Open [.d (.agg W2_8)] [] = some (.d (.sl [.int .i64 2]), []) := by kernel_rfl
theorem op_2_9 : callF G 60 N_ref30_Open [.d (.agg W2_9)] [] = some (.d (.sl [.int .i64 2]), []) := by kernel_rfl
theorem op_2_10 : callF G 60 N_ref30_Open [.d (.agg W2_10)] [] = some (.d (.sl [.int .i64 2]), []) := by kernel_rfl
theorem op_2_11 : callF G 60 N_ref30_Open [.d (.agg W2_11)] [] = some (.d (.sl [.int .i64 2]), []) := by kernel_rfl
theorem op_2_12 : callF G 60 N_ref30_Open [.d (.agg W2_12)] [] = some (.d (.sl [.int .i64 2]), []) := by kernel_rfl
theorem op_2_13 : callF G 60 N_ref30_Open [.d (.agg W2_13)] [] = some (.d (.sl []), []) := by kernel_rfl
theorem bd_2 : callF G 60 N_ref30_Bound [.d (.agg W2_0)] [] = some (.d (.int .i64 (256 : Nat)), []) := by kernel_rfl
theorem fin_2 : callL G N_ref30_Finish [.d (.agg W2_0)] [] = some (.d (.tup [.agg W2_13, .int .i64 (13 : Nat), .int .i64 0]), []) :=
  finish_ok ws2 2 13 256 (by omega) (by omega) (fun i hi => by
    match i, hi with
    | 0, _ => rfl
    | 1, _ => rfl
    | 2, _ => rfl
    | 3, _ => rfl
    | 4, _ => rfl
    | 5, _ => rfl
    | 6, _ => rfl
    | 7, _ => rfl
    | 8, _ => rfl
    | 9, _ => rfl
    | 10, _ => rfl
    | 11, _ => rfl
    | 12, _ => rfl
    | 13, _ => rfl
    | i + 14, hi => omega) (callL_iff.2 ⟨60, bd_2⟩) (fun i hi => by
    match i, hi with
    | 0, _ => exact callL_iff.2 ⟨60, op_2_0⟩
    | 1, _ => exact callL_iff.2 ⟨60, op_2_1⟩
    | 2, _ => exact callL_iff.2 ⟨60, op_2_2⟩
    | 3, _ => exact callL_iff.2 ⟨60, op_2_3⟩
    | 4, _ => exact callL_iff.2 ⟨60, op_2_4⟩
    | 5, _ => exact callL_iff.2 ⟨60, op_2_5⟩
    | 6, _ => exact callL_iff.2 ⟨60, op_2_6⟩
    | 7, _ => exact callL_iff.2 ⟨60, op_2_7⟩
    | 8, _ => exact callL_iff.2 ⟨60, op_2_8⟩
    | 9, _ => exact callL_iff.2 ⟨60, op_2_9⟩
    | 10, _ => exact callL_iff.2 ⟨60, op_2_10⟩
    | 11, _ => exact callL_iff.2 ⟨60, op_2_11⟩
    | 12, _ => exact callL_iff.2 ⟨60, op_2_12⟩
    | i + 13, hi => omega) (callL_iff.2 ⟨60, op_2_13⟩) (fun i hi => by
    match i, hi with
    | 0, _ => exact callL_iff.2 ⟨60, st_2_0⟩
    | 1, _ => exact callL_iff.2 ⟨60, st_2_1⟩
    | 2, _ => exact callL_iff.2 ⟨60, st_2_2⟩
    | 3, _ => exact callL_iff.2 ⟨60, st_2_3⟩
    | 4, _ => exact callL_iff.2 ⟨60, st_2_4⟩
    | 5, _ => exact callL_iff.2 ⟨60, st_2_5⟩
    | 6, _ => exact callL_iff.2 ⟨60, st_2_6⟩
    | 7, _ => exact callL_iff.2 ⟨60, st_2_7⟩
    | 8, _ => exact callL_iff.2 ⟨60, st_2_8⟩
    | 9, _ => exact callL_iff.2 ⟨60, st_2_9⟩
    | 10, _ => exact callL_iff.2 ⟨60, st_2_10⟩
    | 11, _ => exact callL_iff.2 ⟨60, st_2_11⟩
    | 12, _ => exact callL_iff.2 ⟨60, st_2_12⟩
    | i + 13, hi => omega)
theorem st_3_0 : callF G 60 N_ref30_step [.d (.agg W3_0), .d (.int .i64 3)] [] = some (.d (.tup [.agg W3_1, .int .i64 0]), []) := by kernel_rfl
theorem st_3_1 : callF G 60 N_ref30_step [.d (.agg W3_1), .d (.int .i64 3)] [] = some (.d (.tup [.agg W3_2, .int .i64 0]), []) := by kernel_rfl
theorem st_3_2 : callF G 60 N_ref30_step [.d (.agg W3_2), .d (.int .i64 3)] [] = some (.d (.tup [.agg W3_3, .int .i64 0]), []) := by kernel_rfl
theorem st_3_3 : callF G 60 N_ref30_step [.d (.agg W3_3), .d (.int .i64 3)] [] = some (.d (.tup [.agg W3_4, .int .i64 0]), []) := by kernel_rfl
theorem st_3_4 : callF G 60 N_ref30_step [.d (.agg W3_4), .d (.int .i64 3)] [] = some (.d (.tup [.agg W3_5, .int .i64 0]), []) := by kernel_rfl
theorem st_3_5 : callF G 60 N_ref30_step [.d (.agg W3_5), .d (.int .i64 3)] [] = some (.d (.tup [.agg W3_6, .int .i64 0]), []) := by kernel_rfl
theorem st_3_6 : callF G 60 N_ref30_step [.d (.agg W3_6), .d (.int .i64 3)] [] = some (.d (.tup [.agg W3_7, .int .i64 0]), []) := by kernel_rfl
theorem st_3_7 : callF G 60 N_ref30_step [.d (.agg W3_7), .d (.int .i64 3)] [] = some (.d (.tup [.agg W3_8, .int .i64 0]), []) := by kernel_rfl
theorem st_3_8 : callF G 60 N_ref30_step [.d (.agg W3_8), .d (.int .i64 3)] [] = some (.d (.tup [.agg W3_9, .int .i64 0]), []) := by kernel_rfl
theorem st_3_9 : callF G 60 N_ref30_step [.d (.agg W3_9), .d (.int .i64 3)] [] = some (.d (.tup [.agg W3_10, .int .i64 0]), []) := by kernel_rfl
theorem st_3_10 : callF G 60 N_ref30_step [.d (.agg W3_10), .d (.int .i64 3)] [] = some (.d (.tup [.agg W3_11, .int .i64 0]), []) := by kernel_rfl
theorem st_3_11 : callF G 60 N_ref30_step [.d (.agg W3_11), .d (.int .i64 3)] [] = some (.d (.tup [.agg W3_12, .int .i64 0]), []) := by kernel_rfl
theorem st_3_12 : callF G 60 N_ref30_step [.d (.agg W3_12), .d (.int .i64 3)] [] = some (.d (.tup [.agg W3_13, .int .i64 0]), []) := by kernel_rfl
theorem op_3_0 : callF G 60 N_ref30_Open [.d (.agg W3_0)] [] = some (.d (.sl [.int .i64 3]), []) := by kernel_rfl
theorem op_3_1 : callF G 60 N_ref30_Open [.d (.agg W3_1)] [] = some (.d (.sl [.int .i64 3]), []) := by kernel_rfl
theorem op_3_2 : callF G 60 N_ref30_Open [.d (.agg W3_2)] [] = some (.d (.sl [.int .i64 3]), []) := by kernel_rfl
theorem op_3_3 : callF G 60 N_ref30_Open [.d (.agg W3_3)] [] = some (.d (.sl [.int .i64 3]), []) := by kernel_rfl
theorem op_3_4 : callF G 60 N_ref30_Open [.d (.agg W3_4)] [] = some (.d (.sl [.int .i64 3]), []) := by kernel_rfl
theorem op_3_5 : callF G 60 N_ref30_Open [.d (.agg W3_5)] [] = some (.d (.sl [.int .i64 3]), []) := by kernel_rfl
theorem op_3_6 : callF G 60 N_ref30_Open [.d (.agg W3_6)] [] = some (.d (.sl [.int .i64 3]), []) := by kernel_rfl
theorem op_3_7 : callF G 60 N_ref30_Open [.d (.agg W3_7)] [] = some (.d (.sl [.int .i64 3]), []) := by kernel_rfl
theorem op_3_8 : callF G 60 N_ref30_Open [.d (.agg W3_8)] [] = some (.d (.sl [.int .i64 3]), []) := by kernel_rfl
theorem op_3_9 : callF G 60 N_ref30_Open [.d (.agg W3_9)] [] = some (.d (.sl [.int .i64 3]), []) := by kernel_rfl
theorem op_3_10 : callF G 60 N_ref30_Open [.d (.agg W3_10)] [] = some (.d (.sl [.int .i64 3]), []) := by kernel_rfl
theorem op_3_11 : callF G 60 N_ref30_Open [.d (.agg W3_11)] [] = some (.d (.sl [.int .i64 3]), []) := by kernel_rfl
theorem op_3_12 : callF G 60 N_ref30_Open [.d (.agg W3_12)] [] = some (.d (.sl [.int .i64 3]), []) := by kernel_rfl
theorem op_3_13 : callF G 60 N_ref30_Open [.d (.agg W3_13)] [] = some (.d (.sl []), []) := by kernel_rfl
theorem bd_3 : callF G 60 N_ref30_Bound [.d (.agg W3_0)] [] = some (.d (.int .i64 (256 : Nat)), []) := by kernel_rfl
theorem fin_3 : callL G N_ref30_Finish [.d (.agg W3_0)] [] = some (.d (.tup [.agg W3_13, .int .i64 (13 : Nat), .int .i64 0]), []) :=
  finish_ok ws3 3 13 256 (by omega) (by omega) (fun i hi => by
    match i, hi with
    | 0, _ => rfl
    | 1, _ => rfl
    | 2, _ => rfl
    | 3, _ => rfl
    | 4, _ => rfl
    | 5, _ => rfl
    | 6, _ => rfl
    | 7, _ => rfl
    | 8, _ => rfl
    | 9, _ => rfl
    | 10, _ => rfl
    | 11, _ => rfl
    | 12, _ => rfl
    | 13, _ => rfl
    | i + 14, hi => omega) (callL_iff.2 ⟨60, bd_3⟩) (fun i hi => by
    match i, hi with
    | 0, _ => exact callL_iff.2 ⟨60, op_3_0⟩
    | 1, _ => exact callL_iff.2 ⟨60, op_3_1⟩
    | 2, _ => exact callL_iff.2 ⟨60, op_3_2⟩
    | 3, _ => exact callL_iff.2 ⟨60, op_3_3⟩
    | 4, _ => exact callL_iff.2 ⟨60, op_3_4⟩
    | 5, _ => exact callL_iff.2 ⟨60, op_3_5⟩
    | 6, _ => exact callL_iff.2 ⟨60, op_3_6⟩
    | 7, _ => exact callL_iff.2 ⟨60, op_3_7⟩
    | 8, _ => exact callL_iff.2 ⟨60, op_3_8⟩
    | 9, _ => exact callL_iff.2 ⟨60, op_3_9⟩
    | 10, _ => exact callL_iff.2 ⟨60, op_3_10⟩
    | 11, _ => exact callL_iff.2 ⟨60, op_3_11⟩
    | 12, _ => exact callL_iff.2 ⟨60, op_3_12⟩
    | i + 13, hi => omega) (callL_iff.2 ⟨60, op_3_13⟩) (fun i hi => by
    match i, hi with
    | 0, _ => exact callL_iff.2 ⟨60, st_3_0⟩
    | 1, _ => exact callL_iff.2 ⟨60, st_3_1⟩
    | 2, _ => exact callL_iff.2 ⟨60, st_3_2⟩
    | 3, _ => exact callL_iff.2 ⟨60, st_3_3⟩
    | 4, _ => exact callL_iff.2 ⟨60, st_3_4⟩
    | 5, _ => exact callL_iff.2 ⟨60, st_3_5⟩
    | 6, _ => exact callL_iff.2 ⟨60, st_3_6⟩
    | 7, _ => exact callL_iff.2 ⟨60, st_3_7⟩
    | 8, _ => exact callL_iff.2 ⟨60, st_3_8⟩
    | 9, _ => exact callL_iff.2 ⟨60, st_3_9⟩
    | 10, _ => exact callL_iff.2 ⟨60, st_3_10⟩
    | 11, _ => exact callL_iff.2 ⟨60, st_3_11⟩
    | 12, _ => exact callL_iff.2 ⟨60, st_3_12⟩
    | i + 13, hi => omega)
end Go.Proofs.YtjillamaceggeaaGreat
