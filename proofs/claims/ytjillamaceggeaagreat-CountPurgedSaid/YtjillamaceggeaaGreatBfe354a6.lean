/-
  A count behind a purge: messages that are sent.
-/
import Derived.Test.YtjillamaceggeaaGreatBf1436d6
import Derived.Test.YtjillamaceggeaaGreatB5512f7d
set_option linter.unusedSimpArgs false
set_option linter.unusedVariables false
namespace Go.Proofs.YtjillamaceggeaaGreat
open Go Go.Sim
set_option linter.unusedSimpArgs false
set_option linter.unusedVariables false
set_option maxHeartbeats 10000000
set_option maxRecDepth 100000
theorem st_4_0 : callF G 60 N_ref30_step [.d (.agg W4_0), .d (.int .i64 4)] [] = some (.d (.tup [.agg W4_1, .int .i64 0]), []) := by kernel_rfl
theorem st_4_1 : callF G 60 N_ref30_step [.d (.agg W4_1), .d (.int .i64 4)] [] = some (.d (.tup [.agg W4_2, .int .i64 0]), []) := by kernel_rfl
theorem st_4_2 : callF G 60 N_ref30_step [.d (.agg W4_2), .d (.int .i64 4)] [] = some (.d (.tup [.agg W4_3, .int .i64 0]), []) := by kernel_rfl
theorem st_4_3 : callF G 60 N_ref30_step [.d (.agg W4_3), .d (.int .i64 4)] [] = some (.d (.tup [.agg W4_4, .int .i64 0]), []) := by kernel_rfl
theorem st_4_4 : callF G 60 N_ref30_step [.d (.agg W4_4), .d (.int .i64 4)] [] = some (.d (.tup [.agg W4_5, .int .i64 0]), []) := by kernel_rfl
theorem st_4_5 : callF G 60 N_ref30_step [.d (.agg W4_5), .d (.int .i64 4)] [] = some (.d (.tup [.agg W4_6, .int .i64 0]), []) := by kernel_rfl
theorem st_4_6 : callF G 60 N_ref30_step [.d (.agg W4_6), .d (.int .i64 4)] [] = some (.d (.tup [.agg W4_7, .int .i64 0]), []) := by kernel_rfl
theorem st_4_7 : callF G 60 N_ref30_step [.d (.agg W4_7), .d (.int .i64 4)] [] = some (.d (.tup [.agg W4_8, .int .i64 0]), []) := by kernel_rfl
theorem st_4_8 : callF G 60 N_ref30_step [.d (.agg W4_8), .d (.int .i64 4)] [] = some (.d (.tup [.agg W4_9, .int .i64 0]), []) := by kernel_rfl
theorem st_4_9 : callF G 60 N_ref30_step [.d (.agg W4_9), .d (.int .i64 4)] [] = some (.d (.tup [.agg W4_10, .int .i64 0]), []) := by kernel_rfl
theorem st_4_10 : callF G 60 N_ref30_step [.d (.agg W4_10), .d (.int .i64 4)] [] = some (.d (.tup [.agg W4_11, .int .i64 0]), []) := by kernel_rfl
theorem st_4_11 : callF G 60 N_ref30_step [.d (.agg W4_11), .d (.int .i64 4)] [] = some (.d (.tup [.agg W4_12, .int .i64 0]), []) := by kernel_rfl
theorem st_4_12 : callF G 60 N_ref30_step [.d (.agg W4_12), .d (.int .i64 4)] [] = some (.d (.tup [.agg W4_13, .int .i64 0]), []) := by kernel_rfl
theorem op_4_0 : callF G 60 N_ref30_Open [.d (.agg W4_0)] [] = some (.d (.sl [.int .i64 4]), []) := by kernel_rfl
theorem op_4_1 : callF G 60 N_ref30_Open [.d (.agg W4_1)] [] = some (.d (.sl [.int .i64 4]), []) := by kernel_rfl
theorem op_4_2 : callF G 60 N_ref30_Open [.d (.agg W4_2)] [] = some (.d (.sl [.int .i64 4]), []) := by kernel_rfl
theorem op_4_3 : callF G 60 N_ref30_Open [.d (.agg W4_3)] [] = some (.d (.sl [.int .i64 4]), []) := by kernel_rfl
theorem op_4_4 : callF G 60 N_ref30_Open [.d (.agg W4_4)] [] = some (.d (.sl [.int .i64 4]), []) := by kernel_rfl
theorem op_4_5 : callF G 60 N_ref30_Open [.d (.agg W4_5)] [] = some (.d (.sl [.int .i64 4]), []) := by kernel_rfl
theorem op_4_6 : callF G 60 N_ref30_Open [.d (.agg W4_6)] [] = some (.d (.sl [.int .i64 4]), []) := by kernel_rfl
theorem op_4_7 : callF G 60 N_ref30_Open [.d (.agg W4_7)] [] = some (.d (.sl [.int .i64 4]), []) := by kernel_rfl
theorem op_4_8 : callF G 60 N_ref30_Open [.d (.agg W4_8)] [] = some (.d (.sl [.int .i64 4]), []) := by kernel_rfl
theorem op_4_9 : callF G 60 N_ref30_Open [.d (.agg W4_9)] [] = some (.d (.sl [.int .i64 4]), []) := by kernel_rfl
theorem op_4_10 : callF G 60 N_ref30_Open [.d (.agg W4_10)] [] = some (.d (.sl [.int .i64 4]), []) := by kernel_rfl
theorem op_4_11 : callF G 60 N_ref30_Open [.d (.agg W4_11)] [] = some (.d (.sl [.int .i64 4]), []) := by kernel_rfl
theorem op_4_12 : callF G 60 N_ref30_Open [.d (.agg W4_12)] [] = some (.d (.sl [.int .i64 4]), []) := by kernel_rfl
theorem op_4_13 : callF G 60 N_ref30_Open [.d (.agg W4_13)] [] = some (.d (.sl []), []) := by kernel_rfl
theorem bd_4 : callF G 60 N_ref30_Bound [.d (.agg W4_0)] [] = some (.d (.int .i64 (256 : Nat)), []) := by kernel_rfl
theorem fin_4 : callL G N_ref30_Finish [.d (.agg W4_0)] [] = some (.d (.tup [.agg W4_13, .int .i64 (13 : Nat), .int .i64 0]), []) :=
  finish_ok ws4 4 13 256 (by omega) (by omega) (fun i hi => by
    match i, hi with
    | 0, _ => rfl
    | 1, _ => rfl
    | 2, _ => rfl
    | 3, _ => rfl
    | 4, _ => rfl
    | 5, _ => rfl
    | 6, _ => rfl
    | 7, _ => rfl
    | 8, _ => rfl
    | 9, _ => rfl
    | 10, _ => rfl
    | 11, _ => rfl
    | 12, _ => rfl
    | 13, _ => rfl
    | i + 14, hi => omega) (callL_iff.2 ⟨60, bd_4⟩) (fun i hi => by
    match i, hi with
    | 0, _ => exact callL_iff.2 ⟨60, op_4_0⟩
    | 1, _ => exact callL_iff.2 ⟨60, op_4_1⟩
    | 2, _ => exact callL_iff.2 ⟨60, op_4_2⟩
    | 3, _ => exact callL_iff.2 ⟨60, op_4_3⟩
    | 4, _ => exact callL_iff.2 ⟨60, op_4_4⟩
    | 5, _ => exact callL_iff.2 ⟨60, op_4_5⟩
    | 6, _ => exact callL_iff.2 ⟨60, op_4_6⟩
    | 7, _ => exact callL_iff.2 ⟨60, op_4_7⟩
    | 8, _ => exact callL_iff.2 ⟨60, op_4_8⟩
    | 9, _ => exact callL_iff.2 ⟨60, op_4_9⟩
    | 10, _ => exact callL_iff.2 ⟨60, op_4_10⟩
    | 11, _ => exact callL_iff.2 ⟨60, op_4_11⟩
    | 12, _ => exact callL_iff.2 ⟨60, op_4_12⟩
    | i + 13, hi => omega) (callL_iff.2 ⟨60, op_4_13⟩) (fun i hi => by
    match i, hi with
    | 0, _ => exact callL_iff.2 ⟨60, st_4_0⟩
    | 1, _ => exact callL_iff.2 ⟨60, st_4_1⟩
    | 2, _ => exact callL_iff.2 ⟨60, st_4_2⟩
    | 3, _ => exact callL_iff.2 ⟨60, st_4_3⟩
    | 4, _ => exact callL_iff.2 ⟨60, st_4_4⟩
    | 5, _ => exact callL_iff.2 ⟨60, st_4_5⟩
    | 6, _ => exact callL_iff.2 ⟨60, st_4_6⟩
    | 7, _ => exact callL_iff.2 ⟨60, st_4_7⟩
    | 8, _ => exact callL_iff.2 ⟨60, st_4_8⟩
    | 9, _ => exact callL_iff.2 ⟨60, st_4_9⟩
    | 10, _ => exact callL_iff.2 ⟨60, st_4_10⟩
    | 11, _ => exact callL_iff.2 ⟨60, st_4_11⟩
    | 12, _ => exact callL_iff.2 ⟨60, st_4_12⟩
    | i + 13, hi => omega)
end Go.Proofs.YtjillamaceggeaaGreat
