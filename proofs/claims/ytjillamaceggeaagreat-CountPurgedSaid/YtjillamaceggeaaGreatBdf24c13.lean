/-
  A count behind a purge: messages that are sent.
-/
import Derived.Test.YtjillamaceggeaaGreatBf1436d6
import Derived.Test.YtjillamaceggeaaGreatB5512f7d
set_option linter.unusedSimpArgs false
set_option linter.unusedVariables false
namespace Go.Proofs.YtjillamaceggeaaGreat
open Go Go.Sim
set_option linter.unusedSimpArgs false
set_option linter.unusedVariables false
set_option maxHeartbeats 10000000
set_option maxRecDepth 100000
theorem st_0_0 : callF G 60 N_ref30_step [.d (.agg W0_0), .d (.int .i64 0)] [] = some (.d (.tup [.agg W0_1, .int .i64 0]), []) := by kernel_rfl
theorem st_0_1 : callF G 60 N_ref30_step [.d (.agg W0_1), .d (.int .i64 0)] [] = some (.d (.tup [.agg W0_2, .int .i64 0]), []) := by kernel_rfl
theorem st_0_2 : callF G 60 N_ref30_step [.d (.agg W0_2), .d (.int .i64 0)] [] = some (.d (.tup [.agg W0_3, .int .i64 0]), []) := by kernel_rfl
theorem st_0_3 : callF G 60 N_ref30_step [.d (.agg W0_3), .d (.int .i64 0)] [] = some (.d (.tup [.agg W0_4, .int .i64 0]), []) := by kernel_rfl
theorem st_0_4 : callF G 60 N_ref30_step [.d (.agg W0_4), .d (.int .i64 0)] [] = some (.d (.tup [.agg W0_5, .int .i64 0]), []) := by kernel_rfl
theorem st_0_5 : callF G 60 N_ref30_step [.d (.agg W0_5), .d (.int .i64 0)] [] = some (.d (.tup [.agg W0_6, .int .i64 0]), []) := by kernel_rfl
theorem st_0_6 : callF G 60 N_ref30_step [.d (.agg W0_6), .d (.int .i64 0)] [] = some (.d (.tup [.agg W0_7, .int .i64 0]), []) := by kernel_rfl
theorem st_0_7 : callF G 60 N_ref30_step [.d (.agg W0_7), .d (.int .i64 0)] [] = some (.d (.tup [.agg W0_8, .int .i64 0]), []) := by kernel_rfl
theorem st_0_8 : callF G 60 N_ref30_step [.d (.agg W0_8), .d (.int .i64 0)] [] = some (.d (.tup [.agg W0_9, .int .i64 0]), []) := by kernel_rfl
theorem st_0_9 : callF G 60 N_ref30_step [.d (.agg W0_9), .d (.int .i64 0)] [] = some (.d (.tup [.agg W0_10, .int .i64 0]), []) := by kernel_rfl
theorem st_0_10 : callF G 60 N_ref30_step [.d (.agg W0_10), .d (.int .i64 0)] [] = some (.d (.tup [.agg W0_11, .int .i64 0]), []) := by kernel_rfl
theorem st_0_11 : callF G 60 N_ref30_step [.d (.agg W0_11), .d (.int .i64 0)] [] = some (.d (.tup [.agg W0_12, .int .i64 0]), []) := by kernel_rfl
theorem st_0_12 : callF G 60 N_ref30_step [.d (.agg W0_12), .d (.int .i64 0)] [] = some (.d (.tup [.agg W0_13, .int .i64 0]), []) := by kernel_rfl
theorem op_0_0 : callF G 60 N_ref30_Open [.d (.agg W0_0)] [] = some (.d (.sl [.int .i64 0]), []) := by kernel_rfl
theorem op_0_1 : callF G 60 N_ref30_Open [.d (.agg W0_1)] [] = some (.d (.sl [.int .i64 0]), []) := by kernel_rfl
theorem op_0_2 : callF G 60 N_ref30_Open [.d (.agg W0_2)] [] = some (.d (.sl [.int .i64 0]), []) := by kernel_rfl
theorem op_0_3 : callF G 60 N_ref30_Open [.d (.agg W0_3)] [] = some (.d (.sl [.int .i64 0]), []) := by kernel_rfl
theorem op_0_4 : callF G 60 N_ref30_Open [.d (.agg W0_4)] [] = some (.d (.sl [.int .i64 0]), []) := by kernel_rfl
theorem op_0_5 : callF G 60 N_ref30_Open [.d (.agg W0_5)] [] = some (.d (.sl [.int .i64 0]), []) := by kernel_rfl
theorem op_0_6 : callF G 60 N_ref30_Open [.d (.agg W0_6)] [] = some (.d (.sl [.int .i64 0]), []) := by kernel_rfl
theorem op_0_7 : callF G 60 N_ref30_Open [.d (.agg W0_7)] [] = some (.d (.sl [.int .i64 0]), []) := by kernel_rfl
theorem op_0_8 : callF G 60 N_ref30_Open [.d (.agg W0_8)] [] = some (.d (.sl [.int .i64 0]), []) := by kernel_rfl
theorem op_0_9 : callF G 60 N_ref30_Open [.d (.agg W0_9)] [] = some (.d (.sl [.int .i64 0]), []) := by kernel_rfl
theorem op_0_10 : callF G 60 N_ref30_Open [.d (.agg W0_10)] [] = some (.d (.sl [.int .i64 0]), []) := by kernel_rfl
theorem op_0_11 : callF G 60 N_ref30_Open [.d (.agg W0_11)] [] = some (.d (.sl [.int .i64 0]), []) := by kernel_rfl
theorem op_0_12 : callF G 60 N_ref30_Open [.d (.agg W0_12)] [] = some (.d (.sl [.int .i64 0]), []) := by kernel_rfl
theorem op_0_13 : callF G 60 N_ref30_Open [.d (.agg W0_13)] [] = some (.d (.sl []), []) := by kernel_rfl
theorem bd_0 : callF G 60 N_ref30_Bound [.d (.agg W0_0)] [] = some (.d (.int .i64 (256 : Nat)), []) := by kernel_rfl
theorem fin_0 : callL G N_ref30_Finish [.d (.agg W0_0)] [] = some (.d (.tup [.agg W0_13, .int .i64 (13 : Nat), .int .i64 0]), []) :=
  finish_ok ws0 0 13 256 (by omega) (by omega) (fun i hi => by
    match i, hi with
    | 0, _ => rfl
    | 1, _ => rfl
    | 2, _ => rfl
    | 3, _ => rfl
    | 4, _ => rfl
    | 5, _ => rfl
    | 6, _ => rfl
    | 7, _ => rfl
    | 8, _ => rfl
    | 9, _ => rfl
    | 10, _ => rfl
    | 11, _ => rfl
    | 12, _ => rfl
    | 13, _ => rfl
    | i + 14, hi => omega) (callL_iff.2 ⟨60, bd_0⟩) (fun i hi => by
    match i, hi with
    | 0, _ => exact callL_iff.2 ⟨60, op_0_0⟩
    | 1, _ => exact callL_iff.2 ⟨60, op_0_1⟩
    | 2, _ => exact callL_iff.2 ⟨60, op_0_2⟩
    | 3, _ => exact callL_iff.2 ⟨60, op_0_3⟩
    | 4, _ => exact callL_iff.2 ⟨60, op_0_4⟩
    | 5, _ => exact callL_iff.2 ⟨60, op_0_5⟩
    | 6, _ => exact callL_iff.2 ⟨60, op_0_6⟩
    | 7, _ => exact callL_iff.2 ⟨60, op_0_7⟩
    | 8, _ => exact callL_iff.2 ⟨60, op_0_8⟩
    | 9, _ => exact callL_iff.2 ⟨60, op_0_9⟩
    | 10, _ => exact callL_iff.2 ⟨60, op_0_10⟩
    | 11, _ => exact callL_iff.2 ⟨60, op_0_11⟩
    | 12, _ => exact callL_iff.2 ⟨60, op_0_12⟩
    | i + 13, hi => omega) (callL_iff.2 ⟨60, op_0_13⟩) (fun i hi => by
    match i, hi with
    | 0, _ => exact callL_iff.2 ⟨60, st_0_0⟩
    | 1, _ => exact callL_iff.2 ⟨60, st_0_1⟩
    | 2, _ => exact callL_iff.2 ⟨60, st_0_2⟩
    | 3, _ => exact callL_iff.2 ⟨60, st_0_3⟩
    | 4, _ => exact callL_iff.2 ⟨60, st_0_4⟩
    | 5, _ => exact callL_iff.2 ⟨60, st_0_5⟩
    | 6, _ => exact callL_iff.2 ⟨60, st_0_6⟩
    | 7, _ => exact callL_iff.2 ⟨60, st_0_7⟩
    | 8, _ => exact callL_iff.2 ⟨60, st_0_8⟩
    | 9, _ => exact callL_iff.2 ⟨60, st_0_9⟩
    | 10, _ => exact callL_iff.2 ⟨60, st_0_10⟩
    | 11, _ => exact callL_iff.2 ⟨60, st_0_11⟩
    | 12, _ => exact callL_iff.2 ⟨60, st_0_12⟩
    | i + 13, hi => omega)
theorem st_6_0 : callF G 60 N_ref30_step [.d (.agg W6_0), .d (.int .i64 6)] [] = some (.d (.tup [.agg W6_1, .int .i64 0]), []) := by kernel_rfl
theorem st_6_1 : callF G 60 N_ref30_step [.d (.agg W6_1), .d (.int .i64 6)] [] = some (.d (.tup [.agg W6_2, .int .i64 0]), []) := by kernel_rfl
theorem st_6_2 : callF G 60 N_ref30_step [.d (.agg W6_2), .d (.int .i64 6)] [] = some (.d (.tup [.agg W6_3, .int .i64 0]), []) := by kernel_rfl
theorem st_6_3 : callF G 60 N_ref30_step [.d (.agg W6_3), .d (.int .i64 6)] [] = some (.d (.tup [.agg W6_4, .int .i64 0]), []) := by kernel_rfl
theorem st_6_4 : callF G 60 N_ref30_step [.d (.agg W6_4), .d (.int .i64 6)] [] = some (.d (.tup [.agg W6_5, .int .i64 0]), []) := by kernel_rfl
theorem st_6_5 : callF G 60 N_ref30_step [.d (.agg W6_5), .d (.int .i64 6)] [] = some (.d (.tup [.agg W6_6, .int .i64 0]), []) := by kernel_rfl
theorem st_6_6 : callF G 60 N_ref30_step [.d (.agg W6_6), .d (.int .i64 6)] [] = some (.d (.tup [.agg W6_7, .int .i64 0]), []) := by kernel_rfl
theorem st_6_7 : callF G 60 N_ref30_step [.d (.agg W6_7), .d (.int .i64 6)] [] = some (.d (.tup [.agg W6_8, .int .i64 0]), []) := by kernel_rfl
theorem st_6_8 : callF G 60 N_ref30_step [.d (.agg W6_8), .d (.int .i64 6)] [] = some (.d (.tup [.agg W6_9, .int .i64 0]), []) := by kernel_rfl
theorem st_6_9 : callF G 60 N_ref30_step [.d (.agg W6_9), .d (.int .i64 6)] [] = some (.d (.tup [.agg W6_10, .int .i64 0]), []) := by kernel_rfl
theorem st_6_10 : callF G 60 N_ref30_step [.d (.agg W6_10), .d (.int .i64 6)] [] = some (.d (.tup [.agg W6_11, .int .i64 0]), []) := by kernel_rfl
theorem st_6_11 : callF G 60 N_ref30_step [.d (.agg W6_11), .d (.int .i64 6)] [] = some (.d (.tup [.agg W6_12, .int .i64 0]), []) := by kernel_rfl
theorem st_6_12 : callF G 60 N_ref30_step [.d (.agg W6_12), .d (.int .i64 6)] [] = some (.d (.tup [.agg W6_13, .int .i64 0]), []) := by kernel_rfl
theorem st_6_13 : callF G 60 N_ref30_step [.d (.agg W6_13), .d (.int .i64 6)] [] = some (.d (.tup [.agg W6_14, .int .i64 0]), []) := by kernel_rfl
theorem st_6_14 : callF G 60 N_ref30_step [.d (.agg W6_14), .d (.int .i64 6)] [] = some (.d (.tup [.agg W6_15, .int .i64 0]), []) := by kernel_rfl
theorem st_6_15 : callF G 60 N_ref30_step [.d (.agg W6_15), .d (.int .i64 6)] [] = some (.d (.tup [.agg W6_16, .int .i64 0]), []) := by kernel_rfl
theorem st_6_16 : callF G 60 N_ref30_step [.d (.agg W6_16), .d (.int .i64 6)] [] = some (.d (.tup [.agg W6_17, .int .i64 0]), []) := by kernel_rfl
theorem st_6_17 : callF G 60 N_ref30_step [.d (.agg W6_17), .d (.int .i64 6)] [] = some (.d (.tup [.agg W6_18, .int .i64 0]), []) := by kernel_rfl
theorem st_6_18 : callF G 60 N_ref30_step [.d (.agg W6_18), .d (.int .i64 6)] [] = some (.d (.tup [.agg W6_19, .int .i64 0]), []) := by kernel_rfl
theorem st_6_19 : callF G 60 N_ref30_step [.d (.agg W6_19), .d (.int .i64 6)] [] = some (.d (.tup [.agg W6_20, .int .i64 0]), []) := by kernel_rfl
theorem st_6_20 : callF G 60 N_ref30_step [.d (.agg W6_20), .d (.int .i64 6)] [] = some (.d (.tup [.agg W6_21, .int .i64 0]), []) := by kernel_rfl
theorem st_6_21 : callF G 60 N_ref30_step [.d (.agg W6_21), .d (.int .i64 6)] [] = some (.d (.tup [.agg W6_22, .int .i64 0]), []) := by kernel_rfl
theorem st_6_22 : callF G 60 N_ref30_step [.d (.agg W6_22), .d (.int .i64 6)] [] = some (.d (.tup [.agg W6_23, .int .i64 0]), []) := by kernel_rfl
theorem op_6_0 : callF G 60 N_ref30_Open [.d (.agg W6_0)] [] = some (.d (.sl [.int .i64 6]), []) := by kernel_rfl
theorem op_6_1 : callF G 60 N_ref30_Open [.d (.agg W6_1)] [] = some (.d (.sl [.int .i64 6]), []) := by kernel_rfl
theorem op_6_2 : callF G 60 N_ref30_Open [.d (.agg W6_2)] [] = some (.d (.sl [.int .i64 6]), []) := by kernel_rfl
theorem op_6_3 : callF G 60 N_ref30_Open [.d (.agg W6_3)] [] = some (.d (.sl [.int .i64 6]), []) := by kernel_rfl
theorem op_6_4 : callF G 60 N_ref30_Open [.d (.agg W6_4)] [] = some (.d (.sl [.int .i64 6]), []) := by kernel_rfl
theorem op_6_5 : callF G 60 N_ref30_Open [.d (.agg W6_5)] [] = some (.d (.sl [.int .i64 6]), []) := by kernel_rfl
theorem op_6_6 : callF G 60 N_ref30_Open [.d (.agg W6_6)] [] = some (.d (.sl [.int .i64 6]), []) := by kernel_rfl
theorem op_6_7 : callF G 60 N_ref30_Open [.d (.agg W6_7)] [] = some (.d (.sl [.int .i64 6]), []) := by kernel_rfl
theorem op_6_8 : callF G 60 N_ref30_Open [.d (.agg W6_8)] [] = some (.d (.sl [.int .i64 6]), []) := by kernel_rfl
theorem op_6_9 : callF G 60 N_ref30_Open [.d (.agg W6_9)] [] = some (.d (.sl [.int .i64 6]), []) := by kernel_rfl
theorem op_6_10 : callF G 60 N_ref30_Open [.d (.agg W6_10)] [] = some (.d (.sl [.int .i64 6]), []) := by kernel_rfl
theorem op_6_11 : callF G 60 N_ref30_Open [.d (.agg W6_11)] [] = some (.d (.sl [.int .i64 6]), []) := by kernel_rfl
theorem op_6_12 : callF G 60 N_ref30_Open [.d (.agg W6_12)] [] = some (.d (.sl [.int .i64 6]), []) := by kernel_rfl
theorem op_6_13 : callF G 60 N_ref30_Open [.d (.agg W6_13)] [] = some (.d (.sl [.int .i64 6]), []) := by kernel_rfl
theorem op_6_14 : callF G 60 N_ref30_Open [.d (.agg W6_14)] [] = some (.d (.sl [.int .i64 6]), []) := by kernel_rfl
theorem op_6_15 : callF G 60 N_ref30_Open [.d (.agg W6_15)] [] = some (.d (.sl [.int .i64 6]), []) := by kernel_rfl
theorem op_6_16 : callF G 60 N_ref30_Open [.d (.agg W6_16)] [] = some (.d (.sl [.int .i64 6]), []) := by kernel_rfl
theorem op_6_17 : callF G 60 N_ref30_Open [.d (.agg W6_17)] [] = some (.d (.sl [.int .i64 6]), []) := by kernel_rfl
theorem op_6_18 : callF G 60 N_ref30_Open [.d (.agg W6_18)] [] = some (.d (.sl [.int .i64 6]), []) := by kernel_rfl
theorem op_6_19 : callF G 60 N_ref30_Open [.d (.agg W6_19)] [] = some (.d (.sl [.int .i64 6]), []) := by kernel_rfl
theorem op_6_20 : callF G 60 N_ref30_Open [.d (.agg W6_20)] [] = some (.d (.sl [.int .i64 6]), []) := by kernel_rfl
theorem op_6_21 : callF G 60 N_ref30_Open [.d (.agg W6_21)] [] = some (.d (.sl [.int .i64 6]), []) := by kernel_rfl
theorem op_6_22 : callF G 60 N_ref30_Open [.d (.agg W6_22)] [] = some (.d (.sl [.int .i64 6]), []) := by kernel_rfl
theorem op_6_23 : callF G 60 N_ref30_Open [.d (.agg W6_23)] [] = some (.d (.sl []), []) := by kernel_rfl
theorem bd_6 : callF G 60 N_ref30_Bound [.d (.agg W6_0)] [] = some (.d (.int .i64 (256 : Nat)), []) := by kernel_rfl
theorem fin_6 : callL G N_ref30_Finish [.d (.agg W6_0)] [] = some (.d (.tup [.agg W6_23, .int .i64 (23 : Nat), .int .i64 0]), []) :=
  finish_ok ws6 6 23 256 (by omega) (by omega) (fun i hi => by
    match i, hi with
    | 0, _ => rfl
    | 1, _ => rfl
    | 2, _ => rfl
    | 3, _ => rfl
    | 4, _ => rfl
    | 5, _ => rfl
    | 6, _ => rfl
    | 7, _ => rfl
    | 8, _ => rfl
    | 9, _ => rfl
    | 10, _ => rfl
    | 11, _ => rfl
    | 12, _ => rfl
    | 13, _ => rfl
    | 14, _ => rfl
    | 15, _ => rfl
    | 16, _ => rfl
    | 17, _ => rfl
    | 18, _ => rfl
    | 19, _ => rfl
    | 20, _ => rfl
    | 21, _ => rfl
    | 22, _ => rfl
    | 23, _ => rfl
    | i + 24, hi => omega) (callL_iff.2 ⟨60, bd_6⟩) (fun i hi => by
    match i, hi with
    | 0, _ => exact callL_iff.2 ⟨60, op_6_0⟩
    | 1, _ => exact callL_iff.2 ⟨60, op_6_1⟩
    | 2, _ => exact callL_iff.2 ⟨60, op_6_2⟩
    | 3, _ => exact callL_iff.2 ⟨60, op_6_3⟩
    | 4, _ => exact callL_iff.2 ⟨60, op_6_4⟩
    | 5, _ => exact callL_iff.2 ⟨60, op_6_5⟩
    | 6, _ => exact callL_iff.2 ⟨60, op_6_6⟩
    | 7, _ => exact callL_iff.2 ⟨60, op_6_7⟩
    | 8, _ => exact callL_iff.2 ⟨60, op_6_8⟩
    | 9, _ => exact callL_iff.2 ⟨60, op_6_9⟩
    | 10, _ => exact callL_iff.2 ⟨60, op_6_10⟩
    | 11, _ => exact callL_iff.2 ⟨60, op_6_11⟩
    | 12, _ => exact callL_iff.2 ⟨60, op_6_12⟩
    | 13, _ => exact callL_iff.2 ⟨60, op_6_13⟩
    | 14, _ => exact callL_iff.2 ⟨60, op_6_14⟩
    | 15, _ => exact callL_iff.2 ⟨60, op_6_15⟩
    | 16, _ => exact callL_iff.2 ⟨60, op_6_16⟩
    | 17, _ => exact callL_iff.2 ⟨60, op_6_17⟩
    | 18, _ => exact callL_iff.2 ⟨60, op_6_18⟩
    | 19, _ => exact callL_iff.2 ⟨60, op_6_19⟩
    | 20, _ => exact callL_iff.2 ⟨60, op_6_20⟩
    | 21, _ => exact callL_iff.2 ⟨60, op_6_21⟩
    | 22, _ => exact callL_iff.2 ⟨60, op_6_22⟩
    | i + 23, hi => omega) (callL_iff.2 ⟨60, op_6_23⟩) (fun i hi => by
    match i, hi with
    | 0, _ => exact callL_iff.2 ⟨60, st_6_0⟩
    | 1, _ => exact callL_iff.2 ⟨60, st_6_1⟩
    | 2, _ => exact callL_iff.2 ⟨60, st_6_2⟩
    | 3, _ => exact callL_iff.2 ⟨60, st_6_3⟩
    | 4, _ => exact callL_iff.2 ⟨60, st_6_4⟩
    | 5, _ => exact callL_iff.2 ⟨60, st_6_5⟩
    | 6, _ => exact callL_iff.2 ⟨60, st_6_6⟩
    | 7, _ => exact callL_iff.2 ⟨60, st_6_7⟩
    | 8, _ => exact callL_iff.2 ⟨60, st_6_8⟩
    | 9, _ => exact callL_iff.2 ⟨60, st_6_9⟩
    | 10, _ => exact callL_iff.2 ⟨60, st_6_10⟩
    | 11, _ => exact callL_iff.2 ⟨60, st_6_11⟩
    | 12, _ => exact callL_iff.2 ⟨60, st_6_12⟩
    | 13, _ => exact callL_iff.2 ⟨60, st_6_13⟩
    | 14, _ => exact callL_iff.2 ⟨60, st_6_14⟩
    | 15, _ => exact callL_iff.2 ⟨60, st_6_15⟩
    | 16, _ => exact callL_iff.2 ⟨60, st_6_16⟩
    | 17, _ => exact callL_iff.2 ⟨60, st_6_17⟩
    | 18, _ => exact callL_iff.2 ⟨60, st_6_18⟩
    | 19, _ => exact callL_iff.2 ⟨60, st_6_19⟩
    | 20, _ => exact callL_iff.2 ⟨60, st_6_20⟩
    | 21, _ => exact callL_iff.2 ⟨60, st_6_21⟩
    | 22, _ => exact callL_iff.2 ⟨60, st_6_22⟩
    | i + 23, hi => omega)
end Go.Proofs.YtjillamaceggeaaGreat
