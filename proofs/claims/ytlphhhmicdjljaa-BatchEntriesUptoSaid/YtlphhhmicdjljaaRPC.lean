/-
  Functions of the program, as the calculus has them.
-/
import Derived.Test.YtlphhhmicdjljaaRPN
namespace Go.Proofs.Ytlphhhmicdjljaa
set_option linter.unusedSimpArgs false
set_option linter.unusedVariables false
open Go Go.Sim
/- shardqueue/shardqueuelaw14.SnapshotSteps -/
def l_law14_SnapshotSteps_0 : ACode :=
 (.seq (.seq (.ops [] [⟨some 23, .fad false 0 1 (.t 6), none⟩, ⟨some 24, .ld false 1 (.t 23), none⟩, ⟨some 25, .bin .neq (.t 24) (.c (.d (.int .i64 3))), none⟩, ⟨some 26, .mv (.t 25), none⟩, ⟨some 27, .mv (.t 7), some (26, true)⟩, ⟨some 28, .bin .lss (.t 27) (.c (.d (.int .i64 100))), some (26, true)⟩, ⟨some 29, .pick (.t 26) (.t 28) (.c (.d (.bool false))), none⟩] [23, 24, 25, 26, 27, 28])
 (.cond (.t 29) .skip (.exit 0 [3, 5, 6, 7])))
 (.block 1 (.seq (.ops [] [⟨some 31, .ld true 11 (.t 3), none⟩, ⟨some 32, .ld true 4 (.t 6), none⟩, ⟨some 33, .mv (.t 7), none⟩, ⟨some 34, .call N_snapshot_Step [] [.t 31, .t 32, .t 33], none⟩, ⟨some 30, .mv (.t 34), none⟩, ⟨some 35, .ext (.t 30) 0, none⟩, ⟨some 36, .ext (.t 30) 1, none⟩, ⟨some 8, .alloc (.d (.agg [.int .i64 0, .int .i64 0, .int .i64 0, .int .i64 0])), none⟩, ⟨none, .st 4 (.t 8) (.t 35), none⟩, ⟨some 9, .mv (.t 36), none⟩] [29, 30, 31, 32, 33, 34, 35, 36])
 (.seq (.seq (.ops [] [⟨some 37, .mv (.t 9), none⟩, ⟨some 38, .bin .neq (.t 37) (.c (.d (.int .i64 0))), none⟩] [9, 37])
 (.cond (.t 38) (.seq (.ops [] [⟨some 2, .mv (.c (.d (.bool false))), none⟩] [3, 5, 6, 7, 8, 38])
 (.ret [2])) .skip))
 (.seq (.ops [] [⟨some 39, .ld true 4 (.t 8), none⟩, ⟨none, .st 4 (.t 6) (.t 39), none⟩] [8, 38, 39])
 (.seq (.ops [] [⟨some 40, .mv (.t 7), none⟩, ⟨some 41, .bin .add (.t 40) (.c (.d (.int .i64 1))), none⟩, ⟨some 7, .mv (.t 41), none⟩] [40, 41])
 (.seq (.ops [] [⟨some 42, .mv (.t 7), none⟩, ⟨some 43, .bin .rem (.t 42) (.c (.d (.int .i64 2))), none⟩, ⟨some 44, .bin .eql (.t 43) (.c (.d (.int .i64 1))), none⟩, ⟨some 45, .mv (.t 44), none⟩, ⟨some 46, .mv (.t 7), some (45, true)⟩, ⟨some 47, .bin .quo (.t 46) (.c (.d (.int .i64 2))), some (45, true)⟩, ⟨some 48, .mv (.t 5), some (45, true)⟩, ⟨some 49, .bin .lss (.t 47) (.t 48), some (45, true)⟩, ⟨some 50, .pick (.t 45) (.t 49) (.c (.d (.bool false))), none⟩] [42, 43, 44, 45, 46, 47, 48, 49])
 (.cond (.t 50) (.ops [] [⟨some 51, .fad false 8 1 (.t 3), none⟩, ⟨some 52, .ld false 1 (.t 51), none⟩, ⟨some 53, .bin .add (.t 52) (.c (.d (.int .i64 1))), none⟩, ⟨some 54, .fad false 8 1 (.t 3), none⟩, ⟨none, .st 1 (.t 54) (.t 53), none⟩] [50, 51, 52, 53, 54]) .skip))))))))
def c_law14_SnapshotSteps : ACode :=
 (.seq (.ops [] [⟨some 2, .mv (.c (.d (.bool false))), none⟩] [2])
 (.seq (.ops [] [⟨some 13, .build [.d (.int .i64 0), .d (.int .i64 0), .d (.int .i64 0), .d (.int .i64 0), .d (.int .i64 0), .d (.int .i64 0), .d (.int .i64 0), .d (.int .i64 0)] [(0, (1, .c (.d (.int .i64 1)))), (1, (1, .c (.d (.int .i64 1)))), (2, (1, .c (.d (.int .i64 1)))), (3, (1, .c (.d (.int .i64 1)))), (4, (1, .c (.d (.int .i64 1)))), (6, (1, .c (.d (.int .i64 1))))], none⟩, ⟨some 14, .call N_arena_New [] [.t 13], none⟩, ⟨some 12, .mv (.t 14), none⟩, ⟨some 15, .ext (.t 12) 0, none⟩, ⟨some 16, .ext (.t 12) 1, none⟩, ⟨some 3, .alloc (.agg [.xsl [], .xsl [], .d (.int .i64 0), .d (.int .i64 0), .xsl [], .d (.int .i64 0), .xsl [], .xsl [], .d (.int .i64 0), .d (.int .i64 0), .d (.int .i64 0)]), none⟩, ⟨none, .st 11 (.t 3) (.t 15), none⟩, ⟨some 4, .mv (.t 16), none⟩] [12, 13, 14, 15, 16])
 (.seq (.seq (.ops [] [⟨some 17, .mv (.t 4), none⟩, ⟨some 18, .bin .neq (.t 17) (.c (.d (.int .i64 0))), none⟩] [4, 17])
 (.cond (.t 18) (.seq (.ops [] [⟨some 2, .mv (.c (.d (.bool false))), none⟩] [0, 3, 18])
 (.ret [2])) .skip))
 (.seq (.ops [] [⟨some 19, .mv (.t 0), none⟩, ⟨some 20, .bin .rem (.t 19) (.c (.d (.int .u8 20))), none⟩, ⟨some 21, .cvi .i64 (.t 20), none⟩, ⟨some 5, .mv (.t 21), none⟩] [0, 18, 19, 20, 21])
 (.seq (.ops [] [⟨some 22, .call N_snapshot_New [] [], none⟩, ⟨some 6, .alloc (.d (.agg [.int .i64 0, .int .i64 0, .int .i64 0, .int .i64 0])), none⟩, ⟨none, .st 4 (.t 6) (.t 22), none⟩] [22])
 (.seq (.ops [] [⟨some 7, .mv (.c (.d (.int .i64 0))), none⟩] [])
 (.seq (.block 0 (.loop [50] l_law14_SnapshotSteps_0))
 (.seq (.ops [] [⟨some 56, .ld true 11 (.t 3), none⟩, ⟨some 57, .ld true 4 (.t 6), none⟩, ⟨some 58, .mv (.t 7), none⟩, ⟨some 59, .call N_snapshot_Step [] [.t 56, .t 57, .t 58], none⟩, ⟨some 55, .mv (.t 59), none⟩, ⟨some 60, .ext (.t 55) 0, none⟩, ⟨some 61, .ext (.t 55) 1, none⟩, ⟨some 10, .alloc (.d (.agg [.int .i64 0, .int .i64 0, .int .i64 0, .int .i64 0])), none⟩, ⟨none, .st 4 (.t 10) (.t 60), none⟩, ⟨some 11, .mv (.t 61), none⟩] [6, 10, 29, 55, 56, 57, 58, 59, 60, 61])
 (.seq (.ops [] [⟨some 62, .mv (.t 7), none⟩, ⟨some 63, .mv (.t 5), none⟩, ⟨some 64, .bin .mul (.c (.d (.int .i64 2))) (.t 63), none⟩, ⟨some 65, .bin .add (.c (.d (.int .i64 3))) (.t 64), none⟩, ⟨some 66, .bin .eql (.t 62) (.t 65), none⟩, ⟨some 67, .mv (.t 66), none⟩, ⟨some 68, .mv (.t 11), some (67, true)⟩, ⟨some 69, .bin .eql (.t 68) (.c (.d (.int .i64 7))), some (67, true)⟩, ⟨some 70, .pick (.t 67) (.t 69) (.c (.d (.bool false))), none⟩, ⟨some 71, .mv (.t 70), none⟩, ⟨some 72, .ld true 11 (.t 3), some (71, true)⟩, ⟨some 73, .call N_ref12_Owner [] [.t 72, .c (.d (.int .i64 0))], some (71, true)⟩, ⟨some 74, .bin .eql (.t 73) (.c (.d (.int .i64 0))), some (71, true)⟩, ⟨some 75, .pick (.t 71) (.t 74) (.c (.d (.bool false))), none⟩, ⟨some 76, .mv (.t 75), none⟩, ⟨some 77, .call N_law14_awake [] [], some (76, true)⟩, ⟨some 78, .pick (.t 76) (.t 77) (.c (.d (.bool false))), none⟩, ⟨some 2, .mv (.t 78), none⟩] [3, 5, 7, 11, 62, 63, 64, 65, 66, 67, 68, 69, 70, 71, 72, 73, 74, 75, 76, 77, 78])
 (.ret [2]))))))))))
def r_law14_SnapshotSteps : List ARes := [.t 2]
def fn_law14_SnapshotSteps : AFn := .code c_law14_SnapshotSteps r_law14_SnapshotSteps 79 true
/- shardqueue/arena.New -/
def l_arena_New_0 : ACode :=
 (.seq (.ops [] [⟨some 86, .bin .lss (.t 85) (.t 84), none⟩] [])
 (.seq (.cond (.t 86) .skip (.exit 0 [2, 4]))
 (.seq (.block 1 (.seq (.ops [] [⟨some 87, .mv (.t 85), none⟩, ⟨some 5, .mv (.t 87), none⟩] [86, 87])
 (.seq (.ops [] [⟨some 89, .fad false 2 1 (.t 1), none⟩, ⟨some 90, .ld false 1 (.t 89), none⟩, ⟨some 91, .call N_shard_Free [] [.t 90], none⟩, ⟨some 88, .mv (.t 91), none⟩, ⟨some 92, .ext (.t 88) 0, none⟩, ⟨some 93, .ext (.t 88) 1, none⟩, ⟨some 6, .alloc (.agg [.d (.bool false), .d (.int .i64 0), .d (.int .i64 0), .xsl [], .d (.int .i64 0), .d (.int .i64 0), .xsl [], .xsl []]), none⟩, ⟨none, .st 8 (.t 6) (.t 92), none⟩, ⟨some 7, .mv (.t 93), none⟩] [7, 88, 89, 90, 91, 92, 93])
 (.seq (.seq (.ops [] [⟨some 95, .fad true 5 3 (.t 4), none⟩, ⟨some 96, .ld true 3 (.t 95), none⟩, ⟨some 97, .mv (.t 5), none⟩, ⟨some 98, .call N_directory_Span [] [.t 96, .t 97], none⟩, ⟨some 94, .mv (.t 98), none⟩, ⟨some 99, .ext (.t 94) 0, none⟩, ⟨some 100, .ext (.t 94) 1, none⟩, ⟨some 8, .alloc (.d (.agg [.int .i64 0, .int .i64 0, .int .i64 0])), none⟩, ⟨none, .st 3 (.t 8) (.t 99), none⟩, ⟨some 9, .mv (.t 100), none⟩] [5, 94, 95, 96, 97, 98, 99, 100])
 (.seq (.ops [] [⟨some 101, .mv (.t 9), none⟩] [9])
 (.cond (.t 101) (.ops [] [⟨some 103, .fad false 2 1 (.t 1), none⟩, ⟨some 104, .ld false 1 (.t 103), none⟩, ⟨some 105, .fad false 0 1 (.t 8), none⟩, ⟨some 106, .ld false 1 (.t 105), none⟩, ⟨some 107, .fad false 1 1 (.t 8), none⟩, ⟨some 108, .ld false 1 (.t 107), none⟩, ⟨some 109, .call N_shard_New [] [.t 104, .t 106, .t 108], none⟩, ⟨some 102, .mv (.t 109), none⟩, ⟨some 110, .ext (.t 102) 0, none⟩, ⟨some 111, .ext (.t 102) 1, none⟩, ⟨none, .st 8 (.t 6) (.t 110), none⟩] [8, 101, 102, 103, 104, 105, 106, 107, 108, 109, 110, 111]) .skip)))
 (.seq (.ops [] [⟨some 112, .fad false 0 1 (.t 4), none⟩, ⟨some 113, .ld false 1 (.t 112), none⟩, ⟨some 114, .ld true 8 (.t 6), none⟩, ⟨some 115, .build [.d (.int .i64 0), .d (.bool false), .d (.int .i64 0), .d (.int .i64 0), .xsl [], .d (.int .i64 0), .d (.int .i64 0), .xsl [], .xsl []] [(1, (8, .t 114))], none⟩, ⟨some 116, .bsl 1 9 (.agg [.d (.int .i64 0), .d (.bool false), .d (.int .i64 0), .d (.int .i64 0), .xsl [], .d (.int .i64 0), .d (.int .i64 0), .xsl [], .xsl []]) [(0, .t 115)], none⟩, ⟨some 117, .app 9 (.t 113) (.t 116), none⟩, ⟨some 118, .fad false 0 1 (.t 4), none⟩, ⟨none, .st 1 (.t 118) (.t 117), none⟩] [6, 8, 101, 112, 113, 114, 115, 116, 117, 118])
 (.ops [] [⟨some 119, .fad false 1 1 (.t 4), none⟩, ⟨some 120, .ld false 1 (.t 119), none⟩, ⟨some 121, .fad false 7 1 (.t 1), none⟩, ⟨some 122, .ld false 1 (.t 121), none⟩, ⟨some 123, .build [.d (.int .i64 0), .d (.int .i64 0), .d (.int .i64 0), .d (.int .i64 0)] [(1, (1, .t 122))], none⟩, ⟨some 124, .bsl 1 4 (.d (.agg [.int .i64 0, .int .i64 0, .int .i64 0, .int .i64 0])) [(0, .t 123)], none⟩, ⟨some 125, .app 4 (.t 120) (.t 124), none⟩, ⟨some 126, .fad false 1 1 (.t 4), none⟩, ⟨none, .st 1 (.t 126) (.t 125), none⟩] [119, 120, 121, 122, 123, 124, 125, 126]))))))
 (.ops [] [⟨some 127, .bin .add (.t 85) (.c (.d (.int .i64 1))), none⟩, ⟨some 85, .mv (.t 127), none⟩] [127]))))
def c_arena_New : ACode :=
 (.seq (.ops [] [⟨some 1, .box (.t 0), none⟩, ⟨some 2, .alloc (.agg [.xsl [], .xsl [], .d (.int .i64 0), .d (.int .i64 0), .xsl [], .d (.int .i64 0), .xsl [], .xsl [], .d (.int .i64 0), .d (.int .i64 0), .d (.int .i64 0)]), none⟩, ⟨some 3, .mv (.c (.d (.int .i64 0))), none⟩] [0, 3])
 (.seq (.seq (.ops [] [⟨some 10, .fad false 0 1 (.t 1), none⟩, ⟨some 11, .ld false 1 (.t 10), none⟩, ⟨some 12, .call N_arena_in [] [.t 11, .c (.d (.int .i64 1)), .c (.d (.int .i64 6))], none⟩, ⟨some 13, .un .not (.t 12), none⟩, ⟨some 14, .mv (.t 13), none⟩, ⟨some 15, .fad false 1 1 (.t 1), some (14, false)⟩, ⟨some 16, .ld false 1 (.t 15), some (14, false)⟩, ⟨some 17, .fad false 0 1 (.t 1), some (14, false)⟩, ⟨some 18, .ld false 1 (.t 17), some (14, false)⟩, ⟨some 19, .call N_arena_in [] [.t 16, .c (.d (.int .i64 1)), .t 18], some (14, false)⟩, ⟨some 20, .un .not (.t 19), some (14, false)⟩, ⟨some 21, .pick (.t 14) (.c (.d (.bool true))) (.t 20), none⟩, ⟨some 22, .mv (.t 21), none⟩, ⟨some 23, .fad false 2 1 (.t 1), some (22, false)⟩, ⟨some 24, .ld false 1 (.t 23), some (22, false)⟩, ⟨some 25, .call N_arena_in [] [.t 24, .c (.d (.int .i64 1)), .c (.d (.int .i64 12))], some (22, false)⟩, ⟨some 26, .un .not (.t 25), some (22, false)⟩, ⟨some 27, .pick (.t 22) (.c (.d (.bool true))) (.t 26), none⟩, ⟨some 28, .mv (.t 27), none⟩, ⟨some 29, .fad false 3 1 (.t 1), some (28, false)⟩, ⟨some 30, .ld false 1 (.t 29), some (28, false)⟩, ⟨some 31, .call N_arena_in [] [.t 30, .c (.d (.int .i64 1)), .c (.d (.int .i64 24))], some (28, false)⟩, ⟨some 32, .un .not (.t 31), some (28, false)⟩, ⟨some 33, .pick (.t 28) (.c (.d (.bool true))) (.t 32), none⟩, ⟨some 34, .mv (.t 33), none⟩, ⟨some 35, .fad false 4 1 (.t 1), some (34, false)⟩, ⟨some 36, .ld false 1 (.t 35), some (34, false)⟩, ⟨some 37, .call N_arena_in [] [.t 36, .c (.d (.int .i64 1)), .c (.d (.int .i64 8))], some (34, false)⟩, ⟨some 38, .un .not (.t 37), some (34, false)⟩, ⟨some 39, .pick (.t 34) (.c (.d (.bool true))) (.t 38), none⟩, ⟨some 40, .mv (.t 39), none⟩, ⟨some 41, .fad false 5 1 (.t 1), some (40, false)⟩, ⟨some 42, .ld false 1 (.t 41), some (40, false)⟩, ⟨some 43, .call N_arena_in [] [.t 42, .c (.d (.int .i64 0)), .c (.d (.int .i64 1073741824))], some (40, false)⟩, ⟨some 44, .un .not (.t 43), some (40, false)⟩, ⟨some 45, .pick (.t 40) (.c (.d (.bool true))) (.t 44), none⟩, ⟨some 46, .mv (.t 45), none⟩, ⟨some 47, .fad false 6 1 (.t 1), some (46, false)⟩, ⟨some 48, .ld false 1 (.t 47), some (46, false)⟩, ⟨some 49, .call N_arena_in [] [.t 48, .c (.d (.int .i64 1)), .c (.d (.int .i64 1073741824))], some (46, false)⟩, ⟨some 50, .un .not (.t 49), some (46, false)⟩, ⟨some 51, .pick (.t 46) (.c (.d (.bool true))) (.t 50), none⟩, ⟨some 52, .mv (.t 51), none⟩, ⟨some 53, .fad false 7 1 (.t 1), some (52, false)⟩, ⟨some 54, .ld false 1 (.t 53), some (52, false)⟩, ⟨some 55, .call N_arena_in [] [.t 54, .c (.d (.int .i64 0)), .c (.d (.int .i64 65536))], some (52, false)⟩, ⟨some 56, .un .not (.t 55), some (52, false)⟩, ⟨some 57, .pick (.t 52) (.c (.d (.bool true))) (.t 56), none⟩] [10, 11, 12, 13, 14, 15, 16, 17, 18, 19, 20, 21, 22, 23, 24, 25, 26, 27, 28, 29, 30, 31, 32, 33, 34, 35, 36, 37, 38, 39, 40, 41, 42, 43, 44, 45, 46, 47, 48, 49, 50, 51, 52, 53, 54, 55, 56])
 (.cond (.t 57) (.seq (.ops [] [⟨some 58, .build [.xsl [], .xsl [], .d (.int .i64 0), .d (.int .i64 0), .xsl [], .d (.int .i64 0), .xsl [], .xsl [], .d (.int .i64 0), .d (.int .i64 0), .d (.int .i64 0)] [], none⟩, ⟨none, .st 11 (.t 2) (.t 58), none⟩, ⟨some 3, .mv (.c (.d (.int .i64 1))), none⟩] [1, 57, 58])
 (.ret [2, 3])) .skip))
 (.seq (.ops [] [⟨some 59, .fad false 7 1 (.t 1), none⟩, ⟨some 60, .ld false 1 (.t 59), none⟩, ⟨some 61, .fad false 5 1 (.t 1), none⟩, ⟨some 62, .ld false 1 (.t 61), none⟩, ⟨some 63, .fad false 6 1 (.t 1), none⟩, ⟨some 64, .ld false 1 (.t 63), none⟩, ⟨some 65, .build [.xsl [], .xsl [], .d (.int .i64 0), .d (.int .i64 0), .xsl [], .d (.int .i64 0), .xsl [], .xsl [], .d (.int .i64 0), .d (.int .i64 0), .d (.int .i64 0)] [(8, (1, .t 60)), (9, (1, .t 62)), (10, (1, .t 64))], none⟩, ⟨some 4, .alloc (.agg [.xsl [], .xsl [], .d (.int .i64 0), .d (.int .i64 0), .xsl [], .d (.int .i64 0), .xsl [], .xsl [], .d (.int .i64 0), .d (.int .i64 0), .d (.int .i64 0)]), none⟩, ⟨none, .st 11 (.t 4) (.t 65), none⟩] [57, 59, 60, 61, 62, 63, 64, 65])
 (.seq (.ops [] [⟨some 67, .fad false 0 1 (.t 1), none⟩, ⟨some 68, .ld false 1 (.t 67), none⟩, ⟨some 69, .fad false 1 1 (.t 1), none⟩, ⟨some 70, .ld false 1 (.t 69), none⟩, ⟨some 71, .call N_directory_New [] [.t 68, .t 70], none⟩, ⟨some 66, .mv (.t 71), none⟩, ⟨some 72, .ext (.t 66) 0, none⟩, ⟨some 73, .ext (.t 66) 1, none⟩, ⟨some 74, .fad true 5 3 (.t 4), none⟩, ⟨none, .st 3 (.t 74) (.t 72), none⟩] [66, 67, 68, 69, 70, 71, 72, 73, 74])
 (.seq (.ops [] [⟨some 76, .fad false 3 1 (.t 1), none⟩, ⟨some 77, .ld false 1 (.t 76), none⟩, ⟨some 78, .call N_dead_New [] [.t 77], none⟩, ⟨some 75, .mv (.t 78), none⟩, ⟨some 79, .ext (.t 75) 0, none⟩, ⟨some 80, .ext (.t 75) 1, none⟩, ⟨some 81, .fad true 2 3 (.t 4), none⟩, ⟨some 82, .fad true 1 2 (.t 81), none⟩, ⟨none, .st 2 (.t 82) (.t 79), none⟩] [75, 76, 77, 78, 79, 80, 81, 82])
 (.seq (.seq (.ops [] [⟨some 83, .fad false 0 1 (.t 1), none⟩, ⟨some 84, .ld false 1 (.t 83), none⟩, ⟨some 85, .mv (.c (.d (.int .i64 0))), none⟩] [83])
 (.block 0 (.loop [] l_arena_New_0)))
 (.seq (.ops [] [⟨some 128, .ld true 11 (.t 4), none⟩, ⟨none, .st 11 (.t 2) (.t 128), none⟩, ⟨some 3, .mv (.c (.d (.int .i64 0))), none⟩] [1, 4, 84, 85, 86, 128])
 (.ret [2, 3]))))))))
def r_arena_New : List ARes := [.c 2 true 11, .t 3]
def fn_arena_New : AFn := .code c_arena_New r_arena_New 129 true
/- shardqueue/arena.in -/
def c_arena_in : ACode :=
 (.seq (.ops [] [⟨some 6, .mv (.c (.d (.bool false))), none⟩] [6])
 (.seq (.ops [] [⟨some 7, .mv (.t 1), none⟩, ⟨some 8, .mv (.t 0), none⟩, ⟨some 9, .bin .leq (.t 7) (.t 8), none⟩, ⟨some 10, .mv (.t 9), none⟩, ⟨some 11, .mv (.t 0), some (10, true)⟩, ⟨some 12, .mv (.t 2), some (10, true)⟩, ⟨some 13, .bin .leq (.t 11) (.t 12), some (10, true)⟩, ⟨some 14, .pick (.t 10) (.t 13) (.c (.d (.bool false))), none⟩, ⟨some 6, .mv (.t 14), none⟩] [0, 1, 2, 7, 8, 9, 10, 11, 12, 13, 14])
 (.ret [6])))
def r_arena_in : List ARes := [.t 6]
def fn_arena_in : AFn := .code c_arena_in r_arena_in 15 true
/- shardqueue/directory.New -/
def l_directory_New_0 : ACode :=
 (.seq (.ops [] [⟨some 23, .bin .lss (.t 22) (.t 21), none⟩] [])
 (.seq (.cond (.t 23) .skip (.exit 0 [0, 4, 6]))
 (.seq (.block 1 (.seq (.ops [] [⟨some 24, .mv (.t 22), none⟩, ⟨some 7, .mv (.t 24), none⟩] [23, 24])
 (.draw [] [⟨some 25, .fad false 1 1 (.t 6), none⟩, ⟨some 26, .ld false 1 (.t 25), none⟩, ⟨some 27, .mv (.t 7), none⟩, ⟨some 28, .bin .mul (.t 27) (.c (.d (.int .i64 65536))), none⟩, ⟨some 29, .mv (.t 1), none⟩, ⟨some 30, .bin .quo (.t 28) (.t 29), none⟩, ⟨some 31, .mv (.t 7), none⟩, ⟨some 32, .bin .add (.t 31) (.c (.d (.int .i64 1))), none⟩, ⟨some 33, .bin .mul (.t 32) (.c (.d (.int .i64 65536))), none⟩, ⟨some 34, .mv (.t 1), none⟩, ⟨some 35, .bin .quo (.t 33) (.t 34), none⟩, ⟨some 36, .bin .sub (.t 35) (.c (.d (.int .i64 1))), none⟩, ⟨some 37, .mv (.t 7), none⟩, ⟨some 38, .build [.d (.int .i64 0), .d (.int .i64 0), .d (.int .i64 0)] [(0, (1, .t 30)), (1, (1, .t 36)), (2, (1, .t 37))], none⟩, ⟨some 39, .bsl 1 3 (.d (.agg [.int .i64 0, .int .i64 0, .int .i64 0])) [(0, .t 38)], none⟩, ⟨some 40, .app 3 (.t 26) (.t 39), none⟩, ⟨some 41, .fad false 1 1 (.t 6), none⟩, ⟨none, .st 1 (.t 41) (.t 40), none⟩] [[], [], [0, 1], [0, 1], [0, 1, 2, 3], [0, 1], [0, 1, 2, 3, 4, 5], [0, 1, 2, 3, 4, 5], [0, 1, 2, 3, 4, 5], [0, 1, 2, 3, 4, 5, 6, 7, 8], [0, 1, 2, 3, 4, 5], [0, 1, 2, 3, 4, 5], [0, 1, 2, 3, 4, 5, 6, 7, 8, 9, 10, 11], [0, 1], [0, 1], [], [], []] [7, 25, 26, 27, 28, 29, 30, 31, 32, 33, 34, 35, 36, 37, 38, 39, 40, 41])))
 (.ops [4000040] [⟨some 42, .bin .add (.t 22) (.c (.d (.int .i64 1))), none⟩, ⟨some 22, .mv (.t 42), none⟩] [42]))))
def l_directory_New_1 : ACode :=
 (.seq (.ops [] [⟨some 45, .bin .lss (.t 44) (.t 43), none⟩] [])
 (.seq (.cond (.t 45) .skip (.exit 2 [4, 6]))
 (.seq (.block 3 (.ops [] [⟨some 46, .fad false 2 1 (.t 6), none⟩, ⟨some 47, .ld false 1 (.t 46), none⟩, ⟨some 48, .bsl 1 1 (.d (.int .i64 0)) [(0, .c (.d (.int .i64 (-1))))], none⟩, ⟨some 49, .app 1 (.t 47) (.t 48), none⟩, ⟨some 50, .fad false 2 1 (.t 6), none⟩, ⟨none, .st 1 (.t 50) (.t 49), none⟩] [45, 46, 47, 48, 49, 50]))
 (.ops [] [⟨some 51, .bin .add (.t 44) (.c (.d (.int .i64 1))), none⟩, ⟨some 44, .mv (.t 51), none⟩] [51]))))
def c_directory_New : ACode :=
 (.seq (.ops [] [⟨some 4, .alloc (.agg [.d (.int .i64 0), .xsl [], .xsl []]), none⟩, ⟨some 5, .mv (.c (.d (.int .i64 0))), none⟩] [5])
 (.seq (.seq (.ops [] [⟨some 8, .mv (.t 1), none⟩, ⟨some 9, .bin .lss (.t 8) (.c (.d (.int .i64 1))), none⟩, ⟨some 10, .mv (.t 9), none⟩, ⟨some 11, .mv (.t 1), some (10, false)⟩, ⟨some 12, .mv (.t 0), some (10, false)⟩, ⟨some 13, .bin .gtr (.t 11) (.t 12), some (10, false)⟩, ⟨some 14, .pick (.t 10) (.c (.d (.bool true))) (.t 13), none⟩, ⟨some 15, .mv (.t 14), none⟩, ⟨some 16, .mv (.t 0), some (15, false)⟩, ⟨some 17, .bin .gtr (.t 16) (.c (.d (.int .i64 6))), some (15, false)⟩, ⟨some 18, .pick (.t 15) (.c (.d (.bool true))) (.t 17), none⟩] [8, 9, 10, 11, 12, 13, 14, 15, 16, 17])
 (.cond (.t 18) (.seq (.ops [] [⟨some 19, .build [.d (.int .i64 0), .xsl [], .xsl []] [], none⟩, ⟨none, .st 3 (.t 4) (.t 19), none⟩, ⟨some 5, .mv (.c (.d (.int .i64 1))), none⟩] [0, 1, 18, 19])
 (.ret [4, 5])) .skip))
 (.seq (.ops [] [⟨some 20, .build [.d (.int .i64 0), .xsl [], .xsl []] [(0, (1, .c (.d (.int .i64 1))))], none⟩, ⟨some 6, .alloc (.agg [.d (.int .i64 0), .xsl [], .xsl []]), none⟩, ⟨none, .st 3 (.t 6) (.t 20), none⟩] [18, 20])
 (.seq (.seq (.ops [] [⟨some 21, .mv (.t 1), none⟩, ⟨some 22, .mv (.c (.d (.int .i64 0))), none⟩] [])
 (.block 0 (.loop [] l_directory_New_0)))
 (.seq (.seq (.ops [] [⟨some 43, .mv (.t 0), none⟩, ⟨some 44, .mv (.c (.d (.int .i64 0))), none⟩] [0, 1, 21, 22, 23])
 (.block 2 (.loop [] l_directory_New_1)))
 (.seq (.ops [] [⟨some 52, .ld true 3 (.t 6), none⟩, ⟨none, .st 3 (.t 4) (.t 52), none⟩, ⟨some 5, .mv (.c (.d (.int .i64 0))), none⟩] [6, 43, 44, 45, 52])
 (.ret [4, 5])))))))
def r_directory_New : List ARes := [.c 4 true 3, .t 5]
def fn_directory_New : AFn := .code c_directory_New r_directory_New 53 true
/- shardqueue/dead.New -/
def c_dead_New : ACode :=
 (.seq (.ops [] [⟨some 2, .alloc (.agg [.d (.int .i64 0), .xsl []]), none⟩, ⟨some 3, .mv (.c (.d (.int .i64 0))), none⟩] [3])
 (.seq (.seq (.ops [] [⟨some 4, .mv (.t 0), none⟩, ⟨some 5, .bin .lss (.t 4) (.c (.d (.int .i64 1))), none⟩, ⟨some 6, .mv (.t 5), none⟩, ⟨some 7, .mv (.t 0), some (6, false)⟩, ⟨some 8, .bin .gtr (.t 7) (.c (.d (.int .i64 24))), some (6, false)⟩, ⟨some 9, .pick (.t 6) (.c (.d (.bool true))) (.t 8), none⟩] [4, 5, 6, 7, 8])
 (.cond (.t 9) (.seq (.ops [] [⟨some 10, .build [.d (.int .i64 0), .xsl []] [], none⟩, ⟨none, .st 2 (.t 2) (.t 10), none⟩, ⟨some 3, .mv (.c (.d (.int .i64 1))), none⟩] [0, 9, 10])
 (.ret [2, 3])) .skip))
 (.seq (.ops [] [⟨some 11, .mv (.t 0), none⟩, ⟨some 12, .build [.d (.int .i64 0), .xsl []] [(0, (1, .t 11))], none⟩, ⟨none, .st 2 (.t 2) (.t 12), none⟩, ⟨some 3, .mv (.c (.d (.int .i64 0))), none⟩] [0, 9, 11, 12])
 (.ret [2, 3]))))
def r_dead_New : List ARes := [.c 2 true 2, .t 3]
def fn_dead_New : AFn := .code c_dead_New r_dead_New 13 true
/- shardqueue/shard.Free -/
def c_shard_Free : ACode :=
 (.seq (.ops [] [⟨some 2, .alloc (.agg [.d (.bool false), .d (.int .i64 0), .d (.int .i64 0), .xsl [], .d (.int .i64 0), .d (.int .i64 0), .xsl [], .xsl []]), none⟩, ⟨some 3, .mv (.c (.d (.int .i64 0))), none⟩] [3])
 (.seq (.ops [] [⟨some 7, .mv (.t 0), none⟩, ⟨some 8, .call N_ring_New [] [.t 7], none⟩, ⟨some 6, .mv (.t 8), none⟩, ⟨some 9, .ext (.t 6) 0, none⟩, ⟨some 10, .ext (.t 6) 1, none⟩, ⟨some 4, .alloc (.agg [.xsl [], .d (.int .i64 0), .d (.int .i64 0)]), none⟩, ⟨none, .st 3 (.t 4) (.t 9), none⟩, ⟨some 5, .mv (.t 10), none⟩] [0, 6, 7, 8, 9, 10])
 (.seq (.seq (.ops [] [⟨some 11, .mv (.t 5), none⟩, ⟨some 12, .bin .neq (.t 11) (.c (.d (.int .i64 0))), none⟩] [11])
 (.cond (.t 12) (.seq (.ops [] [⟨some 13, .build [.d (.bool false), .d (.int .i64 0), .d (.int .i64 0), .xsl [], .d (.int .i64 0), .d (.int .i64 0), .xsl [], .xsl []] [], none⟩, ⟨some 14, .mv (.t 5), none⟩, ⟨none, .st 8 (.t 2) (.t 13), none⟩, ⟨some 3, .mv (.t 14), none⟩] [4, 5, 12, 13, 14])
 (.ret [2, 3])) .skip))
 (.seq (.ops [] [⟨some 15, .ld true 3 (.t 4), none⟩, ⟨some 16, .build [.d (.bool false), .d (.int .i64 0), .d (.int .i64 0), .xsl [], .d (.int .i64 0), .d (.int .i64 0), .xsl [], .xsl []] [(3, (3, .t 15))], none⟩, ⟨none, .st 8 (.t 2) (.t 16), none⟩, ⟨some 3, .mv (.c (.d (.int .i64 0))), none⟩] [4, 5, 12, 15, 16])
 (.ret [2, 3])))))
def r_shard_Free : List ARes := [.c 2 true 8, .t 3]
def fn_shard_Free : AFn := .code c_shard_Free r_shard_Free 17 true
/- shardqueue/ring.New -/
def c_ring_New : ACode :=
 (.seq (.ops [] [⟨some 2, .alloc (.agg [.xsl [], .d (.int .i64 0), .d (.int .i64 0)]), none⟩, ⟨some 3, .mv (.c (.d (.int .i64 0))), none⟩] [3])
 (.seq (.seq (.ops [] [⟨some 4, .mv (.t 0), none⟩, ⟨some 5, .bin .lss (.t 4) (.c (.d (.int .i64 1))), none⟩, ⟨some 6, .mv (.t 5), none⟩, ⟨some 7, .mv (.t 0), some (6, false)⟩, ⟨some 8, .bin .gtr (.t 7) (.c (.d (.int .i64 12))), some (6, false)⟩, ⟨some 9, .pick (.t 6) (.c (.d (.bool true))) (.t 8), none⟩] [4, 5, 6, 7, 8])
 (.cond (.t 9) (.seq (.ops [] [⟨some 10, .build [.xsl [], .d (.int .i64 0), .d (.int .i64 0)] [], none⟩, ⟨none, .st 3 (.t 2) (.t 10), none⟩, ⟨some 3, .mv (.c (.d (.int .i64 1))), none⟩] [0, 9, 10])
 (.ret [2, 3])) .skip))
 (.seq (.ops [] [⟨some 11, .mv (.t 0), none⟩, ⟨some 12, .mks 7 (.d (.agg [.int .i64 0, .int .i64 0, .int .i64 0, .int .i64 0, .int .i64 0, .int .i64 0, .str []])) (.t 11) (.t 11), none⟩, ⟨some 13, .build [.xsl [], .d (.int .i64 0), .d (.int .i64 0)] [(0, (1, .t 12))], none⟩, ⟨none, .st 3 (.t 2) (.t 13), none⟩, ⟨some 3, .mv (.c (.d (.int .i64 0))), none⟩] [0, 9, 11, 12, 13])
 (.ret [2, 3]))))
def r_ring_New : List ARes := [.c 2 true 3, .t 3]
def fn_ring_New : AFn := .code c_ring_New r_ring_New 14 true
/- shardqueue/directory.Span -/
def c_directory_Span : ACode :=
 (.seq (.ops [] [⟨some 2, .box (.t 0), none⟩, ⟨some 4, .alloc (.d (.agg [.int .i64 0, .int .i64 0, .int .i64 0])), none⟩, ⟨some 5, .mv (.c (.d (.bool false))), none⟩] [0, 5])
 (.seq (.seq (.ops [] [⟨some 7, .ld true 3 (.t 2), none⟩, ⟨some 8, .call N_directory_Validate [] [.t 7], none⟩, ⟨some 9, .bin .neq (.t 8) (.c (.d (.int .i64 0))), none⟩] [7, 8])
 (.cond (.t 9) (.seq (.ops [] [⟨some 10, .build [.d (.int .i64 0), .d (.int .i64 0), .d (.int .i64 0)] [], none⟩, ⟨none, .st 3 (.t 4) (.t 10), none⟩, ⟨some 5, .mv (.c (.d (.bool false))), none⟩] [1, 2, 9, 10])
 (.ret [4, 5])) .skip))
 (.seq (.ops [] [⟨some 11, .fad false 1 1 (.t 2), none⟩, ⟨some 12, .ld false 1 (.t 11), none⟩, ⟨some 13, .mv (.t 1), none⟩, ⟨some 14, .call N_directory_find [] [.t 12, .t 13], none⟩, ⟨some 6, .mv (.t 14), none⟩] [1, 9, 11, 12, 13, 14])
 (.seq (.seq (.ops [] [⟨some 15, .mv (.t 6), none⟩, ⟨some 16, .bin .lss (.t 15) (.c (.d (.int .i64 0))), none⟩] [15])
 (.cond (.t 16) (.seq (.ops [] [⟨some 17, .build [.d (.int .i64 0), .d (.int .i64 0), .d (.int .i64 0)] [], none⟩, ⟨none, .st 3 (.t 4) (.t 17), none⟩, ⟨some 5, .mv (.c (.d (.bool false))), none⟩] [2, 6, 16, 17])
 (.ret [4, 5])) .skip))
 (.seq (.ops [] [⟨some 18, .fad false 1 1 (.t 2), none⟩, ⟨some 19, .ld false 1 (.t 18), none⟩, ⟨some 20, .mv (.t 6), none⟩, ⟨some 21, .iad 3 (.t 19) (.t 20), none⟩, ⟨some 22, .ld true 3 (.t 21), none⟩, ⟨none, .st 3 (.t 4) (.t 22), none⟩, ⟨some 5, .mv (.c (.d (.bool true))), none⟩] [2, 6, 16, 18, 19, 20, 21, 22])
 (.ret [4, 5]))))))
def r_directory_Span : List ARes := [.c 4 true 3, .t 5]
def fn_directory_Span : AFn := .code c_directory_Span r_directory_Span 23 true
/- shardqueue/directory.Validate -/
def l_directory_Validate_0 : ACode :=
 (.seq (.ops [] [⟨some 40, .bin .lss (.t 39) (.t 38), none⟩] [])
 (.seq (.cond (.t 40) .skip (.exit 1 [1]))
 (.seq (.block 2 (.seq (.ops [] [⟨some 41, .mv (.t 39), none⟩, ⟨some 42, .iad 3 (.t 37) (.t 39), none⟩, ⟨some 43, .ld true 3 (.t 42), none⟩, ⟨some 5, .alloc (.d (.agg [.int .i64 0, .int .i64 0, .int .i64 0])), none⟩, ⟨some 4, .mv (.t 41), none⟩, ⟨none, .st 3 (.t 5) (.t 43), none⟩] [40, 41, 42, 43])
 (.seq (.ops [] [⟨some 44, .fad false 1 1 (.t 1), none⟩, ⟨some 45, .ld false 1 (.t 44), none⟩, ⟨some 46, .fad false 2 1 (.t 5), none⟩, ⟨some 47, .ld false 1 (.t 46), none⟩, ⟨some 48, .call N_directory_find [] [.t 45, .t 47], none⟩, ⟨some 49, .mv (.t 4), none⟩, ⟨some 50, .bin .neq (.t 48) (.t 49), none⟩] [4, 5, 44, 45, 46, 47, 48, 49])
 (.cond (.t 50) (.seq (.ops [] [⟨some 2, .mv (.c (.d (.int .i64 10))), none⟩] [1, 37, 38, 39, 50])
 (.ret [2])) .skip))))
 (.ops [] [⟨some 51, .bin .add (.t 39) (.c (.d (.int .i64 1))), none⟩, ⟨some 39, .mv (.t 51), none⟩] [50, 51]))))
def c_directory_Validate : ACode :=
 (.seq (.ops [] [⟨some 1, .box (.t 0), none⟩, ⟨some 2, .mv (.c (.d (.int .i64 0))), none⟩] [0, 2])
 (.seq (.ops [] [⟨some 6, .fad false 2 1 (.t 1), none⟩, ⟨some 7, .ld false 1 (.t 6), none⟩, ⟨some 8, .len (.t 7), none⟩, ⟨some 3, .alloc (.d (.int .i64 0)), none⟩, ⟨none, .st 1 (.t 3) (.t 8), none⟩] [6, 7, 8])
 (.seq (.block 0 (.seq (.ops [] [⟨some 10, .fad false 0 1 (.t 1), none⟩, ⟨some 11, .ld false 1 (.t 10), none⟩, ⟨some 12, .bin .lss (.t 11) (.c (.d (.int .i64 1))), none⟩, ⟨some 13, .mv (.t 12), none⟩, ⟨some 14, .fad false 0 1 (.t 1), some (13, false)⟩, ⟨some 15, .ld false 1 (.t 14), some (13, false)⟩, ⟨some 16, .bin .gtr (.t 15) (.c (.d (.int .i64 1099511627776))), some (13, false)⟩, ⟨some 17, .pick (.t 13) (.c (.d (.bool true))) (.t 16), none⟩, ⟨some 18, .mv (.t 17), none⟩, ⟨some 19, .ld false 1 (.t 3), some (18, false)⟩, ⟨some 20, .bin .lss (.t 19) (.c (.d (.int .i64 1))), some (18, false)⟩, ⟨some 21, .pick (.t 18) (.c (.d (.bool true))) (.t 20), none⟩, ⟨some 22, .mv (.t 21), none⟩, ⟨some 23, .ld false 1 (.t 3), some (22, false)⟩, ⟨some 24, .bin .gtr (.t 23) (.c (.d (.int .i64 6))), some (22, false)⟩, ⟨some 25, .pick (.t 22) (.c (.d (.bool true))) (.t 24), none⟩, ⟨some 9, .mv (.t 25), none⟩] [10, 11, 12, 13, 14, 15, 16, 17, 18, 19, 20, 21, 22, 23, 24, 25])
 (.cond (.t 9) (.seq (.ops [] [⟨some 2, .mv (.c (.d (.int .i64 1))), none⟩] [1, 3, 9])
 (.ret [2])) (.seq (.ops [] [⟨some 27, .fad false 1 1 (.t 1), none⟩, ⟨some 28, .ld false 1 (.t 27), none⟩, ⟨some 29, .call N_directory_tiles [] [.t 28], none⟩, ⟨some 30, .un .not (.t 29), none⟩, ⟨some 26, .mv (.t 30), none⟩] [9, 27, 28, 29, 30])
 (.cond (.t 26) (.seq (.ops [] [⟨some 2, .mv (.c (.d (.int .i64 7))), none⟩] [1, 3, 26])
 (.ret [2])) (.seq (.ops [] [⟨some 32, .fad false 1 1 (.t 1), none⟩, ⟨some 33, .ld false 1 (.t 32), none⟩, ⟨some 34, .mkfn N_directory_Validate_1 [.t 3], none⟩, ⟨some 35, .call N_slices_ContainsFunc_api_Span [] [.t 33, .t 34], none⟩, ⟨some 31, .mv (.t 35), none⟩] [3, 26, 32, 33, 34, 35])
 (.cond (.t 31) (.seq (.ops [] [⟨some 2, .mv (.c (.d (.int .i64 4))), none⟩] [1, 31])
 (.ret [2])) .skip)))))))
 (.seq (.seq (.ops [] [⟨some 36, .fad false 1 1 (.t 1), none⟩, ⟨some 37, .ld false 1 (.t 36), none⟩, ⟨some 38, .len (.t 37), none⟩, ⟨some 39, .mv (.c (.d (.int .i64 0))), none⟩] [31, 36])
 (.block 1 (.loop [] l_directory_Validate_0)))
 (.seq (.seq (.ops [] [⟨some 52, .ld true 3 (.t 1), none⟩, ⟨some 53, .call N_directory_forwards [] [.t 52], none⟩, ⟨some 54, .un .not (.t 53), none⟩] [1, 37, 38, 39, 40, 52, 53])
 (.cond (.t 54) (.seq (.ops [] [⟨some 2, .mv (.c (.d (.int .i64 7))), none⟩] [54])
 (.ret [2])) .skip))
 (.seq (.ops [] [⟨some 2, .mv (.c (.d (.int .i64 0))), none⟩] [54])
 (.ret [2])))))))
def r_directory_Validate : List ARes := [.t 2]
def fn_directory_Validate : AFn := .code c_directory_Validate r_directory_Validate 55 true
/- shardqueue/directory.tiles -/
def l_directory_tiles_0 : ACode :=
 (.seq (.ops [] [⟨some 9, .bin .lss (.t 8) (.t 7), none⟩] [])
 (.seq (.cond (.t 9) .skip (.exit 0 [3]))
 (.seq (.block 1 (.seq (.ops [] [⟨some 10, .iad 3 (.t 6) (.t 8), none⟩, ⟨some 11, .ld true 3 (.t 10), none⟩, ⟨some 5, .alloc (.d (.agg [.int .i64 0, .int .i64 0, .int .i64 0])), none⟩, ⟨none, .st 3 (.t 5) (.t 11), none⟩] [9, 10, 11])
 (.seq (.seq (.ops [] [⟨some 12, .fad false 0 1 (.t 5), none⟩, ⟨some 13, .ld false 1 (.t 12), none⟩, ⟨some 14, .mv (.t 3), none⟩, ⟨some 15, .bin .neq (.t 13) (.t 14), none⟩, ⟨some 16, .mv (.t 15), none⟩, ⟨some 17, .fad false 1 1 (.t 5), some (16, false)⟩, ⟨some 18, .ld false 1 (.t 17), some (16, false)⟩, ⟨some 19, .fad false 0 1 (.t 5), some (16, false)⟩, ⟨some 20, .ld false 1 (.t 19), some (16, false)⟩, ⟨some 21, .bin .lss (.t 18) (.t 20), some (16, false)⟩, ⟨some 22, .pick (.t 16) (.c (.d (.bool true))) (.t 21), none⟩, ⟨some 23, .mv (.t 22), none⟩, ⟨some 24, .fad false 1 1 (.t 5), some (23, false)⟩, ⟨some 25, .ld false 1 (.t 24), some (23, false)⟩, ⟨some 26, .bin .geq (.t 25) (.c (.d (.int .i64 65536))), some (23, false)⟩, ⟨some 27, .pick (.t 23) (.c (.d (.bool true))) (.t 26), none⟩] [3, 12, 13, 14, 15, 16, 17, 18, 19, 20, 21, 22, 23, 24, 25, 26])
 (.cond (.t 27) (.seq (.ops [] [⟨some 2, .mv (.c (.d (.bool false))), none⟩] [5, 6, 7, 8, 27])
 (.ret [2])) .skip))
 (.ops [] [⟨some 28, .fad false 1 1 (.t 5), none⟩, ⟨some 29, .ld false 1 (.t 28), none⟩, ⟨some 30, .bin .add (.t 29) (.c (.d (.int .i64 1))), none⟩, ⟨some 3, .mv (.t 30), none⟩] [5, 27, 28, 29, 30]))))
 (.ops [] [⟨some 31, .bin .add (.t 8) (.c (.d (.int .i64 1))), none⟩, ⟨some 8, .mv (.t 31), none⟩] [31]))))
def c_directory_tiles : ACode :=
 (.seq (.ops [] [⟨some 2, .mv (.c (.d (.bool false))), none⟩] [2])
 (.seq (.ops [] [⟨some 3, .mv (.c (.d (.int .i64 0))), none⟩] [])
 (.seq (.seq (.ops [] [⟨some 6, .mv (.t 0), none⟩, ⟨some 7, .len (.t 6), none⟩, ⟨some 8, .mv (.c (.d (.int .i64 0))), none⟩] [0])
 (.block 0 (.loop [] l_directory_tiles_0)))
 (.seq (.ops [] [⟨some 32, .mv (.t 3), none⟩, ⟨some 33, .bin .eql (.t 32) (.c (.d (.int .i64 65536))), none⟩, ⟨some 2, .mv (.t 33), none⟩] [3, 6, 7, 8, 9, 32, 33])
 (.ret [2])))))
def r_directory_tiles : List ARes := [.t 2]
def fn_directory_tiles : AFn := .code c_directory_tiles r_directory_tiles 34 true
/- shardqueue/directory.Validate$1 -/
def c_directory_Validate_1 : ACode :=
 (.seq (.ops [] [⟨some 2, .box (.t 0), none⟩, ⟨some 3, .mv (.c (.d (.bool false))), none⟩] [0, 3])
 (.seq (.ops [] [⟨some 4, .fad false 2 1 (.t 2), none⟩, ⟨some 5, .ld false 1 (.t 4), none⟩, ⟨some 6, .bin .lss (.t 5) (.c (.d (.int .i64 0))), none⟩, ⟨some 7, .mv (.t 6), none⟩, ⟨some 8, .fad false 2 1 (.t 2), some (7, false)⟩, ⟨some 9, .ld false 1 (.t 8), some (7, false)⟩, ⟨some 10, .ld false 1 (.t 1), some (7, false)⟩, ⟨some 11, .bin .geq (.t 9) (.t 10), some (7, false)⟩, ⟨some 12, .pick (.t 7) (.c (.d (.bool true))) (.t 11), none⟩, ⟨some 3, .mv (.t 12), none⟩] [1, 2, 4, 5, 6, 7, 8, 9, 10, 11, 12])
 (.ret [3])))
def r_directory_Validate_1 : List ARes := [.t 3]
def fn_directory_Validate_1 : AFn := .code c_directory_Validate_1 r_directory_Validate_1 13 true
/- slices.ContainsFunc[[]shardqueue/api.Span,shardqueue/api.Span] -/
def c_slices_ContainsFunc_api_Span : ACode :=
 (.seq (.ops [] [⟨some 4, .mv (.c (.d (.bool false))), none⟩] [4])
 (.seq (.ops [] [⟨some 5, .mv (.t 0), none⟩, ⟨some 6, .mv (.t 1), none⟩, ⟨some 7, .call N_slices_IndexFunc_api_Span [] [.t 5, .t 6], none⟩, ⟨some 8, .bin .geq (.t 7) (.c (.d (.int .i64 0))), none⟩, ⟨some 4, .mv (.t 8), none⟩] [0, 1, 5, 6, 7, 8])
 (.ret [4])))
def r_slices_ContainsFunc_api_Span : List ARes := [.t 4]
def fn_slices_ContainsFunc_api_Span : AFn := .code c_slices_ContainsFunc_api_Span r_slices_ContainsFunc_api_Span 9 true
/- slices.IndexFunc[[]shardqueue/api.Span,shardqueue/api.Span] -/
def l_slices_IndexFunc_api_Span_0 : ACode :=
 (.seq (.ops [] [⟨some 9, .bin .lss (.t 8) (.t 7), none⟩] [])
 (.seq (.cond (.t 9) .skip (.exit 0 []))
 (.seq (.block 1 (.seq (.ops [] [⟨some 10, .mv (.t 8), none⟩, ⟨some 5, .mv (.t 10), none⟩] [9, 10])
 (.seq (.ops [] [⟨some 11, .mv (.t 1), none⟩, ⟨some 12, .mv (.t 0), none⟩, ⟨some 13, .mv (.t 5), none⟩, ⟨some 14, .iad 3 (.t 12) (.t 13), none⟩, ⟨some 15, .ld true 3 (.t 14), none⟩, ⟨some 16, .callv (.t 11) [] [.t 15], none⟩] [11, 12, 13, 14, 15])
 (.cond (.t 16) (.seq (.ops [] [⟨some 17, .mv (.t 5), none⟩, ⟨some 4, .mv (.t 17), none⟩] [0, 1, 5, 7, 8, 16, 17])
 (.ret [4])) .skip))))
 (.ops [] [⟨some 18, .bin .add (.t 8) (.c (.d (.int .i64 1))), none⟩, ⟨some 8, .mv (.t 18), none⟩] [5, 16, 18]))))
def c_slices_IndexFunc_api_Span : ACode :=
 (.seq (.ops [] [⟨some 4, .mv (.c (.d (.int .i64 0))), none⟩] [4])
 (.seq (.seq (.ops [] [⟨some 6, .mv (.t 0), none⟩, ⟨some 7, .len (.t 6), none⟩, ⟨some 8, .mv (.c (.d (.int .i64 0))), none⟩] [6])
 (.block 0 (.loop [] l_slices_IndexFunc_api_Span_0)))
 (.seq (.ops [] [⟨some 4, .mv (.c (.d (.int .i64 (-1)))), none⟩] [0, 1, 7, 8, 9])
 (.ret [4]))))
def r_slices_IndexFunc_api_Span : List ARes := [.t 4]
def fn_slices_IndexFunc_api_Span : AFn := .code c_slices_IndexFunc_api_Span r_slices_IndexFunc_api_Span 19 true
/- shardqueue/directory.find -/
def c_directory_find : ACode :=
 (.seq (.ops [] [⟨some 3, .box (.t 1), none⟩, ⟨some 4, .mv (.c (.d (.int .i64 0))), none⟩] [1, 4])
 (.seq (.ops [] [⟨some 5, .mv (.t 0), none⟩, ⟨some 6, .mkfn N_directory_find_1 [.t 3], none⟩, ⟨some 7, .call N_slices_IndexFunc_api_Span [] [.t 5, .t 6], none⟩, ⟨some 4, .mv (.t 7), none⟩] [0, 3, 5, 6, 7])
 (.ret [4])))
def r_directory_find : List ARes := [.t 4]
def fn_directory_find : AFn := .code c_directory_find r_directory_find 8 true
/- shardqueue/directory.find$1 -/
def c_directory_find_1 : ACode :=
 (.seq (.ops [] [⟨some 2, .box (.t 0), none⟩, ⟨some 3, .mv (.c (.d (.bool false))), none⟩] [0, 3])
 (.seq (.ops [] [⟨some 4, .fad false 2 1 (.t 2), none⟩, ⟨some 5, .ld false 1 (.t 4), none⟩, ⟨some 6, .ld false 1 (.t 1), none⟩, ⟨some 7, .bin .eql (.t 5) (.t 6), none⟩, ⟨some 3, .mv (.t 7), none⟩] [1, 2, 4, 5, 6, 7])
 (.ret [3])))
def r_directory_find_1 : List ARes := [.t 3]
def fn_directory_find_1 : AFn := .code c_directory_find_1 r_directory_find_1 8 true
/- shardqueue/directory.forwards -/
def l_directory_forwards_0 : ACode :=
 (.seq (.ops [] [⟨some 12, .bin .lss (.t 11) (.t 10), none⟩] [])
 (.seq (.cond (.t 12) .skip (.exit 0 [1]))
 (.seq (.block 1 (.seq (.ops [] [⟨some 13, .mv (.t 11), none⟩, ⟨some 14, .iad 1 (.t 9) (.t 11), none⟩, ⟨some 15, .ld false 1 (.t 14), none⟩, ⟨some 3, .mv (.t 13), none⟩, ⟨some 4, .mv (.t 15), none⟩] [12, 13, 14, 15])
 (.seq (.ops [] [⟨some 16, .fad false 1 1 (.t 1), none⟩, ⟨some 17, .ld false 1 (.t 16), none⟩, ⟨some 18, .mv (.t 3), none⟩, ⟨some 19, .call N_directory_find [] [.t 17, .t 18], none⟩, ⟨some 20, .bin .geq (.t 19) (.c (.d (.int .i64 0))), none⟩, ⟨some 5, .mv (.t 20), none⟩] [3, 16, 17, 18, 19, 20])
 (.seq (.ops [] [⟨some 21, .mv (.t 5), none⟩, ⟨some 22, .mv (.t 21), none⟩, ⟨some 23, .mv (.t 4), some (22, true)⟩, ⟨some 24, .bin .neq (.t 23) (.c (.d (.int .i64 (-1)))), some (22, true)⟩, ⟨some 25, .pick (.t 22) (.t 24) (.c (.d (.bool false))), none⟩, ⟨some 26, .mv (.t 25), none⟩, ⟨some 27, .mv (.t 4), some (26, false)⟩, ⟨some 28, .bin .lss (.t 27) (.c (.d (.int .i64 (-1)))), some (26, false)⟩, ⟨some 29, .pick (.t 26) (.c (.d (.bool true))) (.t 28), none⟩, ⟨some 30, .mv (.t 29), none⟩, ⟨some 31, .mv (.t 4), some (30, false)⟩, ⟨some 32, .fad false 2 1 (.t 1), some (30, false)⟩, ⟨some 33, .ld false 1 (.t 32), some (30, false)⟩, ⟨some 34, .len (.t 33), some (30, false)⟩, ⟨some 35, .bin .geq (.t 31) (.t 34), some (30, false)⟩, ⟨some 36, .pick (.t 30) (.c (.d (.bool true))) (.t 35), none⟩] [4, 5, 21, 22, 23, 24, 25, 26, 27, 28, 29, 30, 31, 32, 33, 34, 35])
 (.cond (.t 36) (.seq (.ops [] [⟨some 2, .mv (.c (.d (.bool false))), none⟩] [1, 9, 10, 11, 36])
 (.ret [2])) .skip)))))
 (.ops [] [⟨some 37, .bin .add (.t 11) (.c (.d (.int .i64 1))), none⟩, ⟨some 11, .mv (.t 37), none⟩] [36, 37]))))
def l_directory_forwards_1 : ACode :=
 (.seq (.ops [] [⟨some 49, .bin .lss (.t 48) (.t 47), none⟩] [])
 (.seq (.cond (.t 49) .skip (.exit 4 [1, 7, 40, 41]))
 (.seq (.block 5 (.seq (.ops [] [⟨some 50, .mv (.t 7), none⟩, ⟨some 51, .bin .geq (.t 50) (.c (.d (.int .i64 0))), none⟩] [49, 50])
 (.cond (.t 51) (.ops [] [⟨some 52, .fad false 2 1 (.t 1), none⟩, ⟨some 53, .ld false 1 (.t 52), none⟩, ⟨some 54, .mv (.t 7), none⟩, ⟨some 55, .iad 1 (.t 53) (.t 54), none⟩, ⟨some 56, .ld false 1 (.t 55), none⟩, ⟨some 7, .mv (.t 56), none⟩] [51, 52, 53, 54, 55, 56]) .skip)))
 (.ops [] [⟨some 57, .bin .add (.t 48) (.c (.d (.int .i64 1))), none⟩, ⟨some 48, .mv (.t 57), none⟩] [51, 57]))))
def l_directory_forwards_2 : ACode :=
 (.seq (.ops [] [⟨some 42, .bin .lss (.t 41) (.t 40), none⟩] [])
 (.seq (.cond (.t 42) .skip (.exit 2 []))
 (.seq (.block 3 (.seq (.ops [] [⟨some 43, .mv (.t 41), none⟩, ⟨some 6, .mv (.t 43), none⟩] [42, 43])
 (.seq (.ops [] [⟨some 44, .mv (.t 6), none⟩, ⟨some 7, .mv (.t 44), none⟩] [6, 44])
 (.seq (.seq (.ops [] [⟨some 45, .fad false 2 1 (.t 1), none⟩, ⟨some 46, .ld false 1 (.t 45), none⟩, ⟨some 47, .len (.t 46), none⟩, ⟨some 48, .mv (.c (.d (.int .i64 0))), none⟩] [45, 46])
 (.block 4 (.loop [] l_directory_forwards_1)))
 (.seq (.ops [] [⟨some 58, .mv (.t 7), none⟩, ⟨some 59, .bin .geq (.t 58) (.c (.d (.int .i64 0))), none⟩] [7, 47, 48, 49, 58])
 (.cond (.t 59) (.seq (.ops [] [⟨some 2, .mv (.c (.d (.bool false))), none⟩] [1, 40, 41, 59])
 (.ret [2])) .skip))))))
 (.ops [] [⟨some 60, .bin .add (.t 41) (.c (.d (.int .i64 1))), none⟩, ⟨some 41, .mv (.t 60), none⟩] [59, 60]))))
def c_directory_forwards : ACode :=
 (.seq (.ops [] [⟨some 1, .box (.t 0), none⟩, ⟨some 2, .mv (.c (.d (.bool false))), none⟩] [0, 2])
 (.seq (.seq (.ops [] [⟨some 8, .fad false 2 1 (.t 1), none⟩, ⟨some 9, .ld false 1 (.t 8), none⟩, ⟨some 10, .len (.t 9), none⟩, ⟨some 11, .mv (.c (.d (.int .i64 0))), none⟩] [8])
 (.block 0 (.loop [] l_directory_forwards_0)))
 (.seq (.seq (.ops [] [⟨some 38, .fad false 2 1 (.t 1), none⟩, ⟨some 39, .ld false 1 (.t 38), none⟩, ⟨some 40, .len (.t 39), none⟩, ⟨some 41, .mv (.c (.d (.int .i64 0))), none⟩] [9, 10, 11, 12, 38, 39])
 (.block 2 (.loop [] l_directory_forwards_2)))
 (.seq (.ops [] [⟨some 2, .mv (.c (.d (.bool true))), none⟩] [1, 40, 41, 42])
 (.ret [2])))))
def r_directory_forwards : List ARes := [.t 2]
def fn_directory_forwards : AFn := .code c_directory_forwards r_directory_forwards 61 true
/- shardqueue/shard.New -/
def c_shard_New : ACode :=
 (.seq (.ops [] [⟨some 6, .alloc (.agg [.d (.bool false), .d (.int .i64 0), .d (.int .i64 0), .xsl [], .d (.int .i64 0), .d (.int .i64 0), .xsl [], .xsl []]), none⟩, ⟨some 7, .mv (.c (.d (.int .i64 0))), none⟩] [7])
 (.seq (.ops [] [⟨some 11, .mv (.t 0), none⟩, ⟨some 12, .call N_ring_New [] [.t 11], none⟩, ⟨some 10, .mv (.t 12), none⟩, ⟨some 13, .ext (.t 10) 0, none⟩, ⟨some 14, .ext (.t 10) 1, none⟩, ⟨some 8, .alloc (.agg [.xsl [], .d (.int .i64 0), .d (.int .i64 0)]), none⟩, ⟨none, .st 3 (.t 8) (.t 13), none⟩, ⟨some 9, .mv (.t 14), none⟩] [0, 10, 11, 12, 13, 14])
 (.seq (.seq (.ops [] [⟨some 15, .mv (.t 9), none⟩, ⟨some 16, .bin .neq (.t 15) (.c (.d (.int .i64 0))), none⟩] [15])
 (.cond (.t 16) (.seq (.ops [] [⟨some 17, .build [.d (.bool false), .d (.int .i64 0), .d (.int .i64 0), .xsl [], .d (.int .i64 0), .d (.int .i64 0), .xsl [], .xsl []] [], none⟩, ⟨some 18, .mv (.t 9), none⟩, ⟨none, .st 8 (.t 6) (.t 17), none⟩, ⟨some 7, .mv (.t 18), none⟩] [1, 2, 8, 9, 16, 17, 18])
 (.ret [6, 7])) .skip))
 (.seq (.seq (.ops [] [⟨some 19, .mv (.t 1), none⟩, ⟨some 20, .mv (.t 2), none⟩, ⟨some 21, .call N_shard_spans [] [.t 19, .t 20], none⟩, ⟨some 22, .un .not (.t 21), none⟩] [9, 16, 19, 20, 21])
 (.cond (.t 22) (.seq (.ops [] [⟨some 23, .build [.d (.bool false), .d (.int .i64 0), .d (.int .i64 0), .xsl [], .d (.int .i64 0), .d (.int .i64 0), .xsl [], .xsl []] [], none⟩, ⟨none, .st 8 (.t 6) (.t 23), none⟩, ⟨some 7, .mv (.c (.d (.int .i64 1))), none⟩] [1, 2, 8, 22, 23])
 (.ret [6, 7])) .skip))
 (.seq (.ops [] [⟨some 24, .mv (.t 1), none⟩, ⟨some 25, .mv (.t 2), none⟩, ⟨some 26, .ld true 3 (.t 8), none⟩, ⟨some 27, .build [.d (.bool false), .d (.int .i64 0), .d (.int .i64 0), .xsl [], .d (.int .i64 0), .d (.int .i64 0), .xsl [], .xsl []] [(0, (1, .c (.d (.bool true)))), (1, (1, .t 24)), (2, (1, .t 25)), (3, (3, .t 26))], none⟩, ⟨none, .st 8 (.t 6) (.t 27), none⟩, ⟨some 7, .mv (.c (.d (.int .i64 0))), none⟩] [1, 2, 8, 22, 24, 25, 26, 27])
 (.ret [6, 7]))))))
def r_shard_New : List ARes := [.c 6 true 8, .t 7]
def fn_shard_New : AFn := .code c_shard_New r_shard_New 28 true
/- shardqueue/shard.spans -/
def c_shard_spans : ACode :=
 (.seq (.ops [] [⟨some 4, .mv (.c (.d (.bool false))), none⟩] [4])
 (.seq (.ops [] [⟨some 5, .mv (.t 0), none⟩, ⟨some 6, .bin .leq (.c (.d (.int .i64 0))) (.t 5), none⟩, ⟨some 7, .mv (.t 6), none⟩, ⟨some 8, .mv (.t 0), some (7, true)⟩, ⟨some 9, .mv (.t 1), some (7, true)⟩, ⟨some 10, .bin .leq (.t 8) (.t 9), some (7, true)⟩, ⟨some 11, .pick (.t 7) (.t 10) (.c (.d (.bool false))), none⟩, ⟨some 12, .mv (.t 11), none⟩, ⟨some 13, .mv (.t 1), some (12, true)⟩, ⟨some 14, .bin .lss (.t 13) (.c (.d (.int .i64 65536))), some (12, true)⟩, ⟨some 15, .pick (.t 12) (.t 14) (.c (.d (.bool false))), none⟩, ⟨some 4, .mv (.t 15), none⟩] [0, 1, 5, 6, 7, 8, 9, 10, 11, 12, 13, 14, 15])
 (.ret [4])))
def r_shard_spans : List ARes := [.t 4]
def fn_shard_spans : AFn := .code c_shard_spans r_shard_spans 16 true
/- shardqueue/snapshot.New -/
def c_snapshot_New : ACode :=
 (.seq (.ops [] [⟨some 0, .alloc (.d (.agg [.int .i64 0, .int .i64 0, .int .i64 0, .int .i64 0])), none⟩] [])
 (.seq (.ops [] [⟨some 1, .build [.d (.int .i64 0), .d (.int .i64 0), .d (.int .i64 0), .d (.int .i64 0)] [], none⟩, ⟨none, .st 4 (.t 0) (.t 1), none⟩] [1])
 (.ret [0])))
def r_snapshot_New : List ARes := [.c 0 true 4]
def fn_snapshot_New : AFn := .code c_snapshot_New r_snapshot_New 2 true
/- shardqueue/snapshot.Step -/
def c_snapshot_Step : ACode :=
 (.seq (.ops [] [⟨some 3, .box (.t 0), none⟩, ⟨some 4, .box (.t 1), none⟩, ⟨some 6, .alloc (.d (.agg [.int .i64 0, .int .i64 0, .int .i64 0, .int .i64 0])), none⟩, ⟨some 7, .mv (.c (.d (.int .i64 0))), none⟩] [0, 1, 7])
 (.seq (.ops [] [⟨some 8, .mv (.c (.d (.int .i64 0))), none⟩] [8])
 (.seq (.seq (.ops [] [⟨some 10, .fad false 0 1 (.t 4), none⟩, ⟨some 11, .ld false 1 (.t 10), none⟩] [10])
 (.block 0 (.seq (.ops [] [⟨some 14, .bin .eql (.t 11) (.c (.d (.int .i64 0))), none⟩, ⟨some 13, .mv (.t 14), none⟩] [14])
 (.cond (.t 13) (.seq (.ops [] [⟨some 16, .ld true 11 (.t 3), none⟩, ⟨some 17, .call N_arena_Load [] [.t 16, .c (.d (.int .i64 1))], none⟩, ⟨some 15, .mv (.t 17), none⟩, ⟨some 18, .ext (.t 15) 0, none⟩, ⟨some 19, .ext (.t 15) 1, none⟩, ⟨some 20, .fad false 1 1 (.t 4), none⟩, ⟨none, .st 1 (.t 20) (.t 18), none⟩, ⟨some 8, .mv (.t 19), none⟩] [2, 3, 11, 13, 15, 16, 17, 18, 19, 20])
 (.ops [] [⟨some 21, .fad false 0 1 (.t 4), none⟩, ⟨none, .st 1 (.t 21) (.c (.d (.int .i64 1))), none⟩] [21])) (.seq (.ops [] [⟨some 23, .bin .eql (.t 11) (.c (.d (.int .i64 1))), none⟩, ⟨some 22, .mv (.t 23), none⟩] [13, 23])
 (.cond (.t 22) (.seq (.ops [] [⟨some 25, .ld true 11 (.t 3), none⟩, ⟨some 26, .call N_arena_Load [] [.t 25, .c (.d (.int .i64 2))], none⟩, ⟨some 24, .mv (.t 26), none⟩, ⟨some 27, .ext (.t 24) 0, none⟩, ⟨some 28, .ext (.t 24) 1, none⟩, ⟨some 29, .fad false 2 1 (.t 4), none⟩, ⟨none, .st 1 (.t 29) (.t 27), none⟩, ⟨some 8, .mv (.t 28), none⟩] [3, 11, 22, 24, 25, 26, 27, 28, 29])
 (.ops [] [⟨some 30, .mv (.t 2), none⟩, ⟨some 31, .fad false 3 1 (.t 4), none⟩, ⟨none, .st 1 (.t 31) (.t 30), none⟩, ⟨some 32, .fad false 0 1 (.t 4), none⟩, ⟨none, .st 1 (.t 32) (.c (.d (.int .i64 2))), none⟩] [2, 30, 31, 32])) (.seq (.ops [] [⟨some 34, .bin .eql (.t 11) (.c (.d (.int .i64 2))), none⟩, ⟨some 33, .mv (.t 34), none⟩] [2, 22, 34])
 (.cond (.t 33) (.seq (.ops [] [⟨some 9, .mv (.c (.d (.int .i64 0))), none⟩] [9, 11, 33])
 (.seq (.ops [] [⟨some 36, .ld true 11 (.t 3), none⟩, ⟨some 37, .call N_arena_Load [] [.t 36, .c (.d (.int .i64 1))], none⟩, ⟨some 35, .mv (.t 37), none⟩, ⟨some 38, .ext (.t 35) 0, none⟩, ⟨some 39, .ext (.t 35) 1, none⟩, ⟨some 9, .mv (.t 38), none⟩, ⟨some 8, .mv (.t 39), none⟩] [3, 35, 36, 37, 38, 39])
 (.seq (.ops [] [⟨some 40, .fad false 0 1 (.t 4), none⟩, ⟨none, .st 1 (.t 40) (.c (.d (.int .i64 3))), none⟩] [40])
 (.seq (.ops [] [⟨some 41, .mv (.t 9), none⟩, ⟨some 42, .fad false 1 1 (.t 4), none⟩, ⟨some 43, .ld false 1 (.t 42), none⟩, ⟨some 44, .bin .neq (.t 41) (.t 43), none⟩] [41, 42, 43])
 (.cond (.t 44) (.ops [] [⟨some 45, .mv (.t 9), none⟩, ⟨some 46, .fad false 1 1 (.t 4), none⟩, ⟨none, .st 1 (.t 46) (.t 45), none⟩, ⟨some 47, .fad false 0 1 (.t 4), none⟩, ⟨none, .st 1 (.t 47) (.c (.d (.int .i64 1))), none⟩] [9, 44, 45, 46, 47]) .skip))))) (.seq (.ops [] [⟨some 49, .bin .eql (.t 11) (.c (.d (.int .i64 3))), none⟩, ⟨some 48, .mv (.t 49), none⟩] [3, 4, 11, 33, 49])
 (.cond (.t 48) (.seq (.ops [] [⟨some 50, .build [.d (.int .i64 0), .d (.int .i64 0), .d (.int .i64 0), .d (.int .i64 0)] [], none⟩, ⟨none, .st 4 (.t 6) (.t 50), none⟩, ⟨some 7, .mv (.c (.d (.int .i64 7))), none⟩] [48, 50])
 (.ret [6, 7])) (.seq (.ops [] [⟨some 12, .build [.d (.int .i64 0), .d (.int .i64 0), .d (.int .i64 0), .d (.int .i64 0)] [], none⟩, ⟨none, .st 4 (.t 6) (.t 12), none⟩, ⟨some 7, .mv (.c (.d (.int .i64 1))), none⟩] [12, 48])
 (.ret [6, 7]))))))))))))
 (.seq (.seq (.ops [] [⟨some 51, .mv (.t 8), none⟩, ⟨some 52, .bin .neq (.t 51) (.c (.d (.int .i64 0))), none⟩] [9, 44, 51])
 (.cond (.t 52) (.seq (.ops [] [⟨some 53, .build [.d (.int .i64 0), .d (.int .i64 0), .d (.int .i64 0), .d (.int .i64 0)] [], none⟩, ⟨some 54, .mv (.t 8), none⟩, ⟨none, .st 4 (.t 6) (.t 53), none⟩, ⟨some 7, .mv (.t 54), none⟩] [4, 8, 52, 53, 54])
 (.ret [6, 7])) .skip))
 (.seq (.ops [] [⟨some 55, .ld true 4 (.t 4), none⟩, ⟨none, .st 4 (.t 6) (.t 55), none⟩, ⟨some 7, .mv (.c (.d (.int .i64 0))), none⟩] [4, 8, 52, 55])
 (.ret [6, 7]))))))
def r_snapshot_Step : List ARes := [.c 6 true 4, .t 7]
def fn_snapshot_Step : AFn := .code c_snapshot_Step r_snapshot_Step 56 true
/- shardqueue/arena.Load -/
def c_arena_Load : ACode :=
 (.seq (.ops [] [⟨some 2, .box (.t 0), none⟩, ⟨some 4, .mv (.c (.d (.int .i64 0))), none⟩, ⟨some 5, .mv (.c (.d (.int .i64 0))), none⟩] [0, 4, 5])
 (.seq (.seq (.ops [] [⟨some 6, .mv (.t 1), none⟩] [1])
 (.block 0 (.seq (.ops [] [⟨some 8, .bin .eql (.t 6) (.c (.d (.int .i64 1))), none⟩, ⟨some 7, .mv (.t 8), none⟩] [8])
 (.cond (.t 7) (.seq (.ops [] [⟨some 9, .fad false 8 1 (.t 2), none⟩, ⟨some 10, .ld false 1 (.t 9), none⟩, ⟨some 4, .mv (.t 10), none⟩, ⟨some 5, .mv (.c (.d (.int .i64 0))), none⟩] [2, 6, 7, 9, 10])
 (.ret [4, 5])) (.seq (.ops [] [⟨some 12, .bin .eql (.t 6) (.c (.d (.int .i64 2))), none⟩, ⟨some 11, .mv (.t 12), none⟩] [7, 12])
 (.cond (.t 11) (.seq (.ops [] [⟨some 13, .fad false 9 1 (.t 2), none⟩, ⟨some 14, .ld false 1 (.t 13), none⟩, ⟨some 4, .mv (.t 14), none⟩, ⟨some 5, .mv (.c (.d (.int .i64 0))), none⟩] [2, 6, 11, 13, 14])
 (.ret [4, 5])) (.seq (.ops [] [⟨some 16, .bin .eql (.t 6) (.c (.d (.int .i64 3))), none⟩, ⟨some 15, .mv (.t 16), none⟩] [6, 11, 16])
 (.cond (.t 15) (.seq (.ops [] [⟨some 17, .fad false 10 1 (.t 2), none⟩, ⟨some 18, .ld false 1 (.t 17), none⟩, ⟨some 4, .mv (.t 18), none⟩, ⟨some 5, .mv (.c (.d (.int .i64 0))), none⟩] [2, 15, 17, 18])
 (.ret [4, 5])) .skip))))))))
 (.seq (.ops [] [⟨some 4, .mv (.c (.d (.int .i64 0))), none⟩, ⟨some 5, .mv (.c (.d (.int .i64 9))), none⟩] [2, 15])
 (.ret [4, 5]))))
def r_arena_Load : List ARes := [.t 4, .t 5]
def fn_arena_Load : AFn := .code c_arena_Load r_arena_Load 19 true
/- shardqueue/shardqueueref12.Owner -/
def c_ref12_Owner : ACode :=
 (.seq (.ops [] [⟨some 2, .box (.t 0), none⟩, ⟨some 4, .mv (.c (.d (.int .i64 0))), none⟩] [0, 4])
 (.seq (.seq (.ops [] [⟨some 5, .mv (.t 1), none⟩, ⟨some 6, .fad false 0 1 (.t 2), none⟩, ⟨some 7, .ld false 1 (.t 6), none⟩, ⟨some 8, .len (.t 7), none⟩, ⟨some 9, .bin .eql (.t 5) (.t 8), none⟩] [5, 6, 7, 8])
 (.cond (.t 9) (.seq (.ops [] [⟨some 10, .fad true 2 3 (.t 2), none⟩, ⟨some 11, .fad false 0 1 (.t 10), none⟩, ⟨some 12, .ld false 1 (.t 11), none⟩, ⟨some 4, .mv (.t 12), none⟩] [1, 2, 9, 10, 11, 12])
 (.ret [4])) .skip))
 (.seq (.ops [] [⟨some 13, .fad false 0 1 (.t 2), none⟩, ⟨some 14, .ld false 1 (.t 13), none⟩, ⟨some 15, .mv (.t 1), none⟩, ⟨some 16, .iad 9 (.t 14) (.t 15), none⟩, ⟨some 17, .fad false 0 1 (.t 16), none⟩, ⟨some 18, .ld false 1 (.t 17), none⟩, ⟨some 4, .mv (.t 18), none⟩] [1, 2, 9, 13, 14, 15, 16, 17, 18])
 (.ret [4]))))
def r_ref12_Owner : List ARes := [.t 4]
def fn_ref12_Owner : AFn := .code c_ref12_Owner r_ref12_Owner 19 true
/- shardqueue/shardqueuelaw14.awake -/
def c_law14_awake : ACode :=
 (.seq (.ops [] [⟨some 0, .mv (.c (.d (.bool false))), none⟩] [0])
 (.seq (.ops [] [⟨some 8, .build [.d (.int .i64 0), .d (.int .i64 0), .d (.int .i64 0), .d (.int .i64 0), .d (.int .i64 0), .d (.int .i64 0), .d (.int .i64 0), .d (.int .i64 0)] [(0, (1, .c (.d (.int .i64 1)))), (1, (1, .c (.d (.int .i64 1)))), (2, (1, .c (.d (.int .i64 1)))), (3, (1, .c (.d (.int .i64 1)))), (4, (1, .c (.d (.int .i64 1)))), (6, (1, .c (.d (.int .i64 1)))), (5, (1, .c (.d (.int .i64 9)))), (7, (1, .c (.d (.int .i64 2))))], none⟩, ⟨some 9, .call N_arena_New [] [.t 8], none⟩, ⟨some 7, .mv (.t 9), none⟩, ⟨some 10, .ext (.t 7) 0, none⟩, ⟨some 11, .ext (.t 7) 1, none⟩, ⟨some 1, .alloc (.agg [.xsl [], .xsl [], .d (.int .i64 0), .d (.int .i64 0), .xsl [], .d (.int .i64 0), .xsl [], .xsl [], .d (.int .i64 0), .d (.int .i64 0), .d (.int .i64 0)]), none⟩, ⟨none, .st 11 (.t 1) (.t 10), none⟩, ⟨some 2, .mv (.t 11), none⟩] [7, 8, 9, 10, 11])
 (.seq (.draw [] [⟨some 13, .ld true 11 (.t 1), none⟩, ⟨some 14, .call N_snapshot_New [] [], none⟩, ⟨some 15, .call N_snapshot_Step [] [.t 13, .t 14, .c (.d (.int .i64 1))], none⟩, ⟨some 12, .mv (.t 15), none⟩, ⟨some 16, .ext (.t 12) 0, none⟩, ⟨some 17, .ext (.t 12) 1, none⟩, ⟨some 3, .alloc (.d (.agg [.int .i64 0, .int .i64 0, .int .i64 0, .int .i64 0])), none⟩, ⟨none, .st 4 (.t 3) (.t 16), none⟩, ⟨some 4, .mv (.t 17), none⟩] [[], [0], [], [], [], [4], [0, 1, 2, 3, 4, 5], [5], []] [12, 13, 14, 15, 16, 17])
 (.seq (.ops [] [⟨some 19, .ld true 11 (.t 1), none⟩, ⟨some 20, .ld true 4 (.t 3), none⟩, ⟨some 21, .call N_snapshot_Step [] [.t 19, .t 20, .c (.d (.int .i64 2))], none⟩, ⟨some 18, .mv (.t 21), none⟩, ⟨some 22, .ext (.t 18) 0, none⟩, ⟨some 23, .ext (.t 18) 1, none⟩, ⟨none, .st 4 (.t 3) (.t 22), none⟩, ⟨some 5, .mv (.t 23), none⟩] [18, 19, 20, 21, 22, 23])
 (.seq (.ops [] [⟨some 25, .ld true 11 (.t 1), none⟩, ⟨some 26, .ld true 4 (.t 3), none⟩, ⟨some 27, .call N_snapshot_Step [] [.t 25, .t 26, .c (.d (.int .i64 3))], none⟩, ⟨some 24, .mv (.t 27), none⟩, ⟨some 28, .ext (.t 24) 0, none⟩, ⟨some 29, .ext (.t 24) 1, none⟩, ⟨none, .st 4 (.t 3) (.t 28), none⟩, ⟨some 6, .mv (.t 29), none⟩] [1, 24, 25, 26, 27, 28, 29])
 (.seq (.ops [] [⟨some 30, .mv (.t 2), none⟩, ⟨some 31, .bin .eql (.t 30) (.c (.d (.int .i64 0))), none⟩, ⟨some 32, .mv (.t 31), none⟩, ⟨some 33, .mv (.t 4), some (32, true)⟩, ⟨some 34, .bin .eql (.t 33) (.c (.d (.int .i64 0))), some (32, true)⟩, ⟨some 35, .pick (.t 32) (.t 34) (.c (.d (.bool false))), none⟩, ⟨some 36, .mv (.t 35), none⟩, ⟨some 37, .mv (.t 5), some (36, true)⟩, ⟨some 38, .bin .eql (.t 37) (.c (.d (.int .i64 0))), some (36, true)⟩, ⟨some 39, .pick (.t 36) (.t 38) (.c (.d (.bool false))), none⟩, ⟨some 40, .mv (.t 39), none⟩, ⟨some 41, .mv (.t 6), some (40, true)⟩, ⟨some 42, .bin .eql (.t 41) (.c (.d (.int .i64 0))), some (40, true)⟩, ⟨some 43, .pick (.t 40) (.t 42) (.c (.d (.bool false))), none⟩, ⟨some 44, .mv (.t 43), none⟩, ⟨some 45, .ld true 4 (.t 3), some (44, true)⟩, ⟨some 46, .build [.d (.int .i64 0), .d (.int .i64 0), .d (.int .i64 0), .d (.int .i64 0)] [(0, (1, .c (.d (.int .i64 3)))), (1, (1, .c (.d (.int .i64 2)))), (2, (1, .c (.d (.int .i64 9)))), (3, (1, .c (.d (.int .i64 2))))], some (44, true)⟩, ⟨some 47, .eqs false 4 [(0, 0), (1, 0), (2, 0), (3, 0)] (.t 45) (.t 46), some (44, true)⟩, ⟨some 48, .pick (.t 44) (.t 47) (.c (.d (.bool false))), none⟩, ⟨some 0, .mv (.t 48), none⟩] [2, 3, 4, 5, 6, 30, 31, 32, 33, 34, 35, 36, 37, 38, 39, 40, 41, 42, 43, 44, 45, 46, 47, 48])
 (.ret [0])))))))
def r_law14_awake : List ARes := [.t 0]
def fn_law14_awake : AFn := .code c_law14_awake r_law14_awake 49 true
/- shardqueue/shardqueuelaw17.BatchEntries -/
def l_law17_BatchEntries_0 : ACode :=
 (.seq (.seq (.ops [] [⟨some 16, .mv (.t 5), none⟩, ⟨some 17, .bin .gtr (.t 16) (.c (.d (.int .i64 0))), none⟩] [16])
 (.cond (.t 17) .skip (.exit 0 [3, 4])))
 (.seq (.block 1 (.draw [] [⟨some 20, .fad false 6 1 (.t 4), none⟩, ⟨some 21, .ld false 1 (.t 20), none⟩, ⟨some 22, .mv (.t 3), none⟩, ⟨some 23, .call N_base_Src_Body [true] [.t 22], none⟩, ⟨some 24, .bsl 1 1 (.d (.str [])) [(0, .t 23)], none⟩, ⟨some 25, .app 1 (.t 21) (.t 24), none⟩, ⟨some 26, .fad false 6 1 (.t 4), none⟩, ⟨none, .st 1 (.t 26) (.t 25), none⟩] [[], [], [0, 1], [0, 1], [0, 1], [], [], []] [17, 20, 21, 22, 23, 24, 25, 26]))
 (.ops [4000025] [⟨some 18, .mv (.t 5), none⟩, ⟨some 19, .bin .sub (.t 18) (.c (.d (.int .i64 1))), none⟩, ⟨some 5, .mv (.t 19), none⟩] [18, 19])))
def l_law17_BatchEntries_1 : ACode :=
 (.seq (.seq (.ops [] [⟨some 47, .mv (.t 9), none⟩, ⟨some 48, .mv (.t 8), none⟩, ⟨some 49, .bin .leq (.t 47) (.t 48), none⟩] [47, 48])
 (.cond (.t 49) .skip (.exit 2 [])))
 (.seq (.block 3 (.seq (.seq (.ops [] [⟨some 52, .fad false 10 1 (.t 6), none⟩, ⟨some 53, .ld false 1 (.t 52), none⟩] [49, 52])
 (.cond (.t 53) (.seq (.ops [] [⟨some 2, .mv (.c (.d (.bool false))), none⟩] [3, 4, 6, 8, 9, 53])
 (.ret [2])) .skip))
 (.seq (.ops [] [⟨some 54, .fad false 12 1 (.t 6), none⟩, ⟨none, .st 1 (.t 54) (.c (.d (.int .i64 5))), none⟩, ⟨some 55, .fad false 60 1 (.t 6), none⟩, ⟨none, .st 1 (.t 55) (.c (.d (.int .i64 6))), none⟩, ⟨some 56, .fad false 55 1 (.t 6), none⟩, ⟨none, .st 1 (.t 56) (.c (.d (.int .i64 7))), none⟩, ⟨some 57, .fad false 54 1 (.t 6), none⟩, ⟨none, .st 1 (.t 57) (.c (.d (.int .i64 8))), none⟩] [53, 54, 55, 56, 57])
 (.seq (.ops [] [⟨some 58, .mv (.t 9), none⟩, ⟨some 59, .mv (.t 3), none⟩, ⟨some 60, .call N_base_Src_N [true, false] [.t 59, .c (.d (.int .i64 5))], none⟩, ⟨some 61, .build [.d (.int .i64 0), .d (.int .i64 0), .xsl [], .xsl [], .d (.int .i64 0), .d (.int .i64 0), .d (.int .i64 0)] [(1, (1, .t 58)), (6, (1, .t 60))], none⟩, ⟨some 10, .alloc (.agg [.d (.int .i64 0), .d (.int .i64 0), .xsl [], .xsl [], .d (.int .i64 0), .d (.int .i64 0), .d (.int .i64 0)]), none⟩, ⟨none, .st 7 (.t 10) (.t 61), none⟩] [58, 59, 60, 61])
 (.seq (.ops [] [⟨some 62, .ld true 63 (.t 6), none⟩, ⟨some 63, .ld true 7 (.t 10), none⟩, ⟨some 64, .mv (.t 9), none⟩, ⟨some 65, .bin .mul (.c (.d (.int .i64 10))) (.t 64), none⟩, ⟨some 66, .call N_batch_Next [] [.t 62, .t 63, .t 65], none⟩, ⟨none, .st 63 (.t 6) (.t 66), none⟩] [10, 62, 63, 64, 65, 66])
 (.seq (.ops [] [⟨some 67, .fad false 14 1 (.t 6), none⟩, ⟨some 68, .ld false 1 (.t 67), none⟩, ⟨some 69, .len (.t 68), none⟩, ⟨some 70, .mv (.t 9), none⟩, ⟨some 71, .bin .neq (.t 69) (.t 70), none⟩, ⟨some 72, .mv (.t 71), none⟩, ⟨some 73, .fad false 13 1 (.t 6), some (72, false)⟩, ⟨some 74, .ld false 1 (.t 73), some (72, false)⟩, ⟨some 75, .mv (.t 9), some (72, false)⟩, ⟨some 76, .bin .neq (.t 74) (.t 75), some (72, false)⟩, ⟨some 77, .pick (.t 72) (.c (.d (.bool true))) (.t 76), none⟩, ⟨some 78, .mv (.t 77), none⟩, ⟨some 79, .fad false 10 1 (.t 6), some (78, false)⟩, ⟨some 80, .ld false 1 (.t 79), some (78, false)⟩, ⟨some 81, .mv (.t 9), some (78, false)⟩, ⟨some 82, .mv (.t 8), some (78, false)⟩, ⟨some 83, .bin .eql (.t 81) (.t 82), some (78, false)⟩, ⟨some 84, .eqb true (.t 80) (.t 83), some (78, false)⟩, ⟨some 85, .pick (.t 78) (.c (.d (.bool true))) (.t 84), none⟩, ⟨some 86, .mv (.t 85), none⟩, ⟨some 87, .fad false 10 1 (.t 6), some (86, false)⟩, ⟨some 88, .ld false 1 (.t 87), some (86, false)⟩, ⟨some 89, .mv (.t 88), some (86, false)⟩, ⟨some 90, .fad false 11 1 (.t 6), some (89, true)⟩, ⟨some 91, .ld false 1 (.t 90), some (89, true)⟩, ⟨some 92, .mv (.t 9), some (89, true)⟩, ⟨some 93, .bin .mul (.c (.d (.int .i64 10))) (.t 92), some (89, true)⟩, ⟨some 94, .bin .neq (.t 91) (.t 93), some (89, true)⟩, ⟨some 95, .pick (.t 89) (.t 94) (.c (.d (.bool false))), some (86, false)⟩, ⟨some 96, .pick (.t 86) (.c (.d (.bool true))) (.t 95), none⟩, ⟨some 97, .mv (.t 96), none⟩, ⟨some 98, .fad false 12 1 (.t 6), some (97, false)⟩, ⟨some 99, .ld false 1 (.t 98), some (97, false)⟩, ⟨some 100, .bin .neq (.t 99) (.c (.d (.int .i64 0))), some (97, false)⟩, ⟨some 101, .pick (.t 97) (.c (.d (.bool true))) (.t 100), none⟩, ⟨some 102, .mv (.t 101), none⟩, ⟨some 103, .fad false 60 1 (.t 6), some (102, false)⟩, ⟨some 104, .ld false 1 (.t 103), some (102, false)⟩, ⟨some 105, .bin .neq (.t 104) (.c (.d (.int .i64 0))), some (102, false)⟩, ⟨some 106, .pick (.t 102) (.c (.d (.bool true))) (.t 105), none⟩, ⟨some 107, .mv (.t 106), none⟩, ⟨some 108, .fad false 55 1 (.t 6), some (107, false)⟩, ⟨some 109, .ld false 1 (.t 108), some (107, false)⟩, ⟨some 110, .bin .neq (.t 109) (.c (.d (.int .i64 0))), some (107, false)⟩, ⟨some 111, .pick (.t 107) (.c (.d (.bool true))) (.t 110), none⟩, ⟨some 112, .mv (.t 111), none⟩, ⟨some 113, .fad false 54 1 (.t 6), some (112, false)⟩, ⟨some 114, .ld false 1 (.t 113), some (112, false)⟩, ⟨some 115, .bin .neq (.t 114) (.c (.d (.int .i64 0))), some (112, false)⟩, ⟨some 116, .pick (.t 112) (.c (.d (.bool true))) (.t 115), none⟩, ⟨some 117, .mv (.t 116), none⟩, ⟨some 118, .fad false 0 1 (.t 6), some (117, false)⟩, ⟨some 119, .ld false 1 (.t 118), some (117, false)⟩, ⟨some 120, .bin .neq (.t 119) (.c (.d (.int .i64 3))), some (117, false)⟩, ⟨some 121, .pick (.t 117) (.c (.d (.bool true))) (.t 120), none⟩, ⟨some 122, .mv (.t 121), none⟩, ⟨some 123, .fad false 9 1 (.t 6), some (122, false)⟩, ⟨some 124, .ld false 1 (.t 123), some (122, false)⟩, ⟨some 125, .bin .neq (.t 124) (.c (.d (.int .i64 7))), some (122, false)⟩, ⟨some 126, .pick (.t 122) (.c (.d (.bool true))) (.t 125), none⟩, ⟨some 127, .mv (.t 126), none⟩, ⟨some 128, .fad false 14 1 (.t 6), some (127, false)⟩, ⟨some 129, .ld false 1 (.t 128), some (127, false)⟩, ⟨some 130, .mv (.t 9), some (127, false)⟩, ⟨some 131, .bin .sub (.t 130) (.c (.d (.int .i64 1))), some (127, false)⟩, ⟨some 132, .iad 7 (.t 129) (.t 131), some (127, false)⟩, ⟨some 133, .fad false 1 1 (.t 132), some (127, false)⟩, ⟨some 134, .ld false 1 (.t 133), some (127, false)⟩, ⟨some 135, .mv (.t 9), some (127, false)⟩, ⟨some 136, .bin .neq (.t 134) (.t 135), some (127, false)⟩, ⟨some 137, .pick (.t 127) (.c (.d (.bool true))) (.t 136), none⟩, ⟨some 138, .mv (.t 137), none⟩, ⟨some 139, .fad true 1 8 (.t 6), some (138, false)⟩, ⟨some 140, .ld true 8 (.t 139), some (138, false)⟩, ⟨some 141, .ld true 8 (.t 4), some (138, false)⟩, ⟨some 142, .call N_ref17_SameInvocation [] [.t 140, .t 141], some (138, false)⟩, ⟨some 143, .un .not (.t 142), some (138, false)⟩, ⟨some 144, .pick (.t 138) (.c (.d (.bool true))) (.t 143), none⟩] [67, 68, 69, 70, 71, 72, 73, 74, 75, 76, 77, 78, 79, 80, 81, 82, 83, 84, 85, 86, 87, 88, 89, 90, 91, 92, 93, 94, 95, 96, 97, 98, 99, 100, 101, 102, 103, 104, 105, 106, 107, 108, 109, 110, 111, 112, 113, 114, 115, 116, 117, 118, 119, 120, 121, 122, 123, 124, 125, 126, 127, 128, 129, 130, 131, 132, 133, 134, 135, 136, 137, 138, 139, 140, 141, 142, 143])
 (.cond (.t 144) (.seq (.ops [] [⟨some 2, .mv (.c (.d (.bool false))), none⟩] [3, 4, 6, 8, 9, 144])
 (.ret [2])) .skip)))))))
 (.ops [] [⟨some 50, .mv (.t 9), none⟩, ⟨some 51, .bin .add (.t 50) (.c (.d (.int .i64 1))), none⟩, ⟨some 9, .mv (.t 51), none⟩] [50, 51, 144])))
def c_law17_BatchEntries : ACode :=
 (.seq (.ops [] [⟨some 2, .mv (.c (.d (.bool false))), none⟩] [2])
 (.seq (.ops [] [⟨some 11, .mv (.t 0), none⟩, ⟨some 12, .call N_base_New [] [.t 11], none⟩, ⟨some 3, .mv (.t 12), none⟩] [0, 11, 12])
 (.seq (.ops [] [⟨some 13, .build [.d (.int .i64 0), .d (.int .i64 0), .d (.int .i64 0), .d (.int .i64 0), .d (.int .i64 0), .d (.int .i64 0), .xsl [], .xsl []] [(0, (1, .c (.d (.int .i64 1))))], none⟩, ⟨some 4, .alloc (.agg [.d (.int .i64 0), .d (.int .i64 0), .d (.int .i64 0), .d (.int .i64 0), .d (.int .i64 0), .d (.int .i64 0), .xsl [], .xsl []]), none⟩, ⟨none, .st 8 (.t 4) (.t 13), none⟩] [13])
 (.seq (.seq (.ops [] [⟨some 14, .mv (.t 3), none⟩, ⟨some 15, .call N_base_Src_Range [true, false, false] [.t 14, .c (.d (.int .i64 1)), .c (.d (.int .i64 6))], none⟩, ⟨some 5, .mv (.t 15), none⟩] [14, 15])
 (.block 0 (.loop [] l_law17_BatchEntries_0)))
 (.seq (.seq (.ops [] [⟨some 27, .mv (.t 3), none⟩, ⟨some 28, .call N_base_Src_N [true, false] [.t 27, .c (.d (.int .i64 2))], none⟩, ⟨some 29, .bin .eql (.t 28) (.c (.d (.int .i64 0))), none⟩] [5, 17, 27, 28])
 (.cond (.t 29) (.ops [] [⟨some 30, .mv (.t 3), none⟩, ⟨some 31, .call N_base_Src_Range [true, false, false] [.t 30, .c (.d (.int .i64 3)), .c (.d (.int .i64 5))], none⟩, ⟨some 32, .bsl 1 1 (.d (.int .u8 0)) [(0, .c (.d (.int .u8 1)))], none⟩, ⟨some 33, .bsl 1 1 (.d (.int .u8 0)) [(0, .c (.d (.int .u8 2)))], none⟩, ⟨some 34, .bsl 2 1 (.xsl []) [(0, .t 32), (1, .t 33)], none⟩, ⟨some 35, .build [.d (.int .i64 0), .d (.int .i64 0), .d (.int .i64 0), .d (.int .i64 0), .d (.int .i64 0), .d (.int .i64 0), .xsl [], .xsl []] [(0, (1, .t 31)), (7, (1, .t 34))], none⟩, ⟨none, .st 8 (.t 4) (.t 35), none⟩] [29, 30, 31, 32, 33, 34, 35]) .skip))
 (.seq (.draw [] [⟨some 37, .ld true 8 (.t 4), none⟩, ⟨some 38, .mv (.t 3), none⟩, ⟨some 39, .call N_base_Src_Setup [true] [.t 38], none⟩, ⟨some 40, .call N_batch_Start [false, false, false, false, true] [.c (.d (.int .i64 3)), .t 37, .t 39, .c (.d (.int .i64 7))], none⟩, ⟨some 36, .mv (.t 40), none⟩, ⟨some 41, .ext (.t 36) 0, none⟩, ⟨some 42, .ext (.t 36) 1, none⟩, ⟨some 6, .alloc (.agg [.d (.int .i64 0), .d (.int .i64 0), .d (.int .i64 0), .d (.int .i64 0), .d (.int .i64 0), .d (.int .i64 0), .d (.int .i64 0), .xsl [], .xsl [], .d (.int .i64 0), .d (.bool false), .d (.int .i64 0), .d (.int .i64 0), .d (.int .i64 0), .xsl [], .d (.int .i64 0), .d (.int .i64 0), .d (.int .i64 0), .d (.int .i64 0), .d (.int .i64 0), .d (.int .i64 0), .d (.int .i64 0), .d (.int .i64 0), .d (.int .i64 0), .d (.int .i64 0), .xsl [], .d (.int .i64 0), .d (.int .i64 0), .d (.int .i64 0), .d (.int .i64 0), .d (.int .i64 0), .d (.int .i64 0), .d (.int .i64 0), .d (.int .i64 0), .xsl [], .d (.int .i64 0), .xsl [], .xsl [], .d (.int .i64 0), .xsl [], .xsl [], .xsl [], .d (.int .i64 0), .xsl [], .xsl [], .xsl [], .xsl [], .d (.int .i64 0), .xsl [], .d (.int .i64 0), .xsl [], .xsl [], .d (.int .i64 0), .d (.int .i64 0), .d (.int .i64 0), .d (.int .i64 0), .d (.int .i64 0), .d (.int .i64 0), .d (.int .i64 0), .d (.int .i64 0), .d (.int .i64 0), .xsl [], .xsl []]), none⟩, ⟨none, .st 63 (.t 6) (.t 41), none⟩, ⟨some 7, .mv (.t 42), none⟩] [[], [0], [0], [], [], [], [5], [0, 1, 2, 3, 4, 5, 6], [6], []] [29, 36, 37, 38, 39, 40, 41, 42])
 (.seq (.seq (.ops [] [⟨some 43, .mv (.t 7), none⟩, ⟨some 44, .bin .neq (.t 43) (.c (.d (.int .i64 0))), none⟩] [7, 43])
 (.cond (.t 44) (.seq (.ops [] [⟨some 2, .mv (.c (.d (.bool false))), none⟩] [3, 4, 6, 44])
 (.ret [2])) .skip))
 (.seq (.ops [] [⟨some 45, .ld true 8 (.t 4), none⟩, ⟨some 46, .call N_ref17_Entries [] [.t 45], none⟩, ⟨some 8, .mv (.t 46), none⟩] [44, 45, 46])
 (.seq (.seq (.ops [] [⟨some 9, .mv (.c (.d (.int .i64 1))), none⟩] [])
 (.block 2 (.loop [] l_law17_BatchEntries_1)))
 (.seq (.ops [] [⟨some 145, .call N_law17_awake [] [], none⟩, ⟨some 2, .mv (.t 145), none⟩] [3, 4, 6, 8, 9, 49, 145])
 (.ret [2])))))))))))
def r_law17_BatchEntries : List ARes := [.t 2]
def fn_law17_BatchEntries : AFn := .code c_law17_BatchEntries r_law17_BatchEntries 146 true
/- shardqueue/shardqueuebase.New -/
def c_base_New : ACode :=
 (.seq (.ops [] [⟨some 2, .mv (.c .undef), none⟩] [2])
 (.seq (.seq (.ops [] [⟨some 3, .mv (.t 0), none⟩, ⟨some 4, .len (.t 3), none⟩, ⟨some 5, .bin .gtr (.t 4) (.c (.d (.int .i64 4000))), none⟩] [3, 4])
 (.cond (.t 5) (.ops [] [⟨some 6, .mv (.t 0), none⟩, ⟨some 7, .slc 1 (.t 6) none (some (.c (.d (.int .i64 4000)))) none, none⟩, ⟨some 0, .mv (.t 7), none⟩] [5, 6, 7]) .skip))
 (.seq (.ops [] [⟨some 8, .mv (.t 0), none⟩, ⟨some 9, .build [.xsl [], .d (.int .i64 0)] [(0, (1, .t 8))], none⟩, ⟨some 10, .box (.t 9), none⟩, ⟨some 2, .mv (.t 10), none⟩] [0, 5, 8, 9, 10])
 (.ret [2]))))
def r_base_New : List ARes := [.t 2]
def fn_base_New : AFn := .code c_base_New r_base_New 11 false
/- (*shardqueue/shardqueuebase.Src).Range -/
def c_base_Src_Range : ACode :=
 (.seq (.ops [] [⟨some 6, .mv (.c (.d (.int .i64 0))), none⟩] [6])
 (.seq (.ops [] [⟨some 7, .mv (.t 1), none⟩, ⟨some 8, .mv (.t 0), none⟩, ⟨some 9, .mv (.t 2), none⟩, ⟨some 10, .mv (.t 1), none⟩, ⟨some 11, .bin .sub (.t 9) (.t 10), none⟩, ⟨some 12, .bin .add (.t 11) (.c (.d (.int .i64 1))), none⟩, ⟨some 13, .call N_base_Src_N [true, false] [.t 8, .t 12], none⟩, ⟨some 14, .bin .add (.t 7) (.t 13), none⟩, ⟨some 6, .mv (.t 14), none⟩] [0, 1, 2, 7, 8, 9, 10, 11, 12, 13, 14])
 (.ret [6])))
def r_base_Src_Range : List ARes := [.t 6]
def fn_base_Src_Range : AFn := .code c_base_Src_Range r_base_Src_Range 15 true
/- (*shardqueue/shardqueuebase.Src).N -/
def c_base_Src_N : ACode :=
 (.seq (.ops [] [⟨some 4, .mv (.c (.d (.int .i64 0))), none⟩] [4])
 (.seq (.seq (.ops [] [⟨some 6, .mv (.t 1), none⟩, ⟨some 7, .bin .lss (.t 6) (.c (.d (.int .i64 1))), none⟩] [6])
 (.cond (.t 7) (.seq (.ops [] [⟨some 4, .mv (.c (.d (.int .i64 0))), none⟩] [0, 1, 7])
 (.ret [4])) .skip))
 (.seq (.ops [] [⟨some 8, .mv (.t 0), none⟩, ⟨some 9, .call N_base_Src_Raw [true] [.t 8], none⟩, ⟨some 10, .mv (.t 1), none⟩, ⟨some 11, .bin .rem (.t 9) (.t 10), none⟩, ⟨some 5, .mv (.t 11), none⟩] [0, 7, 8, 9, 10, 11])
 (.seq (.seq (.ops [] [⟨some 12, .mv (.t 5), none⟩, ⟨some 13, .bin .lss (.t 12) (.c (.d (.int .i64 0))), none⟩] [12])
 (.cond (.t 13) (.ops [] [⟨some 14, .mv (.t 5), none⟩, ⟨some 15, .mv (.t 1), none⟩, ⟨some 16, .bin .add (.t 14) (.t 15), none⟩, ⟨some 5, .mv (.t 16), none⟩] [1, 13, 14, 15, 16]) .skip))
 (.seq (.ops [] [⟨some 17, .mv (.t 5), none⟩, ⟨some 4, .mv (.t 17), none⟩] [1, 5, 13, 17])
 (.ret [4]))))))
def r_base_Src_N : List ARes := [.t 4]
def fn_base_Src_N : AFn := .code c_base_Src_N r_base_Src_N 18 true
/- (*shardqueue/shardqueuebase.Src).Raw -/
def c_base_Src_Raw : ACode :=
 (.seq (.ops [] [⟨some 2, .mv (.c (.d (.int .i64 0))), none⟩] [2])
 (.seq (.seq (.draw [] [⟨some 3, .mv (.t 0), none⟩, ⟨some 4, .nilc (.t 3), none⟩, ⟨some 5, .fad false 1 1 (.t 4), none⟩, ⟨some 6, .ld false 1 (.t 5), none⟩, ⟨some 7, .mv (.t 0), none⟩, ⟨some 8, .nilc (.t 7), none⟩, ⟨some 9, .fad false 0 1 (.t 8), none⟩, ⟨some 10, .ld false 1 (.t 9), none⟩, ⟨some 11, .len (.t 10), none⟩, ⟨some 12, .bin .geq (.t 6) (.t 11), none⟩] [[], [], [], [], [0, 1, 2, 3], [0, 1, 2, 3], [0, 1, 2, 3], [0, 1, 2, 3], [0, 1, 2, 3], []] [3, 4, 5, 6, 7, 8, 9, 10, 11])
 (.cond (.t 12) (.seq (.ops [] [⟨some 2, .mv (.c (.d (.int .i64 0))), none⟩] [0, 12])
 (.ret [2])) .skip))
 (.seq (.ops [] [⟨some 13, .mv (.t 0), none⟩, ⟨some 14, .nilc (.t 13), none⟩, ⟨some 15, .fad false 1 1 (.t 14), none⟩, ⟨some 16, .ld false 1 (.t 15), none⟩, ⟨some 17, .bin .add (.t 16) (.c (.d (.int .i64 1))), none⟩, ⟨some 18, .nilc (.t 13), none⟩, ⟨some 19, .fad false 1 1 (.t 18), none⟩, ⟨none, .st 1 (.t 19) (.t 17), none⟩] [12, 13, 14, 15, 16, 17, 18, 19])
 (.seq (.draw [] [⟨some 20, .mv (.t 0), none⟩, ⟨some 21, .nilc (.t 20), none⟩, ⟨some 22, .fad false 0 1 (.t 21), none⟩, ⟨some 23, .ld false 1 (.t 22), none⟩, ⟨some 24, .mv (.t 0), none⟩, ⟨some 25, .nilc (.t 24), none⟩, ⟨some 26, .fad false 1 1 (.t 25), none⟩, ⟨some 27, .ld false 1 (.t 26), none⟩, ⟨some 28, .bin .sub (.t 27) (.c (.d (.int .i64 1))), none⟩, ⟨some 29, .iad 1 (.t 23) (.t 28), none⟩, ⟨some 30, .ld false 1 (.t 29), none⟩, ⟨some 2, .mv (.t 30), none⟩] [[], [], [], [], [0, 1, 2, 3], [0, 1, 2, 3], [0, 1, 2, 3], [0, 1, 2, 3], [0, 1, 2, 3], [], [], []] [0, 20, 21, 22, 23, 24, 25, 26, 27, 28, 29, 30])
 (.ret [2])))))
def r_base_Src_Raw : List ARes := [.t 2]
def fn_base_Src_Raw : AFn := .code c_base_Src_Raw r_base_Src_Raw 31 true
/- (*shardqueue/shardqueuebase.Src).Body -/
def l_base_Src_Body_0 : ACode :=
 (.seq (.seq (.ops [] [⟨some 8, .mv (.t 4), none⟩, ⟨some 9, .mv (.t 3), none⟩, ⟨some 10, .len (.t 9), none⟩, ⟨some 11, .bin .lss (.t 8) (.t 10), none⟩] [8, 9, 10])
 (.cond (.t 11) .skip (.exit 0 [3])))
 (.seq (.block 1 (.ops [] [⟨some 14, .mv (.t 3), none⟩, ⟨some 15, .mv (.t 4), none⟩, ⟨some 16, .mv (.t 0), none⟩, ⟨some 17, .call N_base_Src_N [true, false] [.t 16, .c (.d (.int .i64 3))], none⟩, ⟨some 18, .bin .add (.c (.d (.int .i64 97))) (.t 17), none⟩, ⟨some 19, .cvi .u8 (.t 18), none⟩, ⟨some 20, .iad 1 (.t 14) (.t 15), none⟩, ⟨none, .st 1 (.t 20) (.t 19), none⟩] [11, 14, 15, 16, 17, 18, 19, 20]))
 (.ops [] [⟨some 12, .mv (.t 4), none⟩, ⟨some 13, .bin .add (.t 12) (.c (.d (.int .i64 1))), none⟩, ⟨some 4, .mv (.t 13), none⟩] [12, 13])))
def c_base_Src_Body : ACode :=
 (.seq (.ops [] [⟨some 2, .mv (.c (.d (.str []))), none⟩] [2])
 (.seq (.ops [] [⟨some 5, .mv (.t 0), none⟩, ⟨some 6, .call N_base_Src_N [true, false] [.t 5, .c (.d (.int .i64 4))], none⟩, ⟨some 7, .mks 1 (.d (.int .u8 0)) (.t 6) (.t 6), none⟩, ⟨some 3, .mv (.t 7), none⟩] [5, 6, 7])
 (.seq (.seq (.ops [] [⟨some 4, .mv (.c (.d (.int .i64 0))), none⟩] [])
 (.block 0 (.loop [] l_base_Src_Body_0)))
 (.seq (.ops [15] [⟨some 21, .mv (.t 3), none⟩, ⟨some 22, .b2s (.t 21), none⟩, ⟨some 2, .mv (.t 22), none⟩] [0, 3, 4, 11, 21, 22])
 (.ret [2])))))
def r_base_Src_Body : List ARes := [.t 2]
def fn_base_Src_Body : AFn := .code c_base_Src_Body r_base_Src_Body 23 true
/- (*shardqueue/shardqueuebase.Src).Setup -/
def c_base_Src_Setup : ACode :=
 (.seq (.ops [] [⟨some 2, .alloc (.d (.agg [.int .i64 0, .int .i64 0, .int .i64 0, .int .i64 0, .int .i64 0, .int .i64 0, .int .i64 0, .int .i64 0])), none⟩] [])
 (.seq (.ops [] [⟨some 4, .mv (.t 0), none⟩, ⟨some 5, .call N_base_Src_Range [true, false, false] [.t 4, .c (.d (.int .i64 1)), .c (.d (.int .i64 4))], none⟩, ⟨some 6, .mv (.t 0), none⟩, ⟨some 7, .call N_base_Src_Range [true, false, false] [.t 6, .c (.d (.int .i64 1)), .c (.d (.int .i64 5))], none⟩, ⟨some 8, .mv (.t 0), none⟩, ⟨some 9, .call N_base_Src_Range [true, false, false] [.t 8, .c (.d (.int .i64 1)), .c (.d (.int .i64 4))], none⟩, ⟨some 10, .mv (.t 0), none⟩, ⟨some 11, .call N_base_Src_Range [true, false, false] [.t 10, .c (.d (.int .i64 1)), .c (.d (.int .i64 3))], none⟩, ⟨some 12, .build [.d (.int .i64 0), .d (.int .i64 0), .d (.int .i64 0), .d (.int .i64 0), .d (.int .i64 0), .d (.int .i64 0), .d (.int .i64 0), .d (.int .i64 0)] [(0, (1, .t 5)), (2, (1, .t 7)), (3, (1, .t 9)), (4, (1, .t 11)), (6, (1, .c (.d (.int .i64 1))))], none⟩, ⟨some 3, .alloc (.d (.agg [.int .i64 0, .int .i64 0, .int .i64 0, .int .i64 0, .int .i64 0, .int .i64 0, .int .i64 0, .int .i64 0])), none⟩, ⟨none, .st 8 (.t 3) (.t 12), none⟩] [4, 5, 6, 7, 8, 9, 10, 11, 12])
 (.seq (.ops [] [⟨some 13, .mv (.t 0), none⟩, ⟨some 14, .fad false 0 1 (.t 3), none⟩, ⟨some 15, .ld false 1 (.t 14), none⟩, ⟨some 16, .call N_base_Src_Range [true, false, false] [.t 13, .c (.d (.int .i64 1)), .t 15], none⟩, ⟨some 17, .fad false 1 1 (.t 3), none⟩, ⟨none, .st 1 (.t 17) (.t 16), none⟩] [13, 14, 15, 16, 17])
 (.seq (.seq (.ops [] [⟨some 18, .mv (.t 0), none⟩, ⟨some 19, .call N_base_Src_N [true, false] [.t 18, .c (.d (.int .i64 12))], none⟩] [18])
 (.block 0 (.seq (.ops [] [⟨some 21, .bin .eql (.t 19) (.c (.d (.int .i64 9))), none⟩, ⟨some 20, .mv (.t 21), none⟩] [21])
 (.cond (.t 20) (.ops [] [⟨some 22, .mv (.t 0), none⟩, ⟨some 23, .call N_base_Src_N [true, false] [.t 22, .c (.d (.int .i64 200))], none⟩, ⟨some 24, .bin .sub (.c (.d (.int .i64 1073741824))) (.t 23), none⟩, ⟨some 25, .fad false 5 1 (.t 3), none⟩, ⟨none, .st 1 (.t 25) (.t 24), none⟩] [0, 19, 20, 22, 23, 24, 25]) (.seq (.ops [] [⟨some 27, .bin .eql (.t 19) (.c (.d (.int .i64 10))), none⟩, ⟨some 26, .mv (.t 27), none⟩] [20, 27])
 (.cond (.t 26) (.ops [] [⟨some 28, .mv (.t 0), none⟩, ⟨some 29, .call N_base_Src_N [true, false] [.t 28, .c (.d (.int .i64 4))], none⟩, ⟨some 30, .bin .sub (.c (.d (.int .i64 1073741824))) (.t 29), none⟩, ⟨some 31, .fad false 6 1 (.t 3), none⟩, ⟨none, .st 1 (.t 31) (.t 30), none⟩] [0, 19, 26, 28, 29, 30, 31]) (.seq (.ops [] [⟨some 33, .bin .eql (.t 19) (.c (.d (.int .i64 11))), none⟩, ⟨some 32, .mv (.t 33), none⟩] [19, 26, 33])
 (.cond (.t 32) (.ops [] [⟨some 34, .mv (.t 0), none⟩, ⟨some 35, .call N_base_Src_N [true, false] [.t 34, .c (.d (.int .i64 3))], none⟩, ⟨some 36, .bin .sub (.c (.d (.int .i64 65536))) (.t 35), none⟩, ⟨some 37, .fad false 7 1 (.t 3), none⟩, ⟨none, .st 1 (.t 37) (.t 36), none⟩] [0, 32, 34, 35, 36, 37]) .skip))))))))
 (.seq (.ops [] [⟨some 38, .ld true 8 (.t 3), none⟩, ⟨none, .st 8 (.t 2) (.t 38), none⟩] [0, 3, 32, 38])
 (.ret [2]))))))
def r_base_Src_Setup : List ARes := [.c 2 true 8]
def fn_base_Src_Setup : AFn := .code c_base_Src_Setup r_base_Src_Setup 39 true
/- shardqueue/batch.Start -/
def c_batch_Start : ACode :=
 (.seq (.ops [] [⟨some 5, .box (.t 1), none⟩, ⟨some 6, .box (.t 2), none⟩, ⟨some 8, .alloc (.agg [.d (.int .i64 0), .d (.int .i64 0), .d (.int .i64 0), .d (.int .i64 0), .d (.int .i64 0), .d (.int .i64 0), .d (.int .i64 0), .xsl [], .xsl [], .d (.int .i64 0), .d (.bool false), .d (.int .i64 0), .d (.int .i64 0), .d (.int .i64 0), .xsl [], .d (.int .i64 0), .d (.int .i64 0), .d (.int .i64 0), .d (.int .i64 0), .d (.int .i64 0), .d (.int .i64 0), .d (.int .i64 0), .d (.int .i64 0), .d (.int .i64 0), .d (.int .i64 0), .xsl [], .d (.int .i64 0), .d (.int .i64 0), .d (.int .i64 0), .d (.int .i64 0), .d (.int .i64 0), .d (.int .i64 0), .d (.int .i64 0), .d (.int .i64 0), .xsl [], .d (.int .i64 0), .xsl [], .xsl [], .d (.int .i64 0), .xsl [], .xsl [], .xsl [], .d (.int .i64 0), .xsl [], .xsl [], .xsl [], .xsl [], .d (.int .i64 0), .xsl [], .d (.int .i64 0), .xsl [], .xsl [], .d (.int .i64 0), .d (.int .i64 0), .d (.int .i64 0), .d (.int .i64 0), .d (.int .i64 0), .d (.int .i64 0), .d (.int .i64 0), .d (.int .i64 0), .d (.int .i64 0), .xsl [], .xsl []]), none⟩, ⟨some 9, .mv (.c (.d (.int .i64 0))), none⟩] [1, 2, 9])
 (.seq (.seq (.ops [] [⟨some 13, .mv (.t 0), none⟩, ⟨some 14, .call N_batch_in [] [.t 13, .c (.d (.int .i64 1)), .c (.d (.int .i64 200))], none⟩, ⟨some 15, .un .not (.t 14), none⟩, ⟨some 16, .mv (.t 15), none⟩, ⟨some 17, .mv (.t 3), some (16, false)⟩, ⟨some 18, .bin .lss (.t 17) (.c (.d (.int .i64 0))), some (16, false)⟩, ⟨some 19, .pick (.t 16) (.c (.d (.bool true))) (.t 18), none⟩] [13, 14, 15, 16, 17, 18])
 (.cond (.t 19) (.seq (.ops [] [⟨some 20, .build [.d (.int .i64 0), .d (.int .i64 0), .d (.int .i64 0), .d (.int .i64 0), .d (.int .i64 0), .d (.int .i64 0), .d (.int .i64 0), .xsl [], .xsl [], .d (.int .i64 0), .d (.bool false), .d (.int .i64 0), .d (.int .i64 0), .d (.int .i64 0), .xsl [], .d (.int .i64 0), .d (.int .i64 0), .d (.int .i64 0), .d (.int .i64 0), .d (.int .i64 0), .d (.int .i64 0), .d (.int .i64 0), .d (.int .i64 0), .d (.int .i64 0), .d (.int .i64 0), .xsl [], .d (.int .i64 0), .d (.int .i64 0), .d (.int .i64 0), .d (.int .i64 0), .d (.int .i64 0), .d (.int .i64 0), .d (.int .i64 0), .d (.int .i64 0), .xsl [], .d (.int .i64 0), .xsl [], .xsl [], .d (.int .i64 0), .xsl [], .xsl [], .xsl [], .d (.int .i64 0), .xsl [], .xsl [], .xsl [], .xsl [], .d (.int .i64 0), .xsl [], .d (.int .i64 0), .xsl [], .xsl [], .d (.int .i64 0), .d (.int .i64 0), .d (.int .i64 0), .d (.int .i64 0), .d (.int .i64 0), .d (.int .i64 0), .d (.int .i64 0), .d (.int .i64 0), .d (.int .i64 0), .xsl [], .xsl []] [], none⟩, ⟨none, .st 63 (.t 8) (.t 20), none⟩, ⟨some 9, .mv (.c (.d (.int .i64 1))), none⟩] [0, 3, 5, 6, 19, 20])
 (.ret [8, 9])) .skip))
 (.seq (.seq (.ops [] [⟨some 22, .ld true 8 (.t 6), none⟩, ⟨some 23, .call N_arena_New [] [.t 22], none⟩, ⟨some 21, .mv (.t 23), none⟩, ⟨some 24, .ext (.t 21) 0, none⟩, ⟨some 25, .ext (.t 21) 1, none⟩, ⟨some 10, .alloc (.agg [.xsl [], .xsl [], .d (.int .i64 0), .d (.int .i64 0), .xsl [], .d (.int .i64 0), .xsl [], .xsl [], .d (.int .i64 0), .d (.int .i64 0), .d (.int .i64 0)]), none⟩, ⟨none, .st 11 (.t 10) (.t 24), none⟩, ⟨some 11, .mv (.t 25), none⟩] [10, 19, 21, 22, 23, 24, 25])
 (.seq (.ops [] [⟨some 26, .mv (.t 11), none⟩, ⟨some 27, .bin .neq (.t 26) (.c (.d (.int .i64 0))), none⟩] [26])
 (.cond (.t 27) (.seq (.ops [] [⟨some 28, .build [.d (.int .i64 0), .d (.int .i64 0), .d (.int .i64 0), .d (.int .i64 0), .d (.int .i64 0), .d (.int .i64 0), .d (.int .i64 0), .xsl [], .xsl [], .d (.int .i64 0), .d (.bool false), .d (.int .i64 0), .d (.int .i64 0), .d (.int .i64 0), .xsl [], .d (.int .i64 0), .d (.int .i64 0), .d (.int .i64 0), .d (.int .i64 0), .d (.int .i64 0), .d (.int .i64 0), .d (.int .i64 0), .d (.int .i64 0), .d (.int .i64 0), .d (.int .i64 0), .xsl [], .d (.int .i64 0), .d (.int .i64 0), .d (.int .i64 0), .d (.int .i64 0), .d (.int .i64 0), .d (.int .i64 0), .d (.int .i64 0), .d (.int .i64 0), .xsl [], .d (.int .i64 0), .xsl [], .xsl [], .d (.int .i64 0), .xsl [], .xsl [], .xsl [], .d (.int .i64 0), .xsl [], .xsl [], .xsl [], .xsl [], .d (.int .i64 0), .xsl [], .d (.int .i64 0), .xsl [], .xsl [], .d (.int .i64 0), .d (.int .i64 0), .d (.int .i64 0), .d (.int .i64 0), .d (.int .i64 0), .d (.int .i64 0), .d (.int .i64 0), .d (.int .i64 0), .d (.int .i64 0), .xsl [], .xsl []] [], none⟩, ⟨some 29, .mv (.t 11), none⟩, ⟨none, .st 63 (.t 8) (.t 28), none⟩, ⟨some 9, .mv (.t 29), none⟩] [0, 3, 5, 6, 11, 27, 28, 29])
 (.ret [8, 9])) .skip)))
 (.seq (.seq (.ops [] [⟨some 30, .ld true 8 (.t 5), none⟩, ⟨some 31, .ld true 8 (.t 6), none⟩, ⟨some 32, .call N_batch_Validate [] [.t 30, .t 31], none⟩, ⟨some 12, .mv (.t 32), none⟩] [11, 27, 30, 31, 32])
 (.seq (.ops [] [⟨some 33, .mv (.t 12), none⟩, ⟨some 34, .bin .neq (.t 33) (.c (.d (.int .i64 0))), none⟩] [33])
 (.cond (.t 34) (.seq (.ops [] [⟨some 35, .build [.d (.int .i64 0), .d (.int .i64 0), .d (.int .i64 0), .d (.int .i64 0), .d (.int .i64 0), .d (.int .i64 0), .d (.int .i64 0), .xsl [], .xsl [], .d (.int .i64 0), .d (.bool false), .d (.int .i64 0), .d (.int .i64 0), .d (.int .i64 0), .xsl [], .d (.int .i64 0), .d (.int .i64 0), .d (.int .i64 0), .d (.int .i64 0), .d (.int .i64 0), .d (.int .i64 0), .d (.int .i64 0), .d (.int .i64 0), .d (.int .i64 0), .d (.int .i64 0), .xsl [], .d (.int .i64 0), .d (.int .i64 0), .d (.int .i64 0), .d (.int .i64 0), .d (.int .i64 0), .d (.int .i64 0), .d (.int .i64 0), .d (.int .i64 0), .xsl [], .d (.int .i64 0), .xsl [], .xsl [], .d (.int .i64 0), .xsl [], .xsl [], .xsl [], .d (.int .i64 0), .xsl [], .xsl [], .xsl [], .xsl [], .d (.int .i64 0), .xsl [], .d (.int .i64 0), .xsl [], .xsl [], .d (.int .i64 0), .d (.int .i64 0), .d (.int .i64 0), .d (.int .i64 0), .d (.int .i64 0), .d (.int .i64 0), .d (.int .i64 0), .d (.int .i64 0), .d (.int .i64 0), .xsl [], .xsl []] [], none⟩, ⟨some 36, .mv (.t 12), none⟩, ⟨none, .st 63 (.t 8) (.t 35), none⟩, ⟨some 9, .mv (.t 36), none⟩] [0, 3, 5, 6, 12, 34, 35, 36])
 (.ret [8, 9])) .skip)))
 (.seq (.ops [] [⟨some 37, .mv (.t 0), none⟩, ⟨some 38, .ld true 8 (.t 5), none⟩, ⟨some 39, .ld true 8 (.t 6), none⟩, ⟨some 40, .mv (.t 3), none⟩, ⟨some 41, .build [.d (.int .i64 0), .d (.int .i64 0), .d (.int .i64 0), .d (.int .i64 0), .d (.int .i64 0), .d (.int .i64 0), .d (.int .i64 0), .xsl [], .xsl [], .d (.int .i64 0), .d (.bool false), .d (.int .i64 0), .d (.int .i64 0), .d (.int .i64 0), .xsl [], .d (.int .i64 0), .d (.int .i64 0), .d (.int .i64 0), .d (.int .i64 0), .d (.int .i64 0), .d (.int .i64 0), .d (.int .i64 0), .d (.int .i64 0), .d (.int .i64 0), .d (.int .i64 0), .xsl [], .d (.int .i64 0), .d (.int .i64 0), .d (.int .i64 0), .d (.int .i64 0), .d (.int .i64 0), .d (.int .i64 0), .d (.int .i64 0), .d (.int .i64 0), .xsl [], .d (.int .i64 0), .xsl [], .xsl [], .d (.int .i64 0), .xsl [], .xsl [], .xsl [], .d (.int .i64 0), .xsl [], .xsl [], .xsl [], .xsl [], .d (.int .i64 0), .xsl [], .d (.int .i64 0), .xsl [], .xsl [], .d (.int .i64 0), .d (.int .i64 0), .d (.int .i64 0), .d (.int .i64 0), .d (.int .i64 0), .d (.int .i64 0), .d (.int .i64 0), .d (.int .i64 0), .d (.int .i64 0), .xsl [], .xsl []] [(0, (1, .t 37)), (1, (8, .t 38)), (15, (8, .t 39)), (9, (1, .t 40))], none⟩, ⟨none, .st 63 (.t 8) (.t 41), none⟩, ⟨some 9, .mv (.c (.d (.int .i64 0))), none⟩] [0, 3, 5, 6, 12, 34, 37, 38, 39, 40, 41])
 (.ret [8, 9]))))))
def r_batch_Start : List ARes := [.c 8 true 63, .t 9]
def fn_batch_Start : AFn := .code c_batch_Start r_batch_Start 42 true
/- shardqueue/batch.in -/
def c_batch_in : ACode :=
 (.seq (.ops [] [⟨some 6, .mv (.c (.d (.bool false))), none⟩] [6])
 (.seq (.ops [] [⟨some 7, .mv (.t 1), none⟩, ⟨some 8, .mv (.t 0), none⟩, ⟨some 9, .bin .leq (.t 7) (.t 8), none⟩, ⟨some 10, .mv (.t 9), none⟩, ⟨some 11, .mv (.t 0), some (10, true)⟩, ⟨some 12, .mv (.t 2), some (10, true)⟩, ⟨some 13, .bin .leq (.t 11) (.t 12), some (10, true)⟩, ⟨some 14, .pick (.t 10) (.t 13) (.c (.d (.bool false))), none⟩, ⟨some 6, .mv (.t 14), none⟩] [0, 1, 2, 7, 8, 9, 10, 11, 12, 13, 14])
 (.ret [6])))
def r_batch_in : List ARes := [.t 6]
def fn_batch_in : AFn := .code c_batch_in r_batch_in 15 true
/- shardqueue/batch.Validate -/
def c_batch_Validate : ACode :=
 (.seq (.ops [] [⟨some 2, .box (.t 0), none⟩, ⟨some 3, .box (.t 1), none⟩, ⟨some 4, .mv (.c (.d (.int .i64 0))), none⟩] [0, 1, 4])
 (.seq (.ops [] [⟨some 10, .mkfn N_batch_Validate_1 [.t 3], none⟩, ⟨some 5, .mv (.t 10), none⟩] [10])
 (.seq (.ops [] [⟨some 11, .fad false 3 1 (.t 2), none⟩, ⟨some 12, .ld false 1 (.t 11), none⟩, ⟨some 13, .call N_batch_in [] [.t 12, .c (.d (.int .i64 0)), .c (.d (.int .i64 1000))], none⟩, ⟨some 6, .mv (.t 13), none⟩] [11, 12, 13])
 (.seq (.ops [] [⟨some 14, .fad false 2 1 (.t 2), none⟩, ⟨some 15, .ld false 1 (.t 14), none⟩, ⟨some 16, .call N_batch_in [] [.t 15, .c (.d (.int .i64 1)), .c (.d (.int .i64 6))], none⟩, ⟨some 7, .mv (.t 16), none⟩] [14, 15, 16])
 (.seq (.ops [] [⟨some 8, .mv (.c (.d (.bool true))), none⟩] [])
 (.seq (.seq (.ops [] [⟨some 17, .fad false 0 1 (.t 2), none⟩, ⟨some 18, .ld false 1 (.t 17), none⟩] [17])
 (.block 0 (.seq (.ops [] [⟨some 20, .bin .eql (.t 18) (.c (.d (.int .i64 1))), none⟩, ⟨some 19, .mv (.t 20), none⟩] [20])
 (.cond (.t 19) (.seq (.ops [] [⟨some 9, .mv (.c (.d (.fn N_batch_Validate_2 []))), none⟩] [3, 5, 6, 7, 18, 19])
 (.seq (.ops [] [⟨some 21, .fad false 6 1 (.t 2), none⟩, ⟨some 22, .ld false 1 (.t 21), none⟩, ⟨some 23, .len (.t 22), none⟩, ⟨some 24, .call N_batch_in [] [.t 23, .c (.d (.int .i64 1)), .c (.d (.int .i64 6))], none⟩, ⟨some 25, .un .not (.t 24), none⟩, ⟨some 26, .mv (.t 25), none⟩, ⟨some 27, .fad false 6 1 (.t 2), some (26, false)⟩, ⟨some 28, .ld false 1 (.t 27), some (26, false)⟩, ⟨some 29, .mv (.t 9), some (26, false)⟩, ⟨some 30, .call N_slices_ContainsFunc_string [] [.t 28, .t 29], some (26, false)⟩, ⟨some 31, .pick (.t 26) (.c (.d (.bool true))) (.t 30), none⟩] [2, 9, 21, 22, 23, 24, 25, 26, 27, 28, 29, 30])
 (.cond (.t 31) (.seq (.ops [] [⟨some 4, .mv (.c (.d (.int .i64 2))), none⟩] [8, 31])
 (.ret [4])) .skip))) (.seq (.ops [] [⟨some 33, .bin .eql (.t 18) (.c (.d (.int .i64 2))), none⟩, ⟨some 32, .mv (.t 33), none⟩] [19, 33])
 (.cond (.t 32) (.ops [] [⟨some 34, .mv (.t 5), none⟩, ⟨some 35, .fad false 1 1 (.t 2), none⟩, ⟨some 36, .ld false 1 (.t 35), none⟩, ⟨some 37, .callv (.t 34) [] [.t 36], none⟩, ⟨some 38, .mv (.t 37), none⟩, ⟨some 39, .mv (.t 7), some (38, true)⟩, ⟨some 40, .pick (.t 38) (.t 39) (.c (.d (.bool false))), none⟩, ⟨some 41, .mv (.t 40), none⟩, ⟨some 42, .mv (.t 6), some (41, true)⟩, ⟨some 43, .pick (.t 41) (.t 42) (.c (.d (.bool false))), none⟩, ⟨some 8, .mv (.t 43), none⟩] [2, 3, 5, 6, 7, 18, 32, 34, 35, 36, 37, 38, 39, 40, 41, 42, 43]) (.seq (.seq (.ops [] [⟨some 45, .bin .eql (.t 18) (.c (.d (.int .i64 3))), none⟩, ⟨some 44, .mv (.t 45), none⟩] [32, 45])
 (.cond (.t 44) .skip (.seq (.ops [] [⟨some 46, .bin .eql (.t 18) (.c (.d (.int .i64 4))), none⟩, ⟨some 44, .mv (.t 46), none⟩] [46])
 (.cond (.t 44) .skip (.ops [] [⟨some 47, .bin .eql (.t 18) (.c (.d (.int .i64 5))), none⟩, ⟨some 44, .mv (.t 47), none⟩] [47])))))
 (.cond (.t 44) (.seq (.seq (.ops [] [⟨some 48, .fad false 7 1 (.t 2), none⟩, ⟨some 49, .ld false 1 (.t 48), none⟩, ⟨some 50, .len (.t 49), none⟩, ⟨some 51, .call N_batch_in [] [.t 50, .c (.d (.int .i64 1)), .c (.d (.int .i64 6))], none⟩, ⟨some 52, .un .not (.t 51), none⟩] [3, 5, 7, 8, 18, 44, 48, 49, 50, 51])
 (.cond (.t 52) (.seq (.ops [] [⟨some 4, .mv (.c (.d (.int .i64 2))), none⟩] [2, 6, 52])
 (.ret [4])) .skip))
 (.ops [] [⟨some 53, .fad false 0 1 (.t 2), none⟩, ⟨some 54, .ld false 1 (.t 53), none⟩, ⟨some 55, .bin .neq (.t 54) (.c (.d (.int .i64 5))), none⟩, ⟨some 56, .mv (.t 55), none⟩, ⟨some 57, .mv (.t 6), some (56, false)⟩, ⟨some 58, .pick (.t 56) (.c (.d (.bool true))) (.t 57), none⟩, ⟨some 8, .mv (.t 58), none⟩] [2, 6, 52, 53, 54, 55, 56, 57, 58])) (.seq (.seq (.ops [] [⟨some 60, .bin .eql (.t 18) (.c (.d (.int .i64 6))), none⟩, ⟨some 59, .mv (.t 60), none⟩] [6, 44, 60])
 (.cond (.t 59) .skip (.ops [] [⟨some 61, .bin .eql (.t 18) (.c (.d (.int .i64 7))), none⟩, ⟨some 59, .mv (.t 61), none⟩] [61])))
 (.cond (.t 59) .skip (.seq (.ops [] [⟨some 63, .bin .eql (.t 18) (.c (.d (.int .i64 8))), none⟩, ⟨some 62, .mv (.t 63), none⟩] [8, 59, 63])
 (.cond (.t 62) (.ops [] [⟨some 64, .mv (.t 5), none⟩, ⟨some 65, .fad false 1 1 (.t 2), none⟩, ⟨some 66, .ld false 1 (.t 65), none⟩, ⟨some 67, .callv (.t 64) [] [.t 66], none⟩, ⟨some 68, .mv (.t 67), none⟩, ⟨some 69, .mv (.t 7), some (68, true)⟩, ⟨some 70, .pick (.t 68) (.t 69) (.c (.d (.bool false))), none⟩, ⟨some 8, .mv (.t 70), none⟩] [2, 3, 5, 7, 18, 62, 64, 65, 66, 67, 68, 69, 70]) (.seq (.seq (.ops [] [⟨some 72, .bin .eql (.t 18) (.c (.d (.int .i64 9))), none⟩, ⟨some 71, .mv (.t 72), none⟩] [7, 62, 72])
 (.cond (.t 71) .skip (.seq (.ops [] [⟨some 73, .bin .eql (.t 18) (.c (.d (.int .i64 10))), none⟩, ⟨some 71, .mv (.t 73), none⟩] [73])
 (.cond (.t 71) .skip (.ops [] [⟨some 74, .bin .eql (.t 18) (.c (.d (.int .i64 11))), none⟩, ⟨some 71, .mv (.t 74), none⟩] [74])))))
 (.cond (.t 71) (.ops [] [⟨some 75, .mv (.t 5), none⟩, ⟨some 76, .fad false 4 1 (.t 2), none⟩, ⟨some 77, .ld false 1 (.t 76), none⟩, ⟨some 78, .callv (.t 75) [] [.t 77], none⟩, ⟨some 79, .mv (.t 78), none⟩, ⟨some 80, .mv (.t 5), some (79, true)⟩, ⟨some 81, .fad false 5 1 (.t 2), some (79, true)⟩, ⟨some 82, .ld false 1 (.t 81), some (79, true)⟩, ⟨some 83, .callv (.t 80) [] [.t 82], some (79, true)⟩, ⟨some 84, .pick (.t 79) (.t 83) (.c (.d (.bool false))), none⟩, ⟨some 85, .mv (.t 84), none⟩, ⟨some 86, .fad false 4 1 (.t 2), some (85, true)⟩, ⟨some 87, .ld false 1 (.t 86), some (85, true)⟩, ⟨some 88, .fad false 5 1 (.t 2), some (85, true)⟩, ⟨some 89, .ld false 1 (.t 88), some (85, true)⟩, ⟨some 90, .bin .neq (.t 87) (.t 89), some (85, true)⟩, ⟨some 91, .pick (.t 85) (.t 90) (.c (.d (.bool false))), none⟩, ⟨some 8, .mv (.t 91), none⟩] [2, 3, 5, 18, 71, 75, 76, 77, 78, 79, 80, 81, 82, 83, 84, 85, 86, 87, 88, 89, 90, 91]) (.seq (.seq (.ops [] [⟨some 93, .bin .eql (.t 18) (.c (.d (.int .i64 12))), none⟩, ⟨some 92, .mv (.t 93), none⟩] [71, 93])
 (.cond (.t 92) .skip (.ops [] [⟨some 94, .bin .eql (.t 18) (.c (.d (.int .i64 14))), none⟩, ⟨some 92, .mv (.t 94), none⟩] [94])))
 (.cond (.t 92) (.ops [] [⟨some 95, .mv (.t 5), none⟩, ⟨some 96, .fad false 4 1 (.t 2), none⟩, ⟨some 97, .ld false 1 (.t 96), none⟩, ⟨some 98, .callv (.t 95) [] [.t 97], none⟩, ⟨some 8, .mv (.t 98), none⟩] [2, 3, 5, 18, 92, 95, 96, 97, 98]) (.seq (.ops [] [⟨some 100, .bin .eql (.t 18) (.c (.d (.int .i64 13))), none⟩, ⟨some 99, .mv (.t 100), none⟩] [5, 18, 92, 100])
 (.cond (.t 99) (.ops [] [⟨some 101, .fad false 4 1 (.t 2), none⟩, ⟨some 102, .ld false 1 (.t 101), none⟩, ⟨some 103, .fad false 0 1 (.t 3), none⟩, ⟨some 104, .ld false 1 (.t 103), none⟩, ⟨some 105, .call N_batch_in [] [.t 102, .c (.d (.int .i64 0)), .t 104], none⟩, ⟨some 8, .mv (.t 105), none⟩] [2, 3, 99, 101, 102, 103, 104, 105]) (.seq (.ops [] [⟨some 4, .mv (.c (.d (.int .i64 9))), none⟩] [2, 3, 99])
 (.ret [4]))))))))))))))))))))
 (.seq (.seq (.ops [] [⟨some 106, .mv (.t 8), none⟩, ⟨some 107, .un .not (.t 106), none⟩] [2, 3, 5, 7, 8, 18, 31, 59, 106])
 (.cond (.t 107) (.seq (.ops [] [⟨some 4, .mv (.c (.d (.int .i64 1))), none⟩] [107])
 (.ret [4])) .skip))
 (.seq (.ops [] [⟨some 4, .mv (.c (.d (.int .i64 0))), none⟩] [107])
 (.ret [4])))))))))
def r_batch_Validate : List ARes := [.t 4]
def fn_batch_Validate : AFn := .code c_batch_Validate r_batch_Validate 108 true
/- shardqueue/batch.Validate$1 -/
def c_batch_Validate_1 : ACode :=
 (.seq (.ops [] [⟨some 3, .mv (.c (.d (.bool false))), none⟩] [3])
 (.seq (.ops [] [⟨some 4, .mv (.t 0), none⟩, ⟨some 5, .fad false 0 1 (.t 1), none⟩, ⟨some 6, .ld false 1 (.t 5), none⟩, ⟨some 7, .bin .sub (.t 6) (.c (.d (.int .i64 1))), none⟩, ⟨some 8, .call N_batch_in [] [.t 4, .c (.d (.int .i64 0)), .t 7], none⟩, ⟨some 3, .mv (.t 8), none⟩] [0, 1, 4, 5, 6, 7, 8])
 (.ret [3])))
def r_batch_Validate_1 : List ARes := [.t 3]
def fn_batch_Validate_1 : AFn := .code c_batch_Validate_1 r_batch_Validate_1 9 true
/- shardqueue/batch.Validate$2 -/
def c_batch_Validate_2 : ACode :=
 (.seq (.ops [] [⟨some 2, .mv (.c (.d (.bool false))), none⟩] [2])
 (.seq (.ops [] [⟨some 3, .mv (.t 0), none⟩, ⟨some 4, .lens (.t 3), none⟩, ⟨some 5, .bin .gtr (.t 4) (.c (.d (.int .i64 16))), none⟩, ⟨some 2, .mv (.t 5), none⟩] [0, 3, 4, 5])
 (.ret [2])))
def r_batch_Validate_2 : List ARes := [.t 2]
def fn_batch_Validate_2 : AFn := .code c_batch_Validate_2 r_batch_Validate_2 6 true
/- slices.ContainsFunc[[]string,string] -/
def c_slices_ContainsFunc_string : ACode :=
 (.seq (.ops [] [⟨some 4, .mv (.c (.d (.bool false))), none⟩] [4])
 (.seq (.ops [] [⟨some 5, .mv (.t 0), none⟩, ⟨some 6, .mv (.t 1), none⟩, ⟨some 7, .call N_slices_IndexFunc_string [] [.t 5, .t 6], none⟩, ⟨some 8, .bin .geq (.t 7) (.c (.d (.int .i64 0))), none⟩, ⟨some 4, .mv (.t 8), none⟩] [0, 1, 5, 6, 7, 8])
 (.ret [4])))
def r_slices_ContainsFunc_string : List ARes := [.t 4]
def fn_slices_ContainsFunc_string : AFn := .code c_slices_ContainsFunc_string r_slices_ContainsFunc_string 9 true
/- slices.IndexFunc[[]string,string] -/
def l_slices_IndexFunc_string_0 : ACode :=
 (.seq (.ops [] [⟨some 9, .bin .lss (.t 8) (.t 7), none⟩] [])
 (.seq (.cond (.t 9) .skip (.exit 0 []))
 (.seq (.block 1 (.seq (.ops [] [⟨some 10, .mv (.t 8), none⟩, ⟨some 5, .mv (.t 10), none⟩] [9, 10])
 (.seq (.ops [] [⟨some 11, .mv (.t 1), none⟩, ⟨some 12, .mv (.t 0), none⟩, ⟨some 13, .mv (.t 5), none⟩, ⟨some 14, .iad 1 (.t 12) (.t 13), none⟩, ⟨some 15, .ld false 1 (.t 14), none⟩, ⟨some 16, .callv (.t 11) [] [.t 15], none⟩] [11, 12, 13, 14, 15])
 (.cond (.t 16) (.seq (.ops [] [⟨some 17, .mv (.t 5), none⟩, ⟨some 4, .mv (.t 17), none⟩] [0, 1, 5, 7, 8, 16, 17])
 (.ret [4])) .skip))))
 (.ops [] [⟨some 18, .bin .add (.t 8) (.c (.d (.int .i64 1))), none⟩, ⟨some 8, .mv (.t 18), none⟩] [5, 16, 18]))))
def c_slices_IndexFunc_string : ACode :=
 (.seq (.ops [] [⟨some 4, .mv (.c (.d (.int .i64 0))), none⟩] [4])
 (.seq (.seq (.ops [] [⟨some 6, .mv (.t 0), none⟩, ⟨some 7, .len (.t 6), none⟩, ⟨some 8, .mv (.c (.d (.int .i64 0))), none⟩] [6])
 (.block 0 (.loop [] l_slices_IndexFunc_string_0)))
 (.seq (.ops [] [⟨some 4, .mv (.c (.d (.int .i64 (-1)))), none⟩] [0, 1, 7, 8, 9])
 (.ret [4]))))
def r_slices_IndexFunc_string : List ARes := [.t 4]
def fn_slices_IndexFunc_string : AFn := .code c_slices_IndexFunc_string r_slices_IndexFunc_string 19 true
/- shardqueue/shardqueueref17.Entries -/
def c_ref17_Entries : ACode :=
 (.seq (.ops [] [⟨some 1, .box (.t 0), none⟩, ⟨some 2, .mv (.c (.d (.int .i64 0))), none⟩] [0, 2])
 (.seq (.seq (.ops [] [⟨some 3, .fad false 0 1 (.t 1), none⟩, ⟨some 4, .ld false 1 (.t 3), none⟩] [3])
 (.block 0 (.seq (.ops [] [⟨some 6, .bin .eql (.t 4) (.c (.d (.int .i64 1))), none⟩, ⟨some 5, .mv (.t 6), none⟩] [6])
 (.cond (.t 5) (.seq (.ops [] [⟨some 7, .fad false 6 1 (.t 1), none⟩, ⟨some 8, .ld false 1 (.t 7), none⟩, ⟨some 9, .len (.t 8), none⟩, ⟨some 2, .mv (.t 9), none⟩] [1, 4, 5, 7, 8, 9])
 (.ret [2])) (.seq (.seq (.ops [] [⟨some 11, .bin .eql (.t 4) (.c (.d (.int .i64 3))), none⟩, ⟨some 10, .mv (.t 11), none⟩] [5, 11])
 (.cond (.t 10) .skip (.seq (.ops [] [⟨some 12, .bin .eql (.t 4) (.c (.d (.int .i64 4))), none⟩, ⟨some 10, .mv (.t 12), none⟩] [12])
 (.cond (.t 10) .skip (.ops [] [⟨some 13, .bin .eql (.t 4) (.c (.d (.int .i64 5))), none⟩, ⟨some 10, .mv (.t 13), none⟩] [4, 13])))))
 (.cond (.t 10) (.seq (.ops [] [⟨some 14, .fad false 7 1 (.t 1), none⟩, ⟨some 15, .ld false 1 (.t 14), none⟩, ⟨some 16, .len (.t 15), none⟩, ⟨some 2, .mv (.t 16), none⟩] [1, 4, 10, 14, 15, 16])
 (.ret [2])) .skip))))))
 (.seq (.ops [] [⟨some 2, .mv (.c (.d (.int .i64 1))), none⟩] [1, 4, 10])
 (.ret [2]))))
def r_ref17_Entries : List ARes := [.t 2]
def fn_ref17_Entries : AFn := .code c_ref17_Entries r_ref17_Entries 17 true
/- shardqueue/batch.Next -/
def c_batch_Next : ACode :=
 (.seq (.ops [] [⟨some 3, .box (.t 0), none⟩, ⟨some 4, .box (.t 1), none⟩, ⟨some 6, .alloc (.agg [.d (.int .i64 0), .d (.int .i64 0), .d (.int .i64 0), .d (.int .i64 0), .d (.int .i64 0), .d (.int .i64 0), .d (.int .i64 0), .xsl [], .xsl [], .d (.int .i64 0), .d (.bool false), .d (.int .i64 0), .d (.int .i64 0), .d (.int .i64 0), .xsl [], .d (.int .i64 0), .d (.int .i64 0), .d (.int .i64 0), .d (.int .i64 0), .d (.int .i64 0), .d (.int .i64 0), .d (.int .i64 0), .d (.int .i64 0), .d (.int .i64 0), .d (.int .i64 0), .xsl [], .d (.int .i64 0), .d (.int .i64 0), .d (.int .i64 0), .d (.int .i64 0), .d (.int .i64 0), .d (.int .i64 0), .d (.int .i64 0), .d (.int .i64 0), .xsl [], .d (.int .i64 0), .xsl [], .xsl [], .d (.int .i64 0), .xsl [], .xsl [], .xsl [], .d (.int .i64 0), .xsl [], .xsl [], .xsl [], .xsl [], .d (.int .i64 0), .xsl [], .d (.int .i64 0), .xsl [], .xsl [], .d (.int .i64 0), .d (.int .i64 0), .d (.int .i64 0), .d (.int .i64 0), .d (.int .i64 0), .d (.int .i64 0), .d (.int .i64 0), .d (.int .i64 0), .d (.int .i64 0), .xsl [], .xsl []]), none⟩] [0, 1])
 (.seq (.ops [] [⟨some 8, .fad false 0 1 (.t 3), none⟩, ⟨some 9, .ld false 1 (.t 8), none⟩, ⟨some 10, .fad true 1 8 (.t 3), none⟩, ⟨some 11, .ld true 8 (.t 10), none⟩, ⟨some 12, .fad true 15 8 (.t 3), none⟩, ⟨some 13, .ld true 8 (.t 12), none⟩, ⟨some 14, .fad false 9 1 (.t 3), none⟩, ⟨some 15, .ld false 1 (.t 14), none⟩, ⟨some 16, .fad false 10 1 (.t 3), none⟩, ⟨some 17, .ld false 1 (.t 16), none⟩, ⟨some 18, .fad false 11 1 (.t 3), none⟩, ⟨some 19, .ld false 1 (.t 18), none⟩, ⟨some 20, .fad false 13 1 (.t 3), none⟩, ⟨some 21, .ld false 1 (.t 20), none⟩, ⟨some 22, .bin .add (.t 21) (.c (.d (.int .i64 1))), none⟩, ⟨some 23, .build [.d (.int .i64 0), .d (.int .i64 0), .d (.int .i64 0), .d (.int .i64 0), .d (.int .i64 0), .d (.int .i64 0), .d (.int .i64 0), .xsl [], .xsl [], .d (.int .i64 0), .d (.bool false), .d (.int .i64 0), .d (.int .i64 0), .d (.int .i64 0), .xsl [], .d (.int .i64 0), .d (.int .i64 0), .d (.int .i64 0), .d (.int .i64 0), .d (.int .i64 0), .d (.int .i64 0), .d (.int .i64 0), .d (.int .i64 0), .d (.int .i64 0), .d (.int .i64 0), .xsl [], .d (.int .i64 0), .d (.int .i64 0), .d (.int .i64 0), .d (.int .i64 0), .d (.int .i64 0), .d (.int .i64 0), .d (.int .i64 0), .d (.int .i64 0), .xsl [], .d (.int .i64 0), .xsl [], .xsl [], .d (.int .i64 0), .xsl [], .xsl [], .xsl [], .d (.int .i64 0), .xsl [], .xsl [], .xsl [], .xsl [], .d (.int .i64 0), .xsl [], .d (.int .i64 0), .xsl [], .xsl [], .d (.int .i64 0), .d (.int .i64 0), .d (.int .i64 0), .d (.int .i64 0), .d (.int .i64 0), .d (.int .i64 0), .d (.int .i64 0), .d (.int .i64 0), .d (.int .i64 0), .xsl [], .xsl []] [(0, (1, .t 9)), (1, (8, .t 11)), (15, (8, .t 13)), (9, (1, .t 15)), (10, (1, .t 17)), (11, (1, .t 19)), (13, (1, .t 22))], none⟩, ⟨some 7, .alloc (.agg [.d (.int .i64 0), .d (.int .i64 0), .d (.int .i64 0), .d (.int .i64 0), .d (.int .i64 0), .d (.int .i64 0), .d (.int .i64 0), .xsl [], .xsl [], .d (.int .i64 0), .d (.bool false), .d (.int .i64 0), .d (.int .i64 0), .d (.int .i64 0), .xsl [], .d (.int .i64 0), .d (.int .i64 0), .d (.int .i64 0), .d (.int .i64 0), .d (.int .i64 0), .d (.int .i64 0), .d (.int .i64 0), .d (.int .i64 0), .d (.int .i64 0), .d (.int .i64 0), .xsl [], .d (.int .i64 0), .d (.int .i64 0), .d (.int .i64 0), .d (.int .i64 0), .d (.int .i64 0), .d (.int .i64 0), .d (.int .i64 0), .d (.int .i64 0), .xsl [], .d (.int .i64 0), .xsl [], .xsl [], .d (.int .i64 0), .xsl [], .xsl [], .xsl [], .d (.int .i64 0), .xsl [], .xsl [], .xsl [], .xsl [], .d (.int .i64 0), .xsl [], .d (.int .i64 0), .xsl [], .xsl [], .d (.int .i64 0), .d (.int .i64 0), .d (.int .i64 0), .d (.int .i64 0), .d (.int .i64 0), .d (.int .i64 0), .d (.int .i64 0), .d (.int .i64 0), .d (.int .i64 0), .xsl [], .xsl []]), none⟩, ⟨none, .st 63 (.t 7) (.t 23), none⟩] [8, 9, 10, 11, 12, 13, 14, 15, 16, 17, 18, 19, 20, 21, 22, 23])
 (.seq (.draw [] [⟨some 24, .fad false 14 1 (.t 3), none⟩, ⟨some 25, .ld false 1 (.t 24), none⟩, ⟨some 26, .call N_slices_Clip_api_Result [] [.t 25], none⟩, ⟨some 27, .ld true 7 (.t 4), none⟩, ⟨some 28, .bsl 1 7 (.agg [.d (.int .i64 0), .d (.int .i64 0), .xsl [], .xsl [], .d (.int .i64 0), .d (.int .i64 0), .d (.int .i64 0)]) [(0, .t 27)], none⟩, ⟨some 29, .app 7 (.t 26) (.t 28), none⟩, ⟨some 30, .fad false 14 1 (.t 7), none⟩, ⟨none, .st 1 (.t 30) (.t 29), none⟩] [[], [], [], [0, 1, 2], [0, 1, 2], [], [], []] [4, 24, 25, 26, 27, 28, 29, 30])
 (.seq (.seq (.draw [] [⟨some 31, .fad false 13 1 (.t 7), none⟩, ⟨some 32, .ld false 1 (.t 31), none⟩, ⟨some 33, .fad true 1 8 (.t 3), none⟩, ⟨some 34, .ld true 8 (.t 33), none⟩, ⟨some 35, .call N_batch_Entries [] [.t 34], none⟩, ⟨some 36, .bin .eql (.t 32) (.t 35), none⟩] [[], [], [0, 1], [0, 1], [0, 1], []] [3, 31, 32, 33, 34, 35])
 (.cond (.t 36) (.ops [] [⟨some 37, .mv (.t 2), none⟩, ⟨some 38, .fad false 10 1 (.t 7), none⟩, ⟨none, .st 1 (.t 38) (.c (.d (.bool true))), none⟩, ⟨some 39, .fad false 11 1 (.t 7), none⟩, ⟨none, .st 1 (.t 39) (.t 37), none⟩] [2, 36, 37, 38, 39]) .skip))
 (.seq (.ops [] [⟨some 40, .ld true 63 (.t 7), none⟩, ⟨none, .st 63 (.t 6) (.t 40), none⟩] [2, 7, 36, 40])
 (.ret [6]))))))
def r_batch_Next : List ARes := [.c 6 true 63]
def fn_batch_Next : AFn := .code c_batch_Next r_batch_Next 41 true
/- slices.Clip[[]shardqueue/api.Result,shardqueue/api.Result] -/
def c_slices_Clip_api_Result : ACode :=
 (.seq (.ops [] [⟨some 2, .mv (.c (.xsl [])), none⟩] [2])
 (.seq (.ops [] [⟨some 3, .mv (.t 0), none⟩, ⟨some 4, .mv (.t 0), none⟩, ⟨some 5, .len (.t 4), none⟩, ⟨some 6, .mv (.t 0), none⟩, ⟨some 7, .len (.t 6), none⟩, ⟨some 8, .slc 7 (.t 3) none (some (.t 5)) (some (.t 7)), none⟩, ⟨some 2, .mv (.t 8), none⟩] [0, 3, 4, 5, 6, 7, 8])
 (.ret [2])))
def r_slices_Clip_api_Result : List ARes := [.t 2]
def fn_slices_Clip_api_Result : AFn := .code c_slices_Clip_api_Result r_slices_Clip_api_Result 9 false
/- shardqueue/batch.Entries -/
def c_batch_Entries : ACode :=
 (.seq (.ops [] [⟨some 1, .box (.t 0), none⟩, ⟨some 2, .mv (.c (.d (.int .i64 0))), none⟩] [0, 2])
 (.seq (.seq (.ops [] [⟨some 3, .fad false 0 1 (.t 1), none⟩, ⟨some 4, .ld false 1 (.t 3), none⟩] [3])
 (.block 0 (.seq (.ops [] [⟨some 6, .bin .eql (.t 4) (.c (.d (.int .i64 1))), none⟩, ⟨some 5, .mv (.t 6), none⟩] [6])
 (.cond (.t 5) (.seq (.ops [] [⟨some 7, .fad false 6 1 (.t 1), none⟩, ⟨some 8, .ld false 1 (.t 7), none⟩, ⟨some 9, .len (.t 8), none⟩, ⟨some 2, .mv (.t 9), none⟩] [1, 4, 5, 7, 8, 9])
 (.ret [2])) (.seq (.seq (.ops [] [⟨some 11, .bin .eql (.t 4) (.c (.d (.int .i64 3))), none⟩, ⟨some 10, .mv (.t 11), none⟩] [5, 11])
 (.cond (.t 10) .skip (.seq (.ops [] [⟨some 12, .bin .eql (.t 4) (.c (.d (.int .i64 4))), none⟩, ⟨some 10, .mv (.t 12), none⟩] [12])
 (.cond (.t 10) .skip (.ops [] [⟨some 13, .bin .eql (.t 4) (.c (.d (.int .i64 5))), none⟩, ⟨some 10, .mv (.t 13), none⟩] [4, 13])))))
 (.cond (.t 10) (.seq (.ops [] [⟨some 14, .fad false 7 1 (.t 1), none⟩, ⟨some 15, .ld false 1 (.t 14), none⟩, ⟨some 16, .len (.t 15), none⟩, ⟨some 2, .mv (.t 16), none⟩] [1, 4, 10, 14, 15, 16])
 (.ret [2])) .skip))))))
 (.seq (.ops [] [⟨some 2, .mv (.c (.d (.int .i64 1))), none⟩] [1, 4, 10])
 (.ret [2]))))
def r_batch_Entries : List ARes := [.t 2]
def fn_batch_Entries : AFn := .code c_batch_Entries r_batch_Entries 17 true
/- shardqueue/shardqueueref17.SameInvocation -/
def c_ref17_SameInvocation : ACode :=
 (.seq (.ops [] [⟨some 2, .box (.t 0), none⟩, ⟨some 3, .box (.t 1), none⟩, ⟨some 4, .mv (.c (.d (.bool false))), none⟩] [0, 1, 4])
 (.seq (.ops [] [⟨some 5, .fad false 0 1 (.t 2), none⟩, ⟨some 6, .ld false 1 (.t 5), none⟩, ⟨some 7, .fad false 0 1 (.t 3), none⟩, ⟨some 8, .ld false 1 (.t 7), none⟩, ⟨some 9, .bin .eql (.t 6) (.t 8), none⟩, ⟨some 10, .mv (.t 9), none⟩, ⟨some 11, .fad false 1 1 (.t 2), some (10, true)⟩, ⟨some 12, .ld false 1 (.t 11), some (10, true)⟩, ⟨some 13, .fad false 1 1 (.t 3), some (10, true)⟩, ⟨some 14, .ld false 1 (.t 13), some (10, true)⟩, ⟨some 15, .bin .eql (.t 12) (.t 14), some (10, true)⟩, ⟨some 16, .pick (.t 10) (.t 15) (.c (.d (.bool false))), none⟩, ⟨some 17, .mv (.t 16), none⟩, ⟨some 18, .fad false 2 1 (.t 2), some (17, true)⟩, ⟨some 19, .ld false 1 (.t 18), some (17, true)⟩, ⟨some 20, .fad false 2 1 (.t 3), some (17, true)⟩, ⟨some 21, .ld false 1 (.t 20), some (17, true)⟩, ⟨some 22, .bin .eql (.t 19) (.t 21), some (17, true)⟩, ⟨some 23, .pick (.t 17) (.t 22) (.c (.d (.bool false))), none⟩, ⟨some 24, .mv (.t 23), none⟩, ⟨some 25, .fad false 3 1 (.t 2), some (24, true)⟩, ⟨some 26, .ld false 1 (.t 25), some (24, true)⟩, ⟨some 27, .fad false 3 1 (.t 3), some (24, true)⟩, ⟨some 28, .ld false 1 (.t 27), some (24, true)⟩, ⟨some 29, .bin .eql (.t 26) (.t 28), some (24, true)⟩, ⟨some 30, .pick (.t 24) (.t 29) (.c (.d (.bool false))), none⟩, ⟨some 31, .mv (.t 30), none⟩, ⟨some 32, .fad false 4 1 (.t 2), some (31, true)⟩, ⟨some 33, .ld false 1 (.t 32), some (31, true)⟩, ⟨some 34, .fad false 4 1 (.t 3), some (31, true)⟩, ⟨some 35, .ld false 1 (.t 34), some (31, true)⟩, ⟨some 36, .bin .eql (.t 33) (.t 35), some (31, true)⟩, ⟨some 37, .pick (.t 31) (.t 36) (.c (.d (.bool false))), none⟩, ⟨some 38, .mv (.t 37), none⟩, ⟨some 39, .fad false 5 1 (.t 2), some (38, true)⟩, ⟨some 40, .ld false 1 (.t 39), some (38, true)⟩, ⟨some 41, .fad false 5 1 (.t 3), some (38, true)⟩, ⟨some 42, .ld false 1 (.t 41), some (38, true)⟩, ⟨some 43, .bin .eql (.t 40) (.t 42), some (38, true)⟩, ⟨some 44, .pick (.t 38) (.t 43) (.c (.d (.bool false))), none⟩, ⟨some 45, .mv (.t 44), none⟩, ⟨some 46, .fad false 6 1 (.t 2), some (45, true)⟩, ⟨some 47, .ld false 1 (.t 46), some (45, true)⟩, ⟨some 48, .fad false 6 1 (.t 3), some (45, true)⟩, ⟨some 49, .ld false 1 (.t 48), some (45, true)⟩, ⟨some 50, .call N_ref17_SameTexts [] [.t 47, .t 49], some (45, true)⟩, ⟨some 51, .pick (.t 45) (.t 50) (.c (.d (.bool false))), none⟩, ⟨some 52, .mv (.t 51), none⟩, ⟨some 53, .fad false 7 1 (.t 2), some (52, true)⟩, ⟨some 54, .ld false 1 (.t 53), some (52, true)⟩, ⟨some 55, .fad false 7 1 (.t 3), some (52, true)⟩, ⟨some 56, .ld false 1 (.t 55), some (52, true)⟩, ⟨some 57, .call N_ref17_SameTokens [] [.t 54, .t 56], some (52, true)⟩, ⟨some 58, .pick (.t 52) (.t 57) (.c (.d (.bool false))), none⟩, ⟨some 4, .mv (.t 58), none⟩] [2, 3, 5, 6, 7, 8, 9, 10, 11, 12, 13, 14, 15, 16, 17, 18, 19, 20, 21, 22, 23, 24, 25, 26, 27, 28, 29, 30, 31, 32, 33, 34, 35, 36, 37, 38, 39, 40, 41, 42, 43, 44, 45, 46, 47, 48, 49, 50, 51, 52, 53, 54, 55, 56, 57, 58])
 (.ret [4])))
def r_ref17_SameInvocation : List ARes := [.t 4]
def fn_ref17_SameInvocation : AFn := .code c_ref17_SameInvocation r_ref17_SameInvocation 59 true
/- shardqueue/shardqueueref17.SameTexts -/
def l_ref17_SameTexts_0 : ACode :=
 (.seq (.seq (.ops [] [⟨some 11, .mv (.t 5), none⟩, ⟨some 12, .mv (.t 0), none⟩, ⟨some 13, .len (.t 12), none⟩, ⟨some 14, .bin .lss (.t 11) (.t 13), none⟩] [11, 12, 13])
 (.cond (.t 14) .skip (.exit 0 [])))
 (.seq (.block 1 (.seq (.draw [] [⟨some 17, .mv (.t 0), none⟩, ⟨some 18, .mv (.t 5), none⟩, ⟨some 19, .iad 1 (.t 17) (.t 18), none⟩, ⟨some 20, .ld false 1 (.t 19), none⟩, ⟨some 21, .mv (.t 1), none⟩, ⟨some 22, .mv (.t 5), none⟩, ⟨some 23, .iad 1 (.t 21) (.t 22), none⟩, ⟨some 24, .ld false 1 (.t 23), none⟩, ⟨some 25, .bin .neq (.t 20) (.t 24), none⟩] [[], [0], [], [], [0, 1, 2, 3], [0, 1, 2, 3, 4], [0, 1, 2, 3], [0, 1, 2, 3], []] [14, 17, 18, 19, 20, 21, 22, 23, 24])
 (.cond (.t 25) (.seq (.ops [] [⟨some 4, .mv (.c (.d (.bool false))), none⟩] [0, 1, 5, 25])
 (.ret [4])) .skip)))
 (.ops [] [⟨some 15, .mv (.t 5), none⟩, ⟨some 16, .bin .add (.t 15) (.c (.d (.int .i64 1))), none⟩, ⟨some 5, .mv (.t 16), none⟩] [15, 16, 25])))
def c_ref17_SameTexts : ACode :=
 (.seq (.ops [] [⟨some 4, .mv (.c (.d (.bool false))), none⟩] [4])
 (.seq (.seq (.ops [] [⟨some 6, .mv (.t 0), none⟩, ⟨some 7, .len (.t 6), none⟩, ⟨some 8, .mv (.t 1), none⟩, ⟨some 9, .len (.t 8), none⟩, ⟨some 10, .bin .neq (.t 7) (.t 9), none⟩] [6, 7, 8, 9])
 (.cond (.t 10) (.seq (.ops [] [⟨some 4, .mv (.c (.d (.bool false))), none⟩] [0, 1, 10])
 (.ret [4])) .skip))
 (.seq (.seq (.ops [] [⟨some 5, .mv (.c (.d (.int .i64 0))), none⟩] [10])
 (.block 0 (.loop [] l_ref17_SameTexts_0)))
 (.seq (.ops [] [⟨some 4, .mv (.c (.d (.bool true))), none⟩] [0, 1, 5, 14])
 (.ret [4])))))
def r_ref17_SameTexts : List ARes := [.t 4]
def fn_ref17_SameTexts : AFn := .code c_ref17_SameTexts r_ref17_SameTexts 26 true
/- shardqueue/shardqueueref17.SameTokens -/
def l_ref17_SameTokens_0 : ACode :=
 (.seq (.seq (.ops [] [⟨some 11, .mv (.t 5), none⟩, ⟨some 12, .mv (.t 0), none⟩, ⟨some 13, .len (.t 12), none⟩, ⟨some 14, .bin .lss (.t 11) (.t 13), none⟩] [11, 12, 13])
 (.cond (.t 14) .skip (.exit 0 [])))
 (.seq (.block 1 (.seq (.draw [] [⟨some 17, .mv (.t 0), none⟩, ⟨some 18, .mv (.t 5), none⟩, ⟨some 19, .iad 1 (.t 17) (.t 18), none⟩, ⟨some 20, .ld false 1 (.t 19), none⟩, ⟨some 21, .b2s (.t 20), none⟩, ⟨some 22, .mv (.t 1), none⟩, ⟨some 23, .mv (.t 5), none⟩, ⟨some 24, .iad 1 (.t 22) (.t 23), none⟩, ⟨some 25, .ld false 1 (.t 24), none⟩, ⟨some 26, .b2s (.t 25), none⟩, ⟨some 27, .bin .neq (.t 21) (.t 26), none⟩] [[], [0], [], [], [], [0, 1, 2, 3, 4], [0, 1, 2, 3, 4, 5], [0, 1, 2, 3, 4], [0, 1, 2, 3, 4], [0, 1, 2, 3, 4], []] [14, 17, 18, 19, 20, 21, 22, 23, 24, 25, 26])
 (.cond (.t 27) (.seq (.ops [] [⟨some 4, .mv (.c (.d (.bool false))), none⟩] [0, 1, 5, 27])
 (.ret [4])) .skip)))
 (.ops [] [⟨some 15, .mv (.t 5), none⟩, ⟨some 16, .bin .add (.t 15) (.c (.d (.int .i64 1))), none⟩, ⟨some 5, .mv (.t 16), none⟩] [15, 16, 27])))
def c_ref17_SameTokens : ACode :=
 (.seq (.ops [] [⟨some 4, .mv (.c (.d (.bool false))), none⟩] [4])
 (.seq (.seq (.ops [] [⟨some 6, .mv (.t 0), none⟩, ⟨some 7, .len (.t 6), none⟩, ⟨some 8, .mv (.t 1), none⟩, ⟨some 9, .len (.t 8), none⟩, ⟨some 10, .bin .neq (.t 7) (.t 9), none⟩] [6, 7, 8, 9])
 (.cond (.t 10) (.seq (.ops [] [⟨some 4, .mv (.c (.d (.bool false))), none⟩] [0, 1, 10])
 (.ret [4])) .skip))
 (.seq (.seq (.ops [] [⟨some 5, .mv (.c (.d (.int .i64 0))), none⟩] [10])
 (.block 0 (.loop [] l_ref17_SameTokens_0)))
 (.seq (.ops [] [⟨some 4, .mv (.c (.d (.bool true))), none⟩] [0, 1, 5, 14])
 (.ret [4])))))
def r_ref17_SameTokens : List ARes := [.t 4]
def fn_ref17_SameTokens : AFn := .code c_ref17_SameTokens r_ref17_SameTokens 28 true
/- shardqueue/shardqueuelaw17.awake -/
def c_law17_awake : ACode :=
 (.seq (.ops [] [⟨some 0, .mv (.c (.d (.bool false))), none⟩] [0])
 (.seq (.ops [] [⟨some 4, .bsl 2 1 (.d (.str [])) [(0, .c (.d (.str [97]))), (1, .c (.d (.str [98])))], none⟩, ⟨some 5, .build [.d (.int .i64 0), .d (.int .i64 0), .d (.int .i64 0), .d (.int .i64 0), .d (.int .i64 0), .d (.int .i64 0), .xsl [], .xsl []] [(0, (1, .c (.d (.int .i64 1)))), (6, (1, .t 4))], none⟩, ⟨some 1, .alloc (.agg [.d (.int .i64 0), .d (.int .i64 0), .d (.int .i64 0), .d (.int .i64 0), .d (.int .i64 0), .d (.int .i64 0), .xsl [], .xsl []]), none⟩, ⟨none, .st 8 (.t 1) (.t 5), none⟩] [4, 5])
 (.seq (.ops [] [⟨some 7, .ld true 8 (.t 1), none⟩, ⟨some 8, .build [.d (.int .i64 0), .d (.int .i64 0), .d (.int .i64 0), .d (.int .i64 0), .d (.int .i64 0), .d (.int .i64 0), .d (.int .i64 0), .d (.int .i64 0)] [(0, (1, .c (.d (.int .i64 1)))), (1, (1, .c (.d (.int .i64 1)))), (2, (1, .c (.d (.int .i64 1)))), (3, (1, .c (.d (.int .i64 1)))), (4, (1, .c (.d (.int .i64 1)))), (6, (1, .c (.d (.int .i64 1))))], none⟩, ⟨some 9, .call N_batch_Start [] [.c (.d (.int .i64 1)), .t 7, .t 8, .c (.d (.int .i64 0))], none⟩, ⟨some 6, .mv (.t 9), none⟩, ⟨some 10, .ext (.t 6) 0, none⟩, ⟨some 11, .ext (.t 6) 1, none⟩, ⟨some 2, .alloc (.agg [.d (.int .i64 0), .d (.int .i64 0), .d (.int .i64 0), .d (.int .i64 0), .d (.int .i64 0), .d (.int .i64 0), .d (.int .i64 0), .xsl [], .xsl [], .d (.int .i64 0), .d (.bool false), .d (.int .i64 0), .d (.int .i64 0), .d (.int .i64 0), .xsl [], .d (.int .i64 0), .d (.int .i64 0), .d (.int .i64 0), .d (.int .i64 0), .d (.int .i64 0), .d (.int .i64 0), .d (.int .i64 0), .d (.int .i64 0), .d (.int .i64 0), .d (.int .i64 0), .xsl [], .d (.int .i64 0), .d (.int .i64 0), .d (.int .i64 0), .d (.int .i64 0), .d (.int .i64 0), .d (.int .i64 0), .d (.int .i64 0), .d (.int .i64 0), .xsl [], .d (.int .i64 0), .xsl [], .xsl [], .d (.int .i64 0), .xsl [], .xsl [], .xsl [], .d (.int .i64 0), .xsl [], .xsl [], .xsl [], .xsl [], .d (.int .i64 0), .xsl [], .d (.int .i64 0), .xsl [], .xsl [], .d (.int .i64 0), .d (.int .i64 0), .d (.int .i64 0), .d (.int .i64 0), .d (.int .i64 0), .d (.int .i64 0), .d (.int .i64 0), .d (.int .i64 0), .d (.int .i64 0), .xsl [], .xsl []]), none⟩, ⟨none, .st 63 (.t 2) (.t 10), none⟩, ⟨some 3, .mv (.t 11), none⟩] [6, 7, 8, 9, 10, 11])
 (.seq (.ops [] [⟨some 12, .ld true 63 (.t 2), none⟩, ⟨some 13, .build [.d (.int .i64 0), .d (.int .i64 0), .xsl [], .xsl [], .d (.int .i64 0), .d (.int .i64 0), .d (.int .i64 0)] [(1, (1, .c (.d (.int .i64 1))))], none⟩, ⟨some 14, .call N_batch_Next [] [.t 12, .t 13, .c (.d (.int .i64 5))], none⟩, ⟨none, .st 63 (.t 2) (.t 14), none⟩] [12, 13, 14])
 (.seq (.ops [] [⟨some 15, .mv (.t 3), none⟩, ⟨some 16, .bin .eql (.t 15) (.c (.d (.int .i64 0))), none⟩, ⟨some 17, .mv (.t 16), none⟩, ⟨some 18, .ld true 8 (.t 1), some (17, true)⟩, ⟨some 19, .call N_batch_Entries [] [.t 18], some (17, true)⟩, ⟨some 20, .bin .eql (.t 19) (.c (.d (.int .i64 2))), some (17, true)⟩, ⟨some 21, .pick (.t 17) (.t 20) (.c (.d (.bool false))), none⟩, ⟨some 22, .mv (.t 21), none⟩, ⟨some 23, .fad false 13 1 (.t 2), some (22, true)⟩, ⟨some 24, .ld false 1 (.t 23), some (22, true)⟩, ⟨some 25, .bin .eql (.t 24) (.c (.d (.int .i64 1))), some (22, true)⟩, ⟨some 26, .pick (.t 22) (.t 25) (.c (.d (.bool false))), none⟩, ⟨some 27, .mv (.t 26), none⟩, ⟨some 28, .fad false 10 1 (.t 2), some (27, true)⟩, ⟨some 29, .ld false 1 (.t 28), some (27, true)⟩, ⟨some 30, .un .not (.t 29), some (27, true)⟩, ⟨some 31, .pick (.t 27) (.t 30) (.c (.d (.bool false))), none⟩, ⟨some 0, .mv (.t 31), none⟩] [1, 2, 3, 15, 16, 17, 18, 19, 20, 21, 22, 23, 24, 25, 26, 27, 28, 29, 30, 31])
 (.ret [0]))))))
def r_law17_awake : List ARes := [.t 0]
def fn_law17_awake : AFn := .code c_law17_awake r_law17_awake 32 true
/- shardqueue/shardqueuelaw17.BatchLimits -/
def l_law17_BatchLimits_0 : ACode :=
 (.seq (.seq (.ops [] [⟨some 20, .mv (.t 7), none⟩, ⟨some 21, .mv (.t 4), none⟩, ⟨some 22, .bin .add (.c (.d (.int .i64 6))) (.t 21), none⟩, ⟨some 23, .bin .lss (.t 20) (.t 22), none⟩] [20, 21, 22])
 (.cond (.t 23) .skip (.exit 0 [3, 4, 5, 6])))
 (.seq (.block 1 (.ops [] [⟨some 26, .mv (.t 5), none⟩, ⟨some 27, .bsl 1 1 (.d (.str [])) [(0, .c (.d (.str [98])))], none⟩, ⟨some 28, .app 1 (.t 26) (.t 27), none⟩, ⟨some 29, .mv (.t 6), none⟩, ⟨some 30, .bsl 1 1 (.d (.int .u8 0)) [(0, .c (.d (.int .u8 1)))], none⟩, ⟨some 31, .bsl 1 1 (.xsl []) [(0, .t 30)], none⟩, ⟨some 32, .app 1 (.t 29) (.t 31), none⟩, ⟨some 5, .mv (.t 28), none⟩, ⟨some 6, .mv (.t 32), none⟩] [23, 26, 27, 28, 29, 30, 31, 32]))
 (.ops [] [⟨some 24, .mv (.t 7), none⟩, ⟨some 25, .bin .add (.t 24) (.c (.d (.int .i64 1))), none⟩, ⟨some 7, .mv (.t 25), none⟩] [24, 25])))
def c_law17_BatchLimits : ACode :=
 (.seq (.ops [] [⟨some 2, .mv (.c (.d (.bool false))), none⟩] [2])
 (.seq (.ops [] [⟨some 15, .call N_base_Two [] [.c (.d (.int .i64 1)), .c (.d (.int .i64 2)), .c (.d (.int .i64 1))], none⟩, ⟨some 3, .alloc (.d (.agg [.int .i64 0, .int .i64 0, .int .i64 0, .int .i64 0, .int .i64 0, .int .i64 0, .int .i64 0, .int .i64 0])), none⟩, ⟨none, .st 8 (.t 3) (.t 15), none⟩] [15])
 (.seq (.ops [] [⟨some 16, .mv (.t 0), none⟩, ⟨some 17, .bin .rem (.t 16) (.c (.d (.int .u8 3))), none⟩, ⟨some 18, .cvi .i64 (.t 17), none⟩, ⟨some 19, .bin .sub (.t 18) (.c (.d (.int .i64 1))), none⟩, ⟨some 4, .mv (.t 19), none⟩] [0, 16, 17, 18, 19])
 (.seq (.ops [] [⟨some 5, .nacc, none⟩] [])
 (.seq (.ops [] [⟨some 6, .nacc, none⟩] [])
 (.seq (.seq (.ops [] [⟨some 7, .mv (.c (.d (.int .i64 0))), none⟩] [])
 (.block 0 (.loop [] l_law17_BatchLimits_0)))
 (.seq (.ops [] [⟨some 33, .mv (.t 4), none⟩, ⟨some 34, .mm false [.t 33, .c (.d (.int .i64 1))], none⟩, ⟨some 35, .bin .add (.c (.d (.int .i64 16))) (.t 34), none⟩, ⟨some 36, .sls (.c (.d (.str [48, 49, 50, 51, 52, 53, 54, 55, 56, 57, 97, 98, 99, 100, 101, 102, 48]))) none (some (.t 35)), none⟩, ⟨some 8, .mv (.t 36), none⟩] [7, 23, 33, 34, 35, 36])
 (.seq (.ops [] [⟨some 9, .mv (.c (.d (.int .i64 0))), none⟩] [])
 (.seq (.seq (.ops [] [⟨some 37, .mv (.t 4), none⟩, ⟨some 38, .bin .gtr (.t 37) (.c (.d (.int .i64 0))), none⟩] [37])
 (.cond (.t 38) (.ops [] [⟨some 9, .mv (.c (.d (.int .i64 2))), none⟩] [38]) .skip))
 (.seq (.ops [] [⟨some 39, .mv (.t 5), none⟩, ⟨some 40, .build [.d (.int .i64 0), .d (.int .i64 0), .d (.int .i64 0), .d (.int .i64 0), .d (.int .i64 0), .d (.int .i64 0), .xsl [], .xsl []] [(0, (1, .c (.d (.int .i64 1)))), (6, (1, .t 39))], none⟩, ⟨some 41, .ld true 8 (.t 3), none⟩, ⟨some 42, .call N_batch_Validate [] [.t 40, .t 41], none⟩, ⟨some 10, .mv (.t 42), none⟩] [5, 38, 39, 40, 41, 42])
 (.seq (.ops [] [⟨some 43, .mv (.t 6), none⟩, ⟨some 44, .build [.d (.int .i64 0), .d (.int .i64 0), .d (.int .i64 0), .d (.int .i64 0), .d (.int .i64 0), .d (.int .i64 0), .xsl [], .xsl []] [(0, (1, .c (.d (.int .i64 4)))), (7, (1, .t 43))], none⟩, ⟨some 45, .ld true 8 (.t 3), none⟩, ⟨some 46, .call N_batch_Validate [] [.t 44, .t 45], none⟩, ⟨some 11, .mv (.t 46), none⟩] [6, 43, 44, 45, 46])
 (.seq (.ops [] [⟨some 47, .mv (.t 8), none⟩, ⟨some 48, .bsl 1 1 (.d (.str [])) [(0, .t 47)], none⟩, ⟨some 49, .build [.d (.int .i64 0), .d (.int .i64 0), .d (.int .i64 0), .d (.int .i64 0), .d (.int .i64 0), .d (.int .i64 0), .xsl [], .xsl []] [(0, (1, .c (.d (.int .i64 1)))), (6, (1, .t 48))], none⟩, ⟨some 50, .ld true 8 (.t 3), none⟩, ⟨some 51, .call N_batch_Validate [] [.t 49, .t 50], none⟩, ⟨some 12, .mv (.t 51), none⟩] [8, 47, 48, 49, 50, 51])
 (.seq (.ops [] [⟨some 53, .mv (.t 4), none⟩, ⟨some 54, .bin .add (.c (.d (.int .i64 200))) (.t 53), none⟩, ⟨some 55, .build [.d (.int .i64 0), .d (.int .i64 0), .d (.int .i64 0), .d (.int .i64 0), .d (.int .i64 0), .d (.int .i64 0), .xsl [], .xsl []] [(0, (1, .c (.d (.int .i64 6))))], none⟩, ⟨some 56, .ld true 8 (.t 3), none⟩, ⟨some 57, .call N_batch_Start [] [.t 54, .t 55, .t 56, .c (.d (.int .i64 0))], none⟩, ⟨some 52, .mv (.t 57), none⟩, ⟨some 58, .ext (.t 52) 0, none⟩, ⟨some 59, .ext (.t 52) 1, none⟩, ⟨some 13, .alloc (.agg [.d (.int .i64 0), .d (.int .i64 0), .d (.int .i64 0), .d (.int .i64 0), .d (.int .i64 0), .d (.int .i64 0), .d (.int .i64 0), .xsl [], .xsl [], .d (.int .i64 0), .d (.bool false), .d (.int .i64 0), .d (.int .i64 0), .d (.int .i64 0), .xsl [], .d (.int .i64 0), .d (.int .i64 0), .d (.int .i64 0), .d (.int .i64 0), .d (.int .i64 0), .d (.int .i64 0), .d (.int .i64 0), .d (.int .i64 0), .d (.int .i64 0), .d (.int .i64 0), .xsl [], .d (.int .i64 0), .d (.int .i64 0), .d (.int .i64 0), .d (.int .i64 0), .d (.int .i64 0), .d (.int .i64 0), .d (.int .i64 0), .d (.int .i64 0), .xsl [], .d (.int .i64 0), .xsl [], .xsl [], .d (.int .i64 0), .xsl [], .xsl [], .xsl [], .d (.int .i64 0), .xsl [], .xsl [], .xsl [], .xsl [], .d (.int .i64 0), .xsl [], .d (.int .i64 0), .xsl [], .xsl [], .d (.int .i64 0), .d (.int .i64 0), .d (.int .i64 0), .d (.int .i64 0), .d (.int .i64 0), .d (.int .i64 0), .d (.int .i64 0), .d (.int .i64 0), .d (.int .i64 0), .xsl [], .xsl []]), none⟩, ⟨none, .st 63 (.t 13) (.t 58), none⟩, ⟨some 14, .mv (.t 59), none⟩] [3, 52, 53, 54, 55, 56, 57, 58, 59])
 (.seq (.ops [] [⟨some 60, .mv (.t 10), none⟩, ⟨some 61, .mv (.t 9), none⟩, ⟨some 62, .bin .eql (.t 60) (.t 61), none⟩, ⟨some 63, .mv (.t 62), none⟩, ⟨some 64, .mv (.t 11), some (63, true)⟩, ⟨some 65, .mv (.t 9), some (63, true)⟩, ⟨some 66, .bin .eql (.t 64) (.t 65), some (63, true)⟩, ⟨some 67, .pick (.t 63) (.t 66) (.c (.d (.bool false))), none⟩, ⟨some 68, .mv (.t 67), none⟩, ⟨some 69, .mv (.t 12), some (68, true)⟩, ⟨some 70, .mv (.t 9), some (68, true)⟩, ⟨some 71, .bin .eql (.t 69) (.t 70), some (68, true)⟩, ⟨some 72, .pick (.t 68) (.t 71) (.c (.d (.bool false))), none⟩, ⟨some 73, .mv (.t 72), none⟩, ⟨some 74, .mv (.t 14), some (73, true)⟩, ⟨some 75, .bin .eql (.t 74) (.c (.d (.int .i64 0))), some (73, true)⟩, ⟨some 76, .mv (.t 4), some (73, true)⟩, ⟨some 77, .bin .leq (.t 76) (.c (.d (.int .i64 0))), some (73, true)⟩, ⟨some 78, .eqb false (.t 75) (.t 77), some (73, true)⟩, ⟨some 79, .pick (.t 73) (.t 78) (.c (.d (.bool false))), none⟩, ⟨some 80, .mv (.t 79), none⟩, ⟨some 81, .mv (.t 14), some (80, true)⟩, ⟨some 82, .bin .eql (.t 81) (.c (.d (.int .i64 0))), some (80, true)⟩, ⟨some 83, .mv (.t 82), some (80, true)⟩, ⟨some 84, .mv (.t 14), some (83, false)⟩, ⟨some 85, .bin .eql (.t 84) (.c (.d (.int .i64 1))), some (83, false)⟩, ⟨some 86, .pick (.t 83) (.c (.d (.bool true))) (.t 85), some (80, true)⟩, ⟨some 87, .pick (.t 80) (.t 86) (.c (.d (.bool false))), none⟩, ⟨some 88, .mv (.t 87), none⟩, ⟨some 89, .mv (.t 4), some (88, true)⟩, ⟨some 90, .bin .gtr (.t 89) (.c (.d (.int .i64 0))), some (88, true)⟩, ⟨some 91, .mv (.t 90), some (88, true)⟩, ⟨some 92, .fad false 0 1 (.t 13), some (91, false)⟩, ⟨some 93, .ld false 1 (.t 92), some (91, false)⟩, ⟨some 94, .mv (.t 4), some (91, false)⟩, ⟨some 95, .bin .add (.c (.d (.int .i64 200))) (.t 94), some (91, false)⟩, ⟨some 96, .bin .eql (.t 93) (.t 95), some (91, false)⟩, ⟨some 97, .pick (.t 91) (.c (.d (.bool true))) (.t 96), some (88, true)⟩, ⟨some 98, .pick (.t 88) (.t 97) (.c (.d (.bool false))), none⟩, ⟨some 99, .mv (.t 98), none⟩, ⟨some 100, .call N_law17_awake [] [], some (99, true)⟩, ⟨some 101, .pick (.t 99) (.t 100) (.c (.d (.bool false))), none⟩, ⟨some 2, .mv (.t 101), none⟩] [4, 9, 10, 11, 12, 13, 14, 60, 61, 62, 63, 64, 65, 66, 67, 68, 69, 70, 71, 72, 73, 74, 75, 76, 77, 78, 79, 80, 81, 82, 83, 84, 85, 86, 87, 88, 89, 90, 91, 92, 93, 94, 95, 96, 97, 98, 99, 100, 101])
 (.ret [2])))))))))))))))
def r_law17_BatchLimits : List ARes := [.t 2]
def fn_law17_BatchLimits : AFn := .code c_law17_BatchLimits r_law17_BatchLimits 102 true
/- shardqueue/shardqueuebase.Two -/
def c_base_Two : ACode :=
 (.seq (.ops [] [⟨some 6, .alloc (.d (.agg [.int .i64 0, .int .i64 0, .int .i64 0, .int .i64 0, .int .i64 0, .int .i64 0, .int .i64 0, .int .i64 0])), none⟩] [])
 (.seq (.ops [] [⟨some 7, .mv (.t 0), none⟩, ⟨some 8, .mv (.t 1), none⟩, ⟨some 9, .mv (.t 2), none⟩, ⟨some 10, .build [.d (.int .i64 0), .d (.int .i64 0), .d (.int .i64 0), .d (.int .i64 0), .d (.int .i64 0), .d (.int .i64 0), .d (.int .i64 0), .d (.int .i64 0)] [(0, (1, .c (.d (.int .i64 2)))), (1, (1, .t 7)), (2, (1, .t 8)), (3, (1, .c (.d (.int .i64 3)))), (4, (1, .t 9)), (6, (1, .c (.d (.int .i64 1))))], none⟩, ⟨none, .st 8 (.t 6) (.t 10), none⟩] [0, 1, 2, 7, 8, 9, 10])
 (.ret [6])))
def r_base_Two : List ARes := [.c 6 true 8]
def fn_base_Two : AFn := .code c_base_Two r_base_Two 11 true
end Go.Proofs.Ytlphhhmicdjljaa
